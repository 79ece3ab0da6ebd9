/-
  Texts that several laws share.
-/
import Derived.BigQuiet
import Derived.Deep.RegionHeld3
import Derived.Deep.RegionWith
import Derived.Deep.CutRange
import Derived.Deep.DeepCutAuto
import Derived.Test.YtgjbfgkcbehjnaaDoorBX1
import Derived.Test.YtgjbfgkcbehjnaaDoorBX2

set_option linter.unusedVariables false
set_option linter.unusedSimpArgs false
namespace Go.Proofs.YtgjbfgkcbehjnaaDoor
open Go.RowKit

set_option maxRecDepth 100000 in
set_option maxHeartbeats 1600000 in
theorem rread_ok1 (w : World) (ok : Nat → Prop) (b c p2 : UInt8) (r : List UInt8) (hc : c.toNat = 129) (hq : 128 ≤ be [p2] ∧ be [p2] / 256 ^ 0 ≠ 0) (v : Value) (hv : BR w ok v (b :: c :: p2 :: r)) (hl : (b :: c :: p2 :: r).length ≤ 140737488351232) (htop : topB b = true) :
    Calls Tryd.prog 66 #[v] w fun e w' => e = .returned (rdV (b :: c :: p2 :: r)) ∧ Kp (fun _ => False) w w' := by
  obtain ⟨A, cp, rfl, hlc, hr⟩ := id hv
  obtain ⟨g, off, rfl, hok, -⟩ := hr.byte (k := 0) (by simp)
  have hcell : ∀ k (hk : k < (b :: c :: p2 :: r).length), w.cell? ⟨g, off + k, none⟩ = some (.int .u8 ((b :: c :: p2 :: r)[k].toNat : Int)) := by
    intro k hk
    obtain ⟨g', off', e', _, h⟩ := hr.byte hk
    simp only [Option.some.injEq, Addr.mk.injEq, and_true] at e'
    obtain ⟨rfl, rfl⟩ := e'
    exact h
  obtain ⟨x, hx⟩ : ∃ x : Nat, b.toNat = x := ⟨_, rfl⟩
  obtain ⟨m, hm'⟩ : ∃ m, (x / 32 % 2 == 1) = m := ⟨_, rfl⟩
  have hlt := b.toNat_lt
  rw [hx] at hlt
  obtain ⟨x2, hx2⟩ : ∃ x : Nat, p2.toNat = x := ⟨_, rfl⟩
  have lx2 := p2.toNat_lt
  rw [hx2] at lx2
  have c0 : w.cell? ⟨g, off, none⟩ = some (.int .u8 x) := by have := hcell 0 (by (try simp); (try omega)); first | (simp [*]; done) | simpa [*] using this
  have d0 : ∀ o, (w.alloc o).cell? ⟨g, off, none⟩ = some (.int .u8 x) := fun o => ((Kp.refl (fun _ => False) w).alloc o).cell c0 (fun h => h)
  have e0 : ∀ o1 o2, ((w.alloc o1).alloc o2).cell? ⟨g, off, none⟩ = some (.int .u8 x) := fun o1 o2 => (((Kp.refl (fun _ => False) w).alloc o1).alloc o2).cell c0 (fun h => h)
  have c1 : w.cell? ⟨g, off + 1, none⟩ = some (.int .u8 129) := by have := hcell 1 (by (try simp); (try omega)); first | (simp [*]; done) | simpa [*] using this
  have d1 : ∀ o, (w.alloc o).cell? ⟨g, off + 1, none⟩ = some (.int .u8 129) := fun o => ((Kp.refl (fun _ => False) w).alloc o).cell c1 (fun h => h)
  have e1 : ∀ o1 o2, ((w.alloc o1).alloc o2).cell? ⟨g, off + 1, none⟩ = some (.int .u8 129) := fun o1 o2 => (((Kp.refl (fun _ => False) w).alloc o1).alloc o2).cell c1 (fun h => h)
  have c2 : w.cell? ⟨g, off + 2, none⟩ = some (.int .u8 x2) := by have := hcell 2 (by (try simp); (try omega)); first | (simp [*]; done) | simpa [*] using this
  have d2 : ∀ o, (w.alloc o).cell? ⟨g, off + 2, none⟩ = some (.int .u8 x2) := fun o => ((Kp.refl (fun _ => False) w).alloc o).cell c2 (fun h => h)
  have e2 : ∀ o1 o2, ((w.alloc o1).alloc o2).cell? ⟨g, off + 2, none⟩ = some (.int .u8 x2) := fun o1 o2 => (((Kp.refl (fun _ => False) w).alloc o1).alloc o2).cell c2 (fun h => h)
  have hm : ((x : Int) / 32 % 2 == 1) = m := by rw [← hm']; rcases Nat.mod_two_eq_zero_or_one (x / 32) with h | h <;> simp [h] <;> omega
  have HK : Hid (kindB (x / 64) (x % 32) m = true) := Lib.hid (by simpa [topB, hx, hm'] using htop)
  have KK : Hid (Kp (fun _ => False) w ((w.alloc (.cells #[.int .i64 0, .int .i64 0, .bool false, .int .i64 0] 89)).alloc (.cells #[.int .i64 (↑x / 64), .int .i64 (↑x % 32), .bool m, .int .i64 0] 89)).drew) := Lib.hid ((((Kp.refl _ _).alloc _).alloc _).drew)
  have hbe : be [p2] = x2 := by simp [be, hx2]
  have htk : be ((p2 :: r).take 1) = x2 := by rw [show (p2 :: r).take 1 = [p2] from rfl]; exact hbe
  have hq1 := hq
  rw [hbe] at hq1
  have hkin : kindB (x / 64) (x % 32) m = true := HK.out
  have hLm : x2 ≤ 16777215 := by omega
  have hput := fun W => rput_any W (↑x / 64) (↑x % 32) m x2 hkin hLm
  have hpt0 := pt_top htop x2 hLm
  rw [hx, hm'] at hpt0
  have HR : Hid (rdV (b :: c :: p2 :: r) = .tuple #[hdV (↑x / 64, ↑x % 32, m, ↑x2), .int .i64 3, .int .i64 0]) := Lib.hid (by rw [rdV, rd_long (k := 1) htop hc (by omega) (by omega) (by simp) htk, if_neg (by omega)]; simp [hdB, hx, hm'])
  have hlb : lenB x2 = c :: [p2] := by
    have h := beB_be [p2]
    rw [hbe] at h
    have hcc : c = 129 := UInt8.toNat_inj.1 (by rw [hc]; rfl)
    rw [lenB, hcc]
    rw [if_neg (by omega), if_pos (by omega)]
    exact congrArg _ h
  rw [hlb] at hpt0
  unfold RPutP at hput
  simp only [hpt0, List.length_cons, List.length_nil, Nat.reduceAdd] at hput
  have HPut := Lib.hid hput
  clear hput hpt0 hlb hkin htk hbe hLm hq hq1
  clear hcell hr hv hm' htop
  simp only [List.length_cons] at hlc hl ⊢
  generalize r.length = n at *
  have KK2 := Lib.hid (fun z : Int => (show Kp (fun _ => False) w ((w.alloc (.cells #[.int .i64 0, .int .i64 0, .bool false, .int .i64 0] 89)).alloc (.cells #[.int .i64 (↑x / 64), .int .i64 (↑x % 32), .bool m, .int .i64 z] 89)).drew.drew from ((((Kp.refl _ _).alloc _).alloc _).drew.drew)))
  go_enter Tryd.func66, Tryd.ntmps66
  go_wp2_with fail
  go_region
  go_wp2_with fail
  refine (rkind_any _ _ _ _).mono ?_
  rintro e w2 ⟨rfl, rfl⟩
  rw [HK.out]
  go_wp2_with fail
  refine wp_loop_rounds 2 ?_
  rw [rounds_succ]
  go_wp2_with fail
  go_region
  go_wp2_with fail
  rw [rounds_succ]
  go_wp2_with fail
  refine (HPut.out _).mono ?_
  rintro e w3 ⟨A3, cp3, rfl, hb3, hk3⟩
  have KW : Kp (fun _ => False) w w3 := (KK2.out x2).then_ hk3 (fun _ h => h.elim)
  have bres := (((Blk.new w 89 #[.int .i64 0, .int .i64 0, .bool false, .int .i64 0]).alloc (.cells #[.int .i64 (↑x / 64), .int .i64 (↑x % 32), .bool m, .int .i64 ↑x2] 89)).drew.drew).kp hk3 (fun h => h)
  have bh := ((Blk.new (w.alloc (.cells #[.int .i64 0, .int .i64 0, .bool false, .int .i64 0] 89)) 89 #[.int .i64 (↑x / 64), .int .i64 (↑x % 32), .bool m, .int .i64 ↑x2]).drew.drew).kp hk3 (fun h => h)
  simp only [World.size_alloc] at bh
  replace c0 := KW.cell c0 (fun h => h)
  replace c1 := KW.cell c1 (fun h => h)
  replace c2 := KW.cell c2 (fun h => h)
  clear hk3 d0 e0 d1 e1 d2 e2
  obtain ⟨A', cp', e, -, hrd⟩ := hb3
  injection e with e1 e2 e3
  subst e1 e3
  obtain ⟨g3, off3, rfl, -, -⟩ := hrd.byte (k := 0) (by simp)
  have hcell3 : ∀ k (hk : k < (b :: c :: [p2]).length), w3.cell? ⟨g3, off3 + k, none⟩ = some (.int .u8 ((b :: c :: [p2])[k].toNat : Int)) := by
    intro k hk
    obtain ⟨g', off', e', _, h⟩ := hrd.byte hk
    simp only [Option.some.injEq, Addr.mk.injEq, and_true] at e'
    obtain ⟨rfl, rfl⟩ := e'
    exact h
  have o0 : w3.cell? ⟨g3, off3, none⟩ = some (.int .u8 x) := (hcell3 0 (by (try simp); (try omega))).trans (congrArg (fun t : Nat => some (Value.int .u8 (t : Int))) hx)
  have o1 : w3.cell? ⟨g3, off3 + 1, none⟩ = some (.int .u8 129) := (hcell3 1 (by (try simp); (try omega))).trans (congrArg (fun t : Nat => some (Value.int .u8 (t : Int))) hc)
  have o2 : w3.cell? ⟨g3, off3 + 2, none⟩ = some (.int .u8 x2) := (hcell3 2 (by (try simp); (try omega))).trans (congrArg (fun t : Nat => some (Value.int .u8 (t : Int))) hx2)
  clear hcell3 hrd
  obtain ⟨r0, r1, r2, r3⟩ := cells4 bres
  obtain ⟨h0, h1, h2, h3⟩ := cells4 bh
  have f0 := bres.frozen 0
  have f1 := bres.frozen 1
  have f2 := bres.frozen 2
  have f3 := bres.frozen 3
  have q0 : decide ((n : Int) + 1 + 1 + 1 ≤ 0) = false := decide_eq_false (by omega)
  have q1 : decide ((n : Int) + 1 + 1 + 1 ≤ 1) = false := decide_eq_false (by omega)
  have q2 : decide ((n : Int) + 1 + 1 + 1 ≤ 2) = false := decide_eq_false (by omega)
  go_wp2_with fail
  refine wp_loop_rounds 4 ?_
  rw [rounds_succ]
  go_wp2_with fail
  go_quiet (fail)
  go_wp2_with fail
  rw [rounds_succ]
  go_wp2_with fail
  go_quiet (fail)
  go_wp2_with fail
  rw [rounds_succ]
  go_wp2_with fail
  go_quiet (fail)
  go_wp2_with fail
  rw [rounds_succ]
  go_wp2_with fail
  have bf : ∀ q, Blk (((((w3.drewN q).setCell ⟨w.heap.size, 0, none⟩ (.int .i64 (↑x / 64))).setCell ⟨w.heap.size, 1, none⟩ (.int .i64 (↑x % 32))).setCell ⟨w.heap.size, 2, none⟩ (.bool m)).setCell ⟨w.heap.size, 3, none⟩ (.int .i64 ↑x2)) w.heap.size 89 #[.int .i64 (↑x / 64), .int .i64 (↑x % 32), .bool m, .int .i64 ↑x2] := fun q => ((((bres.drewN q).set_ 0 _).set_ 1 _).set_ 2 _).set_ 3 _
  have p0 := fun q => (cells4 (bf q)).1
  have p1 := fun q => (cells4 (bf q)).2.1
  have p2 := fun q => (cells4 (bf q)).2.2.1
  have p3 := fun q => (cells4 (bf q)).2.2.2
  refine bodyPost_ret (v := .tuple #[.agg #[.int .i64 (↑x / 64), .int .i64 (↑x % 32), .bool m, .int .i64 ↑x2], .int .i64 3, .int .i64 0]) (by simp [results, Tryd.results66, go_sem, p0, p1, p2, p3]) rfl ⟨by rw [HR.out]; rfl, ?_⟩
  repeat (first | exact KW | refine Kp.setCell ?_ (.inr (by simp)) _ | apply Kp.drewN | apply Kp.drew)

set_option maxRecDepth 100000 in
set_option maxHeartbeats 1600000 in
theorem rread_low1 (w : World) (ok : Nat → Prop) (b c p2 : UInt8) (r : List UInt8) (hc : c.toNat = 129) (hq : be [p2] < 128 ∨ be [p2] / 256 ^ 0 = 0) (v : Value) (hv : BR w ok v (b :: c :: p2 :: r)) (hl : (b :: c :: p2 :: r).length ≤ 140737488351232) (htop : topB b = true) :
    Calls Tryd.prog 66 #[v] w fun e w' => e = .returned (rdV (b :: c :: p2 :: r)) ∧ Kp (fun _ => False) w w' := by
  obtain ⟨A, cp, rfl, hlc, hr⟩ := id hv
  obtain ⟨g, off, rfl, hok, -⟩ := hr.byte (k := 0) (by simp)
  have hcell : ∀ k (hk : k < (b :: c :: p2 :: r).length), w.cell? ⟨g, off + k, none⟩ = some (.int .u8 ((b :: c :: p2 :: r)[k].toNat : Int)) := by
    intro k hk
    obtain ⟨g', off', e', _, h⟩ := hr.byte hk
    simp only [Option.some.injEq, Addr.mk.injEq, and_true] at e'
    obtain ⟨rfl, rfl⟩ := e'
    exact h
  obtain ⟨x, hx⟩ : ∃ x : Nat, b.toNat = x := ⟨_, rfl⟩
  obtain ⟨m, hm'⟩ : ∃ m, (x / 32 % 2 == 1) = m := ⟨_, rfl⟩
  have hlt := b.toNat_lt
  rw [hx] at hlt
  obtain ⟨x2, hx2⟩ : ∃ x : Nat, p2.toNat = x := ⟨_, rfl⟩
  have lx2 := p2.toNat_lt
  rw [hx2] at lx2
  have c0 : w.cell? ⟨g, off, none⟩ = some (.int .u8 x) := by have := hcell 0 (by (try simp); (try omega)); first | (simp [*]; done) | simpa [*] using this
  have d0 : ∀ o, (w.alloc o).cell? ⟨g, off, none⟩ = some (.int .u8 x) := fun o => ((Kp.refl (fun _ => False) w).alloc o).cell c0 (fun h => h)
  have e0 : ∀ o1 o2, ((w.alloc o1).alloc o2).cell? ⟨g, off, none⟩ = some (.int .u8 x) := fun o1 o2 => (((Kp.refl (fun _ => False) w).alloc o1).alloc o2).cell c0 (fun h => h)
  have c1 : w.cell? ⟨g, off + 1, none⟩ = some (.int .u8 129) := by have := hcell 1 (by (try simp); (try omega)); first | (simp [*]; done) | simpa [*] using this
  have d1 : ∀ o, (w.alloc o).cell? ⟨g, off + 1, none⟩ = some (.int .u8 129) := fun o => ((Kp.refl (fun _ => False) w).alloc o).cell c1 (fun h => h)
  have e1 : ∀ o1 o2, ((w.alloc o1).alloc o2).cell? ⟨g, off + 1, none⟩ = some (.int .u8 129) := fun o1 o2 => (((Kp.refl (fun _ => False) w).alloc o1).alloc o2).cell c1 (fun h => h)
  have c2 : w.cell? ⟨g, off + 2, none⟩ = some (.int .u8 x2) := by have := hcell 2 (by (try simp); (try omega)); first | (simp [*]; done) | simpa [*] using this
  have d2 : ∀ o, (w.alloc o).cell? ⟨g, off + 2, none⟩ = some (.int .u8 x2) := fun o => ((Kp.refl (fun _ => False) w).alloc o).cell c2 (fun h => h)
  have e2 : ∀ o1 o2, ((w.alloc o1).alloc o2).cell? ⟨g, off + 2, none⟩ = some (.int .u8 x2) := fun o1 o2 => (((Kp.refl (fun _ => False) w).alloc o1).alloc o2).cell c2 (fun h => h)
  have hm : ((x : Int) / 32 % 2 == 1) = m := by rw [← hm']; rcases Nat.mod_two_eq_zero_or_one (x / 32) with h | h <;> simp [h] <;> omega
  have HK : Hid (kindB (x / 64) (x % 32) m = true) := Lib.hid (by simpa [topB, hx, hm'] using htop)
  have KK : Hid (Kp (fun _ => False) w ((w.alloc (.cells #[.int .i64 0, .int .i64 0, .bool false, .int .i64 0] 89)).alloc (.cells #[.int .i64 (↑x / 64), .int .i64 (↑x % 32), .bool m, .int .i64 0] 89)).drew) := Lib.hid ((((Kp.refl _ _).alloc _).alloc _).drew)
  have hbe : be [p2] = x2 := by simp [be, hx2]
  have htk : be ((p2 :: r).take 1) = x2 := by rw [show (p2 :: r).take 1 = [p2] from rfl]; exact hbe
  have hq1 := hq
  rw [hbe] at hq1
  have hkin : kindB (x / 64) (x % 32) m = true := HK.out
  have hLm : x2 ≤ 16777215 := by omega
  have hput := fun W => rput_any W (↑x / 64) (↑x % 32) m x2 hkin hLm
  have hpt0 := pt_top htop x2 hLm
  rw [hx, hm'] at hpt0
  have HR : Hid (rdV (b :: c :: p2 :: r) = .tuple #[hdV hd0, .int .i64 1, .int .i64 13]) := Lib.hid (by rw [rdV, rd_long (k := 1) htop hc (by omega) (by omega) (by simp) htk, if_pos hq1])
  obtain ⟨o, rest, hlb, ho⟩ : ∃ o rest, lenB x2 = o :: rest ∧ o.toNat ≠ 129 := by
    rw [lenB]
    split
    · exact ⟨_, _, rfl, by rw [UInt8.toNat_ofNat']; omega⟩
    omega
  rw [hlb] at hpt0
  unfold RPutP at hput
  simp only [hpt0, List.length_cons] at hput
  have HPut := Lib.hid hput
  clear hput hpt0 hlb hkin htk hbe hLm hq hq1
  obtain ⟨z, hz⟩ : ∃ z : Nat, o.toNat = z := ⟨_, rfl⟩
  rw [hz] at ho
  have hzne : ((z : Int) != 129) = true := by simp; omega
  clear hcell hr hv hm' htop
  simp only [List.length_cons] at hlc hl ⊢
  generalize r.length = n at *
  have KK2 := Lib.hid (fun z : Int => (show Kp (fun _ => False) w ((w.alloc (.cells #[.int .i64 0, .int .i64 0, .bool false, .int .i64 0] 89)).alloc (.cells #[.int .i64 (↑x / 64), .int .i64 (↑x % 32), .bool m, .int .i64 z] 89)).drew.drew from ((((Kp.refl _ _).alloc _).alloc _).drew.drew)))
  go_enter Tryd.func66, Tryd.ntmps66
  go_wp2_with fail
  go_region
  go_wp2_with fail
  refine (rkind_any _ _ _ _).mono ?_
  rintro e w2 ⟨rfl, rfl⟩
  rw [HK.out]
  go_wp2_with fail
  refine wp_loop_rounds 2 ?_
  rw [rounds_succ]
  go_wp2_with fail
  go_region
  go_wp2_with fail
  rw [rounds_succ]
  go_wp2_with fail
  refine (HPut.out _).mono ?_
  rintro e w3 ⟨A3, cp3, rfl, hb3, hk3⟩
  have KW : Kp (fun _ => False) w w3 := (KK2.out x2).then_ hk3 (fun _ h => h.elim)
  have bres := (((Blk.new w 89 #[.int .i64 0, .int .i64 0, .bool false, .int .i64 0]).alloc (.cells #[.int .i64 (↑x / 64), .int .i64 (↑x % 32), .bool m, .int .i64 ↑x2] 89)).drew.drew).kp hk3 (fun h => h)
  have bh := ((Blk.new (w.alloc (.cells #[.int .i64 0, .int .i64 0, .bool false, .int .i64 0] 89)) 89 #[.int .i64 (↑x / 64), .int .i64 (↑x % 32), .bool m, .int .i64 ↑x2]).drew.drew).kp hk3 (fun h => h)
  simp only [World.size_alloc] at bh
  replace c0 := KW.cell c0 (fun h => h)
  replace c1 := KW.cell c1 (fun h => h)
  clear hk3 d0 e0 d1 e1 d2 e2
  obtain ⟨A', cp', e, -, hrd⟩ := hb3
  injection e with e1 e2 e3
  subst e1 e3
  obtain ⟨g3, off3, rfl, -, -⟩ := hrd.byte (k := 0) (by simp)
  have hcell3 : ∀ k (hk : k < (b :: o :: rest).length), w3.cell? ⟨g3, off3 + k, none⟩ = some (.int .u8 ((b :: o :: rest)[k].toNat : Int)) := by
    intro k hk
    obtain ⟨g', off', e', _, h⟩ := hrd.byte hk
    simp only [Option.some.injEq, Addr.mk.injEq, and_true] at e'
    obtain ⟨rfl, rfl⟩ := e'
    exact h
  have o0 : w3.cell? ⟨g3, off3, none⟩ = some (.int .u8 x) := (hcell3 0 (by (try simp); (try omega))).trans (congrArg (fun t : Nat => some (Value.int .u8 (t : Int))) hx)
  have o1 : w3.cell? ⟨g3, off3 + 1, none⟩ = some (.int .u8 z) := (hcell3 1 (by (try simp); (try omega))).trans (congrArg (fun t : Nat => some (Value.int .u8 (t : Int))) hz)
  clear hcell3 hrd
  obtain ⟨r0, r1, r2, r3⟩ := cells4 bres
  obtain ⟨h0, h1, h2, h3⟩ := cells4 bh
  have f0 := bres.frozen 0
  have f1 := bres.frozen 1
  have f2 := bres.frozen 2
  have f3 := bres.frozen 3
  generalize rest.length = q at *
  have q0 : decide ((n : Int) + 1 + 1 + 1 ≤ 0) = false := decide_eq_false (by omega)
  have q1 : decide ((n : Int) + 1 + 1 + 1 ≤ 1) = false := decide_eq_false (by omega)
  go_wp2_with fail
  refine wp_loop_rounds 2 ?_
  rw [rounds_succ]
  go_wp2_with fail
  go_quiet (fail)
  go_wp2_with fail
  rw [rounds_succ]
  go_wp2_with fail
  go_quiet (fail)
  go_wp2_with fail
  have bf : ∀ q, Blk (((((w3.drewN q).setCell ⟨w.heap.size, 0, none⟩ (.int .i64 0)).setCell ⟨w.heap.size, 1, none⟩ (.int .i64 0)).setCell ⟨w.heap.size, 2, none⟩ (.bool false)).setCell ⟨w.heap.size, 3, none⟩ (.int .i64 0)) w.heap.size 89 #[.int .i64 0, .int .i64 0, .bool false, .int .i64 0] := fun q => ((((bres.drewN q).set_ 0 _).set_ 1 _).set_ 2 _).set_ 3 _
  have p0 := fun q => (cells4 (bf q)).1
  have p1 := fun q => (cells4 (bf q)).2.1
  have p2 := fun q => (cells4 (bf q)).2.2.1
  have p3 := fun q => (cells4 (bf q)).2.2.2
  refine bodyPost_ret (v := .tuple #[.agg #[.int .i64 0, .int .i64 0, .bool false, .int .i64 0], .int .i64 1, .int .i64 13]) (by simp [results, Tryd.results66, go_sem, p0, p1, p2, p3]) rfl ⟨by rw [HR.out]; rfl, ?_⟩
  repeat (first | exact KW | refine Kp.setCell ?_ (.inr (by simp)) _ | apply Kp.drewN | apply Kp.drew)

end Go.Proofs.YtgjbfgkcbehjnaaDoor

namespace Go.Proofs.YtgjbfgkcbehjnaaDoor
open Go.RowKit

set_option maxRecDepth 100000 in
set_option maxHeartbeats 1600000 in
theorem rread_ok2 (w : World) (ok : Nat → Prop) (b c p2 p3 : UInt8) (r : List UInt8) (hc : c.toNat = 130) (hq : 128 ≤ be [p2, p3] ∧ be [p2, p3] / 256 ^ 1 ≠ 0) (v : Value) (hv : BR w ok v (b :: c :: p2 :: p3 :: r)) (hl : (b :: c :: p2 :: p3 :: r).length ≤ 140737488351232) (htop : topB b = true) :
    Calls Tryd.prog 66 #[v] w fun e w' => e = .returned (rdV (b :: c :: p2 :: p3 :: r)) ∧ Kp (fun _ => False) w w' := by
  obtain ⟨A, cp, rfl, hlc, hr⟩ := id hv
  obtain ⟨g, off, rfl, hok, -⟩ := hr.byte (k := 0) (by simp)
  have hcell : ∀ k (hk : k < (b :: c :: p2 :: p3 :: r).length), w.cell? ⟨g, off + k, none⟩ = some (.int .u8 ((b :: c :: p2 :: p3 :: r)[k].toNat : Int)) := by
    intro k hk
    obtain ⟨g', off', e', _, h⟩ := hr.byte hk
    simp only [Option.some.injEq, Addr.mk.injEq, and_true] at e'
    obtain ⟨rfl, rfl⟩ := e'
    exact h
  obtain ⟨x, hx⟩ : ∃ x : Nat, b.toNat = x := ⟨_, rfl⟩
  obtain ⟨m, hm'⟩ : ∃ m, (x / 32 % 2 == 1) = m := ⟨_, rfl⟩
  have hlt := b.toNat_lt
  rw [hx] at hlt
  obtain ⟨x2, hx2⟩ : ∃ x : Nat, p2.toNat = x := ⟨_, rfl⟩
  have lx2 := p2.toNat_lt
  rw [hx2] at lx2
  obtain ⟨x3, hx3⟩ : ∃ x : Nat, p3.toNat = x := ⟨_, rfl⟩
  have lx3 := p3.toNat_lt
  rw [hx3] at lx3
  obtain ⟨y1, hy1⟩ : ∃ y : Nat, x2 * 256 + x3 = y := ⟨_, rfl⟩
  have g1 : (256 : Int) * (x2 : Int) + (x3 : Int) = (y1 : Int) := by omega
  have c0 : w.cell? ⟨g, off, none⟩ = some (.int .u8 x) := by have := hcell 0 (by (try simp); (try omega)); first | (simp [*]; done) | simpa [*] using this
  have d0 : ∀ o, (w.alloc o).cell? ⟨g, off, none⟩ = some (.int .u8 x) := fun o => ((Kp.refl (fun _ => False) w).alloc o).cell c0 (fun h => h)
  have e0 : ∀ o1 o2, ((w.alloc o1).alloc o2).cell? ⟨g, off, none⟩ = some (.int .u8 x) := fun o1 o2 => (((Kp.refl (fun _ => False) w).alloc o1).alloc o2).cell c0 (fun h => h)
  have c1 : w.cell? ⟨g, off + 1, none⟩ = some (.int .u8 130) := by have := hcell 1 (by (try simp); (try omega)); first | (simp [*]; done) | simpa [*] using this
  have d1 : ∀ o, (w.alloc o).cell? ⟨g, off + 1, none⟩ = some (.int .u8 130) := fun o => ((Kp.refl (fun _ => False) w).alloc o).cell c1 (fun h => h)
  have e1 : ∀ o1 o2, ((w.alloc o1).alloc o2).cell? ⟨g, off + 1, none⟩ = some (.int .u8 130) := fun o1 o2 => (((Kp.refl (fun _ => False) w).alloc o1).alloc o2).cell c1 (fun h => h)
  have c2 : w.cell? ⟨g, off + 2, none⟩ = some (.int .u8 x2) := by have := hcell 2 (by (try simp); (try omega)); first | (simp [*]; done) | simpa [*] using this
  have d2 : ∀ o, (w.alloc o).cell? ⟨g, off + 2, none⟩ = some (.int .u8 x2) := fun o => ((Kp.refl (fun _ => False) w).alloc o).cell c2 (fun h => h)
  have e2 : ∀ o1 o2, ((w.alloc o1).alloc o2).cell? ⟨g, off + 2, none⟩ = some (.int .u8 x2) := fun o1 o2 => (((Kp.refl (fun _ => False) w).alloc o1).alloc o2).cell c2 (fun h => h)
  have c3 : w.cell? ⟨g, off + 3, none⟩ = some (.int .u8 x3) := by have := hcell 3 (by (try simp); (try omega)); first | (simp [*]; done) | simpa [*] using this
  have d3 : ∀ o, (w.alloc o).cell? ⟨g, off + 3, none⟩ = some (.int .u8 x3) := fun o => ((Kp.refl (fun _ => False) w).alloc o).cell c3 (fun h => h)
  have e3 : ∀ o1 o2, ((w.alloc o1).alloc o2).cell? ⟨g, off + 3, none⟩ = some (.int .u8 x3) := fun o1 o2 => (((Kp.refl (fun _ => False) w).alloc o1).alloc o2).cell c3 (fun h => h)
  have hm : ((x : Int) / 32 % 2 == 1) = m := by rw [← hm']; rcases Nat.mod_two_eq_zero_or_one (x / 32) with h | h <;> simp [h] <;> omega
  have HK : Hid (kindB (x / 64) (x % 32) m = true) := Lib.hid (by simpa [topB, hx, hm'] using htop)
  have KK : Hid (Kp (fun _ => False) w ((w.alloc (.cells #[.int .i64 0, .int .i64 0, .bool false, .int .i64 0] 89)).alloc (.cells #[.int .i64 (↑x / 64), .int .i64 (↑x % 32), .bool m, .int .i64 0] 89)).drew) := Lib.hid ((((Kp.refl _ _).alloc _).alloc _).drew)
  have hbe : be [p2, p3] = y1 := by simp [be, hx2, hx3]; omega
  have htk : be ((p2 :: p3 :: r).take 2) = y1 := by rw [show (p2 :: p3 :: r).take 2 = [p2, p3] from rfl]; exact hbe
  have hq1 := hq
  rw [hbe] at hq1
  have hkin : kindB (x / 64) (x % 32) m = true := HK.out
  have hLm : y1 ≤ 16777215 := by omega
  have hput := fun W => rput_any W (↑x / 64) (↑x % 32) m y1 hkin hLm
  have hpt0 := pt_top htop y1 hLm
  rw [hx, hm'] at hpt0
  have HR : Hid (rdV (b :: c :: p2 :: p3 :: r) = .tuple #[hdV (↑x / 64, ↑x % 32, m, ↑y1), .int .i64 4, .int .i64 0]) := Lib.hid (by rw [rdV, rd_long (k := 2) htop hc (by omega) (by omega) (by simp) htk, if_neg (by omega)]; simp [hdB, hx, hm'])
  have hlb : lenB y1 = c :: [p2, p3] := by
    have h := beB_be [p2, p3]
    rw [hbe] at h
    have hcc : c = 130 := UInt8.toNat_inj.1 (by rw [hc]; rfl)
    rw [lenB, hcc]
    rw [if_neg (by omega), if_neg (by omega), if_pos (by omega)]
    exact congrArg _ h
  rw [hlb] at hpt0
  unfold RPutP at hput
  simp only [hpt0, List.length_cons, List.length_nil, Nat.reduceAdd] at hput
  have HPut := Lib.hid hput
  clear hput hpt0 hlb hkin htk hbe hLm hq hq1
  clear hcell hr hv hm' htop
  simp only [List.length_cons] at hlc hl ⊢
  generalize r.length = n at *
  have KK2 := Lib.hid (fun z : Int => (show Kp (fun _ => False) w ((w.alloc (.cells #[.int .i64 0, .int .i64 0, .bool false, .int .i64 0] 89)).alloc (.cells #[.int .i64 (↑x / 64), .int .i64 (↑x % 32), .bool m, .int .i64 z] 89)).drew.drew.drew from ((((Kp.refl _ _).alloc _).alloc _).drew.drew.drew)))
  go_enter Tryd.func66, Tryd.ntmps66
  go_wp2_with fail
  go_region
  go_wp2_with fail
  refine (rkind_any _ _ _ _).mono ?_
  rintro e w2 ⟨rfl, rfl⟩
  rw [HK.out]
  go_wp2_with fail
  refine wp_loop_rounds 3 ?_
  rw [rounds_succ]
  go_wp2_with fail
  go_region
  go_wp2_with fail
  rw [rounds_succ]
  go_wp2_with fail
  go_region
  go_wp2_with fail
  rw [rounds_succ]
  go_wp2_with fail
  refine (HPut.out _).mono ?_
  rintro e w3 ⟨A3, cp3, rfl, hb3, hk3⟩
  have KW : Kp (fun _ => False) w w3 := (KK2.out y1).then_ hk3 (fun _ h => h.elim)
  have bres := (((Blk.new w 89 #[.int .i64 0, .int .i64 0, .bool false, .int .i64 0]).alloc (.cells #[.int .i64 (↑x / 64), .int .i64 (↑x % 32), .bool m, .int .i64 ↑y1] 89)).drew.drew.drew).kp hk3 (fun h => h)
  have bh := ((Blk.new (w.alloc (.cells #[.int .i64 0, .int .i64 0, .bool false, .int .i64 0] 89)) 89 #[.int .i64 (↑x / 64), .int .i64 (↑x % 32), .bool m, .int .i64 ↑y1]).drew.drew.drew).kp hk3 (fun h => h)
  simp only [World.size_alloc] at bh
  replace c0 := KW.cell c0 (fun h => h)
  replace c1 := KW.cell c1 (fun h => h)
  replace c2 := KW.cell c2 (fun h => h)
  replace c3 := KW.cell c3 (fun h => h)
  clear hk3 d0 e0 d1 e1 d2 e2 d3 e3
  obtain ⟨A', cp', e, -, hrd⟩ := hb3
  injection e with e1 e2 e3
  subst e1 e3
  obtain ⟨g3, off3, rfl, -, -⟩ := hrd.byte (k := 0) (by simp)
  have hcell3 : ∀ k (hk : k < (b :: c :: [p2, p3]).length), w3.cell? ⟨g3, off3 + k, none⟩ = some (.int .u8 ((b :: c :: [p2, p3])[k].toNat : Int)) := by
    intro k hk
    obtain ⟨g', off', e', _, h⟩ := hrd.byte hk
    simp only [Option.some.injEq, Addr.mk.injEq, and_true] at e'
    obtain ⟨rfl, rfl⟩ := e'
    exact h
  have o0 : w3.cell? ⟨g3, off3, none⟩ = some (.int .u8 x) := (hcell3 0 (by (try simp); (try omega))).trans (congrArg (fun t : Nat => some (Value.int .u8 (t : Int))) hx)
  have o1 : w3.cell? ⟨g3, off3 + 1, none⟩ = some (.int .u8 130) := (hcell3 1 (by (try simp); (try omega))).trans (congrArg (fun t : Nat => some (Value.int .u8 (t : Int))) hc)
  have o2 : w3.cell? ⟨g3, off3 + 2, none⟩ = some (.int .u8 x2) := (hcell3 2 (by (try simp); (try omega))).trans (congrArg (fun t : Nat => some (Value.int .u8 (t : Int))) hx2)
  have o3 : w3.cell? ⟨g3, off3 + 3, none⟩ = some (.int .u8 x3) := (hcell3 3 (by (try simp); (try omega))).trans (congrArg (fun t : Nat => some (Value.int .u8 (t : Int))) hx3)
  clear hcell3 hrd
  obtain ⟨r0, r1, r2, r3⟩ := cells4 bres
  obtain ⟨h0, h1, h2, h3⟩ := cells4 bh
  have f0 := bres.frozen 0
  have f1 := bres.frozen 1
  have f2 := bres.frozen 2
  have f3 := bres.frozen 3
  have q0 : decide ((n : Int) + 1 + 1 + 1 + 1 ≤ 0) = false := decide_eq_false (by omega)
  have q1 : decide ((n : Int) + 1 + 1 + 1 + 1 ≤ 1) = false := decide_eq_false (by omega)
  have q2 : decide ((n : Int) + 1 + 1 + 1 + 1 ≤ 2) = false := decide_eq_false (by omega)
  have q3 : decide ((n : Int) + 1 + 1 + 1 + 1 ≤ 3) = false := decide_eq_false (by omega)
  go_wp2_with fail
  refine wp_loop_rounds 5 ?_
  rw [rounds_succ]
  go_wp2_with fail
  go_quiet (fail)
  go_wp2_with fail
  rw [rounds_succ]
  go_wp2_with fail
  go_quiet (fail)
  go_wp2_with fail
  rw [rounds_succ]
  go_wp2_with fail
  go_quiet (fail)
  go_wp2_with fail
  rw [rounds_succ]
  go_wp2_with fail
  go_quiet (fail)
  go_wp2_with fail
  rw [rounds_succ]
  go_wp2_with fail
  have bf : ∀ q, Blk (((((w3.drewN q).setCell ⟨w.heap.size, 0, none⟩ (.int .i64 (↑x / 64))).setCell ⟨w.heap.size, 1, none⟩ (.int .i64 (↑x % 32))).setCell ⟨w.heap.size, 2, none⟩ (.bool m)).setCell ⟨w.heap.size, 3, none⟩ (.int .i64 ↑y1)) w.heap.size 89 #[.int .i64 (↑x / 64), .int .i64 (↑x % 32), .bool m, .int .i64 ↑y1] := fun q => ((((bres.drewN q).set_ 0 _).set_ 1 _).set_ 2 _).set_ 3 _
  have p0 := fun q => (cells4 (bf q)).1
  have p1 := fun q => (cells4 (bf q)).2.1
  have p2 := fun q => (cells4 (bf q)).2.2.1
  have p3 := fun q => (cells4 (bf q)).2.2.2
  refine bodyPost_ret (v := .tuple #[.agg #[.int .i64 (↑x / 64), .int .i64 (↑x % 32), .bool m, .int .i64 ↑y1], .int .i64 4, .int .i64 0]) (by simp [results, Tryd.results66, go_sem, p0, p1, p2, p3]) rfl ⟨by rw [HR.out]; rfl, ?_⟩
  repeat (first | exact KW | refine Kp.setCell ?_ (.inr (by simp)) _ | apply Kp.drewN | apply Kp.drew)

set_option maxRecDepth 100000 in
set_option maxHeartbeats 1600000 in
theorem rread_low2 (w : World) (ok : Nat → Prop) (b c p2 p3 : UInt8) (r : List UInt8) (hc : c.toNat = 130) (hq : be [p2, p3] < 128 ∨ be [p2, p3] / 256 ^ 1 = 0) (v : Value) (hv : BR w ok v (b :: c :: p2 :: p3 :: r)) (hl : (b :: c :: p2 :: p3 :: r).length ≤ 140737488351232) (htop : topB b = true) :
    Calls Tryd.prog 66 #[v] w fun e w' => e = .returned (rdV (b :: c :: p2 :: p3 :: r)) ∧ Kp (fun _ => False) w w' := by
  obtain ⟨A, cp, rfl, hlc, hr⟩ := id hv
  obtain ⟨g, off, rfl, hok, -⟩ := hr.byte (k := 0) (by simp)
  have hcell : ∀ k (hk : k < (b :: c :: p2 :: p3 :: r).length), w.cell? ⟨g, off + k, none⟩ = some (.int .u8 ((b :: c :: p2 :: p3 :: r)[k].toNat : Int)) := by
    intro k hk
    obtain ⟨g', off', e', _, h⟩ := hr.byte hk
    simp only [Option.some.injEq, Addr.mk.injEq, and_true] at e'
    obtain ⟨rfl, rfl⟩ := e'
    exact h
  obtain ⟨x, hx⟩ : ∃ x : Nat, b.toNat = x := ⟨_, rfl⟩
  obtain ⟨m, hm'⟩ : ∃ m, (x / 32 % 2 == 1) = m := ⟨_, rfl⟩
  have hlt := b.toNat_lt
  rw [hx] at hlt
  obtain ⟨x2, hx2⟩ : ∃ x : Nat, p2.toNat = x := ⟨_, rfl⟩
  have lx2 := p2.toNat_lt
  rw [hx2] at lx2
  obtain ⟨x3, hx3⟩ : ∃ x : Nat, p3.toNat = x := ⟨_, rfl⟩
  have lx3 := p3.toNat_lt
  rw [hx3] at lx3
  obtain ⟨y1, hy1⟩ : ∃ y : Nat, x2 * 256 + x3 = y := ⟨_, rfl⟩
  have g1 : (256 : Int) * (x2 : Int) + (x3 : Int) = (y1 : Int) := by omega
  have c0 : w.cell? ⟨g, off, none⟩ = some (.int .u8 x) := by have := hcell 0 (by (try simp); (try omega)); first | (simp [*]; done) | simpa [*] using this
  have d0 : ∀ o, (w.alloc o).cell? ⟨g, off, none⟩ = some (.int .u8 x) := fun o => ((Kp.refl (fun _ => False) w).alloc o).cell c0 (fun h => h)
  have e0 : ∀ o1 o2, ((w.alloc o1).alloc o2).cell? ⟨g, off, none⟩ = some (.int .u8 x) := fun o1 o2 => (((Kp.refl (fun _ => False) w).alloc o1).alloc o2).cell c0 (fun h => h)
  have c1 : w.cell? ⟨g, off + 1, none⟩ = some (.int .u8 130) := by have := hcell 1 (by (try simp); (try omega)); first | (simp [*]; done) | simpa [*] using this
  have d1 : ∀ o, (w.alloc o).cell? ⟨g, off + 1, none⟩ = some (.int .u8 130) := fun o => ((Kp.refl (fun _ => False) w).alloc o).cell c1 (fun h => h)
  have e1 : ∀ o1 o2, ((w.alloc o1).alloc o2).cell? ⟨g, off + 1, none⟩ = some (.int .u8 130) := fun o1 o2 => (((Kp.refl (fun _ => False) w).alloc o1).alloc o2).cell c1 (fun h => h)
  have c2 : w.cell? ⟨g, off + 2, none⟩ = some (.int .u8 x2) := by have := hcell 2 (by (try simp); (try omega)); first | (simp [*]; done) | simpa [*] using this
  have d2 : ∀ o, (w.alloc o).cell? ⟨g, off + 2, none⟩ = some (.int .u8 x2) := fun o => ((Kp.refl (fun _ => False) w).alloc o).cell c2 (fun h => h)
  have e2 : ∀ o1 o2, ((w.alloc o1).alloc o2).cell? ⟨g, off + 2, none⟩ = some (.int .u8 x2) := fun o1 o2 => (((Kp.refl (fun _ => False) w).alloc o1).alloc o2).cell c2 (fun h => h)
  have c3 : w.cell? ⟨g, off + 3, none⟩ = some (.int .u8 x3) := by have := hcell 3 (by (try simp); (try omega)); first | (simp [*]; done) | simpa [*] using this
  have d3 : ∀ o, (w.alloc o).cell? ⟨g, off + 3, none⟩ = some (.int .u8 x3) := fun o => ((Kp.refl (fun _ => False) w).alloc o).cell c3 (fun h => h)
  have e3 : ∀ o1 o2, ((w.alloc o1).alloc o2).cell? ⟨g, off + 3, none⟩ = some (.int .u8 x3) := fun o1 o2 => (((Kp.refl (fun _ => False) w).alloc o1).alloc o2).cell c3 (fun h => h)
  have hm : ((x : Int) / 32 % 2 == 1) = m := by rw [← hm']; rcases Nat.mod_two_eq_zero_or_one (x / 32) with h | h <;> simp [h] <;> omega
  have HK : Hid (kindB (x / 64) (x % 32) m = true) := Lib.hid (by simpa [topB, hx, hm'] using htop)
  have KK : Hid (Kp (fun _ => False) w ((w.alloc (.cells #[.int .i64 0, .int .i64 0, .bool false, .int .i64 0] 89)).alloc (.cells #[.int .i64 (↑x / 64), .int .i64 (↑x % 32), .bool m, .int .i64 0] 89)).drew) := Lib.hid ((((Kp.refl _ _).alloc _).alloc _).drew)
  have hbe : be [p2, p3] = y1 := by simp [be, hx2, hx3]; omega
  have htk : be ((p2 :: p3 :: r).take 2) = y1 := by rw [show (p2 :: p3 :: r).take 2 = [p2, p3] from rfl]; exact hbe
  have hq1 := hq
  rw [hbe] at hq1
  have hkin : kindB (x / 64) (x % 32) m = true := HK.out
  have hLm : y1 ≤ 16777215 := by omega
  have hput := fun W => rput_any W (↑x / 64) (↑x % 32) m y1 hkin hLm
  have hpt0 := pt_top htop y1 hLm
  rw [hx, hm'] at hpt0
  have HR : Hid (rdV (b :: c :: p2 :: p3 :: r) = .tuple #[hdV hd0, .int .i64 1, .int .i64 13]) := Lib.hid (by rw [rdV, rd_long (k := 2) htop hc (by omega) (by omega) (by simp) htk, if_pos hq1])
  obtain ⟨o, rest, hlb, ho⟩ : ∃ o rest, lenB y1 = o :: rest ∧ o.toNat ≠ 130 := by
    rw [lenB]
    split
    · exact ⟨_, _, rfl, by rw [UInt8.toNat_ofNat']; omega⟩
    split
    · exact ⟨_, _, rfl, by decide⟩
    omega
  rw [hlb] at hpt0
  unfold RPutP at hput
  simp only [hpt0, List.length_cons] at hput
  have HPut := Lib.hid hput
  clear hput hpt0 hlb hkin htk hbe hLm hq hq1
  obtain ⟨z, hz⟩ : ∃ z : Nat, o.toNat = z := ⟨_, rfl⟩
  rw [hz] at ho
  have hzne : ((z : Int) != 130) = true := by simp; omega
  clear hcell hr hv hm' htop
  simp only [List.length_cons] at hlc hl ⊢
  generalize r.length = n at *
  have KK2 := Lib.hid (fun z : Int => (show Kp (fun _ => False) w ((w.alloc (.cells #[.int .i64 0, .int .i64 0, .bool false, .int .i64 0] 89)).alloc (.cells #[.int .i64 (↑x / 64), .int .i64 (↑x % 32), .bool m, .int .i64 z] 89)).drew.drew.drew from ((((Kp.refl _ _).alloc _).alloc _).drew.drew.drew)))
  go_enter Tryd.func66, Tryd.ntmps66
  go_wp2_with fail
  go_region
  go_wp2_with fail
  refine (rkind_any _ _ _ _).mono ?_
  rintro e w2 ⟨rfl, rfl⟩
  rw [HK.out]
  go_wp2_with fail
  refine wp_loop_rounds 3 ?_
  rw [rounds_succ]
  go_wp2_with fail
  go_region
  go_wp2_with fail
  rw [rounds_succ]
  go_wp2_with fail
  go_region
  go_wp2_with fail
  rw [rounds_succ]
  go_wp2_with fail
  refine (HPut.out _).mono ?_
  rintro e w3 ⟨A3, cp3, rfl, hb3, hk3⟩
  have KW : Kp (fun _ => False) w w3 := (KK2.out y1).then_ hk3 (fun _ h => h.elim)
  have bres := (((Blk.new w 89 #[.int .i64 0, .int .i64 0, .bool false, .int .i64 0]).alloc (.cells #[.int .i64 (↑x / 64), .int .i64 (↑x % 32), .bool m, .int .i64 ↑y1] 89)).drew.drew.drew).kp hk3 (fun h => h)
  have bh := ((Blk.new (w.alloc (.cells #[.int .i64 0, .int .i64 0, .bool false, .int .i64 0] 89)) 89 #[.int .i64 (↑x / 64), .int .i64 (↑x % 32), .bool m, .int .i64 ↑y1]).drew.drew.drew).kp hk3 (fun h => h)
  simp only [World.size_alloc] at bh
  replace c0 := KW.cell c0 (fun h => h)
  replace c1 := KW.cell c1 (fun h => h)
  clear hk3 d0 e0 d1 e1 d2 e2 d3 e3
  obtain ⟨A', cp', e, -, hrd⟩ := hb3
  injection e with e1 e2 e3
  subst e1 e3
  obtain ⟨g3, off3, rfl, -, -⟩ := hrd.byte (k := 0) (by simp)
  have hcell3 : ∀ k (hk : k < (b :: o :: rest).length), w3.cell? ⟨g3, off3 + k, none⟩ = some (.int .u8 ((b :: o :: rest)[k].toNat : Int)) := by
    intro k hk
    obtain ⟨g', off', e', _, h⟩ := hrd.byte hk
    simp only [Option.some.injEq, Addr.mk.injEq, and_true] at e'
    obtain ⟨rfl, rfl⟩ := e'
    exact h
  have o0 : w3.cell? ⟨g3, off3, none⟩ = some (.int .u8 x) := (hcell3 0 (by (try simp); (try omega))).trans (congrArg (fun t : Nat => some (Value.int .u8 (t : Int))) hx)
  have o1 : w3.cell? ⟨g3, off3 + 1, none⟩ = some (.int .u8 z) := (hcell3 1 (by (try simp); (try omega))).trans (congrArg (fun t : Nat => some (Value.int .u8 (t : Int))) hz)
  clear hcell3 hrd
  obtain ⟨r0, r1, r2, r3⟩ := cells4 bres
  obtain ⟨h0, h1, h2, h3⟩ := cells4 bh
  have f0 := bres.frozen 0
  have f1 := bres.frozen 1
  have f2 := bres.frozen 2
  have f3 := bres.frozen 3
  generalize rest.length = q at *
  have q0 : decide ((n : Int) + 1 + 1 + 1 + 1 ≤ 0) = false := decide_eq_false (by omega)
  have q1 : decide ((n : Int) + 1 + 1 + 1 + 1 ≤ 1) = false := decide_eq_false (by omega)
  go_wp2_with fail
  refine wp_loop_rounds 2 ?_
  rw [rounds_succ]
  go_wp2_with fail
  go_quiet (fail)
  go_wp2_with fail
  rw [rounds_succ]
  go_wp2_with fail
  go_quiet (fail)
  go_wp2_with fail
  have bf : ∀ q, Blk (((((w3.drewN q).setCell ⟨w.heap.size, 0, none⟩ (.int .i64 0)).setCell ⟨w.heap.size, 1, none⟩ (.int .i64 0)).setCell ⟨w.heap.size, 2, none⟩ (.bool false)).setCell ⟨w.heap.size, 3, none⟩ (.int .i64 0)) w.heap.size 89 #[.int .i64 0, .int .i64 0, .bool false, .int .i64 0] := fun q => ((((bres.drewN q).set_ 0 _).set_ 1 _).set_ 2 _).set_ 3 _
  have p0 := fun q => (cells4 (bf q)).1
  have p1 := fun q => (cells4 (bf q)).2.1
  have p2 := fun q => (cells4 (bf q)).2.2.1
  have p3 := fun q => (cells4 (bf q)).2.2.2
  refine bodyPost_ret (v := .tuple #[.agg #[.int .i64 0, .int .i64 0, .bool false, .int .i64 0], .int .i64 1, .int .i64 13]) (by simp [results, Tryd.results66, go_sem, p0, p1, p2, p3]) rfl ⟨by rw [HR.out]; rfl, ?_⟩
  repeat (first | exact KW | refine Kp.setCell ?_ (.inr (by simp)) _ | apply Kp.drewN | apply Kp.drew)

end Go.Proofs.YtgjbfgkcbehjnaaDoor

namespace Go.Proofs.YtgjbfgkcbehjnaaDoor
open Go.RowKit

set_option maxRecDepth 100000 in
set_option maxHeartbeats 1600000 in
theorem rread_ok3 (w : World) (ok : Nat → Prop) (b c p2 p3 p4 : UInt8) (r : List UInt8) (hc : c.toNat = 131) (hq : 128 ≤ be [p2, p3, p4] ∧ be [p2, p3, p4] / 256 ^ 2 ≠ 0) (v : Value) (hv : BR w ok v (b :: c :: p2 :: p3 :: p4 :: r)) (hl : (b :: c :: p2 :: p3 :: p4 :: r).length ≤ 140737488351232) (htop : topB b = true) :
    Calls Tryd.prog 66 #[v] w fun e w' => e = .returned (rdV (b :: c :: p2 :: p3 :: p4 :: r)) ∧ Kp (fun _ => False) w w' := by
  obtain ⟨A, cp, rfl, hlc, hr⟩ := id hv
  obtain ⟨g, off, rfl, hok, -⟩ := hr.byte (k := 0) (by simp)
  have hcell : ∀ k (hk : k < (b :: c :: p2 :: p3 :: p4 :: r).length), w.cell? ⟨g, off + k, none⟩ = some (.int .u8 ((b :: c :: p2 :: p3 :: p4 :: r)[k].toNat : Int)) := by
    intro k hk
    obtain ⟨g', off', e', _, h⟩ := hr.byte hk
    simp only [Option.some.injEq, Addr.mk.injEq, and_true] at e'
    obtain ⟨rfl, rfl⟩ := e'
    exact h
  obtain ⟨x, hx⟩ : ∃ x : Nat, b.toNat = x := ⟨_, rfl⟩
  obtain ⟨m, hm'⟩ : ∃ m, (x / 32 % 2 == 1) = m := ⟨_, rfl⟩
  have hlt := b.toNat_lt
  rw [hx] at hlt
  obtain ⟨x2, hx2⟩ : ∃ x : Nat, p2.toNat = x := ⟨_, rfl⟩
  have lx2 := p2.toNat_lt
  rw [hx2] at lx2
  obtain ⟨x3, hx3⟩ : ∃ x : Nat, p3.toNat = x := ⟨_, rfl⟩
  have lx3 := p3.toNat_lt
  rw [hx3] at lx3
  obtain ⟨x4, hx4⟩ : ∃ x : Nat, p4.toNat = x := ⟨_, rfl⟩
  have lx4 := p4.toNat_lt
  rw [hx4] at lx4
  obtain ⟨y1, hy1⟩ : ∃ y : Nat, x2 * 256 + x3 = y := ⟨_, rfl⟩
  have g1 : (256 : Int) * (x2 : Int) + (x3 : Int) = (y1 : Int) := by omega
  obtain ⟨y2, hy2⟩ : ∃ y : Nat, y1 * 256 + x4 = y := ⟨_, rfl⟩
  have g2 : (256 : Int) * (y1 : Int) + (x4 : Int) = (y2 : Int) := by omega
  have c0 : w.cell? ⟨g, off, none⟩ = some (.int .u8 x) := by have := hcell 0 (by (try simp); (try omega)); first | (simp [*]; done) | simpa [*] using this
  have d0 : ∀ o, (w.alloc o).cell? ⟨g, off, none⟩ = some (.int .u8 x) := fun o => ((Kp.refl (fun _ => False) w).alloc o).cell c0 (fun h => h)
  have e0 : ∀ o1 o2, ((w.alloc o1).alloc o2).cell? ⟨g, off, none⟩ = some (.int .u8 x) := fun o1 o2 => (((Kp.refl (fun _ => False) w).alloc o1).alloc o2).cell c0 (fun h => h)
  have c1 : w.cell? ⟨g, off + 1, none⟩ = some (.int .u8 131) := by have := hcell 1 (by (try simp); (try omega)); first | (simp [*]; done) | simpa [*] using this
  have d1 : ∀ o, (w.alloc o).cell? ⟨g, off + 1, none⟩ = some (.int .u8 131) := fun o => ((Kp.refl (fun _ => False) w).alloc o).cell c1 (fun h => h)
  have e1 : ∀ o1 o2, ((w.alloc o1).alloc o2).cell? ⟨g, off + 1, none⟩ = some (.int .u8 131) := fun o1 o2 => (((Kp.refl (fun _ => False) w).alloc o1).alloc o2).cell c1 (fun h => h)
  have c2 : w.cell? ⟨g, off + 2, none⟩ = some (.int .u8 x2) := by have := hcell 2 (by (try simp); (try omega)); first | (simp [*]; done) | simpa [*] using this
  have d2 : ∀ o, (w.alloc o).cell? ⟨g, off + 2, none⟩ = some (.int .u8 x2) := fun o => ((Kp.refl (fun _ => False) w).alloc o).cell c2 (fun h => h)
  have e2 : ∀ o1 o2, ((w.alloc o1).alloc o2).cell? ⟨g, off + 2, none⟩ = some (.int .u8 x2) := fun o1 o2 => (((Kp.refl (fun _ => False) w).alloc o1).alloc o2).cell c2 (fun h => h)
  have c3 : w.cell? ⟨g, off + 3, none⟩ = some (.int .u8 x3) := by have := hcell 3 (by (try simp); (try omega)); first | (simp [*]; done) | simpa [*] using this
  have d3 : ∀ o, (w.alloc o).cell? ⟨g, off + 3, none⟩ = some (.int .u8 x3) := fun o => ((Kp.refl (fun _ => False) w).alloc o).cell c3 (fun h => h)
  have e3 : ∀ o1 o2, ((w.alloc o1).alloc o2).cell? ⟨g, off + 3, none⟩ = some (.int .u8 x3) := fun o1 o2 => (((Kp.refl (fun _ => False) w).alloc o1).alloc o2).cell c3 (fun h => h)
  have c4 : w.cell? ⟨g, off + 4, none⟩ = some (.int .u8 x4) := by have := hcell 4 (by (try simp); (try omega)); first | (simp [*]; done) | simpa [*] using this
  have d4 : ∀ o, (w.alloc o).cell? ⟨g, off + 4, none⟩ = some (.int .u8 x4) := fun o => ((Kp.refl (fun _ => False) w).alloc o).cell c4 (fun h => h)
  have e4 : ∀ o1 o2, ((w.alloc o1).alloc o2).cell? ⟨g, off + 4, none⟩ = some (.int .u8 x4) := fun o1 o2 => (((Kp.refl (fun _ => False) w).alloc o1).alloc o2).cell c4 (fun h => h)
  have hm : ((x : Int) / 32 % 2 == 1) = m := by rw [← hm']; rcases Nat.mod_two_eq_zero_or_one (x / 32) with h | h <;> simp [h] <;> omega
  have HK : Hid (kindB (x / 64) (x % 32) m = true) := Lib.hid (by simpa [topB, hx, hm'] using htop)
  have KK : Hid (Kp (fun _ => False) w ((w.alloc (.cells #[.int .i64 0, .int .i64 0, .bool false, .int .i64 0] 89)).alloc (.cells #[.int .i64 (↑x / 64), .int .i64 (↑x % 32), .bool m, .int .i64 0] 89)).drew) := Lib.hid ((((Kp.refl _ _).alloc _).alloc _).drew)
  have hbe : be [p2, p3, p4] = y2 := by simp [be, hx2, hx3, hx4]; omega
  have htk : be ((p2 :: p3 :: p4 :: r).take 3) = y2 := by rw [show (p2 :: p3 :: p4 :: r).take 3 = [p2, p3, p4] from rfl]; exact hbe
  have hq1 := hq
  rw [hbe] at hq1
  have hkin : kindB (x / 64) (x % 32) m = true := HK.out
  have hLm : y2 ≤ 16777215 := by omega
  have hput := fun W => rput_any W (↑x / 64) (↑x % 32) m y2 hkin hLm
  have hpt0 := pt_top htop y2 hLm
  rw [hx, hm'] at hpt0
  have HR : Hid (rdV (b :: c :: p2 :: p3 :: p4 :: r) = .tuple #[hdV (↑x / 64, ↑x % 32, m, ↑y2), .int .i64 5, .int .i64 0]) := Lib.hid (by rw [rdV, rd_long (k := 3) htop hc (by omega) (by omega) (by simp) htk, if_neg (by omega)]; simp [hdB, hx, hm'])
  have hlb : lenB y2 = c :: [p2, p3, p4] := by
    have h := beB_be [p2, p3, p4]
    rw [hbe] at h
    have hcc : c = 131 := UInt8.toNat_inj.1 (by rw [hc]; rfl)
    rw [lenB, hcc]
    rw [if_neg (by omega), if_neg (by omega), if_neg (by omega)]
    exact congrArg _ h
  rw [hlb] at hpt0
  unfold RPutP at hput
  simp only [hpt0, List.length_cons, List.length_nil, Nat.reduceAdd] at hput
  have HPut := Lib.hid hput
  clear hput hpt0 hlb hkin htk hbe hLm hq hq1
  clear hcell hr hv hm' htop
  simp only [List.length_cons] at hlc hl ⊢
  generalize r.length = n at *
  have KK2 := Lib.hid (fun z : Int => (show Kp (fun _ => False) w ((w.alloc (.cells #[.int .i64 0, .int .i64 0, .bool false, .int .i64 0] 89)).alloc (.cells #[.int .i64 (↑x / 64), .int .i64 (↑x % 32), .bool m, .int .i64 z] 89)).drew.drew.drew.drew from ((((Kp.refl _ _).alloc _).alloc _).drew.drew.drew.drew)))
  go_enter Tryd.func66, Tryd.ntmps66
  go_wp2_with fail
  go_region
  go_wp2_with fail
  refine (rkind_any _ _ _ _).mono ?_
  rintro e w2 ⟨rfl, rfl⟩
  rw [HK.out]
  go_wp2_with fail
  refine wp_loop_rounds 4 ?_
  rw [rounds_succ]
  go_wp2_with fail
  go_region
  go_wp2_with fail
  rw [rounds_succ]
  go_wp2_with fail
  go_region
  go_wp2_with fail
  rw [rounds_succ]
  go_wp2_with fail
  go_region
  go_wp2_with fail
  rw [rounds_succ]
  go_wp2_with fail
  refine (HPut.out _).mono ?_
  rintro e w3 ⟨A3, cp3, rfl, hb3, hk3⟩
  have KW : Kp (fun _ => False) w w3 := (KK2.out y2).then_ hk3 (fun _ h => h.elim)
  have bres := (((Blk.new w 89 #[.int .i64 0, .int .i64 0, .bool false, .int .i64 0]).alloc (.cells #[.int .i64 (↑x / 64), .int .i64 (↑x % 32), .bool m, .int .i64 ↑y2] 89)).drew.drew.drew.drew).kp hk3 (fun h => h)
  have bh := ((Blk.new (w.alloc (.cells #[.int .i64 0, .int .i64 0, .bool false, .int .i64 0] 89)) 89 #[.int .i64 (↑x / 64), .int .i64 (↑x % 32), .bool m, .int .i64 ↑y2]).drew.drew.drew.drew).kp hk3 (fun h => h)
  simp only [World.size_alloc] at bh
  replace c0 := KW.cell c0 (fun h => h)
  replace c1 := KW.cell c1 (fun h => h)
  replace c2 := KW.cell c2 (fun h => h)
  replace c3 := KW.cell c3 (fun h => h)
  replace c4 := KW.cell c4 (fun h => h)
  clear hk3 d0 e0 d1 e1 d2 e2 d3 e3 d4 e4
  obtain ⟨A', cp', e, -, hrd⟩ := hb3
  injection e with e1 e2 e3
  subst e1 e3
  obtain ⟨g3, off3, rfl, -, -⟩ := hrd.byte (k := 0) (by simp)
  have hcell3 : ∀ k (hk : k < (b :: c :: [p2, p3, p4]).length), w3.cell? ⟨g3, off3 + k, none⟩ = some (.int .u8 ((b :: c :: [p2, p3, p4])[k].toNat : Int)) := by
    intro k hk
    obtain ⟨g', off', e', _, h⟩ := hrd.byte hk
    simp only [Option.some.injEq, Addr.mk.injEq, and_true] at e'
    obtain ⟨rfl, rfl⟩ := e'
    exact h
  have o0 : w3.cell? ⟨g3, off3, none⟩ = some (.int .u8 x) := (hcell3 0 (by (try simp); (try omega))).trans (congrArg (fun t : Nat => some (Value.int .u8 (t : Int))) hx)
  have o1 : w3.cell? ⟨g3, off3 + 1, none⟩ = some (.int .u8 131) := (hcell3 1 (by (try simp); (try omega))).trans (congrArg (fun t : Nat => some (Value.int .u8 (t : Int))) hc)
  have o2 : w3.cell? ⟨g3, off3 + 2, none⟩ = some (.int .u8 x2) := (hcell3 2 (by (try simp); (try omega))).trans (congrArg (fun t : Nat => some (Value.int .u8 (t : Int))) hx2)
  have o3 : w3.cell? ⟨g3, off3 + 3, none⟩ = some (.int .u8 x3) := (hcell3 3 (by (try simp); (try omega))).trans (congrArg (fun t : Nat => some (Value.int .u8 (t : Int))) hx3)
  have o4 : w3.cell? ⟨g3, off3 + 4, none⟩ = some (.int .u8 x4) := (hcell3 4 (by (try simp); (try omega))).trans (congrArg (fun t : Nat => some (Value.int .u8 (t : Int))) hx4)
  clear hcell3 hrd
  obtain ⟨r0, r1, r2, r3⟩ := cells4 bres
  obtain ⟨h0, h1, h2, h3⟩ := cells4 bh
  have f0 := bres.frozen 0
  have f1 := bres.frozen 1
  have f2 := bres.frozen 2
  have f3 := bres.frozen 3
  have q0 : decide ((n : Int) + 1 + 1 + 1 + 1 + 1 ≤ 0) = false := decide_eq_false (by omega)
  have q1 : decide ((n : Int) + 1 + 1 + 1 + 1 + 1 ≤ 1) = false := decide_eq_false (by omega)
  have q2 : decide ((n : Int) + 1 + 1 + 1 + 1 + 1 ≤ 2) = false := decide_eq_false (by omega)
  have q3 : decide ((n : Int) + 1 + 1 + 1 + 1 + 1 ≤ 3) = false := decide_eq_false (by omega)
  have q4 : decide ((n : Int) + 1 + 1 + 1 + 1 + 1 ≤ 4) = false := decide_eq_false (by omega)
  go_wp2_with fail
  refine wp_loop_rounds 6 ?_
  rw [rounds_succ]
  go_wp2_with fail
  go_quiet (fail)
  go_wp2_with fail
  rw [rounds_succ]
  go_wp2_with fail
  go_quiet (fail)
  go_wp2_with fail
  rw [rounds_succ]
  go_wp2_with fail
  go_quiet (fail)
  go_wp2_with fail
  rw [rounds_succ]
  go_wp2_with fail
  go_quiet (fail)
  go_wp2_with fail
  rw [rounds_succ]
  go_wp2_with fail
  go_quiet (fail)
  go_wp2_with fail
  rw [rounds_succ]
  go_wp2_with fail
  have bf : ∀ q, Blk (((((w3.drewN q).setCell ⟨w.heap.size, 0, none⟩ (.int .i64 (↑x / 64))).setCell ⟨w.heap.size, 1, none⟩ (.int .i64 (↑x % 32))).setCell ⟨w.heap.size, 2, none⟩ (.bool m)).setCell ⟨w.heap.size, 3, none⟩ (.int .i64 ↑y2)) w.heap.size 89 #[.int .i64 (↑x / 64), .int .i64 (↑x % 32), .bool m, .int .i64 ↑y2] := fun q => ((((bres.drewN q).set_ 0 _).set_ 1 _).set_ 2 _).set_ 3 _
  have p0 := fun q => (cells4 (bf q)).1
  have p1 := fun q => (cells4 (bf q)).2.1
  have p2 := fun q => (cells4 (bf q)).2.2.1
  have p3 := fun q => (cells4 (bf q)).2.2.2
  refine bodyPost_ret (v := .tuple #[.agg #[.int .i64 (↑x / 64), .int .i64 (↑x % 32), .bool m, .int .i64 ↑y2], .int .i64 5, .int .i64 0]) (by simp [results, Tryd.results66, go_sem, p0, p1, p2, p3]) rfl ⟨by rw [HR.out]; rfl, ?_⟩
  repeat (first | exact KW | refine Kp.setCell ?_ (.inr (by simp)) _ | apply Kp.drewN | apply Kp.drew)

set_option maxRecDepth 100000 in
set_option maxHeartbeats 1600000 in
theorem rread_low3 (w : World) (ok : Nat → Prop) (b c p2 p3 p4 : UInt8) (r : List UInt8) (hc : c.toNat = 131) (hq : be [p2, p3, p4] < 128 ∨ be [p2, p3, p4] / 256 ^ 2 = 0) (v : Value) (hv : BR w ok v (b :: c :: p2 :: p3 :: p4 :: r)) (hl : (b :: c :: p2 :: p3 :: p4 :: r).length ≤ 140737488351232) (htop : topB b = true) :
    Calls Tryd.prog 66 #[v] w fun e w' => e = .returned (rdV (b :: c :: p2 :: p3 :: p4 :: r)) ∧ Kp (fun _ => False) w w' := by
  obtain ⟨A, cp, rfl, hlc, hr⟩ := id hv
  obtain ⟨g, off, rfl, hok, -⟩ := hr.byte (k := 0) (by simp)
  have hcell : ∀ k (hk : k < (b :: c :: p2 :: p3 :: p4 :: r).length), w.cell? ⟨g, off + k, none⟩ = some (.int .u8 ((b :: c :: p2 :: p3 :: p4 :: r)[k].toNat : Int)) := by
    intro k hk
    obtain ⟨g', off', e', _, h⟩ := hr.byte hk
    simp only [Option.some.injEq, Addr.mk.injEq, and_true] at e'
    obtain ⟨rfl, rfl⟩ := e'
    exact h
  obtain ⟨x, hx⟩ : ∃ x : Nat, b.toNat = x := ⟨_, rfl⟩
  obtain ⟨m, hm'⟩ : ∃ m, (x / 32 % 2 == 1) = m := ⟨_, rfl⟩
  have hlt := b.toNat_lt
  rw [hx] at hlt
  obtain ⟨x2, hx2⟩ : ∃ x : Nat, p2.toNat = x := ⟨_, rfl⟩
  have lx2 := p2.toNat_lt
  rw [hx2] at lx2
  obtain ⟨x3, hx3⟩ : ∃ x : Nat, p3.toNat = x := ⟨_, rfl⟩
  have lx3 := p3.toNat_lt
  rw [hx3] at lx3
  obtain ⟨x4, hx4⟩ : ∃ x : Nat, p4.toNat = x := ⟨_, rfl⟩
  have lx4 := p4.toNat_lt
  rw [hx4] at lx4
  obtain ⟨y1, hy1⟩ : ∃ y : Nat, x2 * 256 + x3 = y := ⟨_, rfl⟩
  have g1 : (256 : Int) * (x2 : Int) + (x3 : Int) = (y1 : Int) := by omega
  obtain ⟨y2, hy2⟩ : ∃ y : Nat, y1 * 256 + x4 = y := ⟨_, rfl⟩
  have g2 : (256 : Int) * (y1 : Int) + (x4 : Int) = (y2 : Int) := by omega
  have c0 : w.cell? ⟨g, off, none⟩ = some (.int .u8 x) := by have := hcell 0 (by (try simp); (try omega)); first | (simp [*]; done) | simpa [*] using this
  have d0 : ∀ o, (w.alloc o).cell? ⟨g, off, none⟩ = some (.int .u8 x) := fun o => ((Kp.refl (fun _ => False) w).alloc o).cell c0 (fun h => h)
  have e0 : ∀ o1 o2, ((w.alloc o1).alloc o2).cell? ⟨g, off, none⟩ = some (.int .u8 x) := fun o1 o2 => (((Kp.refl (fun _ => False) w).alloc o1).alloc o2).cell c0 (fun h => h)
  have c1 : w.cell? ⟨g, off + 1, none⟩ = some (.int .u8 131) := by have := hcell 1 (by (try simp); (try omega)); first | (simp [*]; done) | simpa [*] using this
  have d1 : ∀ o, (w.alloc o).cell? ⟨g, off + 1, none⟩ = some (.int .u8 131) := fun o => ((Kp.refl (fun _ => False) w).alloc o).cell c1 (fun h => h)
  have e1 : ∀ o1 o2, ((w.alloc o1).alloc o2).cell? ⟨g, off + 1, none⟩ = some (.int .u8 131) := fun o1 o2 => (((Kp.refl (fun _ => False) w).alloc o1).alloc o2).cell c1 (fun h => h)
  have c2 : w.cell? ⟨g, off + 2, none⟩ = some (.int .u8 x2) := by have := hcell 2 (by (try simp); (try omega)); first | (simp [*]; done) | simpa [*] using this
  have d2 : ∀ o, (w.alloc o).cell? ⟨g, off + 2, none⟩ = some (.int .u8 x2) := fun o => ((Kp.refl (fun _ => False) w).alloc o).cell c2 (fun h => h)
  have e2 : ∀ o1 o2, ((w.alloc o1).alloc o2).cell? ⟨g, off + 2, none⟩ = some (.int .u8 x2) := fun o1 o2 => (((Kp.refl (fun _ => False) w).alloc o1).alloc o2).cell c2 (fun h => h)
  have c3 : w.cell? ⟨g, off + 3, none⟩ = some (.int .u8 x3) := by have := hcell 3 (by (try simp); (try omega)); first | (simp [*]; done) | simpa [*] using this
  have d3 : ∀ o, (w.alloc o).cell? ⟨g, off + 3, none⟩ = some (.int .u8 x3) := fun o => ((Kp.refl (fun _ => False) w).alloc o).cell c3 (fun h => h)
  have e3 : ∀ o1 o2, ((w.alloc o1).alloc o2).cell? ⟨g, off + 3, none⟩ = some (.int .u8 x3) := fun o1 o2 => (((Kp.refl (fun _ => False) w).alloc o1).alloc o2).cell c3 (fun h => h)
  have c4 : w.cell? ⟨g, off + 4, none⟩ = some (.int .u8 x4) := by have := hcell 4 (by (try simp); (try omega)); first | (simp [*]; done) | simpa [*] using this
  have d4 : ∀ o, (w.alloc o).cell? ⟨g, off + 4, none⟩ = some (.int .u8 x4) := fun o => ((Kp.refl (fun _ => False) w).alloc o).cell c4 (fun h => h)
  have e4 : ∀ o1 o2, ((w.alloc o1).alloc o2).cell? ⟨g, off + 4, none⟩ = some (.int .u8 x4) := fun o1 o2 => (((Kp.refl (fun _ => False) w).alloc o1).alloc o2).cell c4 (fun h => h)
  have hm : ((x : Int) / 32 % 2 == 1) = m := by rw [← hm']; rcases Nat.mod_two_eq_zero_or_one (x / 32) with h | h <;> simp [h] <;> omega
  have HK : Hid (kindB (x / 64) (x % 32) m = true) := Lib.hid (by simpa [topB, hx, hm'] using htop)
  have KK : Hid (Kp (fun _ => False) w ((w.alloc (.cells #[.int .i64 0, .int .i64 0, .bool false, .int .i64 0] 89)).alloc (.cells #[.int .i64 (↑x / 64), .int .i64 (↑x % 32), .bool m, .int .i64 0] 89)).drew) := Lib.hid ((((Kp.refl _ _).alloc _).alloc _).drew)
  have hbe : be [p2, p3, p4] = y2 := by simp [be, hx2, hx3, hx4]; omega
  have htk : be ((p2 :: p3 :: p4 :: r).take 3) = y2 := by rw [show (p2 :: p3 :: p4 :: r).take 3 = [p2, p3, p4] from rfl]; exact hbe
  have hq1 := hq
  rw [hbe] at hq1
  have hkin : kindB (x / 64) (x % 32) m = true := HK.out
  have hLm : y2 ≤ 16777215 := by omega
  have hput := fun W => rput_any W (↑x / 64) (↑x % 32) m y2 hkin hLm
  have hpt0 := pt_top htop y2 hLm
  rw [hx, hm'] at hpt0
  have HR : Hid (rdV (b :: c :: p2 :: p3 :: p4 :: r) = .tuple #[hdV hd0, .int .i64 1, .int .i64 13]) := Lib.hid (by rw [rdV, rd_long (k := 3) htop hc (by omega) (by omega) (by simp) htk, if_pos hq1])
  obtain ⟨o, rest, hlb, ho⟩ : ∃ o rest, lenB y2 = o :: rest ∧ o.toNat ≠ 131 := by
    rw [lenB]
    split
    · exact ⟨_, _, rfl, by rw [UInt8.toNat_ofNat']; omega⟩
    split
    · exact ⟨_, _, rfl, by decide⟩
    split
    · exact ⟨_, _, rfl, by decide⟩
    omega
  rw [hlb] at hpt0
  unfold RPutP at hput
  simp only [hpt0, List.length_cons] at hput
  have HPut := Lib.hid hput
  clear hput hpt0 hlb hkin htk hbe hLm hq hq1
  obtain ⟨z, hz⟩ : ∃ z : Nat, o.toNat = z := ⟨_, rfl⟩
  rw [hz] at ho
  have hzne : ((z : Int) != 131) = true := by simp; omega
  clear hcell hr hv hm' htop
  simp only [List.length_cons] at hlc hl ⊢
  generalize r.length = n at *
  have KK2 := Lib.hid (fun z : Int => (show Kp (fun _ => False) w ((w.alloc (.cells #[.int .i64 0, .int .i64 0, .bool false, .int .i64 0] 89)).alloc (.cells #[.int .i64 (↑x / 64), .int .i64 (↑x % 32), .bool m, .int .i64 z] 89)).drew.drew.drew.drew from ((((Kp.refl _ _).alloc _).alloc _).drew.drew.drew.drew)))
  go_enter Tryd.func66, Tryd.ntmps66
  go_wp2_with fail
  go_region
  go_wp2_with fail
  refine (rkind_any _ _ _ _).mono ?_
  rintro e w2 ⟨rfl, rfl⟩
  rw [HK.out]
  go_wp2_with fail
  refine wp_loop_rounds 4 ?_
  rw [rounds_succ]
  go_wp2_with fail
  go_region
  go_wp2_with fail
  rw [rounds_succ]
  go_wp2_with fail
  go_region
  go_wp2_with fail
  rw [rounds_succ]
  go_wp2_with fail
  go_region
  go_wp2_with fail
  rw [rounds_succ]
  go_wp2_with fail
  refine (HPut.out _).mono ?_
  rintro e w3 ⟨A3, cp3, rfl, hb3, hk3⟩
  have KW : Kp (fun _ => False) w w3 := (KK2.out y2).then_ hk3 (fun _ h => h.elim)
  have bres := (((Blk.new w 89 #[.int .i64 0, .int .i64 0, .bool false, .int .i64 0]).alloc (.cells #[.int .i64 (↑x / 64), .int .i64 (↑x % 32), .bool m, .int .i64 ↑y2] 89)).drew.drew.drew.drew).kp hk3 (fun h => h)
  have bh := ((Blk.new (w.alloc (.cells #[.int .i64 0, .int .i64 0, .bool false, .int .i64 0] 89)) 89 #[.int .i64 (↑x / 64), .int .i64 (↑x % 32), .bool m, .int .i64 ↑y2]).drew.drew.drew.drew).kp hk3 (fun h => h)
  simp only [World.size_alloc] at bh
  replace c0 := KW.cell c0 (fun h => h)
  replace c1 := KW.cell c1 (fun h => h)
  clear hk3 d0 e0 d1 e1 d2 e2 d3 e3 d4 e4
  obtain ⟨A', cp', e, -, hrd⟩ := hb3
  injection e with e1 e2 e3
  subst e1 e3
  obtain ⟨g3, off3, rfl, -, -⟩ := hrd.byte (k := 0) (by simp)
  have hcell3 : ∀ k (hk : k < (b :: o :: rest).length), w3.cell? ⟨g3, off3 + k, none⟩ = some (.int .u8 ((b :: o :: rest)[k].toNat : Int)) := by
    intro k hk
    obtain ⟨g', off', e', _, h⟩ := hrd.byte hk
    simp only [Option.some.injEq, Addr.mk.injEq, and_true] at e'
    obtain ⟨rfl, rfl⟩ := e'
    exact h
  have o0 : w3.cell? ⟨g3, off3, none⟩ = some (.int .u8 x) := (hcell3 0 (by (try simp); (try omega))).trans (congrArg (fun t : Nat => some (Value.int .u8 (t : Int))) hx)
  have o1 : w3.cell? ⟨g3, off3 + 1, none⟩ = some (.int .u8 z) := (hcell3 1 (by (try simp); (try omega))).trans (congrArg (fun t : Nat => some (Value.int .u8 (t : Int))) hz)
  clear hcell3 hrd
  obtain ⟨r0, r1, r2, r3⟩ := cells4 bres
  obtain ⟨h0, h1, h2, h3⟩ := cells4 bh
  have f0 := bres.frozen 0
  have f1 := bres.frozen 1
  have f2 := bres.frozen 2
  have f3 := bres.frozen 3
  generalize rest.length = q at *
  have q0 : decide ((n : Int) + 1 + 1 + 1 + 1 + 1 ≤ 0) = false := decide_eq_false (by omega)
  have q1 : decide ((n : Int) + 1 + 1 + 1 + 1 + 1 ≤ 1) = false := decide_eq_false (by omega)
  go_wp2_with fail
  refine wp_loop_rounds 2 ?_
  rw [rounds_succ]
  go_wp2_with fail
  go_quiet (fail)
  go_wp2_with fail
  rw [rounds_succ]
  go_wp2_with fail
  go_quiet (fail)
  go_wp2_with fail
  have bf : ∀ q, Blk (((((w3.drewN q).setCell ⟨w.heap.size, 0, none⟩ (.int .i64 0)).setCell ⟨w.heap.size, 1, none⟩ (.int .i64 0)).setCell ⟨w.heap.size, 2, none⟩ (.bool false)).setCell ⟨w.heap.size, 3, none⟩ (.int .i64 0)) w.heap.size 89 #[.int .i64 0, .int .i64 0, .bool false, .int .i64 0] := fun q => ((((bres.drewN q).set_ 0 _).set_ 1 _).set_ 2 _).set_ 3 _
  have p0 := fun q => (cells4 (bf q)).1
  have p1 := fun q => (cells4 (bf q)).2.1
  have p2 := fun q => (cells4 (bf q)).2.2.1
  have p3 := fun q => (cells4 (bf q)).2.2.2
  refine bodyPost_ret (v := .tuple #[.agg #[.int .i64 0, .int .i64 0, .bool false, .int .i64 0], .int .i64 1, .int .i64 13]) (by simp [results, Tryd.results66, go_sem, p0, p1, p2, p3]) rfl ⟨by rw [HR.out]; rfl, ?_⟩
  repeat (first | exact KW | refine Kp.setCell ?_ (.inr (by simp)) _ | apply Kp.drewN | apply Kp.drew)

end Go.Proofs.YtgjbfgkcbehjnaaDoor

namespace Go.Proofs.YtgjbfgkcbehjnaaDoor
open Go.RowKit

theorem rread_any (w : World) (ok : Nat → Prop) (v : Value) (l : List UInt8) (hv : BR w ok v l) (hl : l.length ≤ 140737488351232) :
    Calls Tryd.prog 66 #[v] w fun e w' => e = .returned (rdV l) ∧ Kp (fun _ => False) w w' := by
  match l, hv, hl with
  | [], hv, hl => exact rread_nil w ok v hv
  | [b], hv, hl =>
    cases htop : topB b
    · exact rread_bad w ok b [] v hv hl htop
    · exact rread_one w ok b v hv hl htop
  | b :: c :: u, hv, hl =>
    cases htop : topB b
    · exact rread_bad w ok b (c :: u) v hv hl htop
    rcases Nat.lt_or_ge c.toNat 128 with h | h
    · exact rread_small w ok b c u h v hv hl htop
    rcases Nat.lt_or_ge 131 c.toNat with h' | h'
    · exact rread_132 w ok b c u h' v hv hl htop
    have h4 : c.toNat = 128 ∨ c.toNat = 129 ∨ c.toNat = 130 ∨ c.toNat = 131 := by omega
    rcases h4 with h4 | h4 | h4 | h4
    · exact rread_128 w ok b c u h4 v hv hl htop
    · match u, hv, hl with
      | [], hv, hl => exact rread_short1 w ok b c _ h4 (by simp) v hv hl htop
      | p2 :: r, hv, hl =>
        by_cases hq : be [p2] < 128 ∨ be [p2] / 256 ^ 0 = 0
        · exact rread_low1 w ok b c p2 r h4 hq v hv hl htop
        · exact rread_ok1 w ok b c p2 r h4 (by omega) v hv hl htop
    · match u, hv, hl with
      | [], hv, hl => exact rread_short2 w ok b c _ h4 (by simp) v hv hl htop
      | [p2], hv, hl => exact rread_short2 w ok b c _ h4 (by simp) v hv hl htop
      | p2 :: p3 :: r, hv, hl =>
        by_cases hq : be [p2, p3] < 128 ∨ be [p2, p3] / 256 ^ 1 = 0
        · exact rread_low2 w ok b c p2 p3 r h4 hq v hv hl htop
        · exact rread_ok2 w ok b c p2 p3 r h4 (by omega) v hv hl htop
    · match u, hv, hl with
      | [], hv, hl => exact rread_short3 w ok b c _ h4 (by simp) v hv hl htop
      | [p2], hv, hl => exact rread_short3 w ok b c _ h4 (by simp) v hv hl htop
      | [p2, p3], hv, hl => exact rread_short3 w ok b c _ h4 (by simp) v hv hl htop
      | p2 :: p3 :: p4 :: r, hv, hl =>
        by_cases hq : be [p2, p3, p4] < 128 ∨ be [p2, p3, p4] / 256 ^ 2 = 0
        · exact rread_low3 w ok b c p2 p3 p4 r h4 hq v hv hl htop
        · exact rread_ok3 w ok b c p2 p3 p4 r h4 (by omega) v hv hl htop

end Go.Proofs.YtgjbfgkcbehjnaaDoor

namespace Go.Proofs.YtgjbfgkcbehjnaaDoor
open Go.RowKit

/-! ### days. -/
set_option maxRecDepth 100000 in
set_option maxHeartbeats 1600000 in
theorem rdays_any (y m : Nat) (hy : y < 10000) (hm : m < 100) (w : World) :
    Calls Tryd.prog 87 #[.int .i64 (y : Int), .int .i64 (m : Int)] w fun e w' => e = .returned (.int .i64 (dim y m : Int)) ∧ w = w' := by
  by_cases h30 : m = 4 ∨ m = 6 ∨ m = 9 ∨ m = 11
  · have hr : dim y m = 30 := by rw [dim, if_pos h30]
    rw [hr]
    clear hr
    rcases h30 with rfl | rfl | rfl | rfl
    all_goals
      go_enter Tryd.func87, Tryd.ntmps87
      go_wp2_with fail
      go_ret
      exact ⟨rfl, rfl⟩
  · have f4 : ((m : Int) == 4) = false := by simp; omega
    have f6 : ((m : Int) == 6) = false := by simp; omega
    have f9 : ((m : Int) == 9) = false := by simp; omega
    have f11 : ((m : Int) == 11) = false := by simp; omega
    by_cases h2 : m = 2
    · subst h2
      clear f4 f6 f9 f11 h30
      have e4 : ((y : Int) % 4 == 0) = decide (y % 4 = 0) := by rw [Bool.eq_iff_iff]; simp; omega
      have e100 : ((y : Int) % 100 != 0) = decide (y % 100 ≠ 0) := by rw [Bool.eq_iff_iff]; simp; omega
      have e400 : ((y : Int) % 400 == 0) = decide (y % 400 = 0) := by rw [Bool.eq_iff_iff]; simp; omega
      have hd : dim y 2 = if leapN y = true then 29 else 28 := rfl
      rw [hd]
      by_cases h400 : y % 400 = 0
      · rw [decide_eq_true h400] at e400
        have h4 : y % 4 = 0 := by omega
        have h100 : ¬ y % 100 ≠ 0 := by omega
        rw [decide_eq_true h4] at e4
        rw [decide_eq_false h100] at e100
        rw [if_pos (by rw [leapN, decide_eq_true h4, decide_eq_true h400]; simp)]
        clear h4 h100 h400 hd
        go_enter Tryd.func87, Tryd.ntmps87
        go_wp2_with fail
        go_ret
        exact ⟨rfl, rfl⟩
      rw [decide_eq_false h400] at e400
      by_cases h4 : y % 4 = 0
      · rw [decide_eq_true h4] at e4
        by_cases h100 : y % 100 ≠ 0
        · rw [decide_eq_true h100] at e100
          rw [if_pos (by rw [leapN, decide_eq_true h4, decide_eq_true h100]; rfl)]
          clear h4 h100 h400 hd
          go_enter Tryd.func87, Tryd.ntmps87
          go_wp2_with fail
          go_ret
          exact ⟨rfl, rfl⟩
        · rw [decide_eq_false h100] at e100
          rw [if_neg (by rw [leapN, decide_eq_false h100, decide_eq_false h400]; simp)]
          clear h4 h100 h400 hd
          go_enter Tryd.func87, Tryd.ntmps87
          go_wp2_with fail
          go_ret
          exact ⟨rfl, rfl⟩
      · rw [decide_eq_false h4] at e4
        rw [if_neg (by rw [leapN, decide_eq_false h4]; simp)]
        clear h4 h400 hd
        go_enter Tryd.func87, Tryd.ntmps87
        go_wp2_with fail
        go_ret
        exact ⟨rfl, rfl⟩
    · have f2 : ((m : Int) == 2) = false := by simp; omega
      have hr : dim y m = 31 := by rw [dim, if_neg h30, if_neg h2]
      rw [hr]
      clear hr h30 h2
      go_enter Tryd.func87, Tryd.ntmps87
      go_wp2_with fail
      go_ret
      exact ⟨rfl, rfl⟩

/-! ### digits. -/
set_option maxRecDepth 100000 in
set_option maxHeartbeats 1600000 in
theorem digits_any (ok : Nat → Prop) (v : Value) (l : List UInt8) (w : World) (hv : BR w ok v l) (hl : l.length ≤ 4) :
    Calls Tryd.prog 86 #[v] w fun e w' => e = .returned (.int .i64 (digitsR l)) ∧ w = w' := by
  obtain ⟨A, c, rfl, hc, hr⟩ := id hv
  obtain ⟨r, hr0⟩ : ∃ r, digitsR l = r := ⟨_, rfl⟩
  rw [hr0]
  have HNO := Lib.hid (show digs l = false → r = -1 from fun h => by rw [← hr0]; exact digitsR_no h)
  have HYES := Lib.hid (show digs l = true → r = (num l : Int) from fun h => by rw [← hr0]; exact digitsR_yes h)
  clear hr0 hv
  go_enter Tryd.func86, Tryd.ntmps86
  go_wp2_with fail
  go_loop [3, 4] (fun n i => ∃ k : Nat, k ≤ l.length ∧ i = .int .i64 k ∧ digs (l.take k) = true ∧ n = .int .i64 (num (l.take k) : Int)) (fun _ i => l.length - (intOf i).toNat)
  case atStart => exact ⟨0, Nat.zero_le _, rfl, rfl, rfl⟩
  case round =>
    obtain ⟨k, hk, rfl, hdk, rfl⟩ := hrel
    have hnb := num_lt _ hdk
    rw [List.length_take, Nat.min_eq_left hk] at hnb
    have hnb2 : 10 ^ k ≤ 10 ^ 4 := Nat.pow_le_pow_right (by omega) (by omega)
    have HDK := Lib.hid hdk
    clear hdk
    by_cases hlt : k < l.length
    · obtain ⟨g, off, rfl, _, hcell⟩ := hr.byte hlt
      have hst := num_take l k hlt
      have hts := Lib.hid (List.take_succ_eq_append_getElem hlt)
      obtain ⟨x, hx⟩ : ∃ x, num (l.take k) = x := ⟨_, rfl⟩
      rw [hx] at hst hnb ⊢
      have hxb : x < 10000 := by omega
      obtain ⟨d, hd⟩ : ∃ d, l[k] = d := ⟨_, rfl⟩
      rw [hd] at hst hts hcell
      have HST := Lib.hid hst
      have hi0 : (0 : Int) ≤ (k : Int) := by omega
      have hi1 : (k : Int) < (l.length : Int) := by omega
      have HMEM := Lib.hid (show d ∈ l by rw [← hd]; exact List.getElem_mem hlt)
      clear hst hnb hnb2 hx hd
      by_cases hdg : isDig d = true
      · have hd2 := hdg
        simp only [isDig, Bool.and_eq_true, decide_eq_true_eq] at hd2
        obtain ⟨hd3, hd4⟩ := hd2
        have HDG := Lib.hid hdg
        obtain ⟨y, hy⟩ : ∃ y, d.toNat = y := ⟨_, rfl⟩
        rw [hy] at hcell hd3 hd4
        have HY := Lib.hid hy
        have d1 : decide ((y : Int) < 48) = false := by simp; omega
        have d2 : decide ((57 : Int) < (y : Int)) = false := by simp; omega
        clear hdg hy
        go_wp2_with fail
        go_round
        case rel => exact ⟨k + 1, by omega, by go_num, by rw [hts.out, digs_append, HDK.out]; simp [digs, HDG.out], by rw [HST.out, HY.out]; first | go_num | (congr 1; omega)⟩
        case measure => simp [intOf]; omega
      · have hr1 := HNO.out (by
          cases hq : digs l
          · rfl
          · exact absurd (List.all_eq_true.1 hq d HMEM.out) hdg)
        subst hr1
        have hd2 : d.toNat < 48 ∨ 57 < d.toNat := by
          simp only [isDig, Bool.and_eq_true, decide_eq_true_eq] at hdg
          omega
        obtain ⟨y, hy⟩ : ∃ y, d.toNat = y := ⟨_, rfl⟩
        rw [hy] at hcell hd2
        have hd5 : (decide ((y : Int) < 48) = true) ∨ (decide ((y : Int) < 48) = false ∧ decide ((57 : Int) < (y : Int)) = true) := by
          rcases hd2 with h | h
          · exact .inl (by simp; omega)
          · exact .inr ⟨by simp; omega, by simp; omega⟩
        clear hdg hd2 hy HNO HYES
        rcases hd5 with d1 | ⟨d1, d2⟩
        · go_wp2_with fail
          go_ret
          exact ⟨rfl, rfl⟩
        · go_wp2_with fail
          go_ret
          exact ⟨rfl, rfl⟩
    · obtain rfl : k = l.length := by omega
      rw [List.take_of_length_le (Nat.le_refl _)] at HDK hnb ⊢
      have hr1 := HYES.out HDK.out
      have HR1 := Lib.hid hr1
      clear hr1 HNO HYES hnb hnb2
      go_wp2_with fail
      go_ret
      exact ⟨by rw [HR1.out]; rfl, rfl⟩

/-! ### oid. -/
/-- The document's words on an identifier's bytes. -/
theorem oidS_at (l : List UInt8) : ∀ (k : Nat) (b : Bool), k ≤ l.length → (b = true ↔ (k = 0 ∨ bt l (k - 1) < 128)) → (∀ i, k ≤ i → i < l.length → ¬ (bt l i = 128 ∧ (i = 0 ∨ bt l (i - 1) < 128))) → oidS (l.drop k) b = some (decide (l.length = 0 ∨ bt l (l.length - 1) < 128)) := by
  intro k
  induction hd : l.length - k generalizing k with
  | zero =>
    intro b hk hb _
    obtain rfl : k = l.length := by omega
    rw [List.drop_of_length_le (Nat.le_refl _), oidS]
    congr 1
    rw [Bool.eq_iff_iff, hb, decide_eq_true_eq]
  | succ n ih =>
    intro b hk hb hno
    have hlt : k < l.length := by omega
    rw [oidS_drop hlt, ← bt_at hlt]
    have h1 := hno k (Nat.le_refl _) hlt
    rw [if_neg (fun x => h1 ⟨x.2, hb.1 x.1⟩)]
    refine ih (k + 1) (by omega) _ (by omega) ?_ (fun i hi hil => hno i (by omega) hil)
    simp
theorem oidS_bad (l : List UInt8) : ∀ (k : Nat) (b : Bool) (i : Nat), k ≤ i → i < l.length → (b = true ↔ (k = 0 ∨ bt l (k - 1) < 128)) → bt l i = 128 → (i = 0 ∨ bt l (i - 1) < 128) → oidS (l.drop k) b = none := by
  intro k
  induction hd : l.length - k generalizing k with
  | zero => intro b i hki hil; omega
  | succ n ih =>
    intro b i hki hil hb h1 h2
    have hlt : k < l.length := by omega
    rw [oidS_drop hlt, ← bt_at hlt]
    split
    · rfl
    · next hn =>
      rcases Nat.eq_or_lt_of_le hki with rfl | hki
      · exact absurd ⟨hb.2 h2, h1⟩ hn
      · exact ih (k + 1) (by omega) _ i (by omega) hil (by simp) h1 h2
theorem oidB_bad (l : List UInt8) (i : Nat) (hil : i < l.length) (h1 : bt l i = 128) (h2 : i = 0 ∨ bt l (i - 1) < 128) : oidB l = false := by
  have := oidS_bad l 0 true i (Nat.zero_le _) hil (by simp) h1 h2
  rw [List.drop_zero] at this
  rw [oidB, this]
theorem oidB_good (l : List UInt8) (h : ∀ i, i < l.length → ¬ (bt l i = 128 ∧ (i = 0 ∨ bt l (i - 1) < 128))) : oidB l = (decide (0 < l.length) && decide (bt l (l.length - 1) < 128)) := by
  have := oidS_at l 0 true (Nat.zero_le _) (by simp) (fun i _ hi => h i hi)
  rw [List.drop_zero] at this
  rw [oidB, this]
  simp only
  by_cases h0 : l.length = 0
  · simp [h0]
  · simp [h0]

set_option maxRecDepth 100000 in
set_option maxHeartbeats 3200000 in
theorem roid_any (ok : Nat → Prop) (v : Value) (l : List UInt8) (w : World) (hv : BR w ok v l) (hl : l.length ≤ 140737488355328) :
    Calls Tryd.prog 74 #[v] w fun e w' => e = .returned (.bool (oidB l)) ∧ w = w' := by
  obtain ⟨A, c, rfl, hc, hr⟩ := id hv
  obtain ⟨r, hr0⟩ : ∃ r, oidB l = r := ⟨_, rfl⟩
  rw [hr0]
  have HNO := Lib.hid (show ∀ i, i < l.length → bt l i = 128 → (i = 0 ∨ bt l (i - 1) < 128) → r = false from fun i hi h1 h2 => by rw [← hr0]; exact oidB_bad l i hi h1 h2)
  have HYES := Lib.hid (show (∀ i, i < l.length → ¬ (bt l i = 128 ∧ (i = 0 ∨ bt l (i - 1) < 128))) → r = (decide (0 < l.length) && decide (bt l (l.length - 1) < 128)) from fun h => by rw [← hr0]; exact oidB_good l h)
  have HCE := Lib.hid (show ∀ g off, A = some ⟨g, off, none⟩ → ∀ k, k < l.length → w.cell? ⟨g, off + k, none⟩ = some (.int .u8 (bt l k : Int)) from fun g off hA k hk => by
    obtain ⟨g', off', ee, _, h2⟩ := hr.byte hk
    rw [hA] at ee
    simp only [Option.some.injEq, Addr.mk.injEq, and_true] at ee
    obtain ⟨rfl, rfl⟩ := ee
    rw [bt_at hk]
    exact h2)
  have HA := Lib.hid (show 0 < l.length → ∃ g off, A = some ⟨g, off, none⟩ from fun h => by
    obtain ⟨g', off', ee, _, h2⟩ := hr.byte h
    exact ⟨g', off', ee⟩)
  clear hr0 hv hr
  go_enter Tryd.func74, Tryd.ntmps74
  go_wp2_with fail
  go_loop [3] (fun i => ∃ k : Nat, k ≤ l.length ∧ i = .int .i64 k ∧ Hid (∀ j, j < k → ¬ (bt l j = 128 ∧ (j = 0 ∨ bt l (j - 1) < 128)))) (fun i => l.length - (intOf i).toNat)
  case atStart => exact ⟨0, Nat.zero_le _, rfl, fun j hj => absurd hj (by omega)⟩
  case round =>
    obtain ⟨k, hk, rfl, hno⟩ := hrel
    by_cases hlt : k < l.length
    · obtain ⟨g, off, rfl⟩ := HA.out (by omega)
      have hc0 := HCE.out g off rfl k hlt
      have hxb := bt_lt l k
      by_cases h128 : bt l k = 128
      · by_cases h0 : k = 0
        · subst h0
          have hr1 := HNO.out 0 hlt h128 (.inl rfl)
          subst hr1
          rw [h128, Nat.add_zero] at hc0
          clear h128 HNO HYES
          go_wp2_with fail
          go_ret
          exact ⟨rfl, rfl⟩
        · obtain ⟨j, rfl⟩ : ∃ j, k = j + 1 := ⟨k - 1, by omega⟩
          have hcj := HCE.out g off rfl j (by omega)
          have hjb := bt_lt l j
          have HJ := Lib.hid (show (j + 1 - 1) = j by omega)
          by_cases hp : bt l j < 128
          · have hr1 := HNO.out (j + 1) hlt h128 (.inr (by rw [HJ.out]; exact hp))
            subst hr1
            rw [h128] at hc0
            generalize bt l j = y at hcj hjb hp
            have d1 : decide ((y : Int) < 128) = true := by simp; omega
            have n0 : ((j : Int) + 1 == 0) = false := by simp; omega
            clear h128 HNO HYES h0 hp
            go_wp2_with fail
            go_ret
            exact ⟨rfl, rfl⟩
          · have HN2 := Lib.hid (show ∀ i, i < j + 1 + 1 → ¬ (bt l i = 128 ∧ (i = 0 ∨ bt l (i - 1) < 128)) from fun i hi => by
              rcases Nat.eq_or_lt_of_le (Nat.le_of_lt_succ hi) with rfl | hi
              · rintro ⟨_, h2⟩
                rw [HJ.out] at h2
                rcases h2 with h2 | h2
                · omega
                · exact hp h2
              · exact hno.out i hi)
            rw [h128] at hc0
            generalize bt l j = y at hcj hjb hp
            have d1 : decide ((y : Int) < 128) = false := by simp; omega
            have n0 : ((j : Int) + 1 == 0) = false := by simp; omega
            clear h128 HNO HYES h0 hp
            go_wp2_with fail
            go_round
            case rel => exact ⟨j + 1 + 1, by omega, by go_num, HN2⟩
            case measure => simp [intOf]; omega
      · have HN2 := Lib.hid (show ∀ i, i < k + 1 → ¬ (bt l i = 128 ∧ (i = 0 ∨ bt l (i - 1) < 128)) from fun i hi => by
          rcases Nat.eq_or_lt_of_le (Nat.le_of_lt_succ hi) with rfl | hi
          · exact fun x => h128 x.1
          · exact hno.out i hi)
        generalize bt l k = y at hc0 hxb h128
        have d1 : ((y : Int) == 128) = false := by simp; omega
        clear h128 HNO HYES
        go_wp2_with fail
        go_round
        case rel => exact ⟨k + 1, by omega, by go_num, HN2⟩
        case measure => simp [intOf]; omega
    · obtain rfl : k = l.length := by omega
      have hr1 := HYES.out hno.out
      have HR1 := Lib.hid hr1
      clear hr1 HNO HYES
      by_cases h0 : 0 < l.length
      · obtain ⟨g, off, rfl⟩ := HA.out h0
        obtain ⟨n, hn⟩ : ∃ n, l.length = n + 1 := ⟨l.length - 1, by omega⟩
        have hc0 := HCE.out g off rfl n (by omega)
        have HN := Lib.hid hn
        have hrr : r = decide (bt l n < 128) := by
          rw [HR1.out, HN.out, show n + 1 - 1 = n by omega, decide_eq_true (by omega : 0 < n + 1), Bool.true_and]
        rw [hn] at hc hl ⊢
        have hyb := bt_lt l n
        generalize bt l n = y at hc0 hrr hyb
        have d1 : decide ((y : Int) < 128) = r := by
          rw [hrr, Bool.eq_iff_iff]
          simp
          omega
        have n0 : decide ((0 : Int) < (n : Int) + 1) = true := by simp <;> omega
        clear hrr hn hlt hk h0
        go_wp2_with fail
        go_ret
        exact ⟨rfl, rfl⟩
      · have hn : l.length = 0 := by omega
        have hrr : r = false := by rw [HR1.out, hn]; rfl
        subst hrr
        rw [hn] at hc hl ⊢
        clear hlt hk h0
        go_wp2_with fail
        go_ret
        exact ⟨rfl, rfl⟩

/-! ### bits. -/
theorem shr_odd (y x : Nat) (h : y % 2 ^ x = 0) : ∀ i, i < x → y / 2 ^ i % 2 = 0 := by
  intro i hi
  have h1 : 2 ^ x = 2 ^ (i + 1) * 2 ^ (x - (i + 1)) := by rw [← Nat.pow_add]; congr 1; omega
  have h2 : y % 2 ^ (i + 1) = 0 := by
    have := Nat.mod_mul_right_mod y (2 ^ (i + 1)) (2 ^ (x - (i + 1)))
    rw [← h1, h] at this
    simpa using this.symm
  rw [Nat.pow_succ, Nat.mod_mul] at h2
  have h3 := (Nat.add_eq_zero_iff.1 h2).2
  rcases Nat.mul_eq_zero.1 h3 with h4 | h4
  · exact absurd h4 (Nat.pos_iff_ne_zero.1 (Nat.two_pow_pos i))
  · exact h4
theorem shr_even (y x : Nat) (h : ∀ i, i < x → y / 2 ^ i % 2 = 0) : y % 2 ^ x = 0 := by
  induction x with
  | zero => simp [Nat.mod_one]
  | succ x ih =>
    rw [Nat.pow_succ, Nat.mod_mul, ih (fun i hi => h i (by omega)), h x (by omega)]
    simp
theorem div_pow_succ (y k : Nat) : y / 2 ^ k / 2 = y / 2 ^ (k + 1) := by rw [Nat.div_div_eq_div_mul, Nat.pow_succ]

set_option maxRecDepth 100000 in
set_option maxHeartbeats 3200000 in
theorem rbits_any (ok : Nat → Prop) (v : Value) (l : List UInt8) (w : World) (hv : BR w ok v l) (hl : l.length ≤ 140737488355328) :
    Calls Tryd.prog 73 #[v] w fun e w' => e = .returned (.bool (bitsB l)) ∧ w = w' := by
  obtain ⟨A, c, rfl, hc, hr⟩ := id hv
  by_cases h0 : l.length = 0
  · have hB : bitsB l = false := by rw [bitsB, h0]; rfl
    rw [hB]
    rw [h0] at hc ⊢
    clear hB hr hv h0
    go_enter Tryd.func73, Tryd.ntmps73
    go_wp2_with fail
    go_ret
    exact ⟨rfl, rfl⟩
  obtain ⟨n, hn⟩ : ∃ n, l.length = n + 1 := ⟨l.length - 1, by omega⟩
  obtain ⟨g, off, rfl, _, hc0⟩ := hr.byte (k := 0) (by omega)
  obtain ⟨g', off', ee, _, hcn⟩ := hr.byte (k := n) (by omega)
  simp only [Option.some.injEq, Addr.mk.injEq, and_true] at ee
  obtain ⟨rfl, rfl⟩ := ee
  have q0 := bt_at (l := l) (i := 0) (by omega)
  have qn := bt_at (l := l) (i := n) (by omega)
  rw [← q0] at hc0
  rw [← qn] at hcn
  have b0 := bt_lt l 0
  have bn := bt_lt l n
  obtain ⟨r, hr0⟩ : ∃ r, bitsB l = r := ⟨_, rfl⟩
  rw [hr0]
  rw [bitsB, show l.length - 1 = n by omega, hn] at hr0
  have hnn : n = 0 → bt l n = bt l 0 := by rintro rfl; rfl
  rw [hn] at hc ⊢
  clear hr hv q0 qn h0
  obtain ⟨x, hx⟩ : ∃ x, bt l 0 = x := ⟨_, rfl⟩
  obtain ⟨y, hy⟩ : ∃ y, bt l n = y := ⟨_, rfl⟩
  rw [hx] at hc0 b0 hr0 hnn
  rw [hy] at hcn bn hr0 hnn
  rw [Nat.add_zero] at hc0
  clear hx hy
  have g1 : ((n : Int) + 1 == 0) = false := by simp <;> omega
  have hn63 : (n : Int) + 1 ≤ 140737488355328 := by omega
  by_cases h7 : 7 < x
  · have hr1 : r = false := by rw [← hr0, decide_eq_false (by omega : ¬ x ≤ 7)]; simp
    subst hr1
    have g3 : decide ((7 : Int) < (x : Int)) = true := by simp; omega
    clear hr0 hnn hn hl
    go_enter Tryd.func73, Tryd.ntmps73
    go_wp2_with fail
    go_ret
    exact ⟨rfl, rfl⟩
  have g3 : decide ((7 : Int) < (x : Int)) = false := by simp; omega
  by_cases h1 : n = 0
  · subst h1
    obtain rfl := hnn rfl
    rw [if_pos rfl] at hr0
    by_cases hx0 : y = 0
    · subst hx0
      have hr1 : r = true := by rw [← hr0]; rfl
      subst hr1
      clear hr0 hnn hn hl h7
      go_enter Tryd.func73, Tryd.ntmps73
      go_wp2_with fail
      refine wp_loop_rounds 1 ?_
      rw [rounds_succ]
      go_wp2_with fail
      go_ret
      exact ⟨rfl, rfl⟩
    · have hr1 : r = false := by rw [← hr0, decide_eq_false hx0]; simp
      subst hr1
      have g4 : ((y : Int) != 0) = true := by simp; omega
      have g5 : ((y : Int) == 0) = false := by simp; omega
      clear hr0 hnn hn hl h7
      go_enter Tryd.func73, Tryd.ntmps73
      go_wp2_with fail
      go_ret
      exact ⟨rfl, rfl⟩
  have g4 : ((n : Int) + 1 == 1) = false := by simp <;> omega
  have g5 : ((n : Int) == 0) = false := by simp; omega
  rw [if_neg (by omega)] at hr0
  have hr1 : decide (y % 2 ^ x = 0) = r := by
    rw [← hr0, decide_eq_true (by omega : x ≤ 7)]
    simp
  have HNO := Lib.hid (show ∀ i, i < x → y / 2 ^ i % 2 ≠ 0 → r = false from fun i hi h => by
    rw [← hr1]
    exact decide_eq_false (fun h0 => h (shr_odd y x h0 i hi)))
  have HYES := Lib.hid (show (∀ i, i < x → y / 2 ^ i % 2 = 0) → r = true from fun h => by
    rw [← hr1]
    exact decide_eq_true (shr_even y x h))
  have hx7 : x ≤ 7 := by omega
  clear hr0 hr1 hnn hn hl h7 h1
  go_enter Tryd.func73, Tryd.ntmps73
  go_wp2_with fail
  go_loop [3, 4] (fun lv i => ∃ (k z : Nat), k ≤ x ∧ i = .int .i64 k ∧ lv = .int .i64 z ∧ Hid (y / 2 ^ k = z) ∧ Hid (∀ j, j < k → y / 2 ^ j % 2 = 0) ∧ z < 256) (fun _ i => x - (intOf i).toNat)
  case atStart => exact ⟨0, y, Nat.zero_le _, rfl, rfl, by simp [Hid], fun j hj => absurd hj (by omega), bn⟩
  case round =>
    obtain ⟨k, z, hk, rfl, rfl, hz, hno, hzb⟩ := hrel
    have i0 : (0 : Int) ≤ (k : Int) := by omega
    by_cases hlt : k < x
    · have d1 : decide (k < x) = true := decide_eq_true hlt
      by_cases hodd : z % 2 = 0
      · have e1 : ((z : Int) % 2 == 1) = false := by simp; omega
        have hz2 : Hid (y / 2 ^ (k + 1) = z / 2) := by rw [← div_pow_succ, hz.out]; rfl
        have hn2 : Hid (∀ j, j < k + 1 → y / 2 ^ j % 2 = 0) := fun j hj => by
          rcases Nat.eq_or_lt_of_le (Nat.le_of_lt_succ hj) with rfl | hj
          · rw [hz.out]; exact hodd
          · exact hno.out j hj
        clear hodd HNO HYES
        go_wp2_with fail
        go_round
        case rel => exact ⟨k + 1, z / 2, by omega, by go_num, by first | go_num | (congr 1), hz2, hn2, by omega⟩
        case measure => simp [intOf]; omega
      · have hr1 := HNO.out k hlt (by rw [hz.out]; exact hodd)
        subst hr1
        have e1 : ((z : Int) % 2 == 1) = true := by simp; omega
        clear hodd HNO HYES
        go_wp2_with fail
        go_ret
        exact ⟨rfl, rfl⟩
    · obtain rfl : k = x := by omega
      have hr1 := HYES.out hno.out
      subst hr1
      clear HNO HYES
      go_wp2_with fail
      go_ret
      exact ⟨rfl, rfl⟩
end Go.Proofs.YtgjbfgkcbehjnaaDoor

namespace Go.Proofs.YtgjbfgkcbehjnaaDoor
open Go.RowKit

set_option maxRecDepth 100000 in
set_option maxHeartbeats 12800000 in
theorem rtime_a (ok : Nat → Prop) (v : Value) (l : List UInt8) (w : World) (hv : BR w ok v l) :
    Calls Tryd.prog 68 #[.int .i64 24, v] w fun e w' => e = .returned (.tuple #[((timeD 4 l).getD T6.zero).v, .bool (timeD 4 l).isSome]) ∧ Kp (fun _ => False) w w' := by
  obtain ⟨A, c, rfl, hc, hr⟩ := id hv
  obtain ⟨r, hr0⟩ : ∃ r, timeD 4 l = r := ⟨_, rfl⟩
  rw [hr0]
  have HR := Lib.hid hr0
  clear hr0 hv
  by_cases hlen : l.length ≠ 15
  · have HR2 := Lib.hid (show r = none by rw [← HR.out, timeD, if_neg (fun x => hlen x.1)])
    have g1 : ((l.length : Int) != 15) = true := by simp; omega
    have g2 : ((l.length : Int) == 15) = false := by simp; omega
    clear hlen hr
    go_enter Tryd.func68, Tryd.ntmps68
    go_wp2_with fail
    refine bodyPost_ret (v := .tuple #[T6.zero.v, .bool false]) (by simp [results, Tryd.results68, go_sem, T6.v, T6.zero]) rfl ⟨by rw [HR2.out]; rfl, ((Kp.refl _ _).alloc _).alloc _⟩
  have hlen : l.length = 15 := by omega
  obtain ⟨g, off, rfl, _, hz⟩ := hr.byte (k := 4 + 10) (by omega)
  rw [← bt_at (l := l) (i := 4 + 10) (by omega)] at hz
  have hzb := bt_lt l (4 + 10)
  obtain ⟨z, hzz⟩ : ∃ z, bt l (4 + 10) = z := ⟨_, rfl⟩
  have HZ := Lib.hid hzz
  rw [hzz] at hz hzb
  simp only [Nat.reduceAdd] at hz
  have hz' : ∀ o1 o2, ((w.alloc o1).alloc o2).cell? ⟨g, off + 14, none⟩ = some (.int .u8 (z : Int)) := fun o1 o2 => (((Kp.refl (fun _ => False) w).alloc o1).alloc o2).cell hz (fun h => h)
  clear hz
  have hsub : ∀ i m, i + m ≤ 15 → ∀ W, Kp (fun _ => False) w W → BR W ok (.slice (some ⟨g, off + i, none⟩) m (c - i)) ((l.drop i).take m) := by
    intro i m him W hk
    have h := BR.sub (ok := ok) (hr.kp hk (fun _ _ h => h)) hc (i := i) (j := i + m) (by omega) (by omega)
    rw [show i + m - i = m by omega] at h
    by_cases hm : m = 0
    · subst hm
      rw [List.take_zero]
      exact ⟨_, _, rfl, Nat.zero_le _, ⟨rfl, fun h => absurd h (by simp)⟩⟩
    · rw [if_neg (by omega)] at h
      have e : (some ⟨g, off, none⟩ : Option Addr).map (·.add i) = some ⟨g, off + i, none⟩ := by
        simp only [Option.map_some, Addr.add]
        split
        · next h0 => rw [h0, Nat.add_zero]
        · rfl
      rw [e] at h
      exact h
  have hdg : ∀ i m, i + m ≤ 15 → m ≤ 4 → ∀ W, Kp (fun _ => False) w W → Calls Tryd.prog 86 #[.slice (some ⟨g, off + i, none⟩) m (c - i)] W fun e w' => e = .returned (.int .i64 (digitsR ((l.drop i).take m))) ∧ W = w' := by
    intro i m him hm W hk
    exact digits_any ok _ _ W (hsub i m him W hk) (by rw [List.length_take]; omega)
  have hnb : ∀ i m, digs ((l.drop i).take m) = true → num ((l.drop i).take m) < 10 ^ m := by
    intro i m h
    have h1 := num_lt _ h
    have h2 : 10 ^ ((l.drop i).take m).length ≤ 10 ^ m := Nat.pow_le_pow_right (by omega) (by rw [List.length_take]; omega)
    omega
  have HLEN := Lib.hid hlen
  rw [hlen] at hc ⊢
  by_cases hz90 : z ≠ 90
  · have HR2 := Lib.hid (show r = none by rw [← HR.out, timeD, if_neg (fun x => hz90 (by rw [← HZ.out]; exact x.2.1))])
    have g1 : ((z : Int) != 90) = true := by simp; omega
    have g2 : ((z : Int) == 90) = false := by simp; omega
    clear hz90 hlen hr hsub hdg hnb hzz
    go_enter Tryd.func68, Tryd.ntmps68
    go_wp2_with fail
    refine bodyPost_ret (v := .tuple #[T6.zero.v, .bool false]) (by simp [results, Tryd.results68, go_sem, T6.v, T6.zero]) rfl ⟨by rw [HR2.out]; rfl, ((Kp.refl _ _).alloc _).alloc _⟩
  have hz90 : z = 90 := by omega
  subst hz90
  have D0 := hdg 0 4 (by omega) (by omega)
  have B0 := hnb 0 4
  have D1 := hdg 4 2 (by omega) (by omega)
  have B1 := hnb 4 2
  have D2 := hdg 6 2 (by omega) (by omega)
  have B2 := hnb 6 2
  have D3 := hdg 8 2 (by omega) (by omega)
  have B3 := hnb 8 2
  have D4 := hdg 10 2 (by omega) (by omega)
  have B4 := hnb 10 2
  have D5 := hdg 12 2 (by omega) (by omega)
  have B5 := hnb 12 2
  have E0 : l.take 4 = (l.drop 0).take 4 := rfl
  have E1 : chunk l 4 1 = (l.drop 4).take 2 := rfl
  have E2 : chunk l 4 2 = (l.drop 6).take 2 := rfl
  have E3 : chunk l 4 3 = (l.drop 8).take 2 := rfl
  have E4 : chunk l 4 4 = (l.drop 10).take 2 := rfl
  have E5 : chunk l 4 5 = (l.drop 12).take 2 := rfl
  generalize (l.drop 0).take 4 = C0 at D0 B0 E0
  generalize (l.drop 4).take 2 = C1 at D1 B1 E1
  generalize (l.drop 6).take 2 = C2 at D2 B2 E2
  generalize (l.drop 8).take 2 = C3 at D3 B3 E3
  generalize (l.drop 10).take 2 = C4 at D4 B4 E4
  generalize (l.drop 12).take 2 = C5 at D5 B5 E5
  have HNO := Lib.hid (show ¬ (digs C0 = true ∧ digs C1 = true ∧ digs C2 = true ∧ digs C3 = true ∧ digs C4 = true ∧ digs C5 = true ∧ okT ⟨yearR 4 (num C0), num C1, num C2, num C3, num C4, num C5⟩ = true) → r = none from fun h => by
    rw [← HR.out, timeD, E0, E1, E2, E3, E4, E5, tR, E0, E1, E2, E3, E4, E5, if_neg (fun x => h x.2.2)])
  have HYES := Lib.hid (show (digs C0 = true ∧ digs C1 = true ∧ digs C2 = true ∧ digs C3 = true ∧ digs C4 = true ∧ digs C5 = true ∧ okT ⟨yearR 4 (num C0), num C1, num C2, num C3, num C4, num C5⟩ = true) → r = some ⟨yearR 4 (num C0), num C1, num C2, num C3, num C4, num C5⟩ from fun h => by
    rw [← HR.out, timeD, E0, E1, E2, E3, E4, E5, tR, E0, E1, E2, E3, E4, E5, if_pos ⟨HLEN.out, HZ.out, h⟩])
  have hc1 : (15 : Int) ≤ (c : Int) := by omega
  have nc4 : ¬ c = 4 := by omega
  have nc6 : ¬ c = 6 := by omega
  have nc8 : ¬ c = 8 := by omega
  have nc10 : ¬ c = 10 := by omega
  have nc12 : ¬ c = 12 := by omega
  have HD0 := Lib.hid D0
  have HD1 := Lib.hid D1
  have HD2 := Lib.hid D2
  have HD3 := Lib.hid D3
  have HD4 := Lib.hid D4
  have HD5 := Lib.hid D5
  clear hlen hr hsub hdg hnb hzz HR HLEN HZ E0 E1 E2 E3 E4 E5 D0 D1 D2 D3 D4 D5
  simp only [Nat.add_zero, Nat.sub_zero] at HD0
  go_enter Tryd.func68, Tryd.ntmps68
  go_wp2_with fail
  refine (HD0.out _ (((Kp.refl _ _).alloc _).alloc _)).mono ?_
  rintro e w1 ⟨rfl, rfl⟩
  by_cases h0 : digs C0 = true
  case neg =>
    have HR2 := Lib.hid (HNO.out (fun x => h0 x.1))
    rw [digitsR_no (by simpa using h0)]
    clear h0 HNO HYES
    go_wp2_with fail
    refine bodyPost_ret (v := .tuple #[T6.zero.v, .bool false]) (by simp [results, Tryd.results68, go_sem, T6.v, T6.zero]) rfl ⟨by rw [HR2.out]; rfl, ((Kp.refl _ _).alloc _).alloc _⟩
  rw [digitsR_yes h0]
  have y0b := B0 h0
  have H0 := Lib.hid h0
  clear h0 B0
  obtain ⟨x0, hx0⟩ : ∃ x0, num C0 = x0 := ⟨_, rfl⟩
  have hyr : yearR 4 (num C0) = x0 := by rw [yearR, if_neg (by omega), hx0]
  rw [hyr] at HNO HYES
  rw [hx0] at y0b ⊢
  simp only [Nat.reducePow] at y0b
  have hx0b : x0 < 10000 := y0b
  clear hx0 hyr
  go_wp2_with fail
  refine wp_loop_rounds 6 ?_
  rw [rounds_succ]
  go_wp2_with fail
  refine (HD1.out _ (((Kp.refl _ _).alloc _).alloc _)).mono ?_
  rintro e w1 ⟨rfl, rfl⟩
  by_cases h1 : digs C1 = true
  case neg =>
    have HR2 := Lib.hid (HNO.out (fun x => h1 x.2.1))
    rw [digitsR_no (by simpa using h1)]
    clear h1 HNO HYES
    go_wp2_with fail
    refine bodyPost_ret (v := .tuple #[T6.zero.v, .bool false]) (by simp [results, Tryd.results68, go_sem, T6.v, T6.zero]) rfl ⟨by rw [HR2.out]; rfl, ((Kp.refl _ _).alloc _).alloc _⟩
  rw [digitsR_yes h1]
  have y1b := B1 h1
  have H1 := Lib.hid h1
  clear h1 B1
  obtain ⟨x1, hx1⟩ : ∃ x1, num C1 = x1 := ⟨_, rfl⟩
  rw [hx1] at HNO HYES y1b ⊢
  simp only [Nat.reducePow] at y1b
  clear hx1
  go_wp2_with fail
  rw [rounds_succ]
  go_wp2_with fail
  refine (HD2.out _ (((Kp.refl _ _).alloc _).alloc _)).mono ?_
  rintro e w1 ⟨rfl, rfl⟩
  by_cases h2 : digs C2 = true
  case neg =>
    have HR2 := Lib.hid (HNO.out (fun x => h2 x.2.2.1))
    rw [digitsR_no (by simpa using h2)]
    clear h2 HNO HYES
    go_wp2_with fail
    refine bodyPost_ret (v := .tuple #[T6.zero.v, .bool false]) (by simp [results, Tryd.results68, go_sem, T6.v, T6.zero]) rfl ⟨by rw [HR2.out]; rfl, ((Kp.refl _ _).alloc _).alloc _⟩
  rw [digitsR_yes h2]
  have y2b := B2 h2
  have H2 := Lib.hid h2
  clear h2 B2
  obtain ⟨x2, hx2⟩ : ∃ x2, num C2 = x2 := ⟨_, rfl⟩
  rw [hx2] at HNO HYES y2b ⊢
  simp only [Nat.reducePow] at y2b
  clear hx2
  go_wp2_with fail
  rw [rounds_succ]
  go_wp2_with fail
  refine (HD3.out _ (((Kp.refl _ _).alloc _).alloc _)).mono ?_
  rintro e w1 ⟨rfl, rfl⟩
  by_cases h3 : digs C3 = true
  case neg =>
    have HR2 := Lib.hid (HNO.out (fun x => h3 x.2.2.2.1))
    rw [digitsR_no (by simpa using h3)]
    clear h3 HNO HYES
    go_wp2_with fail
    refine bodyPost_ret (v := .tuple #[T6.zero.v, .bool false]) (by simp [results, Tryd.results68, go_sem, T6.v, T6.zero]) rfl ⟨by rw [HR2.out]; rfl, ((Kp.refl _ _).alloc _).alloc _⟩
  rw [digitsR_yes h3]
  have y3b := B3 h3
  have H3 := Lib.hid h3
  clear h3 B3
  obtain ⟨x3, hx3⟩ : ∃ x3, num C3 = x3 := ⟨_, rfl⟩
  rw [hx3] at HNO HYES y3b ⊢
  simp only [Nat.reducePow] at y3b
  clear hx3
  go_wp2_with fail
  rw [rounds_succ]
  go_wp2_with fail
  refine (HD4.out _ (((Kp.refl _ _).alloc _).alloc _)).mono ?_
  rintro e w1 ⟨rfl, rfl⟩
  by_cases h4 : digs C4 = true
  case neg =>
    have HR2 := Lib.hid (HNO.out (fun x => h4 x.2.2.2.2.1))
    rw [digitsR_no (by simpa using h4)]
    clear h4 HNO HYES
    go_wp2_with fail
    refine bodyPost_ret (v := .tuple #[T6.zero.v, .bool false]) (by simp [results, Tryd.results68, go_sem, T6.v, T6.zero]) rfl ⟨by rw [HR2.out]; rfl, ((Kp.refl _ _).alloc _).alloc _⟩
  rw [digitsR_yes h4]
  have y4b := B4 h4
  have H4 := Lib.hid h4
  clear h4 B4
  obtain ⟨x4, hx4⟩ : ∃ x4, num C4 = x4 := ⟨_, rfl⟩
  rw [hx4] at HNO HYES y4b ⊢
  simp only [Nat.reducePow] at y4b
  clear hx4
  go_wp2_with fail
  rw [rounds_succ]
  go_wp2_with fail
  refine (HD5.out _ (((Kp.refl _ _).alloc _).alloc _)).mono ?_
  rintro e w1 ⟨rfl, rfl⟩
  by_cases h5 : digs C5 = true
  case neg =>
    have HR2 := Lib.hid (HNO.out (fun x => h5 x.2.2.2.2.2.1))
    rw [digitsR_no (by simpa using h5)]
    clear h5 HNO HYES
    go_wp2_with fail
    refine bodyPost_ret (v := .tuple #[T6.zero.v, .bool false]) (by simp [results, Tryd.results68, go_sem, T6.v, T6.zero]) rfl ⟨by rw [HR2.out]; rfl, ((Kp.refl _ _).alloc _).alloc _⟩
  rw [digitsR_yes h5]
  have y5b := B5 h5
  have H5 := Lib.hid h5
  clear h5 B5
  obtain ⟨x5, hx5⟩ : ∃ x5, num C5 = x5 := ⟨_, rfl⟩
  rw [hx5] at HNO HYES y5b ⊢
  simp only [Nat.reducePow] at y5b
  clear hx5
  go_wp2_with fail
  rw [rounds_succ]
  go_wp2_with fail
  have hR := (Blk.new w 31 #[.int .i64 0, .int .i64 0, .int .i64 0, .int .i64 0, .int .i64 0, .int .i64 0]).alloc (.cells #[.int .i64 (x0 : Int), .int .i64 (x1 : Int), .int .i64 (x2 : Int), .int .i64 (x3 : Int), .int .i64 (x4 : Int), .int .i64 (x5 : Int)] 31)
  have hB := Blk.new (w.alloc (.cells #[.int .i64 0, .int .i64 0, .int .i64 0, .int .i64 0, .int .i64 0, .int .i64 0] 31)) 31 #[.int .i64 (x0 : Int), .int .i64 (x1 : Int), .int .i64 (x2 : Int), .int .i64 (x3 : Int), .int .i64 (x4 : Int), .int .i64 (x5 : Int)]
  rw [World.size_alloc] at hB
  have hk9 : Kp (fun _ => False) w ((w.alloc (.cells #[.int .i64 0, .int .i64 0, .int .i64 0, .int .i64 0, .int .i64 0, .int .i64 0] 31)).alloc (.cells #[.int .i64 (x0 : Int), .int .i64 (x1 : Int), .int .i64 (x2 : Int), .int .i64 (x3 : Int), .int .i64 (x4 : Int), .int .i64 (x5 : Int)] 31)) := ((Kp.refl _ _).alloc _).alloc _
  obtain ⟨W, hW⟩ : ∃ W, (w.alloc (.cells #[.int .i64 0, .int .i64 0, .int .i64 0, .int .i64 0, .int .i64 0, .int .i64 0] 31)).alloc (.cells #[.int .i64 (x0 : Int), .int .i64 (x1 : Int), .int .i64 (x2 : Int), .int .i64 (x3 : Int), .int .i64 (x4 : Int), .int .i64 (x5 : Int)] 31) = W := ⟨_, rfl⟩
  rw [hW] at hR hB hk9 ⊢
  clear hW
  have d0 := hB.cell 0
  have e10 := hR.cell 0
  have f0 := hR.frozen 0
  have d1 := hB.cell 1
  have e11 := hR.cell 1
  have f1 := hR.frozen 1
  have d2 := hB.cell 2
  have e12 := hR.cell 2
  have f2 := hR.frozen 2
  have d3 := hB.cell 3
  have e13 := hR.cell 3
  have f3 := hR.frozen 3
  have d4 := hB.cell 4
  have e14 := hR.cell 4
  have f4 := hR.frozen 4
  have d5 := hB.cell 5
  have e15 := hR.cell 5
  have f5 := hR.frozen 5
  simp at d0 d1 d2 d3 d4 d5 e10 e11 e12 e13 e14 e15
  have HK9 := Lib.hid hk9
  clear hB hR hk9
  by_cases b1 : x1 < 1
  case pos =>
    have t_ : decide ((x1 : Int) < 1) = true := by simp; omega
    have HR2 := Lib.hid (HNO.out (fun x => by have h := x.2.2.2.2.2.2; simp [okT] at h; omega))
    clear HNO HYES b1
    go_quiet (fail)
    go_wp2_with fail
    refine bodyPost_ret (v := .tuple #[T6.zero.v, .bool false]) (by simp [results, Tryd.results68, go_sem, T6.v, T6.zero, e10, e11, e12, e13, e14, e15]) rfl ⟨by rw [HR2.out]; rfl, ?_⟩
    exact (Kp.setCell (p := ⟨w.heap.size, 5, none⟩) (Kp.setCell (p := ⟨w.heap.size, 4, none⟩) (Kp.setCell (p := ⟨w.heap.size, 3, none⟩) (Kp.setCell (p := ⟨w.heap.size, 2, none⟩) (Kp.setCell (p := ⟨w.heap.size, 1, none⟩) (Kp.setCell (p := ⟨w.heap.size, 0, none⟩) (HK9.out.drewN _) (.inr (Nat.le_refl _)) _) (.inr (Nat.le_refl _)) _) (.inr (Nat.le_refl _)) _) (.inr (Nat.le_refl _)) _) (.inr (Nat.le_refl _)) _) (.inr (Nat.le_refl _)) _)
  have t1 : decide ((x1 : Int) < 1) = false := by simp; omega
  by_cases b2 : 12 < x1
  case pos =>
    have t_ : decide ((12 : Int) < (x1 : Int)) = true := by simp; omega
    have HR2 := Lib.hid (HNO.out (fun x => by have h := x.2.2.2.2.2.2; simp [okT] at h; omega))
    clear HNO HYES b1 b2
    go_quiet (fail)
    go_wp2_with fail
    refine bodyPost_ret (v := .tuple #[T6.zero.v, .bool false]) (by simp [results, Tryd.results68, go_sem, T6.v, T6.zero, e10, e11, e12, e13, e14, e15]) rfl ⟨by rw [HR2.out]; rfl, ?_⟩
    exact (Kp.setCell (p := ⟨w.heap.size, 5, none⟩) (Kp.setCell (p := ⟨w.heap.size, 4, none⟩) (Kp.setCell (p := ⟨w.heap.size, 3, none⟩) (Kp.setCell (p := ⟨w.heap.size, 2, none⟩) (Kp.setCell (p := ⟨w.heap.size, 1, none⟩) (Kp.setCell (p := ⟨w.heap.size, 0, none⟩) (HK9.out.drewN _) (.inr (Nat.le_refl _)) _) (.inr (Nat.le_refl _)) _) (.inr (Nat.le_refl _)) _) (.inr (Nat.le_refl _)) _) (.inr (Nat.le_refl _)) _) (.inr (Nat.le_refl _)) _)
  have t2 : decide ((12 : Int) < (x1 : Int)) = false := by simp; omega
  by_cases b3 : x2 < 1
  case pos =>
    have t_ : decide ((x2 : Int) < 1) = true := by simp; omega
    have HR2 := Lib.hid (HNO.out (fun x => by have h := x.2.2.2.2.2.2; simp [okT] at h; omega))
    clear HNO HYES b1 b2 b3
    go_quiet (fail)
    go_wp2_with fail
    refine bodyPost_ret (v := .tuple #[T6.zero.v, .bool false]) (by simp [results, Tryd.results68, go_sem, T6.v, T6.zero, e10, e11, e12, e13, e14, e15]) rfl ⟨by rw [HR2.out]; rfl, ?_⟩
    exact (Kp.setCell (p := ⟨w.heap.size, 5, none⟩) (Kp.setCell (p := ⟨w.heap.size, 4, none⟩) (Kp.setCell (p := ⟨w.heap.size, 3, none⟩) (Kp.setCell (p := ⟨w.heap.size, 2, none⟩) (Kp.setCell (p := ⟨w.heap.size, 1, none⟩) (Kp.setCell (p := ⟨w.heap.size, 0, none⟩) (HK9.out.drewN _) (.inr (Nat.le_refl _)) _) (.inr (Nat.le_refl _)) _) (.inr (Nat.le_refl _)) _) (.inr (Nat.le_refl _)) _) (.inr (Nat.le_refl _)) _) (.inr (Nat.le_refl _)) _)
  have t3 : decide ((x2 : Int) < 1) = false := by simp; omega
  have DAYS := fun W => rdays_any x0 x1 hx0b (by omega) W
  obtain ⟨D, hD⟩ : ∃ D, dim x0 x1 = D := ⟨_, rfl⟩
  rw [hD] at DAYS
  have HL := Lib.hid DAYS
  clear DAYS
  by_cases b4 : D < x2
  case pos =>
    have t_ : decide (D < x2) = true := by simp; omega
    have HR2 := Lib.hid (HNO.out (fun x => by have h := x.2.2.2.2.2.2; simp [okT, hD] at h; omega))
    clear HNO HYES b1 b2 b3 b4 hD
    go_quiet ((go_at_call 87; exact quiet_left (HL.out _)))
    go_wp2_with fail
    refine bodyPost_ret (v := .tuple #[T6.zero.v, .bool false]) (by simp [results, Tryd.results68, go_sem, T6.v, T6.zero, e10, e11, e12, e13, e14, e15]) rfl ⟨by rw [HR2.out]; rfl, ?_⟩
    exact (Kp.setCell (p := ⟨w.heap.size, 5, none⟩) (Kp.setCell (p := ⟨w.heap.size, 4, none⟩) (Kp.setCell (p := ⟨w.heap.size, 3, none⟩) (Kp.setCell (p := ⟨w.heap.size, 2, none⟩) (Kp.setCell (p := ⟨w.heap.size, 1, none⟩) (Kp.setCell (p := ⟨w.heap.size, 0, none⟩) (HK9.out.drewN _) (.inr (Nat.le_refl _)) _) (.inr (Nat.le_refl _)) _) (.inr (Nat.le_refl _)) _) (.inr (Nat.le_refl _)) _) (.inr (Nat.le_refl _)) _) (.inr (Nat.le_refl _)) _)
  have t4 : decide (D < x2) = false := by simp; omega
  by_cases b5 : 23 < x3
  case pos =>
    have t_ : decide ((23 : Int) < (x3 : Int)) = true := by simp; omega
    have HR2 := Lib.hid (HNO.out (fun x => by have h := x.2.2.2.2.2.2; simp [okT, hD] at h; omega))
    clear HNO HYES b1 b2 b3 b4 b5 hD
    go_quiet ((go_at_call 87; exact quiet_left (HL.out _)))
    go_wp2_with fail
    refine bodyPost_ret (v := .tuple #[T6.zero.v, .bool false]) (by simp [results, Tryd.results68, go_sem, T6.v, T6.zero, e10, e11, e12, e13, e14, e15]) rfl ⟨by rw [HR2.out]; rfl, ?_⟩
    exact (Kp.setCell (p := ⟨w.heap.size, 5, none⟩) (Kp.setCell (p := ⟨w.heap.size, 4, none⟩) (Kp.setCell (p := ⟨w.heap.size, 3, none⟩) (Kp.setCell (p := ⟨w.heap.size, 2, none⟩) (Kp.setCell (p := ⟨w.heap.size, 1, none⟩) (Kp.setCell (p := ⟨w.heap.size, 0, none⟩) (HK9.out.drewN _) (.inr (Nat.le_refl _)) _) (.inr (Nat.le_refl _)) _) (.inr (Nat.le_refl _)) _) (.inr (Nat.le_refl _)) _) (.inr (Nat.le_refl _)) _) (.inr (Nat.le_refl _)) _)
  have t5 : decide ((23 : Int) < (x3 : Int)) = false := by simp; omega
  by_cases b6 : 59 < x4
  case pos =>
    have t_ : decide ((59 : Int) < (x4 : Int)) = true := by simp; omega
    have HR2 := Lib.hid (HNO.out (fun x => by have h := x.2.2.2.2.2.2; simp [okT, hD] at h; omega))
    clear HNO HYES b1 b2 b3 b4 b5 b6 hD
    go_quiet ((go_at_call 87; exact quiet_left (HL.out _)))
    go_wp2_with fail
    refine bodyPost_ret (v := .tuple #[T6.zero.v, .bool false]) (by simp [results, Tryd.results68, go_sem, T6.v, T6.zero, e10, e11, e12, e13, e14, e15]) rfl ⟨by rw [HR2.out]; rfl, ?_⟩
    exact (Kp.setCell (p := ⟨w.heap.size, 5, none⟩) (Kp.setCell (p := ⟨w.heap.size, 4, none⟩) (Kp.setCell (p := ⟨w.heap.size, 3, none⟩) (Kp.setCell (p := ⟨w.heap.size, 2, none⟩) (Kp.setCell (p := ⟨w.heap.size, 1, none⟩) (Kp.setCell (p := ⟨w.heap.size, 0, none⟩) (HK9.out.drewN _) (.inr (Nat.le_refl _)) _) (.inr (Nat.le_refl _)) _) (.inr (Nat.le_refl _)) _) (.inr (Nat.le_refl _)) _) (.inr (Nat.le_refl _)) _) (.inr (Nat.le_refl _)) _)
  have t6 : decide ((59 : Int) < (x4 : Int)) = false := by simp; omega
  by_cases b7 : 59 < x5
  case pos =>
    have t_ : decide ((59 : Int) < (x5 : Int)) = true := by simp; omega
    have HR2 := Lib.hid (HNO.out (fun x => by have h := x.2.2.2.2.2.2; simp [okT, hD] at h; omega))
    clear HNO HYES b1 b2 b3 b4 b5 b6 b7 hD
    go_quiet ((go_at_call 87; exact quiet_left (HL.out _)))
    go_wp2_with fail
    refine bodyPost_ret (v := .tuple #[T6.zero.v, .bool false]) (by simp [results, Tryd.results68, go_sem, T6.v, T6.zero, e10, e11, e12, e13, e14, e15]) rfl ⟨by rw [HR2.out]; rfl, ?_⟩
    exact (Kp.setCell (p := ⟨w.heap.size, 5, none⟩) (Kp.setCell (p := ⟨w.heap.size, 4, none⟩) (Kp.setCell (p := ⟨w.heap.size, 3, none⟩) (Kp.setCell (p := ⟨w.heap.size, 2, none⟩) (Kp.setCell (p := ⟨w.heap.size, 1, none⟩) (Kp.setCell (p := ⟨w.heap.size, 0, none⟩) (HK9.out.drewN _) (.inr (Nat.le_refl _)) _) (.inr (Nat.le_refl _)) _) (.inr (Nat.le_refl _)) _) (.inr (Nat.le_refl _)) _) (.inr (Nat.le_refl _)) _) (.inr (Nat.le_refl _)) _)
  have t7 : decide ((59 : Int) < (x5 : Int)) = false := by simp; omega
  have HR2 := Lib.hid (HYES.out ⟨H0.out, H1.out, H2.out, H3.out, H4.out, H5.out, by simp [okT, hD]; omega⟩)
  clear HNO HYES b1 b2 b3 b4 b5 b6 b7 hD
  go_quiet ((go_at_call 87; exact quiet_left (HL.out _)))
  go_wp2_with fail
  refine bodyPost_ret (v := .tuple #[T6.v ⟨x0, x1, x2, x3, x4, x5⟩, .bool true]) (by simp [results, Tryd.results68, go_sem, T6.v, e10, e11, e12, e13, e14, e15]) rfl ⟨by rw [HR2.out]; rfl, ?_⟩
  exact (Kp.setCell (p := ⟨w.heap.size, 5, none⟩) (Kp.setCell (p := ⟨w.heap.size, 4, none⟩) (Kp.setCell (p := ⟨w.heap.size, 3, none⟩) (Kp.setCell (p := ⟨w.heap.size, 2, none⟩) (Kp.setCell (p := ⟨w.heap.size, 1, none⟩) (Kp.setCell (p := ⟨w.heap.size, 0, none⟩) (HK9.out.drewN _) (.inr (Nat.le_refl _)) _) (.inr (Nat.le_refl _)) _) (.inr (Nat.le_refl _)) _) (.inr (Nat.le_refl _)) _) (.inr (Nat.le_refl _)) _) (.inr (Nat.le_refl _)) _)
end Go.Proofs.YtgjbfgkcbehjnaaDoor

namespace Go.Proofs.YtgjbfgkcbehjnaaDoor
open Go.RowKit

set_option maxRecDepth 100000 in
set_option maxHeartbeats 12800000 in
theorem rtime_b (ok : Nat → Prop) (v : Value) (l : List UInt8) (w : World) (hv : BR w ok v l) :
    Calls Tryd.prog 68 #[.int .i64 23, v] w fun e w' => e = .returned (.tuple #[((timeD 2 l).getD T6.zero).v, .bool (timeD 2 l).isSome]) ∧ Kp (fun _ => False) w w' := by
  obtain ⟨A, c, rfl, hc, hr⟩ := id hv
  obtain ⟨r, hr0⟩ : ∃ r, timeD 2 l = r := ⟨_, rfl⟩
  rw [hr0]
  have HR := Lib.hid hr0
  clear hr0 hv
  by_cases hlen : l.length ≠ 13
  · have HR2 := Lib.hid (show r = none by rw [← HR.out, timeD, if_neg (fun x => hlen x.1)])
    have g1 : ((l.length : Int) != 13) = true := by simp; omega
    have g2 : ((l.length : Int) == 13) = false := by simp; omega
    clear hlen hr
    go_enter Tryd.func68, Tryd.ntmps68
    go_wp2_with fail
    refine bodyPost_ret (v := .tuple #[T6.zero.v, .bool false]) (by simp [results, Tryd.results68, go_sem, T6.v, T6.zero]) rfl ⟨by rw [HR2.out]; rfl, ((Kp.refl _ _).alloc _).alloc _⟩
  have hlen : l.length = 13 := by omega
  obtain ⟨g, off, rfl, _, hz⟩ := hr.byte (k := 2 + 10) (by omega)
  rw [← bt_at (l := l) (i := 2 + 10) (by omega)] at hz
  have hzb := bt_lt l (2 + 10)
  obtain ⟨z, hzz⟩ : ∃ z, bt l (2 + 10) = z := ⟨_, rfl⟩
  have HZ := Lib.hid hzz
  rw [hzz] at hz hzb
  simp only [Nat.reduceAdd] at hz
  have hz' : ∀ o1 o2, ((w.alloc o1).alloc o2).cell? ⟨g, off + 12, none⟩ = some (.int .u8 (z : Int)) := fun o1 o2 => (((Kp.refl (fun _ => False) w).alloc o1).alloc o2).cell hz (fun h => h)
  clear hz
  have hsub : ∀ i m, i + m ≤ 13 → ∀ W, Kp (fun _ => False) w W → BR W ok (.slice (some ⟨g, off + i, none⟩) m (c - i)) ((l.drop i).take m) := by
    intro i m him W hk
    have h := BR.sub (ok := ok) (hr.kp hk (fun _ _ h => h)) hc (i := i) (j := i + m) (by omega) (by omega)
    rw [show i + m - i = m by omega] at h
    by_cases hm : m = 0
    · subst hm
      rw [List.take_zero]
      exact ⟨_, _, rfl, Nat.zero_le _, ⟨rfl, fun h => absurd h (by simp)⟩⟩
    · rw [if_neg (by omega)] at h
      have e : (some ⟨g, off, none⟩ : Option Addr).map (·.add i) = some ⟨g, off + i, none⟩ := by
        simp only [Option.map_some, Addr.add]
        split
        · next h0 => rw [h0, Nat.add_zero]
        · rfl
      rw [e] at h
      exact h
  have hdg : ∀ i m, i + m ≤ 13 → m ≤ 4 → ∀ W, Kp (fun _ => False) w W → Calls Tryd.prog 86 #[.slice (some ⟨g, off + i, none⟩) m (c - i)] W fun e w' => e = .returned (.int .i64 (digitsR ((l.drop i).take m))) ∧ W = w' := by
    intro i m him hm W hk
    exact digits_any ok _ _ W (hsub i m him W hk) (by rw [List.length_take]; omega)
  have hnb : ∀ i m, digs ((l.drop i).take m) = true → num ((l.drop i).take m) < 10 ^ m := by
    intro i m h
    have h1 := num_lt _ h
    have h2 : 10 ^ ((l.drop i).take m).length ≤ 10 ^ m := Nat.pow_le_pow_right (by omega) (by rw [List.length_take]; omega)
    omega
  have HLEN := Lib.hid hlen
  rw [hlen] at hc ⊢
  by_cases hz90 : z ≠ 90
  · have HR2 := Lib.hid (show r = none by rw [← HR.out, timeD, if_neg (fun x => hz90 (by rw [← HZ.out]; exact x.2.1))])
    have g1 : ((z : Int) != 90) = true := by simp; omega
    have g2 : ((z : Int) == 90) = false := by simp; omega
    clear hz90 hlen hr hsub hdg hnb hzz
    go_enter Tryd.func68, Tryd.ntmps68
    go_wp2_with fail
    refine bodyPost_ret (v := .tuple #[T6.zero.v, .bool false]) (by simp [results, Tryd.results68, go_sem, T6.v, T6.zero]) rfl ⟨by rw [HR2.out]; rfl, ((Kp.refl _ _).alloc _).alloc _⟩
  have hz90 : z = 90 := by omega
  subst hz90
  have D0 := hdg 0 2 (by omega) (by omega)
  have B0 := hnb 0 2
  have D1 := hdg 2 2 (by omega) (by omega)
  have B1 := hnb 2 2
  have D2 := hdg 4 2 (by omega) (by omega)
  have B2 := hnb 4 2
  have D3 := hdg 6 2 (by omega) (by omega)
  have B3 := hnb 6 2
  have D4 := hdg 8 2 (by omega) (by omega)
  have B4 := hnb 8 2
  have D5 := hdg 10 2 (by omega) (by omega)
  have B5 := hnb 10 2
  have E0 : l.take 2 = (l.drop 0).take 2 := rfl
  have E1 : chunk l 2 1 = (l.drop 2).take 2 := rfl
  have E2 : chunk l 2 2 = (l.drop 4).take 2 := rfl
  have E3 : chunk l 2 3 = (l.drop 6).take 2 := rfl
  have E4 : chunk l 2 4 = (l.drop 8).take 2 := rfl
  have E5 : chunk l 2 5 = (l.drop 10).take 2 := rfl
  generalize (l.drop 0).take 2 = C0 at D0 B0 E0
  generalize (l.drop 2).take 2 = C1 at D1 B1 E1
  generalize (l.drop 4).take 2 = C2 at D2 B2 E2
  generalize (l.drop 6).take 2 = C3 at D3 B3 E3
  generalize (l.drop 8).take 2 = C4 at D4 B4 E4
  generalize (l.drop 10).take 2 = C5 at D5 B5 E5
  have HNO := Lib.hid (show ¬ (digs C0 = true ∧ digs C1 = true ∧ digs C2 = true ∧ digs C3 = true ∧ digs C4 = true ∧ digs C5 = true ∧ okT ⟨yearR 2 (num C0), num C1, num C2, num C3, num C4, num C5⟩ = true) → r = none from fun h => by
    rw [← HR.out, timeD, E0, E1, E2, E3, E4, E5, tR, E0, E1, E2, E3, E4, E5, if_neg (fun x => h x.2.2)])
  have HYES := Lib.hid (show (digs C0 = true ∧ digs C1 = true ∧ digs C2 = true ∧ digs C3 = true ∧ digs C4 = true ∧ digs C5 = true ∧ okT ⟨yearR 2 (num C0), num C1, num C2, num C3, num C4, num C5⟩ = true) → r = some ⟨yearR 2 (num C0), num C1, num C2, num C3, num C4, num C5⟩ from fun h => by
    rw [← HR.out, timeD, E0, E1, E2, E3, E4, E5, tR, E0, E1, E2, E3, E4, E5, if_pos ⟨HLEN.out, HZ.out, h⟩])
  have hc1 : (13 : Int) ≤ (c : Int) := by omega
  have nc2 : ¬ c = 2 := by omega
  have nc4 : ¬ c = 4 := by omega
  have nc6 : ¬ c = 6 := by omega
  have nc8 : ¬ c = 8 := by omega
  have nc10 : ¬ c = 10 := by omega
  have HD0 := Lib.hid D0
  have HD1 := Lib.hid D1
  have HD2 := Lib.hid D2
  have HD3 := Lib.hid D3
  have HD4 := Lib.hid D4
  have HD5 := Lib.hid D5
  clear hlen hr hsub hdg hnb hzz HR HLEN HZ E0 E1 E2 E3 E4 E5 D0 D1 D2 D3 D4 D5
  simp only [Nat.add_zero, Nat.sub_zero] at HD0
  go_enter Tryd.func68, Tryd.ntmps68
  go_wp2_with fail
  refine (HD0.out _ (((Kp.refl _ _).alloc _).alloc _)).mono ?_
  rintro e w1 ⟨rfl, rfl⟩
  by_cases h0 : digs C0 = true
  case neg =>
    have HR2 := Lib.hid (HNO.out (fun x => h0 x.1))
    rw [digitsR_no (by simpa using h0)]
    clear h0 HNO HYES
    go_wp2_with fail
    refine bodyPost_ret (v := .tuple #[T6.zero.v, .bool false]) (by simp [results, Tryd.results68, go_sem, T6.v, T6.zero]) rfl ⟨by rw [HR2.out]; rfl, ((Kp.refl _ _).alloc _).alloc _⟩
  rw [digitsR_yes h0]
  have y0b := B0 h0
  have H0 := Lib.hid h0
  clear h0 B0
  obtain ⟨y, hy⟩ : ∃ y, num C0 = y := ⟨_, rfl⟩
  obtain ⟨x0, hx0⟩ : ∃ x0, yearR 2 (num C0) = x0 := ⟨_, rfl⟩
  rw [hx0] at HNO HYES
  rw [hy] at hx0 y0b ⊢
  simp only [Nat.reducePow] at y0b
  have hx0b : x0 < 10000 := by rw [← hx0, yearR]; split <;> (try split) <;> omega
  clear hy
  by_cases h50 : 50 ≤ y
  all_goals
    have HX0 := Lib.hid hx0
    clear hx0
    have t50 : decide ((50 : Int) ≤ (y : Int)) = decide (50 ≤ y) := by rw [Bool.eq_iff_iff]; simp; omega
    first | rw [decide_eq_true h50] at t50 | rw [decide_eq_false h50] at t50
    have hyx : (x0 : Int) = (y : Int) + 1900 ∨ (x0 : Int) = (y : Int) + 2000 := by
      have := HX0.out
      rw [yearR, if_pos rfl] at this
      split at this <;> omega
    have sy1 : 50 ≤ y → IntKind.i64.wrap ((y : Int) + 1900) = (x0 : Int) := fun h => by
      have := HX0.out
      rw [yearR, if_pos rfl, if_pos h] at this
      rw [show (y : Int) + 1900 = x0 by omega]
      exact IntWalk.i64_in _ (by omega)
    have sy2 : ¬ 50 ≤ y → IntKind.i64.wrap ((y : Int) + 2000) = (x0 : Int) := fun h => by
      have := HX0.out
      rw [yearR, if_pos rfl, if_neg h] at this
      rw [show (y : Int) + 2000 = x0 by omega]
      exact IntWalk.i64_in _ (by omega)
    have sx : (50 ≤ y → (y : Int) + 1900 = (x0 : Int)) ∧ (¬ 50 ≤ y → (y : Int) + 2000 = (x0 : Int)) := by
      have := HX0.out
      rw [yearR, if_pos rfl] at this
      constructor <;> intro h
      · rw [if_pos h] at this; omega
      · rw [if_neg h] at this; omega
    first
      | (have sxx := sx.1 h50; clear sx sy1 sy2 hyx h50)
      | (have sxx := sx.2 h50; clear sx sy1 sy2 hyx h50)
    go_wp2_with fail
    refine wp_loop_rounds 6 ?_
    rw [rounds_succ]
    go_wp2_with fail
    refine (HD1.out _ (((Kp.refl _ _).alloc _).alloc _)).mono ?_
    rintro e w1 ⟨rfl, rfl⟩
    by_cases h1 : digs C1 = true
    case neg =>
      have HR2 := Lib.hid (HNO.out (fun x => h1 x.2.1))
      rw [digitsR_no (by simpa using h1)]
      clear h1 HNO HYES
      go_wp2_with fail
      refine bodyPost_ret (v := .tuple #[T6.zero.v, .bool false]) (by simp [results, Tryd.results68, go_sem, T6.v, T6.zero]) rfl ⟨by rw [HR2.out]; rfl, ((Kp.refl _ _).alloc _).alloc _⟩
    rw [digitsR_yes h1]
    have y1b := B1 h1
    have H1 := Lib.hid h1
    clear h1 B1
    obtain ⟨x1, hx1⟩ : ∃ x1, num C1 = x1 := ⟨_, rfl⟩
    rw [hx1] at HNO HYES y1b ⊢
    simp only [Nat.reducePow] at y1b
    clear hx1
    go_wp2_with fail
    rw [rounds_succ]
    go_wp2_with fail
    refine (HD2.out _ (((Kp.refl _ _).alloc _).alloc _)).mono ?_
    rintro e w1 ⟨rfl, rfl⟩
    by_cases h2 : digs C2 = true
    case neg =>
      have HR2 := Lib.hid (HNO.out (fun x => h2 x.2.2.1))
      rw [digitsR_no (by simpa using h2)]
      clear h2 HNO HYES
      go_wp2_with fail
      refine bodyPost_ret (v := .tuple #[T6.zero.v, .bool false]) (by simp [results, Tryd.results68, go_sem, T6.v, T6.zero]) rfl ⟨by rw [HR2.out]; rfl, ((Kp.refl _ _).alloc _).alloc _⟩
    rw [digitsR_yes h2]
    have y2b := B2 h2
    have H2 := Lib.hid h2
    clear h2 B2
    obtain ⟨x2, hx2⟩ : ∃ x2, num C2 = x2 := ⟨_, rfl⟩
    rw [hx2] at HNO HYES y2b ⊢
    simp only [Nat.reducePow] at y2b
    clear hx2
    go_wp2_with fail
    rw [rounds_succ]
    go_wp2_with fail
    refine (HD3.out _ (((Kp.refl _ _).alloc _).alloc _)).mono ?_
    rintro e w1 ⟨rfl, rfl⟩
    by_cases h3 : digs C3 = true
    case neg =>
      have HR2 := Lib.hid (HNO.out (fun x => h3 x.2.2.2.1))
      rw [digitsR_no (by simpa using h3)]
      clear h3 HNO HYES
      go_wp2_with fail
      refine bodyPost_ret (v := .tuple #[T6.zero.v, .bool false]) (by simp [results, Tryd.results68, go_sem, T6.v, T6.zero]) rfl ⟨by rw [HR2.out]; rfl, ((Kp.refl _ _).alloc _).alloc _⟩
    rw [digitsR_yes h3]
    have y3b := B3 h3
    have H3 := Lib.hid h3
    clear h3 B3
    obtain ⟨x3, hx3⟩ : ∃ x3, num C3 = x3 := ⟨_, rfl⟩
    rw [hx3] at HNO HYES y3b ⊢
    simp only [Nat.reducePow] at y3b
    clear hx3
    go_wp2_with fail
    rw [rounds_succ]
    go_wp2_with fail
    refine (HD4.out _ (((Kp.refl _ _).alloc _).alloc _)).mono ?_
    rintro e w1 ⟨rfl, rfl⟩
    by_cases h4 : digs C4 = true
    case neg =>
      have HR2 := Lib.hid (HNO.out (fun x => h4 x.2.2.2.2.1))
      rw [digitsR_no (by simpa using h4)]
      clear h4 HNO HYES
      go_wp2_with fail
      refine bodyPost_ret (v := .tuple #[T6.zero.v, .bool false]) (by simp [results, Tryd.results68, go_sem, T6.v, T6.zero]) rfl ⟨by rw [HR2.out]; rfl, ((Kp.refl _ _).alloc _).alloc _⟩
    rw [digitsR_yes h4]
    have y4b := B4 h4
    have H4 := Lib.hid h4
    clear h4 B4
    obtain ⟨x4, hx4⟩ : ∃ x4, num C4 = x4 := ⟨_, rfl⟩
    rw [hx4] at HNO HYES y4b ⊢
    simp only [Nat.reducePow] at y4b
    clear hx4
    go_wp2_with fail
    rw [rounds_succ]
    go_wp2_with fail
    refine (HD5.out _ (((Kp.refl _ _).alloc _).alloc _)).mono ?_
    rintro e w1 ⟨rfl, rfl⟩
    by_cases h5 : digs C5 = true
    case neg =>
      have HR2 := Lib.hid (HNO.out (fun x => h5 x.2.2.2.2.2.1))
      rw [digitsR_no (by simpa using h5)]
      clear h5 HNO HYES
      go_wp2_with fail
      refine bodyPost_ret (v := .tuple #[T6.zero.v, .bool false]) (by simp [results, Tryd.results68, go_sem, T6.v, T6.zero]) rfl ⟨by rw [HR2.out]; rfl, ((Kp.refl _ _).alloc _).alloc _⟩
    rw [digitsR_yes h5]
    have y5b := B5 h5
    have H5 := Lib.hid h5
    clear h5 B5
    obtain ⟨x5, hx5⟩ : ∃ x5, num C5 = x5 := ⟨_, rfl⟩
    rw [hx5] at HNO HYES y5b ⊢
    simp only [Nat.reducePow] at y5b
    clear hx5
    go_wp2_with fail
    rw [rounds_succ]
    go_wp2_with fail
    have hR := (Blk.new w 31 #[.int .i64 0, .int .i64 0, .int .i64 0, .int .i64 0, .int .i64 0, .int .i64 0]).alloc (.cells #[.int .i64 (x0 : Int), .int .i64 (x1 : Int), .int .i64 (x2 : Int), .int .i64 (x3 : Int), .int .i64 (x4 : Int), .int .i64 (x5 : Int)] 31)
    have hB := Blk.new (w.alloc (.cells #[.int .i64 0, .int .i64 0, .int .i64 0, .int .i64 0, .int .i64 0, .int .i64 0] 31)) 31 #[.int .i64 (x0 : Int), .int .i64 (x1 : Int), .int .i64 (x2 : Int), .int .i64 (x3 : Int), .int .i64 (x4 : Int), .int .i64 (x5 : Int)]
    rw [World.size_alloc] at hB
    have hk9 : Kp (fun _ => False) w ((w.alloc (.cells #[.int .i64 0, .int .i64 0, .int .i64 0, .int .i64 0, .int .i64 0, .int .i64 0] 31)).alloc (.cells #[.int .i64 (x0 : Int), .int .i64 (x1 : Int), .int .i64 (x2 : Int), .int .i64 (x3 : Int), .int .i64 (x4 : Int), .int .i64 (x5 : Int)] 31)) := ((Kp.refl _ _).alloc _).alloc _
    obtain ⟨W, hW⟩ : ∃ W, (w.alloc (.cells #[.int .i64 0, .int .i64 0, .int .i64 0, .int .i64 0, .int .i64 0, .int .i64 0] 31)).alloc (.cells #[.int .i64 (x0 : Int), .int .i64 (x1 : Int), .int .i64 (x2 : Int), .int .i64 (x3 : Int), .int .i64 (x4 : Int), .int .i64 (x5 : Int)] 31) = W := ⟨_, rfl⟩
    rw [hW] at hR hB hk9 ⊢
    clear hW
    have d0 := hB.cell 0
    have e10 := hR.cell 0
    have f0 := hR.frozen 0
    have d1 := hB.cell 1
    have e11 := hR.cell 1
    have f1 := hR.frozen 1
    have d2 := hB.cell 2
    have e12 := hR.cell 2
    have f2 := hR.frozen 2
    have d3 := hB.cell 3
    have e13 := hR.cell 3
    have f3 := hR.frozen 3
    have d4 := hB.cell 4
    have e14 := hR.cell 4
    have f4 := hR.frozen 4
    have d5 := hB.cell 5
    have e15 := hR.cell 5
    have f5 := hR.frozen 5
    simp at d0 d1 d2 d3 d4 d5 e10 e11 e12 e13 e14 e15
    have HK9 := Lib.hid hk9
    clear hB hR hk9
    by_cases b1 : x1 < 1
    case pos =>
      have t_ : decide ((x1 : Int) < 1) = true := by simp; omega
      have HR2 := Lib.hid (HNO.out (fun x => by have h := x.2.2.2.2.2.2; simp [okT] at h; omega))
      clear HNO HYES b1
      go_quiet (fail)
      go_wp2_with fail
      refine bodyPost_ret (v := .tuple #[T6.zero.v, .bool false]) (by simp [results, Tryd.results68, go_sem, T6.v, T6.zero, e10, e11, e12, e13, e14, e15]) rfl ⟨by rw [HR2.out]; rfl, ?_⟩
      exact (Kp.setCell (p := ⟨w.heap.size, 5, none⟩) (Kp.setCell (p := ⟨w.heap.size, 4, none⟩) (Kp.setCell (p := ⟨w.heap.size, 3, none⟩) (Kp.setCell (p := ⟨w.heap.size, 2, none⟩) (Kp.setCell (p := ⟨w.heap.size, 1, none⟩) (Kp.setCell (p := ⟨w.heap.size, 0, none⟩) (HK9.out.drewN _) (.inr (Nat.le_refl _)) _) (.inr (Nat.le_refl _)) _) (.inr (Nat.le_refl _)) _) (.inr (Nat.le_refl _)) _) (.inr (Nat.le_refl _)) _) (.inr (Nat.le_refl _)) _)
    have t1 : decide ((x1 : Int) < 1) = false := by simp; omega
    by_cases b2 : 12 < x1
    case pos =>
      have t_ : decide ((12 : Int) < (x1 : Int)) = true := by simp; omega
      have HR2 := Lib.hid (HNO.out (fun x => by have h := x.2.2.2.2.2.2; simp [okT] at h; omega))
      clear HNO HYES b1 b2
      go_quiet (fail)
      go_wp2_with fail
      refine bodyPost_ret (v := .tuple #[T6.zero.v, .bool false]) (by simp [results, Tryd.results68, go_sem, T6.v, T6.zero, e10, e11, e12, e13, e14, e15]) rfl ⟨by rw [HR2.out]; rfl, ?_⟩
      exact (Kp.setCell (p := ⟨w.heap.size, 5, none⟩) (Kp.setCell (p := ⟨w.heap.size, 4, none⟩) (Kp.setCell (p := ⟨w.heap.size, 3, none⟩) (Kp.setCell (p := ⟨w.heap.size, 2, none⟩) (Kp.setCell (p := ⟨w.heap.size, 1, none⟩) (Kp.setCell (p := ⟨w.heap.size, 0, none⟩) (HK9.out.drewN _) (.inr (Nat.le_refl _)) _) (.inr (Nat.le_refl _)) _) (.inr (Nat.le_refl _)) _) (.inr (Nat.le_refl _)) _) (.inr (Nat.le_refl _)) _) (.inr (Nat.le_refl _)) _)
    have t2 : decide ((12 : Int) < (x1 : Int)) = false := by simp; omega
    by_cases b3 : x2 < 1
    case pos =>
      have t_ : decide ((x2 : Int) < 1) = true := by simp; omega
      have HR2 := Lib.hid (HNO.out (fun x => by have h := x.2.2.2.2.2.2; simp [okT] at h; omega))
      clear HNO HYES b1 b2 b3
      go_quiet (fail)
      go_wp2_with fail
      refine bodyPost_ret (v := .tuple #[T6.zero.v, .bool false]) (by simp [results, Tryd.results68, go_sem, T6.v, T6.zero, e10, e11, e12, e13, e14, e15]) rfl ⟨by rw [HR2.out]; rfl, ?_⟩
      exact (Kp.setCell (p := ⟨w.heap.size, 5, none⟩) (Kp.setCell (p := ⟨w.heap.size, 4, none⟩) (Kp.setCell (p := ⟨w.heap.size, 3, none⟩) (Kp.setCell (p := ⟨w.heap.size, 2, none⟩) (Kp.setCell (p := ⟨w.heap.size, 1, none⟩) (Kp.setCell (p := ⟨w.heap.size, 0, none⟩) (HK9.out.drewN _) (.inr (Nat.le_refl _)) _) (.inr (Nat.le_refl _)) _) (.inr (Nat.le_refl _)) _) (.inr (Nat.le_refl _)) _) (.inr (Nat.le_refl _)) _) (.inr (Nat.le_refl _)) _)
    have t3 : decide ((x2 : Int) < 1) = false := by simp; omega
    have DAYS := fun W => rdays_any x0 x1 hx0b (by omega) W
    obtain ⟨D, hD⟩ : ∃ D, dim x0 x1 = D := ⟨_, rfl⟩
    rw [hD] at DAYS
    have HL := Lib.hid DAYS
    clear DAYS
    by_cases b4 : D < x2
    case pos =>
      have t_ : decide (D < x2) = true := by simp; omega
      have HR2 := Lib.hid (HNO.out (fun x => by have h := x.2.2.2.2.2.2; simp [okT, hD] at h; omega))
      clear HNO HYES b1 b2 b3 b4 hD
      go_quiet ((go_at_call 87; exact quiet_left (HL.out _)))
      go_wp2_with fail
      refine bodyPost_ret (v := .tuple #[T6.zero.v, .bool false]) (by simp [results, Tryd.results68, go_sem, T6.v, T6.zero, e10, e11, e12, e13, e14, e15]) rfl ⟨by rw [HR2.out]; rfl, ?_⟩
      exact (Kp.setCell (p := ⟨w.heap.size, 5, none⟩) (Kp.setCell (p := ⟨w.heap.size, 4, none⟩) (Kp.setCell (p := ⟨w.heap.size, 3, none⟩) (Kp.setCell (p := ⟨w.heap.size, 2, none⟩) (Kp.setCell (p := ⟨w.heap.size, 1, none⟩) (Kp.setCell (p := ⟨w.heap.size, 0, none⟩) (HK9.out.drewN _) (.inr (Nat.le_refl _)) _) (.inr (Nat.le_refl _)) _) (.inr (Nat.le_refl _)) _) (.inr (Nat.le_refl _)) _) (.inr (Nat.le_refl _)) _) (.inr (Nat.le_refl _)) _)
    have t4 : decide (D < x2) = false := by simp; omega
    by_cases b5 : 23 < x3
    case pos =>
      have t_ : decide ((23 : Int) < (x3 : Int)) = true := by simp; omega
      have HR2 := Lib.hid (HNO.out (fun x => by have h := x.2.2.2.2.2.2; simp [okT, hD] at h; omega))
      clear HNO HYES b1 b2 b3 b4 b5 hD
      go_quiet ((go_at_call 87; exact quiet_left (HL.out _)))
      go_wp2_with fail
      refine bodyPost_ret (v := .tuple #[T6.zero.v, .bool false]) (by simp [results, Tryd.results68, go_sem, T6.v, T6.zero, e10, e11, e12, e13, e14, e15]) rfl ⟨by rw [HR2.out]; rfl, ?_⟩
      exact (Kp.setCell (p := ⟨w.heap.size, 5, none⟩) (Kp.setCell (p := ⟨w.heap.size, 4, none⟩) (Kp.setCell (p := ⟨w.heap.size, 3, none⟩) (Kp.setCell (p := ⟨w.heap.size, 2, none⟩) (Kp.setCell (p := ⟨w.heap.size, 1, none⟩) (Kp.setCell (p := ⟨w.heap.size, 0, none⟩) (HK9.out.drewN _) (.inr (Nat.le_refl _)) _) (.inr (Nat.le_refl _)) _) (.inr (Nat.le_refl _)) _) (.inr (Nat.le_refl _)) _) (.inr (Nat.le_refl _)) _) (.inr (Nat.le_refl _)) _)
    have t5 : decide ((23 : Int) < (x3 : Int)) = false := by simp; omega
    by_cases b6 : 59 < x4
    case pos =>
      have t_ : decide ((59 : Int) < (x4 : Int)) = true := by simp; omega
      have HR2 := Lib.hid (HNO.out (fun x => by have h := x.2.2.2.2.2.2; simp [okT, hD] at h; omega))
      clear HNO HYES b1 b2 b3 b4 b5 b6 hD
      go_quiet ((go_at_call 87; exact quiet_left (HL.out _)))
      go_wp2_with fail
      refine bodyPost_ret (v := .tuple #[T6.zero.v, .bool false]) (by simp [results, Tryd.results68, go_sem, T6.v, T6.zero, e10, e11, e12, e13, e14, e15]) rfl ⟨by rw [HR2.out]; rfl, ?_⟩
      exact (Kp.setCell (p := ⟨w.heap.size, 5, none⟩) (Kp.setCell (p := ⟨w.heap.size, 4, none⟩) (Kp.setCell (p := ⟨w.heap.size, 3, none⟩) (Kp.setCell (p := ⟨w.heap.size, 2, none⟩) (Kp.setCell (p := ⟨w.heap.size, 1, none⟩) (Kp.setCell (p := ⟨w.heap.size, 0, none⟩) (HK9.out.drewN _) (.inr (Nat.le_refl _)) _) (.inr (Nat.le_refl _)) _) (.inr (Nat.le_refl _)) _) (.inr (Nat.le_refl _)) _) (.inr (Nat.le_refl _)) _) (.inr (Nat.le_refl _)) _)
    have t6 : decide ((59 : Int) < (x4 : Int)) = false := by simp; omega
    by_cases b7 : 59 < x5
    case pos =>
      have t_ : decide ((59 : Int) < (x5 : Int)) = true := by simp; omega
      have HR2 := Lib.hid (HNO.out (fun x => by have h := x.2.2.2.2.2.2; simp [okT, hD] at h; omega))
      clear HNO HYES b1 b2 b3 b4 b5 b6 b7 hD
      go_quiet ((go_at_call 87; exact quiet_left (HL.out _)))
      go_wp2_with fail
      refine bodyPost_ret (v := .tuple #[T6.zero.v, .bool false]) (by simp [results, Tryd.results68, go_sem, T6.v, T6.zero, e10, e11, e12, e13, e14, e15]) rfl ⟨by rw [HR2.out]; rfl, ?_⟩
      exact (Kp.setCell (p := ⟨w.heap.size, 5, none⟩) (Kp.setCell (p := ⟨w.heap.size, 4, none⟩) (Kp.setCell (p := ⟨w.heap.size, 3, none⟩) (Kp.setCell (p := ⟨w.heap.size, 2, none⟩) (Kp.setCell (p := ⟨w.heap.size, 1, none⟩) (Kp.setCell (p := ⟨w.heap.size, 0, none⟩) (HK9.out.drewN _) (.inr (Nat.le_refl _)) _) (.inr (Nat.le_refl _)) _) (.inr (Nat.le_refl _)) _) (.inr (Nat.le_refl _)) _) (.inr (Nat.le_refl _)) _) (.inr (Nat.le_refl _)) _)
    have t7 : decide ((59 : Int) < (x5 : Int)) = false := by simp; omega
    have HR2 := Lib.hid (HYES.out ⟨H0.out, H1.out, H2.out, H3.out, H4.out, H5.out, by simp [okT, hD]; omega⟩)
    clear HNO HYES b1 b2 b3 b4 b5 b6 b7 hD
    go_quiet ((go_at_call 87; exact quiet_left (HL.out _)))
    go_wp2_with fail
    refine bodyPost_ret (v := .tuple #[T6.v ⟨x0, x1, x2, x3, x4, x5⟩, .bool true]) (by simp [results, Tryd.results68, go_sem, T6.v, e10, e11, e12, e13, e14, e15]) rfl ⟨by rw [HR2.out]; rfl, ?_⟩
    exact (Kp.setCell (p := ⟨w.heap.size, 5, none⟩) (Kp.setCell (p := ⟨w.heap.size, 4, none⟩) (Kp.setCell (p := ⟨w.heap.size, 3, none⟩) (Kp.setCell (p := ⟨w.heap.size, 2, none⟩) (Kp.setCell (p := ⟨w.heap.size, 1, none⟩) (Kp.setCell (p := ⟨w.heap.size, 0, none⟩) (HK9.out.drewN _) (.inr (Nat.le_refl _)) _) (.inr (Nat.le_refl _)) _) (.inr (Nat.le_refl _)) _) (.inr (Nat.le_refl _)) _) (.inr (Nat.le_refl _)) _) (.inr (Nat.le_refl _)) _)
end Go.Proofs.YtgjbfgkcbehjnaaDoor

namespace Go.Proofs.YtgjbfgkcbehjnaaDoor
open Go.RowKit

theorem rtime_any (tag : Int) (h : tag = 23 ∨ tag = 24) (ok : Nat → Prop) (v : Value) (l : List UInt8) (w : World) (hv : BR w ok v l) :
    Calls Tryd.prog 68 #[.int .i64 tag, v] w fun e w' => e = .returned (.tuple #[((timeR tag l).getD T6.zero).v, .bool (timeR tag l).isSome]) ∧ Kp (fun _ => False) w w' := by
  rcases h with rfl | rfl
  · rw [← timeD_short]
    exact rtime_b ok v l w hv
  · rw [← timeD_long]
    exact rtime_a ok v l w hv

/-- The document's words on an integer's bytes. -/
def intD (l : List UInt8) : Bool := decide (l.length = 1) || (decide (1 < l.length) && !(decide (bt l 0 = 0) && decide (bt l 1 < 128)) && !(decide (bt l 0 = 255) && decide (128 ≤ bt l 1)))
theorem intD_eq (l : List UInt8) : intD l = intB l := by
  match l with
  | [] => rfl
  | [_] => rfl
  | a :: b :: t =>
    have h0 : bt (a :: b :: t) 0 = a.toNat := rfl
    have h1 : bt (a :: b :: t) 1 = b.toNat := rfl
    have ha := a.toNat_lt
    have hb := b.toNat_lt
    rw [intD, intB, h0, h1, Bool.eq_iff_iff]
    simp
    omega

set_option maxRecDepth 100000 in
set_option maxHeartbeats 3200000 in
theorem rcheck_int (tag : Int) (ht : tag = 2 ∨ tag = 10) (ok : Nat → Prop) (v : Value) (l : List UInt8) (w : World) (hv : BR w ok v l) (hl : l.length ≤ 140737488355328) :
    Calls Tryd.prog 56 #[.int .i64 tag, v] w fun e w' => e = .returned (.int .i64 (if intB l then 0 else 13)) ∧ Kp (fun _ => False) w w' := by
  obtain ⟨A, c, rfl, hc, hr⟩ := id hv
  obtain ⟨r, hr0⟩ : ∃ r, intB l = r := ⟨_, rfl⟩
  rw [hr0]
  rw [← intD_eq, intD] at hr0
  by_cases h1 : l.length = 1
  · have hr1 : r = true := by rw [← hr0, decide_eq_true h1]; rfl
    subst hr1
    rw [h1] at hc ⊢
    clear hr0 hr hv h1
    rcases ht with rfl | rfl
    all_goals
      go_enter Tryd.func56, Tryd.ntmps56
      go_wp2_with fail
      go_ret
      exact ⟨rfl, Kp.refl _ _⟩
  by_cases h0 : l.length = 0
  · have hr1 : r = false := by rw [← hr0, h0]; rfl
    subst hr1
    rw [h0] at hc ⊢
    clear hr0 hr hv h1 h0
    rcases ht with rfl | rfl
    all_goals
      go_enter Tryd.func56, Tryd.ntmps56
      go_wp2_with fail
      go_ret
      exact ⟨rfl, Kp.refl _ _⟩
  obtain ⟨n, hn⟩ : ∃ n, l.length = n + 2 := ⟨l.length - 2, by omega⟩
  obtain ⟨g, off, rfl, _, hc0⟩ := hr.byte (k := 0) (by omega)
  obtain ⟨g', off', ee, _, hc1⟩ := hr.byte (k := 1) (by omega)
  simp only [Option.some.injEq, Addr.mk.injEq, and_true] at ee
  obtain ⟨rfl, rfl⟩ := ee
  rw [← bt_at (l := l) (i := 0) (by omega), Nat.add_zero] at hc0
  rw [← bt_at (l := l) (i := 1) (by omega)] at hc1
  have b0 := bt_lt l 0
  have b1 := bt_lt l 1
  rw [decide_eq_false h1, Bool.false_or, decide_eq_true (by omega : 1 < l.length), Bool.true_and] at hr0
  generalize bt l 0 = x at hc0 b0 hr0
  generalize bt l 1 = y at hc1 b1 hr0
  rw [hn] at hc hl ⊢
  have g1 : ((n : Int) + 2 == 1) = false := by simp; omega
  have g2 : decide ((1 : Int) < (n : Int) + 2) = true := by simp; omega
  have g3 : (1 : Int) < (n : Int) + 2 := by omega
  clear hr hv h1 h0 hn
  have hxy : ∃ p0 p1 q : Bool, ((x : Int) == 0) = p0 ∧ ((x : Int) == 255) = p1 ∧ decide ((y : Int) < 128) = q ∧ decide ((128 : Int) ≤ (y : Int)) = (!q) ∧ r = (!(p0 && q) && !(p1 && !q)) := by
    refine ⟨_, _, _, rfl, rfl, rfl, ?_, ?_⟩
    · rw [Bool.eq_iff_iff]; simp
    · rw [← hr0, Bool.eq_iff_iff]
      simp
      omega
  obtain ⟨p0, p1, q, e0, e1, e2, e3, e4⟩ := hxy
  clear hr0
  cases p0 <;> cases p1 <;> cases q <;> (try (exfalso; simp at e0 e1; omega))
  all_goals
    simp at e3 e4
    subst e4
    rcases ht with rfl | rfl
    all_goals
      go_enter Tryd.func56, Tryd.ntmps56
      go_wp2_with fail
      go_ret
      exact ⟨rfl, Kp.refl _ _⟩

set_option maxRecDepth 100000 in
set_option maxHeartbeats 3200000 in
theorem rcheck_1 (ok : Nat → Prop) (v : Value) (l : List UInt8) (w : World) (hv : BR w ok v l) :
    Calls Tryd.prog 56 #[.int .i64 1, v] w fun e w' => e = .returned (.int .i64 (if boolB l then 0 else 13)) ∧ Kp (fun _ => False) w w' := by
  obtain ⟨A, c, rfl, hc, hr⟩ := hv
  obtain ⟨r, hr0⟩ : ∃ r, boolB l = r := ⟨_, rfl⟩
  rw [hr0]
  rw [boolB] at hr0
  by_cases h1 : l.length = 1
  · obtain ⟨g, off, rfl, _, hc0⟩ := hr.byte (k := 0) (by omega)
    rw [← bt_at (l := l) (i := 0) (by omega), Nat.add_zero] at hc0
    generalize bt l 0 = x at hr0 hc0
    rw [decide_eq_true h1, Bool.true_and] at hr0
    rw [h1] at hc ⊢
    have hb : ((x : Int) == 0) = decide (x = 0) := by rw [Bool.eq_iff_iff]; simp
    have hb2 : ((x : Int) == 255) = decide (x = 255) := by rw [Bool.eq_iff_iff]; simp; omega
    generalize decide (x = 0) = p at hb hr0
    generalize decide (x = 255) = q at hb2 hr0
    clear hr h1
    cases p <;> cases q <;> (subst hr0)
    all_goals
      go_enter Tryd.func56, Tryd.ntmps56
      go_wp2_with fail
      go_ret
      exact ⟨rfl, Kp.refl _ _⟩
  · have hr1 : r = false := by rw [← hr0, decide_eq_false h1]; rfl
    subst hr1
    have g0 : ((l.length : Int) == 1) = false := by simp; omega
    clear hr0 hr h1
    go_enter Tryd.func56, Tryd.ntmps56
    go_wp2_with fail
    go_ret
    exact ⟨rfl, Kp.refl _ _⟩
set_option maxRecDepth 100000 in
theorem rcheck_5 (ok : Nat → Prop) (v : Value) (l : List UInt8) (w : World) (hv : BR w ok v l) :
    Calls Tryd.prog 56 #[.int .i64 5, v] w fun e w' => e = .returned (.int .i64 (if decide (l.length = 0) then 0 else 13)) ∧ Kp (fun _ => False) w w' := by
  obtain ⟨A, c, rfl, hc, hr⟩ := hv
  have hb : ((l.length : Int) == 0) = decide (l.length = 0) := by rw [Bool.eq_iff_iff]; simp
  by_cases h0 : l.length = 0
  · rw [h0] at hc ⊢
    clear hr hb h0
    go_enter Tryd.func56, Tryd.ntmps56
    go_wp2_with fail
    go_ret
    exact ⟨rfl, Kp.refl _ _⟩
  · rw [decide_eq_false h0] at hb ⊢
    have h1 : l.length ≠ 0 := h0
    clear hr
    go_enter Tryd.func56, Tryd.ntmps56
    go_wp2_with fail
    go_ret
    exact ⟨rfl, Kp.refl _ _⟩
set_option maxRecDepth 100000 in
set_option maxHeartbeats 3200000 in
theorem rcheck_3 (ok : Nat → Prop) (v : Value) (l : List UInt8) (w : World) (hv : BR w ok v l) (hl : l.length ≤ 140737488355328) :
    Calls Tryd.prog 56 #[.int .i64 3, v] w fun e w' => e = .returned (.int .i64 (if bitsB l then 0 else 13)) ∧ Kp (fun _ => False) w w' := by
  have HC := Lib.hid (rbits_any ok v l w hv hl)
  generalize bitsB l = r at HC ⊢
  clear hv
  cases r
  all_goals
    go_enter Tryd.func56, Tryd.ntmps56
    go_wp2_with fail
    refine HC.out.mono ?_
    rintro e w1 ⟨rfl, rfl⟩
    go_wp2_with fail
    go_ret
    exact ⟨rfl, Kp.refl _ _⟩
set_option maxRecDepth 100000 in
set_option maxHeartbeats 3200000 in
theorem rcheck_6 (ok : Nat → Prop) (v : Value) (l : List UInt8) (w : World) (hv : BR w ok v l) (hl : l.length ≤ 140737488355328) :
    Calls Tryd.prog 56 #[.int .i64 6, v] w fun e w' => e = .returned (.int .i64 (if oidB l then 0 else 13)) ∧ Kp (fun _ => False) w w' := by
  have HC := Lib.hid (roid_any ok v l w hv hl)
  generalize oidB l = r at HC ⊢
  clear hv
  cases r
  all_goals
    go_enter Tryd.func56, Tryd.ntmps56
    go_wp2_with fail
    refine HC.out.mono ?_
    rintro e w1 ⟨rfl, rfl⟩
    go_wp2_with fail
    go_ret
    exact ⟨rfl, Kp.refl _ _⟩
set_option maxRecDepth 100000 in
set_option maxHeartbeats 3200000 in
theorem rcheck_t (tag : Int) (ht : tag = 23 ∨ tag = 24) (ok : Nat → Prop) (v : Value) (l : List UInt8) (w : World) (hv : BR w ok v l) :
    Calls Tryd.prog 56 #[.int .i64 tag, v] w fun e w' => e = .returned (.int .i64 (if (timeR tag l).isSome then 0 else 13)) ∧ Kp (fun _ => False) w w' := by
  have HC := Lib.hid (rtime_any tag ht ok v l w hv)
  generalize (timeR tag l).isSome = r at HC ⊢
  obtain ⟨t, htt⟩ : ∃ t, ((timeR tag l).getD T6.zero).v = t := ⟨_, rfl⟩
  rw [htt] at HC
  clear hv htt
  rcases ht with rfl | rfl
  all_goals
    cases r
    all_goals
      go_enter Tryd.func56, Tryd.ntmps56
      go_wp2_with fail
      refine HC.out.mono ?_
      rintro e w1 ⟨rfl, hk1⟩
      go_wp2_with fail
      go_ret
      exact ⟨rfl, hk1⟩
set_option maxRecDepth 100000 in
set_option maxHeartbeats 3200000 in
theorem rcheck_all (tag : Int) (ht : tag = 4 ∨ tag = 12 ∨ tag = 18 ∨ tag = 19 ∨ tag = 20 ∨ tag = 22 ∨ tag = 26 ∨ tag = 28 ∨ tag = 30) (v : Value) (w : World) :
    Calls Tryd.prog 56 #[.int .i64 tag, v] w fun e w' => e = .returned (.int .i64 0) ∧ Kp (fun _ => False) w w' := by
  rcases ht with rfl | rfl | rfl | rfl | rfl | rfl | rfl | rfl | rfl
  all_goals
    go_enter Tryd.func56, Tryd.ntmps56
    go_wp2_with fail
    go_ret
    exact ⟨rfl, Kp.refl _ _⟩
set_option maxRecDepth 100000 in
set_option maxHeartbeats 3200000 in
theorem rcheck_no (tag : Int) (h : tag ≠ 1 ∧ tag ≠ 2 ∧ tag ≠ 10 ∧ tag ≠ 3 ∧ tag ≠ 5 ∧ tag ≠ 6 ∧ tag ≠ 23 ∧ tag ≠ 24 ∧ tag ≠ 4 ∧ tag ≠ 12 ∧ tag ≠ 18 ∧ tag ≠ 19 ∧ tag ≠ 20 ∧ tag ≠ 22 ∧ tag ≠ 26 ∧ tag ≠ 28 ∧ tag ≠ 30) (v : Value) (w : World) :
    Calls Tryd.prog 56 #[.int .i64 tag, v] w fun e w' => e = .returned (.int .i64 2) ∧ Kp (fun _ => False) w w' := by
  have ne : ∀ k : Int, tag ≠ k → (tag == k) = false := fun k hk => by simpa using hk
  obtain ⟨h1, h2, h3, h4, h5, h6, h7, h8, h9, h10, h11, h12, h13, h14, h15, h16, h17⟩ := h
  have n1 := ne _ h1
  have n2 := ne _ h2
  have n3 := ne _ h3
  have n4 := ne _ h4
  have n5 := ne _ h5
  have n6 := ne _ h6
  have n7 := ne _ h7
  have n8 := ne _ h8
  have n9 := ne _ h9
  have n10 := ne _ h10
  have n11 := ne _ h11
  have n12 := ne _ h12
  have n13 := ne _ h13
  have n14 := ne _ h14
  have n15 := ne _ h15
  have n16 := ne _ h16
  have n17 := ne _ h17
  clear ne h1 h2 h3 h4 h5 h6 h7 h8 h9 h10 h11 h12 h13 h14 h15 h16 h17
  go_enter Tryd.func56, Tryd.ntmps56
  go_wp2_with fail
  go_ret
  exact ⟨rfl, Kp.refl _ _⟩

theorem rcheck_any (tag : Int) (ok : Nat → Prop) (v : Value) (l : List UInt8) (w : World) (hv : BR w ok v l) (hl : l.length ≤ 140737488355328) :
    Calls Tryd.prog 56 #[.int .i64 tag, v] w fun e w' => e = .returned (.int .i64 (checkR tag l)) ∧ Kp (fun _ => False) w w' := by
  rcases tag_cases tag with h | h
  · have all : ∀ t : Int, mayR t = some (fun _ => true) → checkR t l = 0 := fun t ht => by rw [checkR, ht]; rfl
    rcases h with rfl | rfl | rfl | rfl | rfl | rfl | rfl | rfl | rfl | rfl | rfl | rfl | rfl | rfl | rfl | rfl | rfl
    · exact rcheck_1 ok v l w hv
    · exact rcheck_int 2 (.inl rfl) ok v l w hv hl
    · exact rcheck_int 10 (.inr rfl) ok v l w hv hl
    · exact rcheck_3 ok v l w hv hl
    · exact rcheck_5 ok v l w hv
    · exact rcheck_6 ok v l w hv hl
    · exact rcheck_t 23 (.inl rfl) ok v l w hv
    · exact rcheck_t 24 (.inr rfl) ok v l w hv
    all_goals
      rw [all _ rfl]
      exact rcheck_all _ (by omega) v w
  · have e : checkR tag l = 2 := by rw [checkR, mayR_none tag h]
    rw [e]
    exact rcheck_no tag h v w
end Go.Proofs.YtgjbfgkcbehjnaaDoor

namespace Go.Proofs.YtgjbfgkcbehjnaaDoor
open Go.RowKit

/-- 'b[lo:hi]' of bytes: the value, told once. -/
theorem slice_cutI {W : World} {ok : Nat → Prop} {A : Option Addr} {cp K E : Nat} {b : List UInt8} (hb : BR W ok (.slice A b.length cp) b) (lo hi : Int) (hlo : lo = K) (hhi : hi = E) (h1 : K ≤ E) (h2 : E ≤ b.length) :
    ∃ A' d, (∀ W', (Instr.slice 22 (.slice A b.length cp) (some (.int .i64 lo)) (some (.int .i64 hi)) none).run Tryd.prog W' = .ok (.slice A' (E - K) d) W') ∧ E - K ≤ d ∧ BR W ok (.slice A' (E - K) d) ((b.drop K).take (E - K)) := by
  obtain ⟨A', d, h3, h4, h5⟩ := slice_cutN (K := K) (N := E - K) hb (by omega)
  rw [show (K : Int) + ((E - K : Nat) : Int) = hi by omega, show (K : Int) = lo by omega] at h3
  exact ⟨A', d, h3, h4, h5⟩
/-- What the document's one leaves. -/
def RoneQ (i en : Nat) (x : Nd) (to_ at_ er : Int) : RnT → Prop
  | .bad o e => to_ = 0 ∧ at_ = ((i + o : Nat) : Int) ∧ er = e ∧ e ≠ 0
  | .got y r => x = y ∧ to_ = ((en - r.length : Nat) : Int) ∧ at_ = 0 ∧ er = 0
def ROneP (i en : Nat) (w : World) (R : RnT) (e : Ending) (w' : World) : Prop :=
  ∃ u x to_ at_ er, e = .returned (.tuple #[u, .int .i64 to_, .int .i64 at_, .int .i64 er]) ∧ NdR w' (w.heap.size ≤ ·) u x ∧ Kp (fun _ => False) w w' ∧ RoneQ i en x to_ at_ er R
theorem rone_fin {okn : Nat → Prop} {i en : Nat} {w W : World} {R : RnT} {u0 u1 u2 u3 u4 : Value} {x : Nd} {B : Nat} {to_ at_ er : Int} (hK : Kp (fun _ => False) w W) (hB : w.heap.size ≤ B) (hv : NdR W okn (.agg #[u0, u1, u2, u3, u4]) x)
    (hokn : ∀ i, okn i → w.heap.size ≤ i ∧ i ≠ B) (hR : RoneQ i en x to_ at_ er R) :
    ROneP i en w R (.returned (.tuple #[.agg #[u0, u1, u2, u3, u4], .int .i64 to_, .int .i64 at_, .int .i64 er])) (put5 W B u0 u1 u2 u3 u4) := by
  have hq : Kp (fun i => i = B) W (put5 W B u0 u1 u2 u3 u4) := (Kp.refl (fun i => i = B) W).put5 (B := B) (.inl rfl) _ _ _ _ _
  exact ⟨_, x, _, _, _, rfl, (hv.kp hq (fun i hi he => (hokn i hi).2 he)).mono (fun i hi => (hokn i hi).1), hK.then_ hq (fun i hi => .inr (by omega)), hR⟩
theorem cut_cut {b : List UInt8} {i en K N : Nat} (h : i + K + N ≤ en) : (((b.drop i).take (en - i)).drop K).take N = (b.drop (i + K)).take N := by
  rw [List.drop_take, List.drop_drop, List.take_take]
  congr 1
  omega
set_option maxRecDepth 100000 in
set_option maxHeartbeats 3200000 in
theorem rone_deep (ok : Nat → Prop) (b : List UInt8) (i en : Nat) (v : Value) (w : World) (dv : Int) (hdv : 8 < dv ∧ dv ≤ 100) (hb : BR w ok v b) (hl : b.length ≤ 1000000000) (hi : i ≤ en) (hen : en ≤ b.length) :
    Calls Tryd.prog 40 #[v, .int .i64 (i : Int), .int .i64 (en : Int), .int .i64 dv] w (ROneP i en w (oneN 0 ((b.drop i).take (en - i)))) := by
  obtain ⟨hd1, hd2⟩ := hdv
  have ka : Kp (fun _ => False) w (w.alloc (.cells #[.int .i64 0, .int .i64 0, .bool false, .slice none 0 0, .slice none 0 0] 25)) := (Kp.refl _ _).alloc _
  have hblk := Blk.new w 25 #[.int .i64 0, .int .i64 0, .bool false, .slice none 0 0, .slice none 0 0]
  have hb0 := hb.kp ka (fun _ _ h => h)
  obtain ⟨A, cp, rfl, hcp, _⟩ := id hb
  have HKA := Lib.hid ka
  have HBK := Lib.hid hblk
  have HB0 := Lib.hid hb0
  have hz0 : (w.alloc (.cells #[.int .i64 0, .int .i64 0, .bool false, .slice none 0 0, .slice none 0 0] 25)).heap.size = w.heap.size + 1 := by rw [World.size_alloc]
  clear ka hblk hb hb0
  go_enter Tryd.func40, Tryd.ntmps40
  go_upto_region 2 with fail
  generalize w.alloc (.cells #[.int .i64 0, .int .i64 0, .bool false, .slice none 0 0, .slice none 0 0] 25) = W0 at HKA HBK HB0 hz0 ⊢
  have y0 := HBK.out.cell 0
  have z0 := HBK.out.frozen 0
  have y1 := HBK.out.cell 1
  have z1 := HBK.out.frozen 1
  have y2 := HBK.out.cell 2
  have z2 := HBK.out.frozen 2
  have y3 := HBK.out.cell 3
  have z3 := HBK.out.frozen 3
  have y4 := HBK.out.cell 4
  have z4 := HBK.out.frozen 4
  simp at y0 y1 y2 y3 y4
  go_wp2_with fail
  refine bodyPost_ret (v := .tuple #[.agg #[.int .i64 0, .int .i64 0, .bool false, .slice none 0 0, .slice none 0 0], .int .i64 0, .int .i64 (i : Int), .int .i64 14]) (by simp [results, Tryd.results40, go_sem, y0, y1, y2, y3, y4]) rfl ?_
  refine rone_fin (okn := fun _ => False) HKA.out (Nat.le_refl _) NdR.zero (fun i hi => hi.elim) ?_
  rw [oneN_zero]
  exact ⟨rfl, rfl, rfl, by decide⟩

set_option maxRecDepth 100000 in
set_option maxHeartbeats 3200000 in
theorem rone_err (ok : Nat → Prop) (k : Nat) (b : List UInt8) (i en : Nat) (v : Value) (w : World) (dv : Int) (hdv : 0 ≤ dv ∧ dv ≤ 8) (c t : Int) (m : Bool) (n kk er : Int) (hq : rd ((b.drop i).take (en - i)) = ((c, t, m, n), kk, er)) (he : er ≠ 0) (hb : BR w ok v b) (hl : b.length ≤ 1000000000) (hi : i ≤ en) (hen : en ≤ b.length) :
    Calls Tryd.prog 40 #[v, .int .i64 (i : Int), .int .i64 (en : Int), .int .i64 dv] w (ROneP i en w (oneN (k + 1) ((b.drop i).take (en - i)))) := by
  obtain ⟨hd1, hd2⟩ := hdv
  obtain ⟨rfl, rfl, rfl, rfl, h0, h1⟩ := rd_fail hq he
  have HR := Lib.hid (oneN_fail (k := k) hq he)
  have hne : (er != 0) = true := by simpa using he
  have HE2 := Lib.hid he
  rw [List.length_take, List.length_drop] at h1
  clear he
  have ka : Kp (fun _ => False) w (w.alloc (.cells #[.int .i64 0, .int .i64 0, .bool false, .slice none 0 0, .slice none 0 0] 25)) := (Kp.refl _ _).alloc _
  have hblk := Blk.new w 25 #[.int .i64 0, .int .i64 0, .bool false, .slice none 0 0, .slice none 0 0]
  have hb0 := hb.kp ka (fun _ _ h => h)
  obtain ⟨A, cp, rfl, hcp, _⟩ := id hb
  have HKA := Lib.hid ka
  have HBK := Lib.hid hblk
  have HB0 := Lib.hid hb0
  have hz0 : (w.alloc (.cells #[.int .i64 0, .int .i64 0, .bool false, .slice none 0 0, .slice none 0 0] 25)).heap.size = w.heap.size + 1 := by rw [World.size_alloc]
  clear ka hblk hb hb0
  go_enter Tryd.func40, Tryd.ntmps40
  go_upto_region 3 with fail
  generalize w.alloc (.cells #[.int .i64 0, .int .i64 0, .bool false, .slice none 0 0, .slice none 0 0] 25) = W0 at HKA HBK HB0 hz0 ⊢
  obtain ⟨A', dc, hsl, hNd, hown⟩ := slice_cutI HB0.out (i : Int) (en : Int) rfl rfl hi hen
  have hll : ((b.drop i).take (en - i)).length = en - i := by rw [List.length_take, List.length_drop]; omega
  have hrd := rread_any W0 ok (.slice A' (en - i) dc) ((b.drop i).take (en - i)) hown (by omega)
  rw [rdV_ofN hq] at hrd
  have HRD := Lib.hid hrd
  clear hrd hq hown
  go_upto_region 4 with (go_at_call 66; refine HRD.out.mono ?_; rintro e w1 ⟨rfl, hk1⟩; have HK1' := Lib.hid hk1; clear hk1)
  have k1 : Kp (fun _ => False) W0 (w1.alloc (.cells #[.int .i64 0, .int .i64 0, .bool false, .int .i64 0] 89)) := HK1'.out.alloc _
  have HBH := Lib.hid (Blk.new w1 89 #[.int .i64 0, .int .i64 0, .bool false, .int .i64 0])
  have hz1 : w.heap.size + 1 ≤ w1.heap.size := by have := HK1'.out.size; omega
  have hz1' : (w1.alloc (.cells #[.int .i64 0, .int .i64 0, .bool false, .int .i64 0] 89)).heap.size = w1.heap.size + 1 := by rw [World.size_alloc]
  have HK1 := Lib.hid (HKA.out.then_ k1 (fun _ h => h.elim))
  have HBK1 := Lib.hid (HBK.out.kp k1 (fun h => h))
  have HB1 := Lib.hid (HB0.out.kp k1 (fun _ _ h => h))
  clear k1 HK1' HRD HBK HB0 HKA hsl hNd
  generalize w1.alloc (.cells #[.int .i64 0, .int .i64 0, .bool false, .int .i64 0] 89) = W1 at HBH HK1 HBK1 HB1 hz1' ⊢
  generalize w1.heap.size = bh at HBH hz1 hz1' ⊢
  have hz1b : bh < W1.heap.size := by omega
  clear hz1'
  have y0 := HBK1.out.cell 0
  have z0 := HBK1.out.frozen 0
  have y1 := HBK1.out.cell 1
  have z1 := HBK1.out.frozen 1
  have y2 := HBK1.out.cell 2
  have z2 := HBK1.out.frozen 2
  have y3 := HBK1.out.cell 3
  have z3 := HBK1.out.frozen 3
  have y4 := HBK1.out.cell 4
  have z4 := HBK1.out.frozen 4
  simp at y0 y1 y2 y3 y4
  go_wp2_with fail
  refine bodyPost_ret (v := .tuple #[.agg #[.int .i64 0, .int .i64 0, .bool false, .slice none 0 0, .slice none 0 0], .int .i64 0, .int .i64 ((i : Int) + kk), .int .i64 er]) (by simp [results, Tryd.results40, go_sem, y0, y1, y2, y3, y4]) rfl ?_
  refine rone_fin (okn := fun _ => False) HK1.out (Nat.le_refl _) NdR.zero (fun i hi => hi.elim) ?_
  rw [HR.out]
  exact ⟨rfl, by omega, rfl, HE2.out⟩

set_option maxRecDepth 100000 in
set_option maxHeartbeats 3200000 in
theorem rone_short (ok : Nat → Prop) (k : Nat) (b : List UInt8) (i en : Nat) (v : Value) (w : World) (dv : Int) (hdv : 0 ≤ dv ∧ dv ≤ 8) (c t : Int) (m : Bool) (N K : Nat) (hq : rd ((b.drop i).take (en - i)) = ((c, t, m, (N : Int)), (K : Int), 0)) (hK : K ≤ en - i) (hN : N ≤ 16777215) (hs : en - i - K < N) (hb : BR w ok v b) (hl : b.length ≤ 1000000000) (hi : i ≤ en) (hen : en ≤ b.length) :
    Calls Tryd.prog 40 #[v, .int .i64 (i : Int), .int .i64 (en : Int), .int .i64 dv] w (ROneP i en w (oneN (k + 1) ((b.drop i).take (en - i)))) := by
  obtain ⟨hd1, hd2⟩ := hdv
  have hl9 : ((b.drop i).take (en - i)).length = en - i := by rw [List.length_take, List.length_drop]; omega
  have HR := Lib.hid (oneN_good (k := k) hq)
  rw [bodyN, hl9, if_pos hs] at HR
  have ka : Kp (fun _ => False) w (w.alloc (.cells #[.int .i64 0, .int .i64 0, .bool false, .slice none 0 0, .slice none 0 0] 25)) := (Kp.refl _ _).alloc _
  have hblk := Blk.new w 25 #[.int .i64 0, .int .i64 0, .bool false, .slice none 0 0, .slice none 0 0]
  have hb0 := hb.kp ka (fun _ _ h => h)
  obtain ⟨A, cp, rfl, hcp, _⟩ := id hb
  have HKA := Lib.hid ka
  have HBK := Lib.hid hblk
  have HB0 := Lib.hid hb0
  have hz0 : (w.alloc (.cells #[.int .i64 0, .int .i64 0, .bool false, .slice none 0 0, .slice none 0 0] 25)).heap.size = w.heap.size + 1 := by rw [World.size_alloc]
  clear ka hblk hb hb0
  go_enter Tryd.func40, Tryd.ntmps40
  go_upto_region 3 with fail
  generalize w.alloc (.cells #[.int .i64 0, .int .i64 0, .bool false, .slice none 0 0, .slice none 0 0] 25) = W0 at HKA HBK HB0 hz0 ⊢
  obtain ⟨A', dc, hsl, hNd, hown⟩ := slice_cutI HB0.out (i : Int) (en : Int) rfl rfl hi hen
  have hll : ((b.drop i).take (en - i)).length = en - i := by rw [List.length_take, List.length_drop]; omega
  have hrd := rread_any W0 ok (.slice A' (en - i) dc) ((b.drop i).take (en - i)) hown (by omega)
  rw [rdV_ofN hq] at hrd
  have HRD := Lib.hid hrd
  clear hrd hq hown
  go_upto_region 4 with (go_at_call 66; refine HRD.out.mono ?_; rintro e w1 ⟨rfl, hk1⟩; have HK1' := Lib.hid hk1; clear hk1)
  have k1 : Kp (fun _ => False) W0 (w1.alloc (.cells #[.int .i64 c, .int .i64 t, .bool m, .int .i64 (N : Int)] 89)) := HK1'.out.alloc _
  have HBH := Lib.hid (Blk.new w1 89 #[.int .i64 c, .int .i64 t, .bool m, .int .i64 (N : Int)])
  have hz1 : w.heap.size + 1 ≤ w1.heap.size := by have := HK1'.out.size; omega
  have hz1' : (w1.alloc (.cells #[.int .i64 c, .int .i64 t, .bool m, .int .i64 (N : Int)] 89)).heap.size = w1.heap.size + 1 := by rw [World.size_alloc]
  have HK1 := Lib.hid (HKA.out.then_ k1 (fun _ h => h.elim))
  have HBK1 := Lib.hid (HBK.out.kp k1 (fun h => h))
  have HB1 := Lib.hid (HB0.out.kp k1 (fun _ _ h => h))
  clear k1 HK1' HRD HBK HB0 HKA hsl hNd
  generalize w1.alloc (.cells #[.int .i64 c, .int .i64 t, .bool m, .int .i64 (N : Int)] 89) = W1 at HBH HK1 HBK1 HB1 hz1' ⊢
  generalize w1.heap.size = bh at HBH hz1 hz1' ⊢
  have hz1b : bh < W1.heap.size := by omega
  clear hz1'
  have x0 := HBH.out.cell 0
  have x1 := HBH.out.cell 1
  have x2 := HBH.out.cell 2
  have x3 := HBH.out.cell 3
  simp at x0 x1 x2 x3
  have y0 := HBK1.out.cell 0
  have z0 := HBK1.out.frozen 0
  have y1 := HBK1.out.cell 1
  have z1 := HBK1.out.frozen 1
  have y2 := HBK1.out.cell 2
  have z2 := HBK1.out.frozen 2
  have y3 := HBK1.out.cell 3
  have z3 := HBK1.out.frozen 3
  have y4 := HBK1.out.cell 4
  have z4 := HBK1.out.frozen 4
  simp at y0 y1 y2 y3 y4
  have hgt : decide ((en : Int) - ((i : Int) + (K : Int)) < (N : Int)) = true := by simp; omega
  go_wp2_with fail
  refine bodyPost_ret (v := .tuple #[.agg #[.int .i64 0, .int .i64 0, .bool false, .slice none 0 0, .slice none 0 0], .int .i64 0, .int .i64 (en : Int), .int .i64 4]) (by simp [results, Tryd.results40, go_sem, y0, y1, y2, y3, y4]) rfl ?_
  refine rone_fin (okn := fun _ => False) HK1.out (Nat.le_refl _) NdR.zero (fun i hi => hi.elim) ?_
  rw [HR.out]
  exact ⟨rfl, by omega, rfl, by decide⟩

set_option maxRecDepth 100000 in
set_option maxHeartbeats 3200000 in
theorem rone_leaf (ok : Nat → Prop) (k : Nat) (b : List UInt8) (i en : Nat) (v : Value) (w : World) (dv : Int) (hdv : 0 ≤ dv ∧ dv ≤ 8) (c t : Int) (N K : Nat) (hq : rd ((b.drop i).take (en - i)) = ((c, t, false, (N : Int)), (K : Int), 0)) (hct : i64N c ∧ i64N t) (hK : K ≤ en - i) (hN : N ≤ 16777215) (hs : ¬ en - i - K < N) (hb : BR w ok v b) (hl : b.length ≤ 1000000000) (hi : i ≤ en) (hen : en ≤ b.length) :
    Calls Tryd.prog 40 #[v, .int .i64 (i : Int), .int .i64 (en : Int), .int .i64 dv] w (ROneP i en w (oneN (k + 1) ((b.drop i).take (en - i)))) := by
  obtain ⟨hd1, hd2⟩ := hdv
  have HCT := Lib.hid hct
  have hl9 : ((b.drop i).take (en - i)).length = en - i := by rw [List.length_take, List.length_drop]; omega
  have HR := Lib.hid (oneN_good (k := k) hq)
  rw [bodyN, hl9, if_neg hs, if_neg (by decide)] at HR
  rw [cut_cut (show i + K + N ≤ en by omega)] at HR
  have hrl : (((b.drop i).take (en - i)).drop (K + N)).length = en - (i + K + N) := by rw [List.length_drop, hl9]; omega
  generalize ((b.drop i).take (en - i)).drop (K + N) = rest at HR hrl
  have ka : Kp (fun _ => False) w (w.alloc (.cells #[.int .i64 0, .int .i64 0, .bool false, .slice none 0 0, .slice none 0 0] 25)) := (Kp.refl _ _).alloc _
  have hblk := Blk.new w 25 #[.int .i64 0, .int .i64 0, .bool false, .slice none 0 0, .slice none 0 0]
  have hb0 := hb.kp ka (fun _ _ h => h)
  obtain ⟨A, cp, rfl, hcp, _⟩ := id hb
  have HKA := Lib.hid ka
  have HBK := Lib.hid hblk
  have HB0 := Lib.hid hb0
  have hz0 : (w.alloc (.cells #[.int .i64 0, .int .i64 0, .bool false, .slice none 0 0, .slice none 0 0] 25)).heap.size = w.heap.size + 1 := by rw [World.size_alloc]
  clear ka hblk hb hb0
  go_enter Tryd.func40, Tryd.ntmps40
  go_upto_region 3 with fail
  generalize w.alloc (.cells #[.int .i64 0, .int .i64 0, .bool false, .slice none 0 0, .slice none 0 0] 25) = W0 at HKA HBK HB0 hz0 ⊢
  obtain ⟨A', dc, hsl, hNd, hown⟩ := slice_cutI HB0.out (i : Int) (en : Int) rfl rfl hi hen
  have hll : ((b.drop i).take (en - i)).length = en - i := by rw [List.length_take, List.length_drop]; omega
  have hrd := rread_any W0 ok (.slice A' (en - i) dc) ((b.drop i).take (en - i)) hown (by omega)
  rw [rdV_ofN hq] at hrd
  have HRD := Lib.hid hrd
  clear hrd hq hown
  go_upto_region 4 with (go_at_call 66; refine HRD.out.mono ?_; rintro e w1 ⟨rfl, hk1⟩; have HK1' := Lib.hid hk1; clear hk1)
  have k1 : Kp (fun _ => False) W0 (w1.alloc (.cells #[.int .i64 c, .int .i64 t, .bool false, .int .i64 (N : Int)] 89)) := HK1'.out.alloc _
  have HBH := Lib.hid (Blk.new w1 89 #[.int .i64 c, .int .i64 t, .bool false, .int .i64 (N : Int)])
  have hz1 : w.heap.size + 1 ≤ w1.heap.size := by have := HK1'.out.size; omega
  have hz1' : (w1.alloc (.cells #[.int .i64 c, .int .i64 t, .bool false, .int .i64 (N : Int)] 89)).heap.size = w1.heap.size + 1 := by rw [World.size_alloc]
  have HK1 := Lib.hid (HKA.out.then_ k1 (fun _ h => h.elim))
  have HBK1 := Lib.hid (HBK.out.kp k1 (fun h => h))
  have HB1 := Lib.hid (HB0.out.kp k1 (fun _ _ h => h))
  clear k1 HK1' HRD HBK HB0 HKA hsl hNd
  generalize w1.alloc (.cells #[.int .i64 c, .int .i64 t, .bool false, .int .i64 (N : Int)] 89) = W1 at HBH HK1 HBK1 HB1 hz1' ⊢
  generalize w1.heap.size = bh at HBH hz1 hz1' ⊢
  have hz1b : bh < W1.heap.size := by omega
  clear hz1'
  have x0 := HBH.out.cell 0
  have x1 := HBH.out.cell 1
  have x2 := HBH.out.cell 2
  have x3 := HBH.out.cell 3
  simp at x0 x1 x2 x3
  have hgt : decide ((en : Int) - ((i : Int) + (K : Int)) < (N : Int)) = false := by simp; omega
  go_upto_region 10 with fail
  have k4 : Kp (fun _ => False) W1 (W1.alloc (.cells #[.int .i64 c, .int .i64 t, .bool false, .slice none 0 0, .slice none 0 0] 25)) := (Kp.refl _ _).alloc _
  have HBX := Lib.hid (Blk.new W1 25 #[.int .i64 c, .int .i64 t, .bool false, .slice none 0 0, .slice none 0 0])
  have hz4 : (W1.alloc (.cells #[.int .i64 c, .int .i64 t, .bool false, .slice none 0 0, .slice none 0 0] 25)).heap.size = W1.heap.size + 1 := by rw [World.size_alloc]
  have HK4 := Lib.hid (HK1.out.then_ k4 (fun _ h => h.elim))
  have HBK4 := Lib.hid (HBK1.out.kp k4 (fun h => h))
  have HB4 := Lib.hid (HB1.out.kp k4 (fun _ _ h => h))
  have HBH4 := Lib.hid (HBH.out.kp k4 (fun h => h))
  clear k4 HK1 HBK1 HB1 HBH x0 x1 x2 x3
  generalize W1.alloc (.cells #[.int .i64 c, .int .i64 t, .bool false, .slice none 0 0, .slice none 0 0] 25) = W4 at HBX hz4 HK4 HBK4 HB4 HBH4 ⊢
  generalize W1.heap.size = bx at HBX hz1b hz4 ⊢
  have hzx : bh < bx ∧ bx < W4.heap.size := by omega
  obtain ⟨hzx1, hzx2⟩ := hzx
  clear hz4
  have x0 := HBH4.out.cell 0
  have x1 := HBH4.out.cell 1
  have x2 := HBH4.out.cell 2
  have x3 := HBH4.out.cell 3
  simp at x0 x1 x2 x3
  obtain ⟨A2, d2, hsl2, hNd2, hown2⟩ := slice_cutI HB4.out ((i : Int) + (K : Int)) ((i : Int) + (K : Int) + (N : Int)) (K := i + K) (E := i + K + N) (by omega) (by omega) (by omega) (by omega)
  rw [show i + K + N - (i + K) = N by omega] at hsl2 hown2
  have hol : ((b.drop (i + K)).take N).length = N := by rw [List.length_take, List.length_drop]; omega
  generalize (b.drop (i + K)).take N = own at HR hown2 hol
  subst hol
  go_upto_region 12 with fail
  have ke : Kp (fun _ => False) W4 (W4.alloc (.cells #[] 5)) := (Kp.refl _ _).alloc _
  have HO := Lib.hid (Own.lit W4 [] #[] 0 W4.heap.size rfl rfl (Nat.le_refl _) (by decide))
  have HV := Lib.hid (hown2.kp ke (fun _ _ h => h))
  have hze := ke.size
  have HKE := Lib.hid ke
  have g3 : ∀ W, Kp (fun _ => False) W4 W → W.cell? ⟨bx, 3, none⟩ = some (.slice none 0 0) := fun W hk => by simpa using (HBX.out.kp hk (fun h => h)).cell 3
  have HG3 := Lib.hid g3
  have HF3 := Lib.hid (fun W (hk : Kp (fun _ => False) W4 W) => (HBX.out.kp hk (fun h => h)).frozen 3)
  clear ke hown2 g3
  go_upto_region 13 with (at_builtin; refine app_bytes rfl (.tmp 68) (.tmp 72) rfl W4.heap.size _ 0 _ [] rfl rfl HO.out _ A2 own.length d2 own rfl rfl HV.out own.length (by omega) (by omega) hze ?_; intro A5 c5 w5 o5 q5; have g3 := HG3.out w5 (HKE.out.then_ q5 (fun i hi => .inr hi)); have f3 := HF3.out w5 (HKE.out.then_ q5 (fun i hi => .inr hi)); have HO5 := Lib.hid o5; have HK5 := Lib.hid (HKE.out.then_ q5 (fun i hi => .inr hi)); clear o5 q5)
  have k6 : Kp (· = bx) w5 (w5.setCell ⟨bx, 3, none⟩ (.slice A5 own.length c5)) := (Kp.refl (· = bx) w5).setCell (p := ⟨bx, 3, none⟩) (.inl rfl) _
  have HBX6 := Lib.hid (show Blk (w5.setCell ⟨bx, 3, none⟩ (.slice A5 own.length c5)) bx 25 #[.int .i64 c, .int .i64 t, .bool false, .slice A5 own.length c5, .slice none 0 0] from by
    have := (HBX.out.kp HK5.out (fun h => h)).set_ 3 (.slice A5 own.length c5)
    simpa using this)
  have hz5 : bx + 1 ≤ w5.heap.size := by have := HK5.out.size; omega
  have HK6 := Lib.hid ((HK4.out.then_ HK5.out (fun _ h => h.elim)).then_ k6 (fun i hi => .inr (by omega)))
  have HBK6 := Lib.hid ((HBK4.out.kp HK5.out (fun h => h)).kp k6 (by omega))
  have HBH6 := Lib.hid ((HBH4.out.kp HK5.out (fun h => h)).kp k6 (by omega))
  have HV6 := Lib.hid (show BR (w5.setCell ⟨bx, 3, none⟩ (.slice A5 own.length c5)) (W4.heap.size ≤ ·) (.slice A5 own.length c5) own from by
    have h := HO5.out.br rfl
    rw [List.nil_append] at h
    exact h.kp k6 (fun i hi he => by omega))
  clear k6 HK4 HBK4 HBH4 HO5 HBX f3 g3 HG3 HF3 HO HV x0 x1 x2 x3 hsl2
  generalize w5.setCell ⟨bx, 3, none⟩ (.slice A5 own.length c5) = W6 at HBX6 HK6 HBK6 HBH6 HV6 ⊢
  have g0 := HBX6.out.cell 0
  have g1 := HBX6.out.cell 1
  have g2 := HBX6.out.cell 2
  have g3 := HBX6.out.cell 3
  have g4 := HBX6.out.cell 4
  have x0 := HBH6.out.cell 0
  have x1 := HBH6.out.cell 1
  simp at g0 g1 g2 g3 g4 x0 x1
  have HM := Lib.hid (rcheck_any t (W4.heap.size ≤ ·) (.slice A5 own.length c5) own W6 HV6.out (by omega))
  have HQ := Lib.hid (show ∀ W, Kp (fun _ => False) W6 W → Kp (fun _ => False) w W ∧ Blk W w.heap.size 25 #[.int .i64 0, .int .i64 0, .bool false, .slice none 0 0, .slice none 0 0] ∧ Blk W bx 25 #[.int .i64 c, .int .i64 t, .bool false, .slice A5 own.length c5, .slice none 0 0] ∧ BR W (W4.heap.size ≤ ·) (.slice A5 own.length c5) own from
    fun W hk => ⟨HK6.out.then_ hk (fun _ h => h.elim), HBK6.out.kp hk (fun h => h), HBX6.out.kp hk (fun h => h), HV6.out.kp hk (fun _ _ h => h)⟩)
  have HGOOD := Lib.hid (show ∀ W, Kp (fun _ => False) W6 W → oneN (k + 1) ((b.drop i).take (en - i)) = .got (.mk ⟨c, t, false, own⟩ []) rest → ROneP i en w (oneN (k + 1) ((b.drop i).take (en - i))) (.returned (.tuple #[.agg #[.int .i64 c, .int .i64 t, .bool false, .slice A5 own.length c5, .slice none 0 0], .int .i64 ((i : Int) + (K : Int) + (own.length : Int)), .int .i64 0, .int .i64 0])) (put5 W w.heap.size (.int .i64 c) (.int .i64 t) (.bool false) (.slice A5 own.length c5) (.slice none 0 0)) from by
    intro W hk hR
    obtain ⟨q1, _, _, q4⟩ := HQ.out W hk
    refine rone_fin (okn := (W4.heap.size ≤ ·)) q1 (Nat.le_refl _) (NdR.leaf HCT.out.1 HCT.out.2 q4 (by omega)) (fun i hi => by omega) ?_
    rw [hR]
    exact ⟨rfl, by omega, rfl, rfl⟩)
  clear HK6 HBH6 HV6
  by_cases h0 : c = 0
  · have h0b : (c == 0) = true := by simpa using h0
    by_cases hck : checkR t own = 0
    · have hckb : (checkR t own != 0) = false := by simpa using hck
      rw [if_neg (fun h => h.2 hck)] at HR
      have HF := Lib.hid (fun W hk => HGOOD.out W hk HR.out)
      clear HR HGOOD HBK6 HBX6 h0 hck
      go_upto_region 15 with (go_at_call 56; refine HM.out.mono ?_; rintro e w7 ⟨rfl, hk7⟩; have HK7 := Lib.hid hk7; clear hk7)
      obtain ⟨_, q2, q3, _⟩ := HQ.out _ HK7.out
      have HF7 := Lib.hid (HF.out _ HK7.out)
      have y0 := q2.cell 0
      have z0 := q2.frozen 0
      have y1 := q2.cell 1
      have z1 := q2.frozen 1
      have y2 := q2.cell 2
      have z2 := q2.frozen 2
      have y3 := q2.cell 3
      have z3 := q2.frozen 3
      have y4 := q2.cell 4
      have z4 := q2.frozen 4
      simp at y0 y1 y2 y3 y4
      have p0 := q3.cell 0
      have p1 := q3.cell 1
      have p2 := q3.cell 2
      have p3 := q3.cell 3
      have p4 := q3.cell 4
      simp at p0 p1 p2 p3 p4
      clear q2 q3 HQ HM g0 g1 g2 g3 g4 HF
      go_wp2_with fail
      exact bodyPost_ret (v := .tuple #[.agg #[.int .i64 c, .int .i64 t, .bool false, .slice A5 own.length c5, .slice none 0 0], .int .i64 ((i : Int) + (K : Int) + (own.length : Int)), .int .i64 0, .int .i64 0]) (by simp [results, Tryd.results40, go_sem, y0, y1, y2, y3, y4]) rfl HF7.out
    · have hckb : (checkR t own != 0) = true := by simpa using hck
      rw [if_pos ⟨h0, hck⟩] at HR
      clear HGOOD HBK6 HBX6 h0 hck
      go_upto_region 14 with (go_at_call 56; refine HM.out.mono ?_; rintro e w7 ⟨rfl, hk7⟩; have HK7 := Lib.hid hk7; clear hk7)
      obtain ⟨q1, q2, _, _⟩ := HQ.out _ HK7.out
      have y0 := q2.cell 0
      have z0 := q2.frozen 0
      have y1 := q2.cell 1
      have z1 := q2.frozen 1
      have y2 := q2.cell 2
      have z2 := q2.frozen 2
      have y3 := q2.cell 3
      have z3 := q2.frozen 3
      have y4 := q2.cell 4
      have z4 := q2.frozen 4
      simp at y0 y1 y2 y3 y4
      have HK8 := Lib.hid q1
      clear q1 q2 HQ HM g0 g1 g2 g3 g4
      go_wp2_with fail
      refine bodyPost_ret (v := .tuple #[.agg #[.int .i64 0, .int .i64 0, .bool false, .slice none 0 0, .slice none 0 0], .int .i64 0, .int .i64 ((i : Int) + (K : Int)), .int .i64 13]) (by simp [results, Tryd.results40, go_sem, y0, y1, y2, y3, y4]) rfl ?_
      refine rone_fin (okn := fun _ => False) HK8.out (Nat.le_refl _) NdR.zero (fun i hi => hi.elim) ?_
      rw [HR.out]
      exact ⟨rfl, by omega, rfl, by decide⟩
  · have h0b : (c == 0) = false := by simpa using h0
    rw [if_neg (fun h => h0 h.1)] at HR
    have HF7 := Lib.hid (HGOOD.out _ (Kp.refl _ _) HR.out)
    have q2 := HBK6.out
    have q3 := HBX6.out
    clear HR HGOOD HM HQ h0 g0 g1 g2 g3 g4
    have y0 := q2.cell 0
    have z0 := q2.frozen 0
    have y1 := q2.cell 1
    have z1 := q2.frozen 1
    have y2 := q2.cell 2
    have z2 := q2.frozen 2
    have y3 := q2.cell 3
    have z3 := q2.frozen 3
    have y4 := q2.cell 4
    have z4 := q2.frozen 4
    simp at y0 y1 y2 y3 y4
    have p0 := q3.cell 0
    have p1 := q3.cell 1
    have p2 := q3.cell 2
    have p3 := q3.cell 3
    have p4 := q3.cell 4
    simp at p0 p1 p2 p3 p4
    clear q2 q3
    go_wp2_with fail
    exact bodyPost_ret (v := .tuple #[.agg #[.int .i64 c, .int .i64 t, .bool false, .slice A5 own.length c5, .slice none 0 0], .int .i64 ((i : Int) + (K : Int) + (own.length : Int)), .int .i64 0, .int .i64 0]) (by simp [results, Tryd.results40, go_sem, y0, y1, y2, y3, y4]) rfl HF7.out

end Go.Proofs.YtgjbfgkcbehjnaaDoor

namespace Go.Proofs.YtgjbfgkcbehjnaaDoor
open Go.RowKit

theorem i64N_head {c t : Int} {m : Bool} (h : kindB c t m = true) : i64N c ∧ i64N t := by
  obtain ⟨h1, h2, h3⟩ := kindB_cases h
  refine ⟨?_, i64N_small h2 (by omega)⟩
  rcases h1 with rfl | rfl
  · exact i64N_small (by decide) (by decide)
  · exact i64N_small (by decide) (by decide)
theorem one_any (ok : Nat → Prop) (rg : Nat) : ∀ k, k ≤ 8 → OneC ok rg k := by
  intro k
  induction k with
  | zero =>
    intro _ cg b a v w E hb hr hc tab
    exact one_deep ok rg cg b a v w _ (by decide) E hb hr hc tab
  | succ k ih =>
    intro hk8 cg b a v w E hb hr hc tab
    have ih' := ih (by omega)
    obtain ⟨c, t, m, n, kk, er, hq⟩ : ∃ c t m n kk er, rd b = ((c, t, m, n), kk, er) := ⟨_, _, _, _, _, _, rfl⟩
    have hdv : (9 : Int) - ((k + 1 : Nat) : Int) = 8 - (k : Int) := by omega
    rw [hdv]
    by_cases he : er = 0
    · subst he
      obtain ⟨N, K, rfl, rfl, hN, hK2, hK, hkd, _⟩ := rd_good hq
      by_cases hs : b.length - K < N
      · exact one_short ok rg cg k b a v w _ (by omega) c t m N K hq hK hN hs E hb hr hc tab
      · cases m
        · exact one_leaf ok rg cg k b a v w _ (by omega) c t N K hq (i64N_head hkd) hK hN hs E hb hr hc tab
        · exact one_made ok rg cg k ih' b a v w _ (by omega) (by omega) c t N K hq (i64N_head hkd) hK hN hs E hb hr hc tab
    · exact one_err ok rg cg k b a v w _ (by omega) c t m n kk er hq he E hb hr hc tab

def ReadP (b : List UInt8) (a : Int) (w : World) (e : Ending) (w' : World) : Prop :=
  ∃ u, e = .returned (.tuple #[u, .int .i64 (a + ((readN b).2.1 : Nat)), .int .i64 (readN b).2.2]) ∧ NdR w' (w.heap.size ≤ ·) u (readN b).1 ∧ Kp (fun _ => False) w w'
set_option maxRecDepth 100000 in
set_option maxHeartbeats 3200000 in
theorem readD_any (ok : Nat → Prop) (v : Value) (b : List UInt8) (a : Int) (w : World) (hb0 : BR w ok v b) (tab : TabN w) (hl : b.length ≤ 1000000000) (ha : 0 ≤ a) (hal : a + b.length ≤ 4611686018427387904) :
    Calls Tryd.prog 21 #[v, .int .i64 a] w (ReadP b a w) := by
  have hb : BR w (· < w.heap.size) v b := hb0.lt_.mono (fun i hi => hi.2)
  have ka : Kp (fun _ => False) w ((w.alloc (.cells #[.int .i64 0, .int .i64 0, .bool false, .slice none 0 0, .slice none 0 0] 25)).alloc (.cells #[.int .i64 0, .int .i64 0] 67)) := ((Kp.refl _ _).alloc _).alloc _
  have hblk := (Blk.new w 25 #[.int .i64 0, .int .i64 0, .bool false, .slice none 0 0, .slice none 0 0]).alloc (.cells #[.int .i64 0, .int .i64 0] 67)
  have hrn := Blk.new (w.alloc (.cells #[.int .i64 0, .int .i64 0, .bool false, .slice none 0 0, .slice none 0 0] 25)) 67 #[.int .i64 0, .int .i64 0]
  have hsz : ((w.alloc (.cells #[.int .i64 0, .int .i64 0, .bool false, .slice none 0 0, .slice none 0 0] 25)).alloc (.cells #[.int .i64 0, .int .i64 0] 67)).heap.size = w.heap.size + 2 := by rw [World.size_alloc, World.size_alloc]
  rw [World.size_alloc] at hrn
  have HN := Lib.hid (new_any (· < w.heap.size) v b a _ (hb.kp ka (fun _ _ h => h)))
  obtain ⟨A, cp, rfl, hcp, _⟩ := id hb
  have HB := Lib.hid hb
  have HT := Lib.hid tab
  have HKA := Lib.hid ka
  have HBK := Lib.hid hblk
  have HRN := Lib.hid hrn
  clear hb hb0 tab ka hblk hrn
  go_enter Tryd.func21, Tryd.ntmps21
  go_upto_region 2 with (go_at_call 36; refine HN.out.mono ?_; rintro e w1 ⟨g, rfl, hg, hc1, hk1⟩)
  have hzg := hk1.size
  rw [hsz] at hg hzg
  have hgl := hc1.lt
  have HK1 := Lib.hid (HKA.out.then_ hk1 (fun _ h => h.elim))
  have HBK1 := Lib.hid (HBK.out.kp hk1 (fun h => h))
  have HRN1 := Lib.hid (show RnB w1 (w.heap.size + 1) 0 0 from HRN.out.kp hk1 (fun h => h))
  have HC1 := Lib.hid hc1
  have E : EnvN (· < w.heap.size) (w.heap.size + 1) g b a w1 := ⟨by omega, by omega, by omega, by omega, hgl, fun i (hi : i < w.heap.size) => by omega, fun i hi => HT.out.lt i hi, hl, ha, hal⟩
  have hci := one_any (· < w.heap.size) (w.heap.size + 1) 8 (Nat.le_refl _) g b a (.slice A b.length cp) w1 E (HB.out.kp HK1.out (fun _ _ h => h)) HRN1.out hc1 (HT.out.kp0 HK1.out)
  rw [show (9 : Int) - ((8 : Nat) : Int) = 1 from rfl] at hci
  have HC := Lib.hid hci
  have HE := Lib.hid E
  clear hc1 hk1 HN HKA HBK HRN hci E HC1 HRN1
  go_upto_region 3 with (go_at_call 37; refine HC.out.mono ?_; rintro e w2 ⟨v3, x, rfl, hvx, hk2, hen⟩; obtain ⟨A5, c5, A6, c6, rfl, htr5⟩ := hvx.shape; have HVX := Lib.hid hvx; have HK2' := Lib.hid hk2; have HEN := Lib.hid hen; clear hvx hk2 hen htr5)
  have k3 : Kp (fun _ => False) w2 (w2.alloc (.cells #[.int .i64 x.a.c, .int .i64 x.a.t, .bool x.a.m, .slice A5 x.a.b.length c5, .slice A6 x.l.length c6] 25)) := (Kp.refl _ _).alloc _
  have HX3 := Lib.hid (Blk.new w2 25 #[.int .i64 x.a.c, .int .i64 x.a.t, .bool x.a.m, .slice A5 x.a.b.length c5, .slice A6 x.l.length c6])
  have hz2 := HK2'.out.size
  have HK3 := Lib.hid ((HK1.out.then_ HK2'.out (fun i hi => .inr (by rcases hi with rfl | rfl <;> omega))).then_ k3 (fun _ h => h.elim))
  have HBK3 := Lib.hid ((HBK1.out.kp HK2'.out (fun h => by rcases h with h | h <;> omega)).kp k3 (fun h => h))
  have HV3 := Lib.hid ((HVX.out.kp k3 (fun _ _ h => h)).mono (ok' := (w.heap.size + 2 ≤ ·)) (fun i (hi : w1.heap.size ≤ i) => by omega))
  have HEN3 := Lib.hid (show EndN (· < w.heap.size) (w.heap.size + 1) g b a (w2.alloc (.cells #[.int .i64 x.a.c, .int .i64 x.a.t, .bool x.a.m, .slice A5 x.a.b.length c5, .slice A6 x.l.length c6] 25)) x (oneN 8 b) from by
    have h := HEN.out
    cases hR : oneN 8 b with
    | bad o er => rw [hR] at h; exact ⟨h.1.kp k3 (fun h => h), h.2⟩
    | got y r => rw [hR] at h; exact ⟨h.1, h.2.1.kp k3 (fun h => h), h.2.2.kp k3 (fun _ _ h => h) (fun h => h)⟩)
  clear k3 HK1 HBK1 HC HVX HEN HK2'
  generalize w2.alloc (.cells #[.int .i64 x.a.c, .int .i64 x.a.t, .bool x.a.m, .slice A5 x.a.b.length c5, .slice A6 x.l.length c6] 25) = W3 at HX3 HK3 HBK3 HV3 HEN3 ⊢
  generalize w2.heap.size = bx at HX3 hz2 ⊢
  have hsnd := oneN_sound 8 b
  have y0 := HBK3.out.cell 0
  have y1 := HBK3.out.cell 1
  have y2 := HBK3.out.cell 2
  have y3 := HBK3.out.cell 3
  have y4 := HBK3.out.cell 4
  have z0 := HBK3.out.frozen 0
  have z1 := HBK3.out.frozen 1
  have z2 := HBK3.out.frozen 2
  have z3 := HBK3.out.frozen 3
  have z4 := HBK3.out.frozen 4
  simp at y0 y1 y2 y3 y4
  have HFIN := Lib.hid (show ∀ (W : World) (n : Nat) (er : Int) (y : Nd) (u0 u1 u2 u3 u4 : Value), readN b = (y, n, er) → Kp (fun _ => False) W3 W → NdR W (w.heap.size + 2 ≤ ·) (.agg #[u0, u1, u2, u3, u4]) y →
      ReadP b a w (.returned (.tuple #[.agg #[u0, u1, u2, u3, u4], .int .i64 (a + (n : Int)), .int .i64 er])) (put5 W w.heap.size u0 u1 u2 u3 u4) from by
    intro W n er y u0 u1 u2 u3 u4 hr hk hv
    have hq : Kp (fun i => i = w.heap.size) W (put5 W w.heap.size u0 u1 u2 u3 u4) := (Kp.refl (fun i => i = w.heap.size) W).put5 (B := w.heap.size) (.inl rfl) _ _ _ _ _
    refine ⟨.agg #[u0, u1, u2, u3, u4], by rw [hr], ?_, (HK3.out.then_ hk (fun _ h => h.elim)).then_ hq (fun i hi => .inr (by omega))⟩
    rw [hr]
    exact (hv.kp hq (fun i (hi : w.heap.size + 2 ≤ i) he => by omega)).mono (fun i (hi : w.heap.size + 2 ≤ i) => by omega))
  cases hR : oneN 8 b with
  | bad o er =>
    have hen := HEN3.out
    rw [hR] at hen hsnd
    obtain ⟨hr3, her⟩ := hen
    have hol := (hsnd.2 _ _ rfl).1
    have e0 := Blk.cell hr3 0
    have e1 := Blk.cell hr3 1
    simp at e0 e1
    have e1b : (er != 0) = true := by simpa using her
    have HF := Lib.hid (HFIN.out W3.drew o er (.mk ⟨0, 0, false, []⟩ []) (.int .i64 0) (.int .i64 0) (.bool false) (.slice none 0 0) (.slice none 0 0) (by rw [readN, hR]) (Kp.refl _ _).drew NdR.zero)
    clear HEN3 hsnd hr3 her hR HFIN HV3 HX3
    go_upto_region 4 with fail
    have d0 : W3.drew.cell? ⟨w.heap.size + 1, 0, none⟩ = some (.int .i64 (a + o)) := e0
    have d1 : W3.drew.cell? ⟨w.heap.size + 1, 1, none⟩ = some (.int .i64 er) := e1
    go_region
    all_goals
      go_wp2_with fail
      exact bodyPost_ret (v := .tuple #[.agg #[.int .i64 0, .int .i64 0, .bool false, .slice none 0 0, .slice none 0 0], .int .i64 (a + (o : Int)), .int .i64 er]) (by simp [results, Tryd.results21, go_sem, y0, y1, y2, y3, y4]) rfl HF.out
  | got y r =>
    have hen := HEN3.out
    rw [hR] at hen hsnd
    obtain ⟨rfl, hr3, hc3⟩ := hen
    obtain ⟨u, hu, hu2⟩ := hsnd.1 _ _ rfl
    have hul : b.length = u.length + r.length := by rw [hu, List.length_append]
    have e1 := Blk.cell hr3 1
    simp at e1
    have e1b : ((0 : Int) != 0) = false := rfl
    have HL := Lib.hid (left_any (· < w.heap.size) g r _ W3 hc3)
    by_cases h0 : r.length = 0
    · have e4 : decide (0 < r.length) = false := decide_eq_false (by omega)
      have HF := Lib.hid (HFIN.out W3.drew b.length 0 x (.int .i64 x.a.c) (.int .i64 x.a.t) (.bool x.a.m) (.slice A5 x.a.b.length c5) (.slice A6 x.l.length c6) (by rw [readN, hR]; simp only [if_pos h0]) (Kp.refl _ _).drew (HV3.out.kp (Kp.refl (fun _ => False) W3).drew (fun _ _ h => h)))
      have HA := Lib.hid (at_any (· < w.heap.size) g r _ W3.drew (hc3.kp (Kp.refl (fun _ => False) W3).drew (fun _ _ h => h) (fun h => h)))
      rw [show b.length - r.length = b.length by omega] at HA
      have p0 := HX3.out.cell 0
      have p1 := HX3.out.cell 1
      have p2 := HX3.out.cell 2
      have p3 := HX3.out.cell 3
      have p4 := HX3.out.cell 4
      simp at p0 p1 p2 p3 p4
      have q0 : W3.drew.cell? ⟨bx, 0, none⟩ = _ := p0
      have q1 : W3.drew.cell? ⟨bx, 1, none⟩ = _ := p1
      have q2 : W3.drew.cell? ⟨bx, 2, none⟩ = _ := p2
      have q3 : W3.drew.cell? ⟨bx, 3, none⟩ = _ := p3
      have q4 : W3.drew.cell? ⟨bx, 4, none⟩ = _ := p4
      have v0 : W3.drew.frozen? ⟨w.heap.size, 0, none⟩ = false := z0
      have v1 : W3.drew.frozen? ⟨w.heap.size, 1, none⟩ = false := z1
      have v2 : W3.drew.frozen? ⟨w.heap.size, 2, none⟩ = false := z2
      have v3 : W3.drew.frozen? ⟨w.heap.size, 3, none⟩ = false := z3
      have v4 : W3.drew.frozen? ⟨w.heap.size, 4, none⟩ = false := z4
      clear HEN3 hsnd hr3 hc3 hR HFIN HV3 HX3 hu hul
      go_upto_region 7 with (go_at_call 38; refine HL.out.mono ?_; rintro e w4 ⟨rfl, rfl⟩)
      go_region_with (go_at_call 39; refine HA.out.mono ?_; rintro e w4 ⟨rfl, rfl⟩)
      all_goals
        go_wp2_with fail
        exact bodyPost_ret (v := .tuple #[.agg #[.int .i64 x.a.c, .int .i64 x.a.t, .bool x.a.m, .slice A5 x.a.b.length c5, .slice A6 x.l.length c6], .int .i64 (a + (b.length : Int)), .int .i64 0]) (by simp [results, Tryd.results21, go_sem, y0, y1, y2, y3, y4]) rfl HF.out
    · have e4 : decide (0 < r.length) = true := decide_eq_true (by omega)
      have HF := Lib.hid (HFIN.out W3 (b.length - r.length) 6 (.mk ⟨0, 0, false, []⟩ []) (.int .i64 0) (.int .i64 0) (.bool false) (.slice none 0 0) (.slice none 0 0) (by rw [readN, hR]; simp only [if_neg h0]) (Kp.refl _ _) NdR.zero)
      have HA := Lib.hid (at_any (· < w.heap.size) g r _ W3 hc3)
      generalize b.length - r.length = nn_ at HF HA
      clear HEN3 hsnd hr3 hc3 hR HFIN HV3 HX3 hu hul
      go_wp2_with (first | (go_at_call 38; refine HL.out.mono ?_; rintro e w4 ⟨rfl, rfl⟩) | (go_at_call 39; refine HA.out.mono ?_; rintro e w4 ⟨rfl, rfl⟩))
      exact bodyPost_ret (v := .tuple #[.agg #[.int .i64 0, .int .i64 0, .bool false, .slice none 0 0, .slice none 0 0], .int .i64 (a + (nn_ : Int)), .int .i64 6]) (by simp [results, Tryd.results21, go_sem, y0, y1, y2, y3, y4]) rfl HF.out
end Go.Proofs.YtgjbfgkcbehjnaaDoor

namespace Go.Proofs.YtgjbfgkcbehjnaaDoor
open Go.RowKit

/-- The contract of the document's one at a depth. -/
def ROneC (k : Nat) : Prop := ∀ (ok : Nat → Prop) (b : List UInt8) (i en : Nat) (v : Value) (w : World), BR w ok v b → b.length ≤ 1000000000 → i ≤ en → en ≤ b.length →
  Calls Tryd.prog 40 #[v, .int .i64 (i : Int), .int .i64 (en : Int), .int .i64 (9 - (k : Int))] w (ROneP i en w (oneN k ((b.drop i).take (en - i))))
/-- The loop: what holds at each round. -/
def MadeD (bx : Nat) (c t : Int) (f : List UInt8 → RnT) (b : List UInt8) (i from_ to_ : Nat) (R : RnT) (w : World) (gh : Nat) (pv : Value) (wr : World) : Prop :=
  ∃ (acc : List Nd) (v : Value) (pos fuel : Nat), pv = .int .i64 (pos : Int) ∧ from_ ≤ pos ∧ pos ≤ to_ ∧ acc.length + (to_ - pos) ≤ to_ - from_ ∧ Kp (fun _ => False) w wr ∧ Blk wr w.heap.size 25 #[.int .i64 0, .int .i64 0, .bool false, .slice none 0 0, .slice none 0 0] ∧ Blk wr bx 25 #[.int .i64 c, .int .i64 t, .bool true, .slice none 0 0, v] ∧ OwnT NHd 5 25 wr (bx + 1 ≤ ·) v acc ∧ bx + 1 ≤ wr.heap.size ∧
    gh = to_ - pos ∧ to_ - pos ≤ fuel ∧ iterN f fuel ((b.drop pos).take (to_ - pos)) (pos - i) acc = R
theorem drop_took {b u r : List UInt8} {pos to_ : Nat} (h : to_ ≤ b.length) (hu : (b.drop pos).take (to_ - pos) = u ++ r) (hp : pos ≤ to_) : r = (b.drop (pos + u.length)).take (to_ - (pos + u.length)) ∧ u.length + r.length = to_ - pos := by
  have hl : ((b.drop pos).take (to_ - pos)).length = to_ - pos := by rw [List.length_take, List.length_drop]; omega
  rw [hu, List.length_append] at hl
  refine ⟨?_, hl⟩
  have h1 : r = ((b.drop pos).take (to_ - pos)).drop u.length := by rw [hu, List.drop_left]
  rw [h1, List.drop_take, List.drop_drop]
  congr 1
  omega
set_option maxRecDepth 100000 in
set_option maxHeartbeats 3200000 in
theorem rone_made (ok : Nat → Prop) (k : Nat) (b : List UInt8) (i en : Nat) (v : Value) (w : World) (dv : Int) (hdv : 0 ≤ dv ∧ dv ≤ 8) (hdk : dv + 1 + (k : Int) = 9) (ih : ROneC k) (c t : Int) (N K : Nat) (hq : rd ((b.drop i).take (en - i)) = ((c, t, true, (N : Int)), (K : Int), 0)) (hct : i64N c ∧ i64N t) (hK : K ≤ en - i) (hN : N ≤ 16777215) (hs : ¬ en - i - K < N) (hb : BR w ok v b) (hl : b.length ≤ 1000000000) (hi : i ≤ en) (hen : en ≤ b.length) :
    Calls Tryd.prog 40 #[v, .int .i64 (i : Int), .int .i64 (en : Int), .int .i64 dv] w (ROneP i en w (oneN (k + 1) ((b.drop i).take (en - i)))) := by
  obtain ⟨hd1, hd2⟩ := hdv
  have HCT := Lib.hid hct
  have hl9 : ((b.drop i).take (en - i)).length = en - i := by rw [List.length_take, List.length_drop]; omega
  have HR := Lib.hid (oneN_good (k := k) hq)
  rw [bodyN, hl9, if_neg hs, if_pos rfl] at HR
  rw [cut_cut (show i + K + N ≤ en by omega)] at HR
  have hrl : (((b.drop i).take (en - i)).drop (K + N)).length = en - (i + K + N) := by rw [List.length_drop, hl9]; omega
  generalize ((b.drop i).take (en - i)).drop (K + N) = rest at HR hrl
  obtain ⟨Rit, hit⟩ : ∃ Rit, iterN (oneN k) N ((b.drop (i + K)).take N) K [] = Rit := ⟨_, rfl⟩
  rw [hit] at HR
  have HIH := Lib.hid ih
  clear ih
  have HV := Lib.hid (fun W (hk : Kp (fun _ => False) w W) => hb.kp hk (fun _ _ h => h))
  have ka : Kp (fun _ => False) w (w.alloc (.cells #[.int .i64 0, .int .i64 0, .bool false, .slice none 0 0, .slice none 0 0] 25)) := (Kp.refl _ _).alloc _
  have hblk := Blk.new w 25 #[.int .i64 0, .int .i64 0, .bool false, .slice none 0 0, .slice none 0 0]
  have hb0 := hb.kp ka (fun _ _ h => h)
  obtain ⟨A, cp, rfl, hcp, _⟩ := id hb
  have HKA := Lib.hid ka
  have HBK := Lib.hid hblk
  have HB0 := Lib.hid hb0
  have hz0 : (w.alloc (.cells #[.int .i64 0, .int .i64 0, .bool false, .slice none 0 0, .slice none 0 0] 25)).heap.size = w.heap.size + 1 := by rw [World.size_alloc]
  clear ka hblk hb hb0
  go_enter Tryd.func40, Tryd.ntmps40
  go_upto_region 3 with fail
  generalize w.alloc (.cells #[.int .i64 0, .int .i64 0, .bool false, .slice none 0 0, .slice none 0 0] 25) = W0 at HKA HBK HB0 hz0 ⊢
  obtain ⟨A', dc, hsl, hNd, hown⟩ := slice_cutI HB0.out (i : Int) (en : Int) rfl rfl hi hen
  have hll : ((b.drop i).take (en - i)).length = en - i := by rw [List.length_take, List.length_drop]; omega
  have hrd := rread_any W0 ok (.slice A' (en - i) dc) ((b.drop i).take (en - i)) hown (by omega)
  rw [rdV_ofN hq] at hrd
  have HRD := Lib.hid hrd
  clear hrd hq hown
  go_upto_region 4 with (go_at_call 66; refine HRD.out.mono ?_; rintro e w1 ⟨rfl, hk1⟩; have HK1' := Lib.hid hk1; clear hk1)
  have k1 : Kp (fun _ => False) W0 (w1.alloc (.cells #[.int .i64 c, .int .i64 t, .bool true, .int .i64 (N : Int)] 89)) := HK1'.out.alloc _
  have HBH := Lib.hid (Blk.new w1 89 #[.int .i64 c, .int .i64 t, .bool true, .int .i64 (N : Int)])
  have hz1 : w.heap.size + 1 ≤ w1.heap.size := by have := HK1'.out.size; omega
  have hz1' : (w1.alloc (.cells #[.int .i64 c, .int .i64 t, .bool true, .int .i64 (N : Int)] 89)).heap.size = w1.heap.size + 1 := by rw [World.size_alloc]
  have HK1 := Lib.hid (HKA.out.then_ k1 (fun _ h => h.elim))
  have HBK1 := Lib.hid (HBK.out.kp k1 (fun h => h))
  have HB1 := Lib.hid (HB0.out.kp k1 (fun _ _ h => h))
  clear k1 HK1' HRD HBK HB0 HKA hsl hNd
  generalize w1.alloc (.cells #[.int .i64 c, .int .i64 t, .bool true, .int .i64 (N : Int)] 89) = W1 at HBH HK1 HBK1 HB1 hz1' ⊢
  generalize w1.heap.size = bh at HBH hz1 hz1' ⊢
  have hz1b : bh < W1.heap.size := by omega
  clear hz1'
  have x0 := HBH.out.cell 0
  have x1 := HBH.out.cell 1
  have x2 := HBH.out.cell 2
  have x3 := HBH.out.cell 3
  simp at x0 x1 x2 x3
  have hgt : decide ((en : Int) - ((i : Int) + (K : Int)) < (N : Int)) = false := by simp; omega
  go_upto_region 10 with fail
  have k4 : Kp (fun _ => False) W1 (W1.alloc (.cells #[.int .i64 c, .int .i64 t, .bool true, .slice none 0 0, .slice none 0 0] 25)) := (Kp.refl _ _).alloc _
  have HBX := Lib.hid (Blk.new W1 25 #[.int .i64 c, .int .i64 t, .bool true, .slice none 0 0, .slice none 0 0])
  have hz4 : (W1.alloc (.cells #[.int .i64 c, .int .i64 t, .bool true, .slice none 0 0, .slice none 0 0] 25)).heap.size = W1.heap.size + 1 := by rw [World.size_alloc]
  have HK4 := Lib.hid (HK1.out.then_ k4 (fun _ h => h.elim))
  have HBK4 := Lib.hid (HBK1.out.kp k4 (fun h => h))
  have HB4 := Lib.hid (HB1.out.kp k4 (fun _ _ h => h))
  have HBH4 := Lib.hid (HBH.out.kp k4 (fun h => h))
  clear k4 HK1 HBK1 HB1 HBH x0 x1 x2 x3
  generalize W1.alloc (.cells #[.int .i64 c, .int .i64 t, .bool true, .slice none 0 0, .slice none 0 0] 25) = W4 at HBX hz4 HK4 HBK4 HB4 HBH4 ⊢
  generalize W1.heap.size = bx at HBX hz1b hz4 ⊢
  have hzx : bh < bx ∧ bx < W4.heap.size := by omega
  obtain ⟨hzx1, hzx2⟩ := hzx
  clear hz4
  have x0 := HBH4.out.cell 0
  have x1 := HBH4.out.cell 1
  have x2 := HBH4.out.cell 2
  have x3 := HBH4.out.cell 3
  simp at x0 x1 x2 x3
  have HI0 := Lib.hid (show MadeD bx c t (oneN k) b i (i + K) (i + K + N) Rit w N (.int .i64 ((i : Int) + (K : Int))) W4 from
    ⟨[], .slice none 0 0, i + K, N, by rw [Int.natCast_add], Nat.le_refl _, by omega, by simp, HK4.out, HBK4.out, HBX.out, OwnT.nil, by omega, by omega, by omega, by rw [show i + K + N - (i + K) = N by omega, show i + K - i = K by omega]; exact hit⟩)
  have HOW := Lib.hid (show bx < W4.heap.size ∧ w.heap.size < bx from ⟨by omega, by omega⟩)
  have hbxw : w.heap.size < bx := by omega
  clear hit HK4 HBK4 HBX HB4 hzx2
  go_upto_region 16 with fail
  obtain ⟨to_, hto⟩ : ∃ to_ : Nat, i + K + N = to_ := ⟨_, rfl⟩
  have htoI : (i : Int) + (K : Int) + (N : Int) = (to_ : Int) := by omega
  rw [hto] at HI0 hrl
  rw [htoI]
  have hten : to_ ≤ en := by omega
  clear htoI
  go_wp2_with fail
  go_loopg [18] N (fun gh pv wr => MadeD bx c t (oneN k) b i (i + K) to_ Rit w gh pv wr)
  case atStart => exact HI0.out
  case round =>
    clear HI0
    obtain ⟨acc, v, pos, fuel, rfl, hp1, hp2, hac, hk, hb1, hbv, ho, hzz, rfl, hfu, hrow⟩ := hrel
    obtain ⟨A2, cc, rfl, hlc⟩ := ho.shape
    have y0 := hb1.cell 0
    have z0 := hb1.frozen 0
    have y1 := hb1.cell 1
    have z1 := hb1.frozen 1
    have y2 := hb1.cell 2
    have z2 := hb1.frozen 2
    have y3 := hb1.cell 3
    have z3 := hb1.frozen 3
    have y4 := hb1.cell 4
    have z4 := hb1.frozen 4
    simp at y0 y1 y2 y3 y4
    have g0 := hbv.cell 0
    have g1 := hbv.cell 1
    have g2 := hbv.cell 2
    have g3 := hbv.cell 3
    have g4 := hbv.cell 4
    simp at g0 g1 g2 g3 g4
    have HK := Lib.hid hk
    have HB1 := Lib.hid hb1
    have HBV := Lib.hid hbv
    have HO := Lib.hid ho
    have hbl9 : ((b.drop pos).take (to_ - pos)).length = to_ - pos := by rw [List.length_take, List.length_drop]; omega
    clear hk hb1 hbv ho
    by_cases h0 : pos = to_
    · have hF : ROneP i en w (oneN (k + 1) ((b.drop i).take (en - i))) (.returned (.tuple #[.agg #[.int .i64 c, .int .i64 t, .bool true, .slice none 0 0, .slice A2 acc.length cc], .int .i64 (to_ : Int), .int .i64 0, .int .i64 0])) (put5 wr w.heap.size (.int .i64 c) (.int .i64 t) (.bool true) (.slice none 0 0) (.slice A2 acc.length cc)) := by
        rw [iterN_end (by omega)] at hrow
        have hR := HR.out
        rw [← hrow] at hR
        simp only [RT.l] at hR
        obtain ⟨_, htl2⟩ := OwnT.tl NHd_kp HO.out
        refine rone_fin (okn := fun j => bx + 1 ≤ j) (x := .mk ⟨c, t, true, []⟩ acc) HK.out (Nat.le_refl _) ⟨_, _, rfl, HCT.out.1, HCT.out.2, BR.nil, by simp [RT.a], A2, cc, rfl, hlc, by simp only [RT.l]; omega, htl2⟩ (fun i hi => by omega) ?_
        rw [hR]
        exact ⟨rfl, by omega, rfl, rfl⟩
      have HF := Lib.hid hF
      have hle : to_ ≤ pos := by omega
      clear hF hrow HR h0
      go_wp2_with fail
      exact bodyPost_ret (v := .tuple #[.agg #[.int .i64 c, .int .i64 t, .bool true, .slice none 0 0, .slice A2 acc.length cc], .int .i64 (to_ : Int), .int .i64 0, .int .i64 0]) (by simp [results, Tryd.results40, go_sem, y0, y1, y2, y3, y4]) rfl HF.out
    · have hlt : pos < to_ := by omega
      have hci := HIH.out ok b pos to_ (.slice A b.length cp) wr (HV.out wr HK.out) hl hp2 (by omega)
      rw [show (9 : Int) - (k : Int) = dv + 1 by omega] at hci
      obtain ⟨fl, rfl⟩ : ∃ fl, fuel = fl + 1 := ⟨fuel - 1, by omega⟩
      rw [iterN_step (by omega)] at hrow
      have hsnd := oneN_sound k ((b.drop pos).take (to_ - pos))
      have HC := Lib.hid hci
      have hii : i ≤ pos := by omega
      clear hci
      cases hg : oneN k ((b.drop pos).take (to_ - pos)) with
      | bad o2 er2 =>
        rw [hg] at hrow HC hsnd
        simp only at hrow
        have hR := HR.out
        rw [← hrow] at hR
        simp only at hR
        have HRB := Lib.hid hR
        have hne2 := (hsnd.2 _ _ rfl).2
        have hne2b : (er2 != 0) = true := by simpa using hne2
        have HE2 := Lib.hid hne2
        clear hrow hsnd hg HR hne2 hR g0 g1 g2 g3 g4
        go_upto_region 19 with (go_at_call 40; refine HC.out.mono ?_; rintro e w2 ⟨v3, x, t2, a2, e2, rfl, hvx, hk2, hq2⟩; obtain ⟨A5, c5, A6, c6, rfl, htr5⟩ := hvx.shape; obtain ⟨rfl, rfl, rfl, _⟩ := hq2; have HK2 := Lib.hid hk2; clear hvx htr5 hk2)
        have ka : Kp (fun _ => False) w2 (w2.alloc (.cells #[.int .i64 x.a.c, .int .i64 x.a.t, .bool x.a.m, .slice A5 x.a.b.length c5, .slice A6 x.l.length c6] 25)) := (Kp.refl _ _).alloc _
        have HK9 := Lib.hid ((HK.out.then_ HK2.out (fun _ h => h.elim)).then_ ka (fun _ h => h.elim))
        have HB9 := Lib.hid ((HB1.out.kp HK2.out (fun h => h)).kp ka (fun h => h))
        clear ka HK2 HC HK HB1 HBV HO y0 y1 y2 y3 y4 z0 z1 z2 z3 z4
        generalize w2.alloc (.cells #[.int .i64 x.a.c, .int .i64 x.a.t, .bool x.a.m, .slice A5 x.a.b.length c5, .slice A6 x.l.length c6] 25) = W9 at HK9 HB9 ⊢
        have y0 := HB9.out.cell 0
        have z0 := HB9.out.frozen 0
        have y1 := HB9.out.cell 1
        have z1 := HB9.out.frozen 1
        have y2 := HB9.out.cell 2
        have z2 := HB9.out.frozen 2
        have y3 := HB9.out.cell 3
        have z3 := HB9.out.frozen 3
        have y4 := HB9.out.cell 4
        have z4 := HB9.out.frozen 4
        simp at y0 y1 y2 y3 y4
        go_wp2_with fail
        refine bodyPost_ret (v := .tuple #[.agg #[.int .i64 0, .int .i64 0, .bool false, .slice none 0 0, .slice none 0 0], .int .i64 0, .int .i64 ((pos : Int) + (o2 : Int)), .int .i64 e2]) (by simp [results, Tryd.results40, go_sem, y0, y1, y2, y3, y4]) rfl ?_
        refine rone_fin (okn := fun _ => False) HK9.out (Nat.le_refl _) NdR.zero (fun i hi => hi.elim) ?_
        rw [HRB.out]
        exact ⟨rfl, by omega, rfl, HE2.out⟩
      | got y r =>
        rw [hg] at hrow HC hsnd
        simp only at hrow
        obtain ⟨u, hu, hu2⟩ := hsnd.1 _ _ rfl
        obtain ⟨hr1, hr2⟩ := drop_took (by omega) hu hp2
        have hpn : to_ - r.length = pos + u.length := by omega
        have hdd : pos - i + (((b.drop pos).take (to_ - pos)).length - r.length) = pos + u.length - i := by rw [hbl9]; omega
        rw [hdd, hr1] at hrow
        have HRW := Lib.hid hrow
        have hpz : to_ - (pos + u.length) ≤ fl := by omega
        have hpu : pos + u.length ≤ to_ := by omega
        have hne2b : ((0 : Int) != 0) = false := rfl
        clear hrow hsnd hg hu hr1 hdd
        obtain ⟨nu, hnu⟩ : ∃ nu, pos + u.length = nu := ⟨_, rfl⟩
        rw [hnu] at hpz hpu HRW hpn
        go_upto_region 19 with (go_at_call 40; refine HC.out.mono ?_; rintro e w2 ⟨v3, x, t2, a2, e2, rfl, hvx, hk2, hq2⟩; obtain ⟨A5, c5, A6, c6, rfl, htr5⟩ := hvx.shape; obtain ⟨rfl, rfl, rfl, rfl⟩ := hq2; rw [hpn]; have HK2 := Lib.hid hk2; have HT5 := Lib.hid htr5; clear hvx htr5 hk2)
        have VALK : Kp (fun _ => False) w2 (w2.alloc (.cells #[.int .i64 x.a.c, .int .i64 x.a.t, .bool x.a.m, .slice A5 x.a.b.length c5, .slice A6 x.l.length c6] 25)) := (Kp.refl _ _).alloc _
        have HY := Lib.hid (Blk.new w2 25 #[.int .i64 x.a.c, .int .i64 x.a.t, .bool x.a.m, .slice A5 x.a.b.length c5, .slice A6 x.l.length c6])
        have hz2 := HK2.out.size
        have hzy : w2.heap.size < (w2.alloc (.cells #[.int .i64 x.a.c, .int .i64 x.a.t, .bool x.a.m, .slice A5 x.a.b.length c5, .slice A6 x.l.length c6] 25)).heap.size := by rw [World.size_alloc]; omega
        have k9 := HK2.out.then_ VALK (fun _ h => h.elim)
        have HK9 := Lib.hid (HK.out.then_ k9 (fun _ h => h.elim))
        have HB9 := Lib.hid (HB1.out.kp k9 (fun h => h))
        have HBV9 := Lib.hid (HBV.out.kp k9 (fun h => h))
        have HO9 := Lib.hid (HO.out.kp_ NHd_kp k9 (fun _ _ h => h))
        have HT9 := Lib.hid (TR.kp_ NHd_kp VALK (fun _ _ h => h) (ok' := (wr.heap.size ≤ ·)) (fun _ h => h) x _ HT5.out)
        have HLW := Lib.hid (fun (j : Nat) (hj : Value.ownBlock (.slice A2 acc.length cc) = some j) => And.intro (HO.out.lt hj) (show bx + 1 ≤ j by obtain ⟨xs9, ho9, _⟩ := HO.out; exact ho9.2 _ hj))
        clear VALK k9 HK2 HC HK HB1 HBV HO HT5 y0 y1 y2 y3 y4 z0 z1 z2 z3 z4 g0 g1 g2 g3 g4
        generalize w2.alloc (.cells #[.int .i64 x.a.c, .int .i64 x.a.t, .bool x.a.m, .slice A5 x.a.b.length c5, .slice A6 x.l.length c6] 25) = W9 at HK9 HB9 HY HBV9 HO9 HT9 hzy ⊢
        generalize w2.heap.size = by_ at HY hz2 hzy ⊢
        have p0 := HY.out.cell 0
        have p1 := HY.out.cell 1
        have p2 := HY.out.cell 2
        have p3 := HY.out.cell 3
        have p4 := HY.out.cell 4
        simp at p0 p1 p2 p3 p4
        have g4 := HBV9.out.cell 4
        simp at g4
        go_upto_region 21 with fail
        have VALK : Kp (fun _ => False) W9 (W9.alloc (.cells #[.int .i64 x.a.c, .int .i64 x.a.t, .bool x.a.m, .slice A5 x.a.b.length c5, .slice A6 x.l.length c6] 25)) := (Kp.refl _ _).alloc _
        have HYY := Lib.hid (Blk.new W9 25 #[.int .i64 x.a.c, .int .i64 x.a.t, .bool x.a.m, .slice A5 x.a.b.length c5, .slice A6 x.l.length c6])
        have hzw : (W9.alloc (.cells #[.int .i64 x.a.c, .int .i64 x.a.t, .bool x.a.m, .slice A5 x.a.b.length c5, .slice A6 x.l.length c6] 25)).heap.size = W9.heap.size + 1 := by rw [World.size_alloc]
        have HVK := Lib.hid VALK
        have HZW := Lib.hid hzw
        obtain ⟨i0, hi0, hj0, hj1, hj2⟩ := info_parts node_info
        have HO10 := Lib.hid (HO9.out.kp_ NHd_kp VALK (fun _ _ h => h))
        have HT10 := Lib.hid (TR.kp_ NHd_kp VALK (fun _ _ h => h) (fun _ h => h) x _ HT9.out)
        have HFIN := Lib.hid (show ∀ (v4 : Value) (w3 : World), OwnT NHd 5 25 w3 (bx + 1 ≤ ·) v4 (acc ++ [x]) → Kp (fun j => Value.ownBlock (.slice A2 acc.length cc) = some j) (W9.alloc (.cells #[.int .i64 x.a.c, .int .i64 x.a.t, .bool x.a.m, .slice A5 x.a.b.length c5, .slice A6 x.l.length c6] 25)) w3 →
            w3.frozen? ⟨bx, 4, none⟩ = false ∧ w3.cell? ⟨bx, 4, none⟩ = some (.slice A2 acc.length cc) ∧ MadeD bx c t (oneN k) b i (i + K) to_ Rit w (to_ - nu) (.int .i64 (nu : Int)) (w3.setCell ⟨bx, 4, none⟩ v4) from by
          intro v4 w3 ho3 hk3
          have hka := HVK.out.mono (T := fun j => Value.ownBlock (.slice A2 acc.length cc) = some j) (fun _ _ h => h.elim) |>.then_ hk3 (fun j hj => .inl hj)
          have nb : ∀ j, j ≤ bx → ¬ Value.ownBlock (.slice A2 acc.length cc) = some j := fun j hj he => by have := (HLW.out _ he).2; omega
          have hv3 := HBV9.out.kp hka (nb bx (Nat.le_refl _))
          have hks : Kp (fun j => j = bx) w3 (w3.setCell ⟨bx, 4, none⟩ v4) := (Kp.refl (fun j => j = bx) w3).setCell (p := ⟨bx, 4, none⟩) (.inl rfl) v4
          refine ⟨hv3.frozen 4, by simpa using hv3.cell 4, acc ++ [x], v4, nu, fl, rfl, by omega, hpu, ?_, ?_, ?_, ?_, ?_, ?_, rfl, hpz, HRW.out⟩
          · rw [List.length_append, List.length_singleton]
            omega
          · exact (HK9.out.then_ hka (fun j hj => .inr (by have := (HLW.out _ hj).2; omega))).then_ hks (fun j hj => .inr (by omega))
          · exact (HB9.out.kp hka (nb _ (by omega))).kp hks (by omega)
          · have := hv3.set_ 4 v4
            simpa using this
          · exact ho3.kp_ NHd_kp hks (fun j hj he => by have : bx + 1 ≤ j := hj; omega)
          · have := hka.size
            have := hks.size
            omega)
        clear VALK HK9 HB9 HBV9 HO9 HT9 HRW hzw
        go_upto_region 22 with (at_builtin; refine wpList_push NHd_kp NHd_lt rfl (.tmp 111) (.tmp 113) _ rfl 25 i0 _ 5 72 Tryd.underlying23 hi0 hj0 hj1 hj2 rfl (by omega) (bx + 1 ≤ ·) (wr.heap.size ≤ ·) (.slice A2 acc.length cc) acc rfl HO10.out W9.heap.size 1 rfl [.int .i64 x.a.c, .int .i64 x.a.t, .bool x.a.m, .slice A5 x.a.b.length c5, .slice A6 x.l.length c6] rfl HYY.out x HT10.out (by intro u hu; simp at hu; rcases hu with rfl | rfl | rfl | rfl | rfl <;> rfl) (fun j hj => ⟨Nat.le_trans hzz hj, fun he => by have := (HLW.out _ he).1; omega⟩) (fun j hj => by have := HZW.out; omega) (by omega) (by omega) ?_; intro v4 w3 ho3 hk3 _; obtain ⟨A4, c4, rfl, _⟩ := ho3.shape; generalize hal4 : (acc ++ [x]).length = n4 at ho3 ⊢; obtain ⟨f4, g4, hfi⟩ := HFIN.out _ w3 ho3 hk3; have HFI := Lib.hid hfi; clear ho3 hk3 hfi)
        go_wp2_with fail
        go_roundg (to_ - nu)
        case measure => omega
        case rel => exact HFI.out

theorem rone_any : ∀ k, k ≤ 8 → ROneC k := by
  intro k
  induction k with
  | zero =>
    intro _ ok b i en v w hb hl hi hen
    exact rone_deep ok b i en v w _ (by decide) hb hl hi hen
  | succ k ih =>
    intro hk8 ok b i en v w hb hl hi hen
    have ih' := ih (by omega)
    obtain ⟨c, t, m, n, kk, er, hq⟩ : ∃ c t m n kk er, rd ((b.drop i).take (en - i)) = ((c, t, m, n), kk, er) := ⟨_, _, _, _, _, _, rfl⟩
    have hdv : (9 : Int) - ((k + 1 : Nat) : Int) = 8 - (k : Int) := by omega
    have hll : ((b.drop i).take (en - i)).length = en - i := by rw [List.length_take, List.length_drop]; omega
    rw [hdv]
    by_cases he : er = 0
    · subst he
      obtain ⟨N, K, rfl, rfl, hN, hK2, hK, hkd, _⟩ := rd_good hq
      rw [hll] at hK
      by_cases hs : en - i - K < N
      · exact rone_short ok k b i en v w _ (by omega) c t m N K hq hK hN hs hb hl hi hen
      · cases m
        · exact rone_leaf ok k b i en v w _ (by omega) c t N K hq (i64N_head hkd) hK hN hs hb hl hi hen
        · exact rone_made ok k b i en v w _ (by omega) (by omega) ih' c t N K hq (i64N_head hkd) hK hN hs hb hl hi hen
    · exact rone_err ok k b i en v w _ (by omega) c t m n kk er hq he hb hl hi hen
end Go.Proofs.YtgjbfgkcbehjnaaDoor

namespace Go.Proofs.YtgjbfgkcbehjnaaDoor
open Go.RowKit

def RReadP (b : List UInt8) (w : World) (e : Ending) (w' : World) : Prop :=
  ∃ u, e = .returned (.tuple #[u, .int .i64 ((readN b).2.1 : Nat), .int .i64 (readN b).2.2]) ∧ NdR w' (w.heap.size ≤ ·) u (readN b).1 ∧ Kp (fun _ => False) w w'
set_option maxRecDepth 100000 in
set_option maxHeartbeats 3200000 in
theorem rread11_any (ok : Nat → Prop) (v : Value) (b : List UInt8) (w : World) (hb : BR w ok v b) (hl : b.length ≤ 1000000000) :
    Calls Tryd.prog 22 #[v] w (RReadP b w) := by
  have ka : Kp (fun _ => False) w (w.alloc (.cells #[.int .i64 0, .int .i64 0, .bool false, .slice none 0 0, .slice none 0 0] 25)) := (Kp.refl _ _).alloc _
  have hblk := Blk.new w 25 #[.int .i64 0, .int .i64 0, .bool false, .slice none 0 0, .slice none 0 0]
  have hci := rone_any 8 (Nat.le_refl _) ok b 0 b.length v (w.alloc (.cells #[.int .i64 0, .int .i64 0, .bool false, .slice none 0 0, .slice none 0 0] 25)) (hb.kp ka (fun _ _ h => h)) hl (Nat.zero_le _) (Nat.le_refl _)
  have hz0 : w.heap.size < (w.alloc (.cells #[.int .i64 0, .int .i64 0, .bool false, .slice none 0 0, .slice none 0 0] 25)).heap.size := by rw [World.size_alloc]; omega
  rw [show (9 : Int) - ((8 : Nat) : Int) = 1 from rfl, show ((0 : Nat) : Int) = 0 from rfl, List.drop_zero, Nat.sub_zero, List.take_length] at hci
  have hsnd := oneN_sound 8 b
  obtain ⟨A, cp, rfl, hcp, _⟩ := id hb
  have HKA := Lib.hid ka
  have HBK := Lib.hid hblk
  have HC := Lib.hid hci
  clear ka hblk hci hb
  go_enter Tryd.func22, Tryd.ntmps22
  go_upto_region 1 with fail
  generalize w.alloc (.cells #[.int .i64 0, .int .i64 0, .bool false, .slice none 0 0, .slice none 0 0] 25) = W0 at HKA HBK HC hz0 ⊢
  go_upto_region 2 with (go_at_call 40; refine HC.out.mono ?_; rintro e w2 ⟨v3, x, t2, a2, e2, rfl, hvx, hk2, hq2⟩; obtain ⟨A5, c5, A6, c6, rfl, htr5⟩ := hvx.shape; have HQ2 := Lib.hid hq2; have HVX := Lib.hid hvx; have HK2 := Lib.hid hk2; clear hvx hk2 hq2 htr5)
  have k3 : Kp (fun _ => False) w2 (w2.alloc (.cells #[.int .i64 x.a.c, .int .i64 x.a.t, .bool x.a.m, .slice A5 x.a.b.length c5, .slice A6 x.l.length c6] 25)) := (Kp.refl _ _).alloc _
  have HX3 := Lib.hid (Blk.new w2 25 #[.int .i64 x.a.c, .int .i64 x.a.t, .bool x.a.m, .slice A5 x.a.b.length c5, .slice A6 x.l.length c6])
  have HK3 := Lib.hid ((HKA.out.then_ HK2.out (fun _ h => h.elim)).then_ k3 (fun _ h => h.elim))
  have HBK3 := Lib.hid ((HBK.out.kp HK2.out (fun h => h)).kp k3 (fun h => h))
  have HV3 := Lib.hid ((HVX.out.kp k3 (fun _ _ h => h)).mono (ok' := (w.heap.size < ·)) (fun i (hi : W0.heap.size ≤ i) => by omega))
  clear k3 HC HVX HK2 HKA HBK
  generalize w2.alloc (.cells #[.int .i64 x.a.c, .int .i64 x.a.t, .bool x.a.m, .slice A5 x.a.b.length c5, .slice A6 x.l.length c6] 25) = W3 at HX3 HK3 HBK3 HV3 ⊢
  generalize w2.heap.size = bx at HX3 ⊢
  have y0 := HBK3.out.cell 0
  have z0 := HBK3.out.frozen 0
  have y1 := HBK3.out.cell 1
  have z1 := HBK3.out.frozen 1
  have y2 := HBK3.out.cell 2
  have z2 := HBK3.out.frozen 2
  have y3 := HBK3.out.cell 3
  have z3 := HBK3.out.frozen 3
  have y4 := HBK3.out.cell 4
  have z4 := HBK3.out.frozen 4
  simp at y0 y1 y2 y3 y4
  have p0 := HX3.out.cell 0
  have p1 := HX3.out.cell 1
  have p2 := HX3.out.cell 2
  have p3 := HX3.out.cell 3
  have p4 := HX3.out.cell 4
  simp at p0 p1 p2 p3 p4
  have HFIN := Lib.hid (show ∀ (n : Int) (er : Int) (y : Nd) (m : Nat) (u0 u1 u2 u3 u4 : Value), readN b = (y, m, er) → n = (m : Int) → NdR W3 (w.heap.size < ·) (.agg #[u0, u1, u2, u3, u4]) y →
      RReadP b w (.returned (.tuple #[.agg #[u0, u1, u2, u3, u4], .int .i64 n, .int .i64 er])) (put5 W3 w.heap.size u0 u1 u2 u3 u4) from by
    intro n er y m u0 u1 u2 u3 u4 hr hn hv
    subst hn
    have hq : Kp (fun i => i = w.heap.size) W3 (put5 W3 w.heap.size u0 u1 u2 u3 u4) := (Kp.refl (fun i => i = w.heap.size) W3).put5 (B := w.heap.size) (.inl rfl) _ _ _ _ _
    refine ⟨.agg #[u0, u1, u2, u3, u4], by rw [hr], ?_, HK3.out.then_ hq (fun i hi => .inr (by omega))⟩
    rw [hr]
    exact (hv.kp hq (fun i (hi : w.heap.size < i) he => by omega)).mono (fun i (hi : w.heap.size < i) => by omega))
  cases hR : oneN 8 b with
  | bad o er =>
    have hq := HQ2.out
    rw [hR] at hq
    obtain ⟨rfl, ha2, rfl, hne⟩ := hq
    have hneb : (e2 != 0) = true := by simpa using hne
    have HF := Lib.hid (HFIN.out a2 e2 (.mk ⟨0, 0, false, []⟩ []) o (.int .i64 0) (.int .i64 0) (.bool false) (.slice none 0 0) (.slice none 0 0) (by rw [readN, hR]) (by rw [ha2]; simp) NdR.zero)
    clear hR ha2 hne HFIN HQ2 HV3 HX3 hsnd p0 p1 p2 p3 p4
    go_wp2_with fail
    exact bodyPost_ret (v := .tuple #[.agg #[.int .i64 0, .int .i64 0, .bool false, .slice none 0 0, .slice none 0 0], .int .i64 a2, .int .i64 e2]) (by simp [results, Tryd.results22, go_sem, y0, y1, y2, y3, y4]) rfl HF.out
  | got y r =>
    have hq := HQ2.out
    rw [hR] at hq hsnd
    obtain ⟨rfl, ht2, rfl, rfl⟩ := hq
    obtain ⟨u, hu, hu2⟩ := hsnd.1 _ _ rfl
    have hul : b.length = u.length + r.length := by rw [hu, List.length_append]
    have hneb : ((0 : Int) != 0) = false := rfl
    by_cases h0 : r.length = 0
    · have ht3 : t2 = (b.length : Int) := by rw [ht2]; omega
      subst ht3
      have hne2 : ((b.length : Int) != (b.length : Int)) = false := by simp
      have HF := Lib.hid (HFIN.out (b.length : Int) 0 x b.length (.int .i64 x.a.c) (.int .i64 x.a.t) (.bool x.a.m) (.slice A5 x.a.b.length c5) (.slice A6 x.l.length c6) (by rw [readN, hR]; simp only [if_pos h0]) rfl HV3.out)
      clear hR ht2 HFIN HQ2 HV3 HX3 hsnd hu hul h0
      go_wp2_with fail
      exact bodyPost_ret (v := .tuple #[.agg #[.int .i64 x.a.c, .int .i64 x.a.t, .bool x.a.m, .slice A5 x.a.b.length c5, .slice A6 x.l.length c6], .int .i64 (b.length : Int), .int .i64 0]) (by simp [results, Tryd.results22, go_sem, y0, y1, y2, y3, y4]) rfl HF.out
    · have hne2 : (t2 != (b.length : Int)) = true := by
        have : t2 ≠ (b.length : Int) := by rw [ht2]; omega
        simpa using this
      have HF := Lib.hid (HFIN.out t2 6 (.mk ⟨0, 0, false, []⟩ []) (b.length - r.length) (.int .i64 0) (.int .i64 0) (.bool false) (.slice none 0 0) (.slice none 0 0) (by rw [readN, hR]; simp only [if_neg h0]) ht2 NdR.zero)
      clear hR ht2 HFIN HQ2 HV3 HX3 hsnd hu hul h0 p0 p1 p2 p3 p4
      go_wp2_with fail
      exact bodyPost_ret (v := .tuple #[.agg #[.int .i64 0, .int .i64 0, .bool false, .slice none 0 0, .slice none 0 0], .int .i64 t2, .int .i64 6]) (by simp [results, Tryd.results22, go_sem, y0, y1, y2, y3, y4]) rfl HF.out
end Go.Proofs.YtgjbfgkcbehjnaaDoor

namespace Go.Proofs.YtgjbfgkcbehjnaaDoor
open Go.RowKit

theorem str_eqN (a b : List UInt8) : ((str a).toList == (str b).toList) = decide (a = b) := by
  rw [Bool.eq_iff_iff]
  simp only [beq_iff_eq, decide_eq_true_eq]
  constructor
  · intro h
    apply str_inj
    apply ByteArray.ext
    have e : ∀ l : List UInt8, (str l).toList = l := fun l => by
      have := ByteArray.toList_eq (str l)
      first
        | exact this.trans (str_toList l)
        | (rw [this]; exact str_toList l)
    rw [e, e] at h
    rw [h]
  · intro h
    rw [h]
set_option maxRecDepth 100000 in
theorem beqN_any (ok ok2 : Nat → Prop) (v u : Value) (a b : List UInt8) (w : World) (hv : BR w ok v a) (hu : BR w ok2 u b) :
    Calls Tryd.prog 42 #[v, u] w fun e w' => e = .returned (.bool (decide (a = b))) ∧ w = w' := by
  have h1 := run_str (P := Tryd.prog) (src := 22) (dst := 9) Tryd.underlying22 Tryd.underlying5 Tryd.underlying9 hv
  have h2 := run_str (P := Tryd.prog) (src := 22) (dst := 9) Tryd.underlying22 Tryd.underlying5 Tryd.underlying9 hu
  have he := str_eqN a b
  generalize decide (a = b) = r at he ⊢
  generalize str a = s at h1 he
  generalize str b = t at h2 he
  clear hv hu
  go_enter Tryd.func42, Tryd.ntmps42
  go_wp2_with fail
  go_ret
  exact ⟨rfl, rfl⟩
/-- How two elements are compared. -/
def CmpN (w : World) (ok ok2 : Nat → Prop) (l : List Nd) : Prop :=
  ∀ f, f ∈ l → ∀ (g : Nd) (v u : Value) (W : World), NdR W ok v f → NdR W ok2 u g → Kp (fun _ => False) w W → Calls Tryd.prog 26 #[v, u] W fun e w' => e = .returned (.bool (sameN f g)) ∧ Kp (fun _ => False) W w'

set_option maxRecDepth 100000 in
set_option maxHeartbeats 3200000 in
theorem neq_any (ok ok2 : Nat → Prop) (v u : Value) (l m : List Nd) (w : World) (hv : NsR w ok v l) (hu : NsR w ok2 u m) (hE : CmpN w ok ok2 l) :
    Calls Tryd.prog 43 #[v, u, .func (.func 26) #[] #[]] w fun e w' => e = .returned (.bool (sameNs l m)) ∧ Kp (fun _ => False) w w' := by
  obtain ⟨r, hr⟩ : ∃ r, sameNs l m = r := ⟨_, rfl⟩
  rw [hr]
  have HR := Lib.hid hr
  obtain ⟨A, c, rfl, h1, h2, _⟩ := id hv
  obtain ⟨A2, c2, rfl, h3, h4, _⟩ := id hu
  have HV := Lib.hid hv
  have HU := Lib.hid hu
  have HE := Lib.hid hE
  clear hv hu hE hr
  by_cases hlen : l.length = m.length
  · obtain ⟨n, hn⟩ : ∃ n, l.length = n := ⟨_, rfl⟩
    have HLN := Lib.hid hn
    have HMN := Lib.hid (show m.length = n by omega)
    rw [← hlen]
    rw [hn] at h1 h2 ⊢
    clear hlen hn h3 h4
    go_enter Tryd.func43, Tryd.ntmps43
    go_wp2_with fail
    go_loopw [17] (fun i wr => ∃ j : Nat, j ≤ n ∧ i = .int .i64 j ∧ sameNs (l.drop j) (m.drop j) = r ∧ Kp (fun _ => False) w wr) (fun i _ => n - (intOf i).toNat)
    case atStart => exact ⟨0, Nat.zero_le _, rfl, HR.out, Kp.refl _ _⟩
    case round =>
      obtain ⟨j, hj, rfl, he, hkr⟩ := hrel
      have HJ := Lib.hid he
      have HKR := Lib.hid hkr
      clear he
      by_cases hlt : j < n
      · have hl : j < l.length := by have := HLN.out; omega
        have hm : j < m.length := by have := HMN.out; omega
        obtain ⟨b, off, B1, d1, B2, d2, rfl, hb, hf, q0, q1, q2, q3, q4⟩ := (HV.out.kp hkr (fun _ _ h => h)).at_ hl
        obtain ⟨b', off', B3, d3, B4, d4, rfl, hb', hg, r0, r1, r2, r3, r4⟩ := (HU.out.kp hkr (fun _ _ h => h)).at_ hm
        have hmem : l[j] ∈ l := List.getElem_mem hl
        have hdr := sameNs_drop hl hm
        obtain ⟨f, hfe⟩ : ∃ f, l[j] = f := ⟨_, rfl⟩
        obtain ⟨g, hge⟩ : ∃ g, m[j] = g := ⟨_, rfl⟩
        rw [hfe] at hf q0 q1 q2 q3 q4 hmem hdr
        rw [hge] at hg r0 r1 r2 r3 r4 hdr
        have hka : ∀ o1 o2, Kp (fun _ => False) wr ((wr.alloc o1).alloc o2) := fun o1 o2 => ((Kp.refl _ _).alloc o1).alloc o2
        have HC := Lib.hid (fun o1 o2 => HE.out f hmem g _ _ ((wr.alloc o1).alloc o2) (hf.kp (hka o1 o2) (fun _ _ h => h)) (hg.kp (hka o1 o2) (fun _ _ h => h)) (hkr.then_ (hka o1 o2) (fun _ h => h.elim)))
        have HKA := Lib.hid hka
        have x0 : ∀ o, (wr.alloc o).cell? ⟨b', off' + j * 5, none⟩ = _ := fun o => ((Kp.refl (fun _ => False) wr).alloc o).cell r0 (fun h => h)
        have x1 : ∀ o, (wr.alloc o).cell? ⟨b', off' + j * 5 + 1, none⟩ = _ := fun o => ((Kp.refl (fun _ => False) wr).alloc o).cell r1 (fun h => h)
        have x2 : ∀ o, (wr.alloc o).cell? ⟨b', off' + j * 5 + 2, none⟩ = _ := fun o => ((Kp.refl (fun _ => False) wr).alloc o).cell r2 (fun h => h)
        have x3 : ∀ o, (wr.alloc o).cell? ⟨b', off' + j * 5 + 3, none⟩ = _ := fun o => ((Kp.refl (fun _ => False) wr).alloc o).cell r3 (fun h => h)
        have x4 : ∀ o, (wr.alloc o).cell? ⟨b', off' + j * 5 + 4, none⟩ = _ := fun o => ((Kp.refl (fun _ => False) wr).alloc o).cell r4 (fun h => h)
        have hi0 : (0 : Int) ≤ (j : Int) := by omega
        have hi1 : (j : Int) < (n : Int) := by omega
        generalize sameN f g = p at hdr HC
        cases p
        · have HX := Lib.hid (show r = false by rw [← HJ.out, hdr]; rfl)
          clear hdr hf hg hfe hge hmem hkr hka
          go_wp2_with fail
          refine (HC.out _ _).mono ?_
          rintro e w3 ⟨rfl, hk3⟩
          have hk := HKR.out.then_ ((HKA.out _ _).then_ hk3 (fun _ h => h.elim)) (fun _ h => h.elim)
          clear hk3
          go_wp2_with fail
          go_ret
          exact ⟨by rw [HX.out]; rfl, hk⟩
        · have HX := Lib.hid (show sameNs (l.drop (j + 1)) (m.drop (j + 1)) = r by rw [← HJ.out, hdr]; rfl)
          clear hdr hf hg hfe hge hmem hkr hka
          go_wp2_with fail
          refine (HC.out _ _).mono ?_
          rintro e w3 ⟨rfl, hk3⟩
          have HK3 := Lib.hid (HKR.out.then_ ((HKA.out _ _).then_ hk3 (fun _ h => h.elim)) (fun _ h => h.elim))
          clear hk3
          go_wp2_with fail
          go_roundw
          case rel => exact ⟨j + 1, by omega, by go_num, HX.out, HK3.out⟩
          case measure => simp [intOf]; omega
      · have hend := sameNs_end (l := l) (m := m) (k := j) (by have := HLN.out; omega) (by have := HMN.out; omega)
        have HX := Lib.hid (show r = true by rw [← HJ.out, hend])
        have hi1 : decide ((j : Int) < (n : Int)) = false := by simp; omega
        clear hend hkr
        go_wp2_with fail
        go_ret
        exact ⟨by rw [HX.out]; rfl, HKR.out⟩
  · have hx := sameNs_len hlen
    have HX := Lib.hid (show r = false by rw [← HR.out, hx])
    have hne : ((l.length : Int) != (m.length : Int)) = true := by simp; omega
    clear hlen hx
    go_enter Tryd.func43, Tryd.ntmps43
    go_wp2_with fail
    go_ret
    exact ⟨by rw [HX.out]; rfl, Kp.refl _ _⟩

set_option maxRecDepth 100000 in
set_option maxHeartbeats 3200000 in
theorem same_anyN (ok ok2 : Nat → Prop) : ∀ (f g : Nd) (v u : Value) (w : World), NdR w ok v f → NdR w ok2 u g →
    Calls Tryd.prog 26 #[v, u] w fun e w' => e = .returned (.bool (sameN f g)) ∧ Kp (fun _ => False) w w' := by
  intro f
  induction f using RT.induct with
  | h a l ih =>
  intro g v u w hv hu
  obtain ⟨c, t, m, B⟩ := a
  obtain ⟨⟨c', t', m', B'⟩, l'⟩ := g
  obtain ⟨r, hr⟩ : ∃ r, sameN (.mk ⟨c, t, m, B⟩ l) (.mk ⟨c', t', m', B'⟩ l') = r := ⟨_, rfl⟩
  rw [hr]
  rw [sameN_mk] at hr
  simp only [] at hr
  obtain ⟨A1, c1, A2, c2, rfl, _, _, hc1, hl1, hb, hc2, hl2, hs⟩ := hv.parts
  obtain ⟨A3, c3, A4, c4, rfl, _, _, hc3, hl3, hb', hc4, hl4, hs'⟩ := hu.parts
  have hk0 : Kp (fun _ => False) w ((w.alloc (.cells #[.int .i64 c, .int .i64 t, .bool m, .slice A1 B.length c1, .slice A2 l.length c2] 25)).alloc (.cells #[.int .i64 c', .int .i64 t', .bool m', .slice A3 B'.length c3, .slice A4 l'.length c4] 25)) := ((Kp.refl _ _).alloc _).alloc _
  have HK := Lib.hid hk0
  have HBE := Lib.hid (beqN_any ok ok2 _ _ B B' _ (hb.kp hk0 (fun _ _ h => h)) (hb'.kp hk0 (fun _ _ h => h)))
  have HEQ := Lib.hid (neq_any ok ok2 _ _ l l' _ (hs.kp hk0 (fun _ _ h => h)) (hs'.kp hk0 (fun _ _ h => h)) (fun f hm g v u W h1 h2 _ => ih f hm g v u W h1 h2))
  have t1 : (c == c') = decide (c = c') := by rw [Bool.eq_iff_iff]; simp
  have t2 : (t == t') = decide (t = t') := by rw [Bool.eq_iff_iff]; simp
  have t3 : (m == m') = decide (m = m') := by cases m <;> cases m' <;> rfl
  generalize decide (c = c') = p at hr t1
  generalize decide (t = t') = p2 at hr t2
  generalize decide (m = m') = p3 at hr t3
  generalize decide (B = B') = q at hr HBE
  generalize sameNs l l' = s at hr HEQ
  clear hv hu hb hb' hs hs' hk0 ih
  cases p
  · have HX := Lib.hid (show r = false by rw [← hr]; rfl)
    clear hr
    go_enter Tryd.func26, Tryd.ntmps26
    go_wp2_with fail
    go_ret
    exact ⟨by rw [HX.out]; rfl, HK.out⟩
  cases p2
  · have HX := Lib.hid (show r = false by rw [← hr]; rfl)
    clear hr
    go_enter Tryd.func26, Tryd.ntmps26
    go_wp2_with fail
    go_ret
    exact ⟨by rw [HX.out]; rfl, HK.out⟩
  cases p3
  · have HX := Lib.hid (show r = false by rw [← hr]; rfl)
    clear hr
    go_enter Tryd.func26, Tryd.ntmps26
    go_wp2_with fail
    go_ret
    exact ⟨by rw [HX.out]; rfl, HK.out⟩
  cases q
  · have HX := Lib.hid (show r = false by rw [← hr]; rfl)
    clear hr
    go_enter Tryd.func26, Tryd.ntmps26
    go_wp2_with (go_at_call 42; (with_reducible refine HBE.out.mono ?_); rintro e w5 ⟨rfl, rfl⟩)
    go_ret
    exact ⟨by rw [HX.out]; rfl, HK.out⟩
  · have HX := Lib.hid (show r = s by rw [← hr]; rfl)
    clear hr
    go_enter Tryd.func26, Tryd.ntmps26
    go_wp2_with (first | (go_at_call 42; (with_reducible refine HBE.out.mono ?_); rintro e w5 ⟨rfl, rfl⟩) | (go_at_call 43; (with_reducible refine HEQ.out.mono ?_); rintro e w5 ⟨rfl, hk5⟩; have HK5 := Lib.hid (HK.out.then_ hk5 (fun _ h => h.elim)); clear hk5))
    go_ret
    exact ⟨by rw [HX.out]; rfl, HK5.out⟩

set_option maxRecDepth 100000 in
set_option maxHeartbeats 3200000 in
theorem rsame_anyN (ok ok2 : Nat → Prop) : ∀ (f g : Nd) (v u : Value) (w : World), NdR w ok v f → NdR w ok2 u g →
    Calls Tryd.prog 23 #[v, u] w fun e w' => e = .returned (.bool (sameN f g)) ∧ Kp (fun _ => False) w w' := by
  intro f
  induction f using RT.induct with
  | h a l ih =>
  intro g v u w hv hu
  obtain ⟨c, t, m, B⟩ := a
  obtain ⟨⟨c', t', m', B'⟩, l'⟩ := g
  obtain ⟨r, hr⟩ : ∃ r, sameN (.mk ⟨c, t, m, B⟩ l) (.mk ⟨c', t', m', B'⟩ l') = r := ⟨_, rfl⟩
  rw [hr]
  rw [sameN_mk] at hr
  simp only [] at hr
  obtain ⟨A1, c1, A2, c2, rfl, _, _, hc1, hl1, hb, hc2, hl2, hs⟩ := hv.parts
  obtain ⟨A3, c3, A4, c4, rfl, _, _, hc3, hl3, hb', hc4, hl4, hs'⟩ := hu.parts
  have hk0 : Kp (fun _ => False) w ((w.alloc (.cells #[.int .i64 c, .int .i64 t, .bool m, .slice A1 B.length c1, .slice A2 l.length c2] 25)).alloc (.cells #[.int .i64 c', .int .i64 t', .bool m', .slice A3 B'.length c3, .slice A4 l'.length c4] 25)) := ((Kp.refl _ _).alloc _).alloc _
  have hq1 := (Blk.new w 25 #[.int .i64 c, .int .i64 t, .bool m, .slice A1 B.length c1, .slice A2 l.length c2]).alloc (.cells #[.int .i64 c', .int .i64 t', .bool m', .slice A3 B'.length c3, .slice A4 l'.length c4] 25)
  have hq2 := Blk.new (w.alloc (.cells #[.int .i64 c, .int .i64 t, .bool m, .slice A1 B.length c1, .slice A2 l.length c2] 25)) 25 #[.int .i64 c', .int .i64 t', .bool m', .slice A3 B'.length c3, .slice A4 l'.length c4]
  rw [World.size_alloc] at hq2
  have HK := Lib.hid hk0
  have HQ1 := Lib.hid hq1
  have HQ2 := Lib.hid hq2
  have HS := Lib.hid (hs.kp hk0 (fun _ _ h => h))
  have HS' := Lib.hid (hs'.kp hk0 (fun _ _ h => h))
  have s1 := run_str (P := Tryd.prog) (src := 22) (dst := 9) Tryd.underlying22 Tryd.underlying5 Tryd.underlying9 (hb.kp hk0 (fun _ _ h => h))
  have s2 := run_str (P := Tryd.prog) (src := 22) (dst := 9) Tryd.underlying22 Tryd.underlying5 Tryd.underlying9 (hb'.kp hk0 (fun _ _ h => h))
  have he := str_eqN B B'
  have he2 : ((str B).toList != (str B').toList) = !decide (B = B') := by rw [bne, he]
  have t1 : (c != c') = !decide (c = c') := by rw [bne]; congr 1
  have t2 : (t != t') = !decide (t = t') := by rw [bne]; congr 1
  have t3 : (m != m') = !decide (m = m') := by cases m <;> cases m' <;> rfl
  have t3b : (m == m') = decide (m = m') := by cases m <;> cases m' <;> rfl
  have t5 : ((l.length : Int) != (l'.length : Int)) = !decide (l.length = l'.length) := by rw [bne]; congr 1; rw [Bool.eq_iff_iff]; simp; omega
  have hln : decide (l.length = l'.length) = false → sameNs l l' = false := fun h => sameNs_len (by simpa using h)
  generalize decide (c = c') = p at hr t1
  generalize decide (t = t') = p2 at hr t2
  generalize decide (m = m') = p3 at hr t3 t3b
  generalize decide (B = B') = q at hr he he2
  generalize str B = sB at s1 he he2
  generalize str B' = sB' at s2 he he2
  have HIH := Lib.hid ih
  have HLN := Lib.hid hln
  clear hv hu hb hb' hs hs' hk0 ih hq1 hq2 hln
  cases p <;> simp only [Bool.not_true, Bool.not_false] at t1
  · have HX := Lib.hid (show r = false by rw [← hr]; rfl)
    clear hr t5
    go_enter Tryd.func23, Tryd.ntmps23
    go_wp2_with fail
    go_ret
    exact ⟨by rw [HX.out]; rfl, HK.out⟩
  cases p2 <;> simp only [Bool.not_true, Bool.not_false] at t2
  · have HX := Lib.hid (show r = false by rw [← hr]; rfl)
    clear hr t5
    go_enter Tryd.func23, Tryd.ntmps23
    go_wp2_with fail
    go_ret
    exact ⟨by rw [HX.out]; rfl, HK.out⟩
  cases p3 <;> simp only [Bool.not_true, Bool.not_false] at t3
  · have HX := Lib.hid (show r = false by rw [← hr]; rfl)
    clear hr t5
    go_enter Tryd.func23, Tryd.ntmps23
    go_wp2_with fail
    go_ret
    exact ⟨by rw [HX.out]; rfl, HK.out⟩
  cases q <;> simp only [Bool.not_true, Bool.not_false] at he2
  · have HX := Lib.hid (show r = false by rw [← hr]; rfl)
    clear hr t5
    go_enter Tryd.func23, Tryd.ntmps23
    go_wp2_with fail
    go_ret
    exact ⟨by rw [HX.out]; rfl, HK.out⟩
  obtain ⟨p5, hp5⟩ : ∃ p5, decide (l.length = l'.length) = p5 := ⟨_, rfl⟩
  rw [hp5] at t5 HLN
  cases p5 <;> simp only [Bool.not_true, Bool.not_false] at t5
  · have HX := Lib.hid (show r = false by rw [← hr, HLN.out rfl]; rfl)
    clear hr HLN hp5
    go_enter Tryd.func23, Tryd.ntmps23
    go_wp2_with fail
    go_ret
    exact ⟨by rw [HX.out]; rfl, HK.out⟩
  have hle : l'.length = l.length := by simpa using (of_decide_eq_true hp5).symm
  have HR0 := Lib.hid (show sameNs (l.drop 0) (l'.drop 0) = r by rw [← hr]; rfl)
  have HLE := Lib.hid hle
  rw [hle] at HQ2 t5 HK HQ1 HS HS' s1 s2
  clear hr HLN hp5 hc4 hl4 hle
  obtain ⟨n, hn⟩ : ∃ n, l.length = n := ⟨_, rfl⟩
  rw [hn] at HQ1 HQ2 HK HS HS' s1 s2 t5 hc2 hl2 HLE
  have HNL := Lib.hid hn
  rw [HLE.out, hn]
  clear hn
  go_enter Tryd.func23, Tryd.ntmps23
  go_upto_region 3 with fail
  generalize (w.alloc (.cells #[.int .i64 c, .int .i64 t, .bool m, .slice A1 B.length c1, .slice A2 n c2] 25)).alloc (.cells #[.int .i64 c', .int .i64 t', .bool m', .slice A3 B'.length c3, .slice A4 n c4] 25) = W0 at HK HQ1 HQ2 HS HS' s1 s2 ⊢
  clear s1 s2 t1 t2 t3 t3b t5 he he2
  go_upto_region 4 with fail
  go_loopw [5] (fun i wr => ∃ j : Nat, j ≤ n ∧ i = .int .i64 j ∧ sameNs (l.drop j) (l'.drop j) = r ∧ Kp (fun _ => False) W0 wr) (fun i _ => n - (intOf i).toNat)
  case atStart => exact ⟨0, Nat.zero_le _, rfl, HR0.out, Kp.refl _ _⟩
  case round =>
    obtain ⟨j, hj, rfl, he, hkr⟩ := hrel
    have HJ := Lib.hid he
    have HKR := Lib.hid hkr
    clear he hkr
    have z4 := (HQ1.out.kp HKR.out (fun h => h)).cell 4
    have v4 := (HQ2.out.kp HKR.out (fun h => h)).cell 4
    simp at z4 v4
    by_cases hlt : j < n
    · have hjl : j < l.length := by have := HNL.out; omega
      have hjl' : j < l'.length := by have := HLE.out; omega
      obtain ⟨bo, of, A5, c5, A6, c6, rfl, _, hf5, p0, p1, p2, p3, p4⟩ := (HS.out.kp HKR.out (fun _ _ h => h)).at_ hjl
      obtain ⟨bo2, of2, A7, c7, A8, c8, rfl, _, hf6, q0, q1, q2, q3, q4⟩ := (HS'.out.kp HKR.out (fun _ _ h => h)).at_ hjl'
      have hdr := sameNs_drop hjl hjl'
      have hmem : l[j] ∈ l := List.getElem_mem hjl
      generalize hp : l[j] = y at hf5 p0 p1 p2 p3 p4 hdr hmem
      generalize hp' : l'[j] = y' at hf6 q0 q1 q2 q3 q4 hdr
      clear hp hp'
      have HSM := Lib.hid (fun W (hk : Kp (fun _ => False) wr W) => HIH.out y hmem y' _ _ W (hf5.kp hk (fun _ _ h => h)) (hf6.kp hk (fun _ _ h => h)))
      have hCE : ∀ W, Kp (fun _ => False) wr W → (fun w' : World => w'.cell? ⟨w.heap.size, 4, none⟩ = some (.slice (some ⟨bo, of, none⟩) n c2) ∧ w'.cell? ⟨w.heap.size + 1, 4, none⟩ = some (.slice (some ⟨bo2, of2, none⟩) n c4) ∧ w'.cell? ⟨bo, of + j * 5, none⟩ = some (.int .i64 y.a.c) ∧ w'.cell? ⟨bo, of + j * 5 + 1, none⟩ = some (.int .i64 y.a.t) ∧ w'.cell? ⟨bo, of + j * 5 + 2, none⟩ = some (.bool y.a.m) ∧ w'.cell? ⟨bo, of + j * 5 + 3, none⟩ = some (.slice A5 y.a.b.length c5) ∧ w'.cell? ⟨bo, of + j * 5 + 4, none⟩ = some (.slice A6 y.l.length c6) ∧ w'.cell? ⟨bo2, of2 + j * 5, none⟩ = some (.int .i64 y'.a.c) ∧ w'.cell? ⟨bo2, of2 + j * 5 + 1, none⟩ = some (.int .i64 y'.a.t) ∧ w'.cell? ⟨bo2, of2 + j * 5 + 2, none⟩ = some (.bool y'.a.m) ∧ w'.cell? ⟨bo2, of2 + j * 5 + 3, none⟩ = some (.slice A7 y'.a.b.length c7) ∧ w'.cell? ⟨bo2, of2 + j * 5 + 4, none⟩ = some (.slice A8 y'.l.length c8)) W := fun W hk => ⟨hk.cell z4 (fun h => h), hk.cell v4 (fun h => h), hk.cell p0 (fun h => h), hk.cell p1 (fun h => h), hk.cell p2 (fun h => h), hk.cell p3 (fun h => h), hk.cell p4 (fun h => h), hk.cell q0 (fun h => h), hk.cell q1 (fun h => h), hk.cell q2 (fun h => h), hk.cell q3 (fun h => h), hk.cell q4 (fun h => h)⟩
      have HCE := Lib.hid hCE
      have HKZ := Lib.hid (Kp.refl (fun _ => False) wr)
      have hm0 : (0 : Int) ≤ (j : Int) := by omega
      have hm1 : (j : Int) < (n : Int) := by omega
      have HD := Lib.hid hdr
      generalize sameN y y' = d at HSM HD
      clear hdr hmem hf5 hf6 hCE p0 p1 p2 p3 p4 q0 q1 q2 q3 q4
      go_upto_region 6 with fail
      go_cut [6] (fun cv wx => cv = .bool d ∧ Kp (fun _ => False) wr wx)
      case first =>
        clear z4 v4
        go_region_held3 (fun w' : World => w'.cell? ⟨w.heap.size, 4, none⟩ = some (.slice (some ⟨bo, of, none⟩) n c2) ∧ w'.cell? ⟨w.heap.size + 1, 4, none⟩ = some (.slice (some ⟨bo2, of2, none⟩) n c4) ∧ w'.cell? ⟨bo, of + j * 5, none⟩ = some (.int .i64 y.a.c) ∧ w'.cell? ⟨bo, of + j * 5 + 1, none⟩ = some (.int .i64 y.a.t) ∧ w'.cell? ⟨bo, of + j * 5 + 2, none⟩ = some (.bool y.a.m) ∧ w'.cell? ⟨bo, of + j * 5 + 3, none⟩ = some (.slice A5 y.a.b.length c5) ∧ w'.cell? ⟨bo, of + j * 5 + 4, none⟩ = some (.slice A6 y.l.length c6) ∧ w'.cell? ⟨bo2, of2 + j * 5, none⟩ = some (.int .i64 y'.a.c) ∧ w'.cell? ⟨bo2, of2 + j * 5 + 1, none⟩ = some (.int .i64 y'.a.t) ∧ w'.cell? ⟨bo2, of2 + j * 5 + 2, none⟩ = some (.bool y'.a.m) ∧ w'.cell? ⟨bo2, of2 + j * 5 + 3, none⟩ = some (.slice A7 y'.a.b.length c7) ∧ w'.cell? ⟨bo2, of2 + j * 5 + 4, none⟩ = some (.slice A8 y'.l.length c8)) (first | exact HCE.out _ HKZ.out | exact HCE.out _ HKZ.out.drew) (first
          | (go_at_call 23; refine (HSM.out _ (by first | exact HKZ.out | exact HKZ.out.drew)).mono ?_; rintro e w5 ⟨rfl, hk5⟩; have hq := Kp.then_ (a := wr) (S := fun _ => False) (by first | exact HKZ.out | exact HKZ.out.drew) hk5 (fun _ h => h.elim); clear HKZ; have HKZ := Lib.hid hq; clear hq hk5))
        go_wp2_with fail
        go_meet
        exact ⟨rfl, HKZ.out⟩
      case rest =>
      obtain ⟨rfl, hkc⟩ := hcut
      generalize wc = w8 at hkc ⊢
      have HK8 := Lib.hid (HKR.out.then_ hkc (fun _ h => h.elim))
      clear hkc HCE HSM HKZ z4 v4
      cases d
      · have HX := Lib.hid (show r = false by rw [← HJ.out, HD.out]; rfl)
        clear HD
        go_wp2_with fail
        go_ret
        exact ⟨by rw [HX.out]; rfl, HK.out.then_ HK8.out (fun _ h => h.elim)⟩
      · have HX := Lib.hid (show sameNs (l.drop (j + 1)) (l'.drop (j + 1)) = r by rw [← HJ.out, HD.out]; rfl)
        clear HD
        go_wp2_with fail
        go_roundw
        case rel => exact ⟨j + 1, by omega, by go_num, HX.out, HK8.out⟩
        case measure => simp [intOf]; omega
    · have hend := sameNs_end (l := l) (m := l') (k := j) (by have := HNL.out; omega) (by have := HLE.out; omega)
      have HX := Lib.hid (show r = true by rw [← HJ.out, hend])
      have hle : n ≤ j := by omega
      clear hend
      go_wp2_with fail
      go_ret
      exact ⟨by rw [HX.out]; rfl, HK.out.then_ HKR.out (fun _ h => h.elim)⟩
end Go.Proofs.YtgjbfgkcbehjnaaDoor

namespace Go.Proofs.YtgjbfgkcbehjnaaDoor
open Go.RowKit

mutual
/-- How many things there are in one, and their bytes; no more than most is told. -/
def cntN : Nd → Nat → Nat
  | .mk a l, most => cntNs l most (1 + a.b.length)
def cntNs : List Nd → Nat → Nat → Nat
  | [], _, k => k
  | x :: l, most, k => if k ≤ most then cntNs l most (k + cntN x (most - k)) else k
end
theorem cntN_mk (a : NH) (l : List Nd) (most : Nat) : cntN (.mk a l) most = cntNs l most (1 + a.b.length) := by rw [cntN]
theorem cntNs_drop {l : List Nd} {j most k : Nat} (h : j < l.length) : cntNs (l.drop j) most k = if k ≤ most then cntNs (l.drop (j + 1)) most (k + cntN l[j] (most - k)) else k := by
  rw [List.drop_eq_getElem_cons h, cntNs]
theorem cntNs_end {l : List Nd} {j most k : Nat} (h : l.length ≤ j) : cntNs (l.drop j) most k = k := by rw [List.drop_of_length_le h, cntNs]
theorem cntNs_stop {l : List Nd} {most k : Nat} (h : ¬ k ≤ most) : cntNs l most k = k := by
  cases l with
  | nil => rw [cntNs]
  | cons x l => rw [cntNs, if_neg h]
theorem cntN_le (w : World) (ok : Nat → Prop) : ∀ (x : Nd) (v : Value) (most : Nat), NdR w ok v x → cntN x most ≤ most + 140737488351233 := by
  intro x
  induction x using RT.induct with
  | h a l ih =>
  intro v most hv
  obtain ⟨c, t, m, B⟩ := a
  obtain ⟨A1, c1, A2, c2, rfl, _, _, _, hl1, _, _, _, hs⟩ := hv.parts
  rw [cntN_mk]
  simp only
  have each : ∀ y ∈ l, ∀ m, cntN y m ≤ m + 140737488351233 := by
    intro y hy m
    obtain ⟨i, hi, rfl⟩ := List.mem_iff_getElem.1 hy
    obtain ⟨b, off, B1, d1, B2, d2, _, _, hn, _⟩ := hs.at_ hi
    exact ih _ (List.getElem_mem hi) _ m hn
  have key : ∀ (l' : List Nd) (k : Nat), (∀ y ∈ l', ∀ m, cntN y m ≤ m + 140737488351233) → k ≤ most + 140737488351233 → cntNs l' most k ≤ most + 140737488351233 := by
    intro l'
    induction l' with
    | nil => intro k _ hk; rw [cntNs]; exact hk
    | cons y l' ih2 =>
      intro k hy hk
      rw [cntNs]
      split
      · refine ih2 _ (fun z hz => hy z (by simp [hz])) ?_
        have := hy y (by simp) (most - k)
        omega
      · exact hk
  exact key l _ each (by omega)
set_option maxRecDepth 100000 in
set_option maxHeartbeats 3200000 in
theorem count_anyN (ok : Nat → Prop) : ∀ (x : Nd) (v : Value) (w : World) (most : Nat), NdR w ok v x → most ≤ 1000000 →
    Calls Tryd.prog 41 #[v, .int .i64 (most : Int)] w fun e w' => e = .returned (.int .i64 (cntN x most : Nat)) ∧ Kp (fun _ => False) w w' := by
  intro x
  induction x using RT.induct with
  | h a l ih =>
  intro v w most hv hmost
  obtain ⟨c, t, m, B⟩ := a
  obtain ⟨A1, c1, A2, c2, rfl, _, _, hc1, hl1, hb, hc2, hl2, hs⟩ := hv.parts
  have hk0 : Kp (fun _ => False) w (w.alloc (.cells #[.int .i64 c, .int .i64 t, .bool m, .slice A1 B.length c1, .slice A2 l.length c2] 25)) := (Kp.refl _ _).alloc _
  have hq1 := Blk.new w 25 #[.int .i64 c, .int .i64 t, .bool m, .slice A1 B.length c1, .slice A2 l.length c2]
  obtain ⟨r, hr⟩ : ∃ r, cntN (.mk ⟨c, t, m, B⟩ l) most = r := ⟨_, rfl⟩
  rw [hr]
  rw [cntN_mk] at hr
  simp only at hr
  have HK := Lib.hid hk0
  have HQ1 := Lib.hid hq1
  have HS := Lib.hid (hs.kp hk0 (fun _ _ h => h))
  have HIH := Lib.hid ih
  have HR0 := Lib.hid (show cntNs (l.drop 0) most (1 + B.length) = r from hr)
  clear hv hb hs hk0 hq1 ih hr
  go_enter Tryd.func41, Tryd.ntmps41
  go_upto_region 1 with fail
  generalize w.alloc (.cells #[.int .i64 c, .int .i64 t, .bool m, .slice A1 B.length c1, .slice A2 l.length c2] 25) = W0 at HK HQ1 HS ⊢
  have x3 := HQ1.out.cell 3
  simp at x3
  go_upto_region 3 with fail
  clear x3
  go_loopw [5, 6] (fun kv i wr => ∃ j k : Nat, j ≤ l.length ∧ i = .int .i64 j ∧ kv = .int .i64 k ∧ k ≤ most + 140737488351233 ∧ cntNs (l.drop j) most k = r ∧ Kp (fun _ => False) W0 wr) (fun _ i _ => l.length - (intOf i).toNat)
  case atStart => exact ⟨0, 1 + B.length, Nat.zero_le _, rfl, by simp, by omega, HR0.out, Kp.refl _ _⟩
  case round =>
    obtain ⟨j, k, hj, rfl, rfl, hk, he, hkr⟩ := hrel
    have HJ := Lib.hid he
    have HKR := Lib.hid hkr
    clear he hkr
    have z4 := (HQ1.out.kp HKR.out (fun h => h)).cell 4
    simp at z4
    by_cases hlt : j < l.length
    · by_cases hkm : k ≤ most
      · obtain ⟨bo, of, A5, c5, A6, c6, rfl, _, hf5, p0, p1, p2, p3, p4⟩ := (HS.out.kp HKR.out (fun _ _ h => h)).at_ hlt
        have hdr := cntNs_drop (most := most) (k := k) hlt
        rw [if_pos hkm] at hdr
        have hmem : l[j] ∈ l := List.getElem_mem hlt
        generalize hp : l[j] = y at hf5 p0 p1 p2 p3 p4 hdr hmem
        clear hp
        have hle := cntN_le _ _ y _ (most - k) hf5
        have hci := HIH.out y hmem _ wr (most - k) hf5 (by omega)
        rw [show ((most - k : Nat) : Int) = (most : Int) - (k : Int) by omega] at hci
        have HC := Lib.hid hci
        have HD := Lib.hid hdr
        generalize cntN y (most - k) = q at HC HD hle
        have hm0 : (0 : Int) ≤ (j : Int) := by omega
        have hm1 : (j : Int) < (l.length : Int) := by omega
        clear hdr hmem hf5 hci
        go_wp2_with (go_at_call 41; refine HC.out.mono ?_; rintro e w5 ⟨rfl, hk5⟩; have HK5 := Lib.hid (HKR.out.then_ hk5 (fun _ h => h.elim)); clear hk5)
        go_roundw
        case rel => exact ⟨j + 1, k + q, by omega, by go_num, by go_num, by omega, by rw [← HD.out]; exact HJ.out, HK5.out⟩
        case measure => simp [intOf]; omega
      · have HX := Lib.hid (show k = r by rw [← HJ.out, cntNs_stop hkm])
        have hkm2 : most < k := by omega
        have hm1 : (j : Int) < (l.length : Int) := by omega
        clear hkm
        go_wp2_with fail
        go_ret
        exact ⟨by rw [HX.out]; rfl, HK.out.then_ HKR.out (fun _ h => h.elim)⟩
    · have HX := Lib.hid (show k = r by rw [← HJ.out, cntNs_end (by omega)])
      have hle : l.length ≤ j := by omega
      clear hlt
      go_wp2_with fail
      go_ret
      exact ⟨by rw [HX.out]; rfl, HK.out.then_ HKR.out (fun _ h => h.elim)⟩

/-- Is one of them great? -/
def greatN (l : List Nd) : Bool := l.any fun x => decide (3000 < cntN x 3000)
theorem greatN_drop {l : List Nd} {j : Nat} (h : j < l.length) : greatN (l.drop j) = (decide (3000 < cntN l[j] 3000) || greatN (l.drop (j + 1))) := by
  rw [greatN, List.drop_eq_getElem_cons h, List.any_cons, greatN]
set_option maxRecDepth 100000 in
set_option maxHeartbeats 3200000 in
theorem great_anyN (ok : Nat → Prop) (v : Value) (l : List Nd) (w : World) (hv : NsR w ok v l) :
    Calls Tryd.prog 25 #[v] w fun e w' => e = .returned (.int .i64 (if greatN l then 1 else 0)) ∧ Kp (fun _ => False) w w' := by
  obtain ⟨A, c, rfl, h1, h2, _⟩ := id hv
  obtain ⟨r, hr⟩ : ∃ r, greatN l = r := ⟨_, rfl⟩
  rw [hr]
  obtain ⟨gq, hgq⟩ : ∃ gq : Int, (if r = true then 1 else 0) = gq := ⟨_, rfl⟩
  rw [hgq]
  have HG := Lib.hid hgq
  clear hgq
  have HR0 := Lib.hid (show greatN (l.drop 0) = r from hr)
  have HS := Lib.hid hv
  clear hv hr
  go_enter Tryd.func25, Tryd.ntmps25
  go_upto_region 2 with fail
  go_loopw [7] (fun i wr => ∃ j : Nat, j ≤ l.length ∧ i = .int .i64 j ∧ greatN (l.drop j) = r ∧ Kp (fun _ => False) w wr) (fun i _ => l.length - (intOf i).toNat)
  case atStart => exact ⟨0, Nat.zero_le _, rfl, HR0.out, Kp.refl _ _⟩
  case round =>
    obtain ⟨j, hj, rfl, he, hkr⟩ := hrel
    have HJ := Lib.hid he
    have HKR := Lib.hid hkr
    clear he hkr
    by_cases hlt : j < l.length
    · obtain ⟨bo, of, A5, c5, A6, c6, rfl, _, hf5, p0, p1, p2, p3, p4⟩ := (HS.out.kp HKR.out (fun _ _ h => h)).at_ hlt
      have hdr := greatN_drop hlt
      generalize hp : l[j] = y at hf5 p0 p1 p2 p3 p4 hdr
      clear hp
      have hka : ∀ o, Kp (fun _ => False) wr (wr.alloc o) := fun o => (Kp.refl _ _).alloc o
      have HC := Lib.hid (fun o => count_anyN ok y _ (wr.alloc o) 3000 (hf5.kp (hka o) (fun _ _ h => h)) (by decide))
      have HKA := Lib.hid hka
      have HD := Lib.hid hdr
      have hle := cntN_le _ _ y _ 3000 hf5
      generalize cntN y 3000 = q at HC HD hle
      have hm0 : (0 : Int) ≤ (j : Int) := by omega
      have hm1 : (j : Int) < (l.length : Int) := by omega
      clear hdr hf5 hka
      by_cases hq : 3000 < q
      · have HX := Lib.hid (show r = true by rw [← HJ.out, HD.out, decide_eq_true hq]; rfl)
        clear HD
        go_wp2_with (go_at_call 41; refine (HC.out _).mono ?_; rintro e w5 ⟨rfl, hk5⟩; have HK5 := Lib.hid (HKR.out.then_ ((HKA.out _).then_ hk5 (fun _ h => h.elim)) (fun _ h => h.elim)); clear hk5)
        go_ret
        exact ⟨by rw [← HG.out, HX.out]; rfl, HK5.out⟩
      · have HX := Lib.hid (show greatN (l.drop (j + 1)) = r by rw [← HJ.out, HD.out, decide_eq_false hq]; rfl)
        have hq2 : q ≤ 3000 := by omega
        clear HD hq
        go_wp2_with (go_at_call 41; refine (HC.out _).mono ?_; rintro e w5 ⟨rfl, hk5⟩; have HK5 := Lib.hid (HKR.out.then_ ((HKA.out _).then_ hk5 (fun _ h => h.elim)) (fun _ h => h.elim)); clear hk5)
        go_roundw
        case rel => exact ⟨j + 1, by omega, by go_num, HX.out, HK5.out⟩
        case measure => simp [intOf]; omega
    · have HX := Lib.hid (show r = false by rw [← HJ.out, List.drop_of_length_le (by omega)]; rfl)
      have hle : l.length ≤ j := by omega
      clear hlt
      go_wp2_with fail
      go_ret
      exact ⟨by rw [← HG.out, HX.out]; rfl, HKR.out⟩
theorem read_ex1 : readN [48, 3, 2, 1, 5] = (.mk ⟨0, 16, true, []⟩ [.mk ⟨0, 2, false, [5]⟩ []], 5, 0) := by kernel_rfl
theorem read_ex2 : readN [48, 3, 2, 1] = (.mk ⟨0, 0, false, []⟩ [], 4, 4) := by kernel_rfl
theorem read_ex3 : readN [48, 2, 5, 1] = (.mk ⟨0, 0, false, []⟩ [], 4, 4) := by kernel_rfl
theorem read_ex4 : readN [5, 1, 0] = (.mk ⟨0, 0, false, []⟩ [], 2, 13) := by kernel_rfl
end Go.Proofs.YtgjbfgkcbehjnaaDoor

namespace Go.Proofs.YtgjbfgkcbehjnaaDoor
open Go.RowKit

/-- A read's end, its numbers told. -/
theorem readD_lit (b : List UInt8) (cs : Array Value) (n : Nat) (hn : b.length = n) (hcs : cs = (bc b).toArray) (hl : n ≤ 1000) (x : Nd) (k : Nat) (er : Int) (hr : readN b = (x, k, er)) (W : World) (tab : TabN W) :
    Calls Tryd.prog 21 #[.slice (some ⟨W.heap.size, 0, none⟩) n n, .int .i64 0] (W.alloc (.cells cs 5)) fun e w' => ∃ A1 n1 c1 A2 n2 c2, e = .returned (.tuple #[.agg #[.int .i64 x.a.c, .int .i64 x.a.t, .bool x.a.m, .slice A1 n1 c1, .slice A2 n2 c2], .int .i64 (k : Int), .int .i64 er]) ∧
      NdR w' (fun _ => True) (.agg #[.int .i64 x.a.c, .int .i64 x.a.t, .bool x.a.m, .slice A1 n1 c1, .slice A2 n2 c2]) x ∧ n1 = x.a.b.length ∧ n2 = x.l.length ∧ Kp (fun _ => False) W w' := by
  have ka : Kp (fun _ => False) W (W.alloc (.cells cs 5)) := (Kp.refl _ _).alloc _
  refine (readD_any _ _ b 0 _ (BR.lit W 5 b cs n hn hcs) (tab.kp0 ka) (by omega) (by decide) (by omega)).mono ?_
  rintro e w' ⟨u, rfl, hv, hk⟩
  rw [hr] at hv
  obtain ⟨A1, c1, A2, c2, rfl, _⟩ := hv.shape
  refine ⟨A1, _, c1, A2, _, c2, ?_, hv.mono (fun _ _ => trivial), rfl, rfl, ka.then_ hk (fun _ h => h.elim)⟩
  rw [hr, Int.zero_add]
set_option maxRecDepth 100000 in
set_option maxHeartbeats 3200000 in
theorem alive11 (w : World) (tab : TabN w) : Calls Tryd.prog 20 #[] w fun e w' => e = .returned (.bool true) ∧ Kp (fun _ => False) w w' := by
  have HT := Lib.hid (fun W (hk : Kp (fun _ => False) w W) => tab.kp0 hk)
  have HK0 := Lib.hid (Kp.refl (fun _ => False) w)
  clear tab
  go_enter Tryd.func20, Tryd.ntmps20
  go_upto_region 1 with fail
  have hci := readD_lit [48, 3, 2, 1, 5] #[.int .u8 48, .int .u8 3, .int .u8 2, .int .u8 1, .int .u8 5] 5 rfl rfl (by decide) _ _ _ read_ex1 w (HT.out _ HK0.out)
  simp only [RT.a] at hci
  have HC := Lib.hid hci
  clear hci
  go_upto_region 2 with (go_at_call 21; refine HC.out.mono ?_; rintro e w1 ⟨A1, n1, c1, A2, n2, c2, rfl, hv1, rfl, rfl, hk1⟩)
  clear HC
  simp only [RT.l, List.length_nil, List.length_cons, Nat.zero_add] at hv1 ⊢
  have ka : Kp (fun _ => False) w1 (w1.alloc (.cells #[.int .i64 0, .int .i64 16, .bool true, .slice A1 0 c1, .slice A2 1 c2] 25)) := (Kp.refl _ _).alloc _
  have HK1 := Lib.hid ((HK0.out.then_ hk1 (fun _ h => h.elim)).then_ ka (fun _ h => h.elim))
  have HV1 := Lib.hid (hv1.kp ka (fun _ _ h => h) (S := fun _ => False) (ok := fun _ => True) |> fun h => h)
  have HB1 := Lib.hid (Blk.new w1 25 #[.int .i64 0, .int .i64 16, .bool true, .slice A1 0 c1, .slice A2 1 c2])
  clear ka hv1 hk1 HK0
  generalize w1.alloc (.cells #[.int .i64 0, .int .i64 16, .bool true, .slice A1 0 c1, .slice A2 1 c2] 25) = W1 at HK1 HV1 HB1 ⊢
  generalize w1.heap.size = g1 at HB1 ⊢
  have hci := readD_lit [48, 3, 2, 1] #[.int .u8 48, .int .u8 3, .int .u8 2, .int .u8 1] 4 rfl rfl (by decide) _ _ _ read_ex2 W1 (HT.out _ HK1.out)
  simp only [RT.a] at hci
  have HC := Lib.hid hci
  clear hci
  go_upto_region 3 with (go_at_call 21; refine HC.out.mono ?_; rintro e w2 ⟨Aa1, n1, ca1, Ab1, n2, cb1, rfl, hv2, rfl, rfl, hk2⟩)
  clear HC
  simp only [RT.l, List.length_nil, List.length_cons, Nat.zero_add] at hv2 ⊢
  have ka : Kp (fun _ => False) w2 (w2.alloc (.cells #[.int .i64 0, .int .i64 0, .bool false, .slice Aa1 0 ca1, .slice Ab1 0 cb1] 25)) := (Kp.refl _ _).alloc _
  have HK2 := Lib.hid ((HK1.out.then_ hk2 (fun _ h => h.elim)).then_ ka (fun _ h => h.elim))
  have HV2 := Lib.hid ((HV1.out.kp hk2 (fun _ _ h => h)).kp ka (fun _ _ h => h))
  have HB2 := Lib.hid ((HB1.out.kp hk2 (fun h => h)).kp ka (fun h => h))
  clear ka hv2 hk2 HK1 HV1 HB1
  generalize w2.alloc (.cells #[.int .i64 0, .int .i64 0, .bool false, .slice Aa1 0 ca1, .slice Ab1 0 cb1] 25) = W2 at HK2 HV2 HB2 ⊢
  have hci := readD_lit [48, 2, 5, 1] #[.int .u8 48, .int .u8 2, .int .u8 5, .int .u8 1] 4 rfl rfl (by decide) _ _ _ read_ex3 W2 (HT.out _ HK2.out)
  simp only [RT.a] at hci
  have HC := Lib.hid hci
  clear hci
  go_upto_region 4 with (go_at_call 21; refine HC.out.mono ?_; rintro e w3 ⟨Aa2, n1, ca2, Ab2, n2, cb2, rfl, hv3, rfl, rfl, hk3⟩)
  clear HC
  simp only [RT.l, List.length_nil, List.length_cons, Nat.zero_add] at hv3 ⊢
  have ka : Kp (fun _ => False) w3 (w3.alloc (.cells #[.int .i64 0, .int .i64 0, .bool false, .slice Aa2 0 ca2, .slice Ab2 0 cb2] 25)) := (Kp.refl _ _).alloc _
  have HK3 := Lib.hid ((HK2.out.then_ hk3 (fun _ h => h.elim)).then_ ka (fun _ h => h.elim))
  have HV3 := Lib.hid ((HV2.out.kp hk3 (fun _ _ h => h)).kp ka (fun _ _ h => h))
  have HB3 := Lib.hid ((HB2.out.kp hk3 (fun h => h)).kp ka (fun h => h))
  clear ka hv3 hk3 HK2 HV2 HB2
  generalize w3.alloc (.cells #[.int .i64 0, .int .i64 0, .bool false, .slice Aa2 0 ca2, .slice Ab2 0 cb2] 25) = W3 at HK3 HV3 HB3 ⊢
  have hci := readD_lit [5, 1, 0] #[.int .u8 5, .int .u8 1, .int .u8 0] 3 rfl rfl (by decide) _ _ _ read_ex4 W3 (HT.out _ HK3.out)
  simp only [RT.a] at hci
  have HC := Lib.hid hci
  clear hci
  go_upto_region 5 with (go_at_call 21; refine HC.out.mono ?_; rintro e w4 ⟨Aa3, n1, ca3, Ab3, n2, cb3, rfl, hv4, rfl, rfl, hk4⟩)
  clear HC
  simp only [RT.l, List.length_nil, List.length_cons, Nat.zero_add] at hv4 ⊢
  have ka : Kp (fun _ => False) w4 (w4.alloc (.cells #[.int .i64 0, .int .i64 0, .bool false, .slice Aa3 0 ca3, .slice Ab3 0 cb3] 25)) := (Kp.refl _ _).alloc _
  have HK4 := Lib.hid ((HK3.out.then_ hk4 (fun _ h => h.elim)).then_ ka (fun _ h => h.elim))
  have HV4 := Lib.hid ((HV3.out.kp hk4 (fun _ _ h => h)).kp ka (fun _ _ h => h))
  have HB4 := Lib.hid ((HB3.out.kp hk4 (fun h => h)).kp ka (fun h => h))
  clear ka hv4 hk4 HK3 HV3 HB3
  generalize w4.alloc (.cells #[.int .i64 0, .int .i64 0, .bool false, .slice Aa3 0 ca3, .slice Ab3 0 cb3] 25) = W4 at HK4 HV4 HB4 ⊢
  obtain ⟨B1, d1, B2, d2, e1, _, _, _, _, _, _, _, hns⟩ := HV4.out.parts
  injection e1 with e1
  simp only [Array.mk.injEq, List.cons.injEq, Value.slice.injEq, and_true, true_and] at e1
  obtain ⟨⟨rfl, -, rfl⟩, rfl, -, rfl⟩ := e1
  obtain ⟨b, off, B1, d1, B2, d2, rfl, _, hn5, p0, p1, p2, p3, p4⟩ := hns.at_ (i := 0) (by decide)
  simp only [List.getElem_cons_zero, RT.a, RT.l, List.length_cons, List.length_nil, Nat.zero_add, Nat.zero_mul, Nat.add_zero] at hn5 p0 p1 p2 p3 p4
  obtain ⟨bv, sv, e5, _, _, hbr, _⟩ := hn5
  simp only [RT.a, Value.agg.injEq, Array.mk.injEq, List.cons.injEq, and_true, true_and] at e5
  obtain ⟨rfl, rfl⟩ := e5
  have hstr := run_str (P := Tryd.prog) (src := 22) (dst := 9) (e := 5) Tryd.underlying22 Tryd.underlying5 Tryd.underlying9 hbr
  simp only [RT.a] at hstr
  have hse : (str [5]).toList = [5] := by simp [str]
  have q2 := HB4.out.cell 2
  have q4 := HB4.out.cell 4
  simp at q2 q4
  clear hbr hns HV4 HB4 p0 p1 p2 p4 HT
  go_wp2_with fail
  go_ret
  exact ⟨rfl, HK4.out⟩
end Go.Proofs.YtgjbfgkcbehjnaaDoor
