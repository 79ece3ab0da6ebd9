/-
  The law FormDeep.
-/
import Derived.Test.YtfcghajnnllmhaaF8
import Derived.Deep.CutRange
namespace Go.Proofs.Ytfcghajnnllmhaa
open Go.RowKit

theorem max_mod20 (n : Int) : ∃ k : Nat, (if 0 < n then n else 0) % 20 = (k : Int) ∧ k < 20 := by
  refine ⟨((if 0 < n then n else 0) % 20).toNat, ?_, ?_⟩ <;> split <;> omega

set_option maxRecDepth 100000 in
set_option maxHeartbeats 6400000 in
theorem fdeep_walk (w : World) (n : Int) (_hn : (Lit.int .i64 n).wf = true) (size : Int) (_hs : (Lit.int .i64 size).wf = true) :
    Calls Try.prog 5 #[.int .i64 n, .int .i64 size] w fun e w' => e = .returned (.bool true) ∧ Below w.heap.size w w' := by
  refine Calls.mono (R := fun e w' => e = .returned (.bool true) ∧ Kp (fun _ => False) w w') ?_ fun _ _ ⟨h1, h2⟩ => ⟨h1, h2.below⟩
  obtain ⟨k, hk, hk20⟩ := max_mod20 n
  have HN := Lib.hid hk
  clear hk
  go_enter Try.func5, Try.ntmps5
  go_upto_region 2 with fail
  rw [HN.out]
  generalize (if 0 < n then n else 0) = mx
  go_wp2_with fail
  refine (number_any _ _).mono ?_
  rintro e w1 ⟨rfl, hk1⟩
  have hb := Blk.new w1 27 #[.int .i64 0, .int .i64 2, .int .i64 0, .int .i64 0, .int .i64 0, .slice none 0 0]
  have hka := hk1.alloc (.cells #[.int .i64 0, .int .i64 2, .int .i64 0, .int .i64 0, .int .i64 0, .slice none 0 0] 27)
  obtain ⟨B, hB⟩ : ∃ B, w1.heap.size = B := ⟨_, rfl⟩
  have hwB : w.heap.size ≤ B := by have := hk1.size; omega
  go_upto_region 3 with fail
  obtain ⟨W, hW⟩ : ∃ W, w1.alloc (.cells #[.int .i64 0, .int .i64 2, .int .i64 0, .int .i64 0, .int .i64 0, .slice none 0 0] 27) = W := ⟨_, rfl⟩
  rw [hW] at hb hka ⊢
  rw [hB] at hb
  have HB := Lib.hid hb
  have HK := Lib.hid hka
  clear hb hka hW hB hk1
  go_wp2_with fail
  go_loopw [14] (fun i wr => ∃ (j : Nat) (f : Fm) (A : Option Addr) (c : Nat), j ≤ k ∧ i = .int .i64 j ∧ NestP j f ∧ Blk wr B 27 #[.int .i64 f.a.k, .int .i64 f.a.s, .int .i64 f.a.lo, .int .i64 f.a.hi, .int .i64 f.a.st, .slice A f.l.length c] ∧ FmR wr (fun i => i ≠ B) (.agg #[.int .i64 f.a.k, .int .i64 f.a.s, .int .i64 f.a.lo, .int .i64 f.a.hi, .int .i64 f.a.st, .slice A f.l.length c]) f ∧ Kp (fun _ => False) w wr) (fun i _ => k - (intOf i).toNat)
  case atStart => exact ⟨0, .mk ⟨0, 2, 0, 0, 0⟩ [], none, 0, Nat.zero_le _, rfl, NestP.start, HB.out, ⟨_, rfl, ⟨b0, b2, b0, b0, b0⟩, FsR.nil⟩, HK.out⟩
  case round =>
    obtain ⟨j, f, A, c, hj, rfl, hN, hb, hf, hkr⟩ := hrel
    have HNP := Lib.hid hN
    have HBR := Lib.hid hb
    have HF := Lib.hid hf
    have HKR := Lib.hid hkr
    have t0 := hb.cell 0
    have t1 := hb.cell 1
    have t2 := hb.cell 2
    have t3 := hb.cell 3
    have t4 := hb.cell 4
    have t5 := hb.cell 5
    simp at t0 t1 t2 t3 t4 t5
    have hlt := hb.lt
    clear hN hb hf hkr
    by_cases hjk : j < k
    · have hi1 : (j : Int) < (k : Int) := by omega
      have hka : ∀ o, Kp (fun _ => False) wr (wr.alloc o) := fun o => (Kp.refl _ _).alloc o
      have HKA := Lib.hid hka
      have HRO := Lib.hid (row_anyR (fun i => i ≠ B ∧ i < wr.heap.size + 1) (.slice (some ⟨wr.heap.size, 0, none⟩) 1 1) [f] (wr.alloc (.cells #[.int .i64 f.a.k, .int .i64 f.a.s, .int .i64 f.a.lo, .int .i64 f.a.hi, .int .i64 f.a.st, .slice A f.l.length c] 27)) (fun i hi => by rw [World.size_alloc]; exact hi.2)
        ((FsR.one_ HF.out (hka _) (fun _ _ h => h) (Nat.le_refl _) (Blk.new wr _ _)).lt_.mono (fun i hi => ⟨by rcases hi.1 with h | h <;> omega, by have := hi.2; rw [World.size_alloc] at this; exact this⟩)) (by simp))
      have HLI := Lib.hid (list_anyR (fun i => i ≠ B) 2 0 9 1 f A c wr b2 b0 (by unfold i64B; omega) b1 HF.out)
      obtain ⟨p, hp⟩ : ∃ p, (bits BinOp.and IntKind.i64 (j : Int) 1 == bits BinOp.and IntKind.i64 size 1) = p := ⟨_, rfl⟩
      clear hka
      cases p
      · clear HRO
        go_wp2_with fail
        refine HLI.out.mono ?_
        rintro e w2 ⟨B2, rfl, hf2, hk2⟩
        have hb2 := HBR.out.kp hk2 (fun h => h)
        have y0 := hb2.cell 0
        have y1 := hb2.cell 1
        have y2 := hb2.cell 2
        have y3 := hb2.cell 3
        have y4 := hb2.cell 4
        have y5 := hb2.cell 5
        have z0 := hb2.frozen 0
        have z1 := hb2.frozen 1
        have z2 := hb2.frozen 2
        have z3 := hb2.frozen 3
        have z4 := hb2.frozen 4
        have z5 := hb2.frozen 5
        simp at y0 y1 y2 y3 y4 y5
        have HB2 := Lib.hid hb2
        have HF2 := Lib.hid hf2
        have HK2 := Lib.hid hk2
        clear hb2 hf2 hk2
        go_wp2_with fail
        go_roundw
        case rel =>
          refine ⟨j + 1, .mk ⟨2, 2, 0, 9, 1⟩ [f], _, _, by omega, by go_num, HNP.out.list, HB2.out.put6 _ _ _ _ _ _, (HF2.out.kp ((Kp.refl (fun x => x = B) w2).put6 (B := B) (.inl rfl) _ _ _ _ _ _) (fun i hi he => ?_)).mono (fun i hi => ?_), (HKR.out.then_ HK2.out (fun _ h => h.elim)).put6 (B := B) (.inr hwB) _ _ _ _ _ _⟩
          · rcases hi with hi | hi <;> omega
          · rcases hi with hi | hi <;> omega
        case measure => simp [intOf]; omega
      · clear HLI
        go_wp2_with fail
        refine HRO.out.mono ?_
        rintro e w2 ⟨A2, c2, rfl, hf2, hk2'⟩
        have hk2 := (HKA.out _).then_ hk2' (fun _ h => h.elim)
        clear hk2'
        have hb2 := HBR.out.kp hk2 (fun h => h)
        have y0 := hb2.cell 0
        have y1 := hb2.cell 1
        have y2 := hb2.cell 2
        have y3 := hb2.cell 3
        have y4 := hb2.cell 4
        have y5 := hb2.cell 5
        have z0 := hb2.frozen 0
        have z1 := hb2.frozen 1
        have z2 := hb2.frozen 2
        have z3 := hb2.frozen 3
        have z4 := hb2.frozen 4
        have z5 := hb2.frozen 5
        simp at y0 y1 y2 y3 y4 y5
        have HB2 := Lib.hid hb2
        have HF2 := Lib.hid hf2
        have HK2 := Lib.hid hk2
        clear hb2 hf2 hk2
        go_wp2_with fail
        go_roundw
        case rel =>
          refine ⟨j + 1, .mk ⟨3, 0, 0, 0, 0⟩ [f], _, _, by omega, by go_num, HNP.out.row, HB2.out.put6 _ _ _ _ _ _, (HF2.out.kp ((Kp.refl (fun x => x = B) w2).put6 (B := B) (.inl rfl) _ _ _ _ _ _) (fun i hi he => ?_)).mono (fun i hi => ?_), (HKR.out.then_ HK2.out (fun _ h => h.elim)).put6 (B := B) (.inr hwB) _ _ _ _ _ _⟩
          · rw [World.size_alloc] at hi; rcases hi with hi | hi <;> omega
          · rw [World.size_alloc] at hi; rcases hi with hi | hi <;> omega
        case measure => simp [intOf]; omega
    · obtain rfl : j = k := by omega
      have HCH := Lib.hid (fun W (hk : Kp (fun _ => False) wr W) => check_any (fun i => i < wr.heap.size) f _ W (fun i hi => Nat.lt_of_lt_of_le hi hk.size) ((HF.out.lt_.mono (fun i hi => hi.2)).kp hk (fun _ _ h => h)))
      rw [HNP.out.deep, HNP.out.check] at HCH
      by_cases h8 : 8 ≤ j
      · rw [decide_eq_true h8] at HCH
        have h8' : decide ((8 : Int) < (j : Int) + 1) = true := by simp; omega
        have s1 : IntKind.i64.wrap ((j : Int) + 1) = (j : Int) + 1 := IntWalk.i64_in _ (by omega)
        go_wp2_with fail
        refine (alive04 _).mono ?_
        rintro e w2 ⟨rfl, hk2⟩
        have hb2 := HBR.out.kp hk2 (fun h => h)
        have y0 := hb2.cell 0
        have y1 := hb2.cell 1
        have y2 := hb2.cell 2
        have y3 := hb2.cell 3
        have y4 := hb2.cell 4
        have y5 := hb2.cell 5
        simp at y0 y1 y2 y3 y4 y5
        have HK2 := Lib.hid hk2
        clear hb2 hk2
        go_wp2_with fail
        refine (HCH.out _ HK2.out).mono ?_
        rintro e w3 ⟨rfl, hk3⟩
        have hk := HKR.out.then_ (HK2.out.then_ hk3 (fun _ h => h.elim)) (fun _ h => h.elim)
        clear hk3
        go_wp2_with fail
        go_ret
        exact ⟨rfl, hk⟩
      · rw [decide_eq_false h8] at HCH
        have h8' : decide ((8 : Int) < (j : Int) + 1) = false := by simp; omega
        have s1 : IntKind.i64.wrap ((j : Int) + 1) = (j : Int) + 1 := IntWalk.i64_in _ (by omega)
        go_wp2_with fail
        refine (alive04 _).mono ?_
        rintro e w2 ⟨rfl, hk2⟩
        have hb2 := HBR.out.kp hk2 (fun h => h)
        have y0 := hb2.cell 0
        have y1 := hb2.cell 1
        have y2 := hb2.cell 2
        have y3 := hb2.cell 3
        have y4 := hb2.cell 4
        have y5 := hb2.cell 5
        simp at y0 y1 y2 y3 y4 y5
        have HK2 := Lib.hid hk2
        clear hb2 hk2
        go_wp2_with fail
        refine (HCH.out _ HK2.out).mono ?_
        rintro e w3 ⟨rfl, hk3⟩
        have hk := HKR.out.then_ (HK2.out.then_ hk3 (fun _ h => h.elim)) (fun _ h => h.elim)
        clear hk3
        go_wp2_with fail
        go_ret
        exact ⟨rfl, hk⟩
end Go.Proofs.Ytfcghajnnllmhaa
