/-
  Forms made of forms, of any blocks; rows in rows.
-/
import Derived.Test.YtfcghajnnllmhaaF7
namespace Go.Proofs.Ytfcghajnnllmhaa
open Go.RowKit

/-- One form, laid as a slice. -/
theorem FsR.one_ {w : World} {ok : Nat → Prop} {f : Fm} {A : Option Addr} {c : Nat} (h : FmR w ok (.agg #[.int .i64 f.a.k, .int .i64 f.a.s, .int .i64 f.a.lo, .int .i64 f.a.hi, .int .i64 f.a.st, .slice A f.l.length c]) f) {W : World} {B : Nat} {S : Nat → Prop}
    (hk : Kp S w W) (hd : ∀ i, ok i → ¬ S i) (hb : w.heap.size ≤ B) (hB : Blk W B 27 #[.int .i64 f.a.k, .int .i64 f.a.s, .int .i64 f.a.lo, .int .i64 f.a.hi, .int .i64 f.a.st, .slice A f.l.length c]) :
    FsR W (fun i => ok i ∨ w.heap.size ≤ i) (.slice (some ⟨B, 0, none⟩) 1 1) [f] := by
  refine ⟨_, _, rfl, Nat.le_refl _, by simp, fun _ => ⟨B, 0, rfl, .inr hb, ?_⟩⟩
  rw [TRs]
  obtain ⟨sv, e, ht⟩ := FmR.tr ((h.kp hk hd).mono (ok' := fun i => ok i ∨ w.heap.size ≤ i) (fun _ h => .inl h))
  simp only [Value.agg.injEq, Array.mk.injEq, List.cons.injEq, and_true, true_and] at e
  subst e
  refine ⟨⟨_, ht, fun j u hu => ?_⟩, by rw [TRs]; trivial⟩
  rw [Nat.zero_add, hB.cell]
  simpa using hu

set_option maxRecDepth 100000 in
set_option maxHeartbeats 1600000 in
theorem list_anyR (ok : Nat → Prop) (s lo hi st : Int) (f : Fm) (A : Option Addr) (c : Nat) (w : World) (hs : i64B s) (hlo : i64B lo) (hhi : i64B hi) (hst : i64B st)
    (hv : FmR w ok (.agg #[.int .i64 f.a.k, .int .i64 f.a.s, .int .i64 f.a.lo, .int .i64 f.a.hi, .int .i64 f.a.st, .slice A f.l.length c]) f) :
    Calls Try.prog 16 #[.int .i64 s, .int .i64 lo, .int .i64 hi, .int .i64 st, .agg #[.int .i64 f.a.k, .int .i64 f.a.s, .int .i64 f.a.lo, .int .i64 f.a.hi, .int .i64 f.a.st, .slice A f.l.length c]] w
      fun e w' => ∃ B, e = .returned (.agg #[.int .i64 2, .int .i64 s, .int .i64 lo, .int .i64 hi, .int .i64 st, .slice (some ⟨B, 0, none⟩) 1 1]) ∧ FmR w' (fun i => ok i ∨ w.heap.size ≤ i) (.agg #[.int .i64 2, .int .i64 s, .int .i64 lo, .int .i64 hi, .int .i64 st, .slice (some ⟨B, 0, none⟩) 1 1]) (.mk ⟨2, s, lo, hi, st⟩ [f]) ∧ Kp (fun _ => False) w w' := by
  have HK := Lib.hid (show ∀ o1 o2 o3, Kp (fun _ => False) w (((w.alloc o1).alloc o2).alloc o3) from fun o1 o2 o3 => (((Kp.refl _ _).alloc o1).alloc o2).alloc o3)
  have HV := Lib.hid hv
  have HB := Lib.hid (show ∀ o1 o2, Blk (((w.alloc o1).alloc o2).alloc (.cells #[.int .i64 f.a.k, .int .i64 f.a.s, .int .i64 f.a.lo, .int .i64 f.a.hi, .int .i64 f.a.st, .slice A f.l.length c] 27)) (w.heap.size + 2) 27 #[.int .i64 f.a.k, .int .i64 f.a.s, .int .i64 f.a.lo, .int .i64 f.a.hi, .int .i64 f.a.st, .slice A f.l.length c] from fun o1 o2 => by
    have h := Blk.new ((w.alloc o1).alloc o2) 27 #[.int .i64 f.a.k, .int .i64 f.a.s, .int .i64 f.a.lo, .int .i64 f.a.hi, .int .i64 f.a.st, .slice A f.l.length c]
    rw [World.size_alloc, World.size_alloc] at h
    exact h)
  clear hv
  go_enter Try.func16, Try.ntmps16
  go_wp2_with fail
  refine bodyPost_ret (v := .agg #[.int .i64 2, .int .i64 s, .int .i64 lo, .int .i64 hi, .int .i64 st, .slice (some ⟨w.heap.size + 2, 0, none⟩) 1 1]) (by simp [results, Try.results16, go_sem]) rfl ⟨_, rfl, ⟨_, rfl, ⟨b2, hs, hlo, hhi, hst⟩, FsR.one_ HV.out (HK.out _ _ _) (fun _ _ h => h) (by omega) (HB.out _ _)⟩, HK.out _ _ _⟩

set_option maxRecDepth 100000 in
theorem row_anyR (ok : Nat → Prop) (v : Value) (l : List Fm) (w : World) (hlt : ∀ i, ok i → i < w.heap.size) (hv : FsR w ok v l) (hl : l.length ≤ 2199023255552) :
    Calls Try.prog 26 #[v] w fun e w' => ∃ A c, e = .returned (.agg #[.int .i64 3, .int .i64 0, .int .i64 0, .int .i64 0, .int .i64 0, .slice A l.length c]) ∧ FmR w' (fun i => ok i ∨ w.heap.size ≤ i) (.agg #[.int .i64 3, .int .i64 0, .int .i64 0, .int .i64 0, .int .i64 0, .slice A l.length c]) (.mk ⟨3, 0, 0, 0, 0⟩ l) ∧ Kp (fun _ => False) w w' := by
  have HK := Lib.hid (show ∀ o, Kp (fun _ => False) w (w.alloc o) from fun o => (Kp.refl _ _).alloc o)
  have HC := Lib.hid (fun o => fclone_any ok v l (w.alloc o) (FsR.kp hv ((Kp.refl (fun _ => False) w).alloc o) (fun _ _ h => h)) hl)
  have HB := Lib.hid (Blk.new w 27 #[.int .i64 0, .int .i64 0, .int .i64 0, .int .i64 0, .int .i64 0, .slice none 0 0])
  have hb3 : i64B 3 := by unfold i64B; omega
  have HLT := Lib.hid hlt
  clear hv hlt
  go_enter Try.func26, Try.ntmps26
  go_wp2_with fail
  refine (HC.out _).mono ?_
  rintro e w1 ⟨A, c, rfl, hs1, hk1⟩
  have hb1 := HB.out.kp hk1 (fun h => h)
  have e0 := hb1.cell 0
  have e1 := hb1.cell 1
  have e2 := hb1.cell 2
  have e3 := hb1.cell 3
  have e4 := hb1.cell 4
  have e5 := hb1.cell 5
  simp at e0 e1 e2 e3 e4 e5
  have z0 := hb1.frozen 0
  have z1 := hb1.frozen 1
  have z2 := hb1.frozen 2
  have z3 := hb1.frozen 3
  have z4 := hb1.frozen 4
  have z5 := hb1.frozen 5
  have HK1 := Lib.hid ((HK.out _).then_ hk1 (fun _ h => h.elim))
  have HS1 := Lib.hid hs1
  have hlt := hb1.lt
  clear hk1 hs1 hb1
  go_wp2_with fail
  have hk9 := (Kp.refl (fun x => x = w.heap.size) w1).put6 (B := w.heap.size) (.inl rfl) (.int .i64 3) (.int .i64 0) (.int .i64 0) (.int .i64 0) (.int .i64 0) (.slice A l.length c)
  have hkw := HK1.out.then_ hk9 (fun i hi => .inr (by omega))
  have hs9 := HS1.out.kp hk9 (fun i hi he => by
    rw [World.size_alloc] at hi
    rcases hi with hi | hi
    · have := HLT.out i hi; omega
    · omega)
  refine bodyPost_ret (v := .agg #[.int .i64 3, .int .i64 0, .int .i64 0, .int .i64 0, .int .i64 0, .slice A l.length c]) (by simp [results, Try.results26, go_sem, e0, e1, e2, e3, e4, e5]) rfl ⟨A, c, rfl, ⟨_, rfl, ⟨hb3, b0, b0, b0, b0⟩, hs9.mono (fun i hi => ?_)⟩, hkw⟩
  rw [World.size_alloc] at hi
  rcases hi with hi | hi
  · exact .inl hi
  · exact .inr (by omega)

/-! ### Rows in rows. -/
structure NestP (j : Nat) (f : Fm) : Prop where
  deep : ∀ m, deepB m f = decide (m ≤ j)
  check : checkR f = 0
  opn : openR f = false
  least : leastR f = 2
theorem NestP.start : NestP 0 (.mk ⟨0, 2, 0, 0, 0⟩ []) := by
  refine ⟨fun m => ?_, by kernel_rfl, by kernel_rfl, by kernel_rfl⟩
  cases m with
  | zero => rfl
  | succ m => rfl
theorem NestP.row {j : Nat} {f : Fm} (h : NestP j f) : NestP (j + 1) (.mk ⟨3, 0, 0, 0, 0⟩ [f]) := by
  refine ⟨fun m => ?_, ?_, ?_, ?_⟩
  · cases m with
    | zero => rfl
    | succ m =>
      show [f].any (deepB m) = _
      simp [h.deep]
  · rw [checkR_mk]
    have e : ownN 3 0 0 0 0 [f].length = 0 := by rfl
    have e2 : checkL [f] = 0 := by rw [checkL, checkL, h.check]; rfl
    have e3 : badF 3 [f].length 0 [f] = false := by rw [badF, badF, badI, h.opn]; rfl
    simp only [e, e2, e3]
    rfl
  · rw [openR_mk]
    simp only [openL, h.opn]
    rfl
  · have e : spanR FH.lo f = 2 := h.least
    rw [leastR, spanR_mk]
    simp only [spanL, e]
    simp [wrap64]
theorem NestP.list {j : Nat} {f : Fm} (h : NestP j f) : NestP (j + 1) (.mk ⟨2, 2, 0, 9, 1⟩ [f]) := by
  refine ⟨fun m => ?_, ?_, ?_, ?_⟩
  · cases m with
    | zero => rfl
    | succ m =>
      show [f].any (deepB m) = _
      simp [h.deep]
  · rw [checkR_mk]
    have e : ownN 2 2 0 9 1 [f].length = 0 := by rfl
    have e2 : checkL [f] = 0 := by rw [checkL, checkL, h.check]; rfl
    have e3 : badF 2 [f].length 0 [f] = false := by rw [badF, badF, badI, h.opn, h.least]; rfl
    simp only [e, e2, e3]
    rfl
  · rw [openR_mk]
    rfl
  · rw [leastR, spanR_mk]
    simp [wrap64]
end Go.Proofs.Ytfcghajnnllmhaa
