/-
  Forms that are made; chapter 04's example.
-/
import Derived.Test.YtfcghajnnllmhaaF5
namespace Go.Proofs.Ytfcghajnnllmhaa
open Go.RowKit

/-- A value that reads as a form, of blocks that there are. -/
def FmW (w : World) (v : Value) (f : Fm) : Prop := FmR w (· < w.heap.size) v f
theorem FmW.kp {w w' : World} {v : Value} {f : Fm} (h : FmW w v f) (hk : Kp (fun _ => False) w w') : FmW w' v f :=
  (FmR.kp h hk (fun _ _ h => h)).mono (fun _ hi => Nat.lt_of_lt_of_le hi hk.size)
theorem FmW.check {w : World} {v : Value} {f : Fm} (h : FmW w v f) : Calls Try.prog 14 #[v] w fun e w' => e = .returned (.int .i64 (if deepB 8 f then 14 else checkR f)) ∧ Kp (fun _ => False) w w' :=
  check_any _ f v w (fun _ h => h) h
theorem FmW.least {w : World} {v : Value} {f : Fm} (h : FmW w v f) : Calls Try.prog 24 #[v] w fun e w' => e = .returned (.int .i64 (leastR f)) ∧ Kp (fun _ => False) w w' := least_any _ v f w h
theorem FmW.most {w : World} {v : Value} {f : Fm} (h : FmW w v f) : Calls Try.prog 25 #[v] w fun e w' => e = .returned (.int .i64 (mostR f)) ∧ Kp (fun _ => False) w w' := most_any _ v f w h
/-- A form without parts. -/
def flat (k s lo hi st : Int) : Value := .agg #[.int .i64 k, .int .i64 s, .int .i64 lo, .int .i64 hi, .int .i64 st, .slice none 0 0]
theorem FmW.flat (w : World) (k s lo hi st : Int) (hk : i64B k) (hs : i64B s) (hlo : i64B lo) (hhi : i64B hi) (hst : i64B st) : FmW w (.agg #[.int .i64 k, .int .i64 s, .int .i64 lo, .int .i64 hi, .int .i64 st, .slice none 0 0]) (.mk ⟨k, s, lo, hi, st⟩ []) :=
  ⟨_, rfl, ⟨hk, hs, hlo, hhi, hst⟩, FsR.nil⟩
theorem b0 : i64B 0 := by unfold i64B; omega
theorem b1 : i64B 1 := by unfold i64B; omega
theorem b2 : i64B 2 := by unfold i64B; omega

set_option maxRecDepth 100000 in
theorem number_any (s : Int) (w : World) : Calls Try.prog 17 #[.int .i64 s] w fun e w' => e = .returned (.agg #[.int .i64 0, .int .i64 s, .int .i64 0, .int .i64 0, .int .i64 0, .slice none 0 0]) ∧ Kp (fun _ => False) w w' := by
  have HK := Lib.hid (show ∀ o, Kp (fun _ => False) w (w.alloc o) from fun o => (Kp.refl _ _).alloc o)
  go_enter Try.func17, Try.ntmps17
  go_wp2_with fail
  refine bodyPost_ret (v := .agg #[.int .i64 0, .int .i64 s, .int .i64 0, .int .i64 0, .int .i64 0, .slice none 0 0]) (by simp [results, Try.results17, go_sem]) rfl ⟨rfl, HK.out _⟩
set_option maxRecDepth 100000 in
theorem opaque_any (s lo hi : Int) (w : World) : Calls Try.prog 15 #[.int .i64 s, .int .i64 lo, .int .i64 hi] w fun e w' => e = .returned (.agg #[.int .i64 1, .int .i64 s, .int .i64 lo, .int .i64 hi, .int .i64 1, .slice none 0 0]) ∧ Kp (fun _ => False) w w' := by
  have HK := Lib.hid (show ∀ o, Kp (fun _ => False) w (w.alloc o) from fun o => (Kp.refl _ _).alloc o)
  go_enter Try.func15, Try.ntmps15
  go_wp2_with fail
  refine bodyPost_ret (v := .agg #[.int .i64 1, .int .i64 s, .int .i64 lo, .int .i64 hi, .int .i64 1, .slice none 0 0]) (by simp [results, Try.results15, go_sem]) rfl ⟨rfl, HK.out _⟩
set_option maxRecDepth 100000 in
theorem rest_any (lo hi : Int) (w : World) : Calls Try.prog 18 #[.int .i64 lo, .int .i64 hi] w fun e w' => e = .returned (.agg #[.int .i64 4, .int .i64 0, .int .i64 lo, .int .i64 hi, .int .i64 0, .slice none 0 0]) ∧ Kp (fun _ => False) w w' := by
  have HK := Lib.hid (show ∀ o, Kp (fun _ => False) w (w.alloc o) from fun o => (Kp.refl _ _).alloc o)
  go_enter Try.func18, Try.ntmps18
  go_wp2_with fail
  refine bodyPost_ret (v := .agg #[.int .i64 4, .int .i64 0, .int .i64 lo, .int .i64 hi, .int .i64 0, .slice none 0 0]) (by simp [results, Try.results18, go_sem]) rfl ⟨rfl, HK.out _⟩
set_option maxRecDepth 100000 in
theorem fixed_any (n : Int) (w : World) : Calls Try.prog 27 #[.int .i64 n] w fun e w' => e = .returned (.agg #[.int .i64 5, .int .i64 0, .int .i64 n, .int .i64 0, .int .i64 0, .slice none 0 0]) ∧ Kp (fun _ => False) w w' := by
  have HK := Lib.hid (show ∀ o, Kp (fun _ => False) w (w.alloc o) from fun o => (Kp.refl _ _).alloc o)
  go_enter Try.func27, Try.ntmps27
  go_wp2_with fail
  refine bodyPost_ret (v := .agg #[.int .i64 5, .int .i64 0, .int .i64 n, .int .i64 0, .int .i64 0, .slice none 0 0]) (by simp [results, Try.results27, go_sem]) rfl ⟨rfl, HK.out _⟩

/-- One form, laid as a slice. -/
theorem FsR.one {w : World} {f : Fm} {A : Option Addr} {c : Nat} (h : FmW w (.agg #[.int .i64 f.a.k, .int .i64 f.a.s, .int .i64 f.a.lo, .int .i64 f.a.hi, .int .i64 f.a.st, .slice A f.l.length c]) f) {W : World} {B : Nat}
    (hk : Kp (fun _ => False) w W) (hB : Blk W B 27 #[.int .i64 f.a.k, .int .i64 f.a.s, .int .i64 f.a.lo, .int .i64 f.a.hi, .int .i64 f.a.st, .slice A f.l.length c]) :
    FsR W (· < W.heap.size) (.slice (some ⟨B, 0, none⟩) 1 1) [f] := by
  refine ⟨_, _, rfl, Nat.le_refl _, by simp, fun _ => ⟨B, 0, rfl, hB.lt, ?_⟩⟩
  rw [TRs]
  obtain ⟨sv, e, ht⟩ := FmR.tr (h.kp hk)
  simp only [Value.agg.injEq, Array.mk.injEq, List.cons.injEq, and_true, true_and] at e
  subst e
  refine ⟨⟨_, ht, fun j u hu => ?_⟩, by rw [TRs]; trivial⟩
  rw [Nat.zero_add, hB.cell]
  simpa using hu

set_option maxRecDepth 100000 in
set_option maxHeartbeats 1600000 in
theorem list_any (s lo hi st : Int) (f : Fm) (A : Option Addr) (c : Nat) (w : World) (hs : i64B s) (hlo : i64B lo) (hhi : i64B hi) (hst : i64B st)
    (hv : FmW w (.agg #[.int .i64 f.a.k, .int .i64 f.a.s, .int .i64 f.a.lo, .int .i64 f.a.hi, .int .i64 f.a.st, .slice A f.l.length c]) f) :
    Calls Try.prog 16 #[.int .i64 s, .int .i64 lo, .int .i64 hi, .int .i64 st, .agg #[.int .i64 f.a.k, .int .i64 f.a.s, .int .i64 f.a.lo, .int .i64 f.a.hi, .int .i64 f.a.st, .slice A f.l.length c]] w
      fun e w' => ∃ B, e = .returned (.agg #[.int .i64 2, .int .i64 s, .int .i64 lo, .int .i64 hi, .int .i64 st, .slice (some ⟨B, 0, none⟩) 1 1]) ∧ FmW w' (.agg #[.int .i64 2, .int .i64 s, .int .i64 lo, .int .i64 hi, .int .i64 st, .slice (some ⟨B, 0, none⟩) 1 1]) (.mk ⟨2, s, lo, hi, st⟩ [f]) ∧ Kp (fun _ => False) w w' := by
  have HK := Lib.hid (show ∀ o1 o2 o3, Kp (fun _ => False) w (((w.alloc o1).alloc o2).alloc o3) from fun o1 o2 o3 => (((Kp.refl _ _).alloc o1).alloc o2).alloc o3)
  have HV := Lib.hid hv
  have HB := Lib.hid (show ∀ o1 o2, Blk (((w.alloc o1).alloc o2).alloc (.cells #[.int .i64 f.a.k, .int .i64 f.a.s, .int .i64 f.a.lo, .int .i64 f.a.hi, .int .i64 f.a.st, .slice A f.l.length c] 27)) (w.heap.size + 2) 27 #[.int .i64 f.a.k, .int .i64 f.a.s, .int .i64 f.a.lo, .int .i64 f.a.hi, .int .i64 f.a.st, .slice A f.l.length c] from fun o1 o2 => by
    have h := Blk.new ((w.alloc o1).alloc o2) 27 #[.int .i64 f.a.k, .int .i64 f.a.s, .int .i64 f.a.lo, .int .i64 f.a.hi, .int .i64 f.a.st, .slice A f.l.length c]
    rw [World.size_alloc, World.size_alloc] at h
    exact h)
  clear hv
  go_enter Try.func16, Try.ntmps16
  go_wp2_with fail
  refine bodyPost_ret (v := .agg #[.int .i64 2, .int .i64 s, .int .i64 lo, .int .i64 hi, .int .i64 st, .slice (some ⟨w.heap.size + 2, 0, none⟩) 1 1]) (by simp [results, Try.results16, go_sem]) rfl ⟨_, rfl, ⟨_, rfl, ⟨b2, hs, hlo, hhi, hst⟩, FsR.one HV.out (HK.out _ _ _) (HB.out _ _)⟩, HK.out _ _ _⟩

set_option maxRecDepth 100000 in
set_option maxHeartbeats 1600000 in
theorem alive04 (w : World) : Calls Try.prog 19 #[] w fun e w' => e = .returned (.bool true) ∧ Kp (fun _ => False) w w' := by
  have e1 : (if deepB 8 (.mk ⟨2, 2, 2, 65534, 2⟩ [.mk ⟨0, 2, 0, 0, 0⟩ []]) then 14 else checkR (.mk ⟨2, 2, 2, 65534, 2⟩ [.mk ⟨0, 2, 0, 0, 0⟩ []])) = 0 := by kernel_rfl
  have e2 : leastR (.mk ⟨2, 2, 2, 65534, 2⟩ [.mk ⟨0, 2, 0, 0, 0⟩ []]) = 4 := by kernel_rfl
  have e3 : mostR (.mk ⟨2, 2, 2, 65534, 2⟩ [.mk ⟨0, 2, 0, 0, 0⟩ []]) = 65536 := by kernel_rfl
  have e4 : (if deepB 8 (.mk ⟨2, 1, 0, 9, 1⟩ [.mk ⟨5, 0, 0, 0, 0⟩ []]) then 14 else checkR (.mk ⟨2, 1, 0, 9, 1⟩ [.mk ⟨5, 0, 0, 0, 0⟩ []])) = 15 := by kernel_rfl
  have bb : ∀ n : Int, 0 ≤ n → n ≤ 100000 → i64B n := fun n h0 h1 => by unfold i64B; omega
  have HL1 := Lib.hid (fun W => list_any 2 2 65534 2 (.mk ⟨0, 2, 0, 0, 0⟩ []) none 0 W (bb _ (by omega) (by omega)) (bb _ (by omega) (by omega)) (bb _ (by omega) (by omega)) (bb _ (by omega) (by omega)) (FmW.flat W 0 2 0 0 0 b0 b2 b0 b0 b0))
  have HL2 := Lib.hid (fun W => list_any 1 0 9 1 (.mk ⟨5, 0, 0, 0, 0⟩ []) none 0 W (bb _ (by omega) (by omega)) (bb _ (by omega) (by omega)) (bb _ (by omega) (by omega)) (bb _ (by omega) (by omega)) (FmW.flat W 5 0 0 0 0 (bb _ (by omega) (by omega)) b0 b0 b0 b0))
  have HC1 := Lib.hid (fun W v (h : FmW W v (.mk ⟨2, 2, 2, 65534, 2⟩ [.mk ⟨0, 2, 0, 0, 0⟩ []])) => e1 ▸ h.check)
  have HC2 := Lib.hid (fun W v (h : FmW W v (.mk ⟨2, 2, 2, 65534, 2⟩ [.mk ⟨0, 2, 0, 0, 0⟩ []])) => e2 ▸ h.least)
  have HC3 := Lib.hid (fun W v (h : FmW W v (.mk ⟨2, 2, 2, 65534, 2⟩ [.mk ⟨0, 2, 0, 0, 0⟩ []])) => e3 ▸ h.most)
  have HC4 := Lib.hid (fun W v (h : FmW W v (.mk ⟨2, 1, 0, 9, 1⟩ [.mk ⟨5, 0, 0, 0, 0⟩ []])) => e4 ▸ h.check)
  clear e1 e2 e3 e4 bb
  go_enter Try.func19, Try.ntmps19
  go_wp2_with fail
  refine (number_any _ _).mono ?_
  rintro e w1 ⟨rfl, hk1⟩
  go_wp2_with fail
  refine (HL1.out _).mono ?_
  rintro e w2 ⟨B, rfl, hf2, hk2⟩
  have hk12 := hk1.then_ hk2 (fun _ h => h.elim)
  have hka := (Kp.refl (fun _ => False) w2).alloc (.cells #[.int .i64 2, .int .i64 2, .int .i64 2, .int .i64 65534, .int .i64 2, .slice (some ⟨B, 0, none⟩) 1 1] 27)
  have hb := Blk.new w2 27 #[.int .i64 2, .int .i64 2, .int .i64 2, .int .i64 65534, .int .i64 2, .slice (some ⟨B, 0, none⟩) 1 1]
  have HK2 := Lib.hid (hk12.then_ hka (fun _ h => h.elim))
  have HF2 := Lib.hid (hf2.kp hka)
  have HB := Lib.hid hb
  clear hk1 hk2 hk12 hf2 hka hb
  go_wp2_with fail
  refine (HC1.out _ _ HF2.out).mono ?_
  rintro e w3 ⟨rfl, hk3⟩
  have hb3 := HB.out.kp hk3 (fun h => h)
  have c0 := hb3.cell 0
  have c1 := hb3.cell 1
  have c2 := hb3.cell 2
  have c3 := hb3.cell 3
  have c4 := hb3.cell 4
  have c5 := hb3.cell 5
  simp at c0 c1 c2 c3 c4 c5
  have HB3 := Lib.hid hb3
  have HK3 := Lib.hid (HK2.out.then_ hk3 (fun _ h => h.elim))
  have HF3 := Lib.hid (HF2.out.kp hk3)
  clear hk3 hb3
  go_wp2_with fail
  refine (HC2.out _ _ HF3.out).mono ?_
  rintro e w4 ⟨rfl, hk4⟩
  have hb4 := HB3.out.kp hk4 (fun h => h)
  have d0 := hb4.cell 0
  have d1 := hb4.cell 1
  have d2 := hb4.cell 2
  have d3 := hb4.cell 3
  have d4 := hb4.cell 4
  have d5 := hb4.cell 5
  simp at d0 d1 d2 d3 d4 d5
  have HK4 := Lib.hid (HK3.out.then_ hk4 (fun _ h => h.elim))
  have HF4 := Lib.hid (HF3.out.kp hk4)
  clear hk4 hb4
  go_wp2_with fail
  refine (HC3.out _ _ HF4.out).mono ?_
  rintro e w5 ⟨rfl, hk5⟩
  have HK5 := Lib.hid (HK4.out.then_ hk5 (fun _ h => h.elim))
  clear hk5
  go_wp2_with fail
  refine (fixed_any _ _).mono ?_
  rintro e w6 ⟨rfl, hk6⟩
  have HK6 := Lib.hid (HK5.out.then_ hk6 (fun _ h => h.elim))
  clear hk6
  go_wp2_with fail
  refine (HL2.out _).mono ?_
  rintro e w7 ⟨B7, rfl, hf7, hk7⟩
  have HK7 := Lib.hid (HK6.out.then_ hk7 (fun _ h => h.elim))
  have HF7 := Lib.hid hf7
  clear hk7 hf7
  go_wp2_with fail
  refine (HC4.out _ _ HF7.out).mono ?_
  rintro e w8 ⟨rfl, hk8⟩
  go_wp2_with fail
  go_ret
  exact ⟨rfl, HK7.out.then_ hk8 (fun _ h => h.elim)⟩
end Go.Proofs.Ytfcghajnnllmhaa
