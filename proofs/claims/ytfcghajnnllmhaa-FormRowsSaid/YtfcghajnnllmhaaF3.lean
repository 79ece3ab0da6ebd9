/-
  layout.Least, Most, Open.
-/
import Derived.Test.YtfcghajnnllmhaaF2
import Derived.Deep.RegionHeld3
namespace Go.Proofs.Ytfcghajnnllmhaa
open Go.RowKit

theorem i64_wrap (x : Int) : IntKind.i64.wrap x = wrap64 x := by
  have h1 : IntKind.i64.signed = true := rfl
  have h2 : IntKind.i64.bits = 64 := rfl
  simp only [IntKind.wrap, wrap64, h1, h2]
  simp
  split <;> omega
mutual
/-- How many bytes there may be, by a length of each. -/
def spanR (sel : FH → Int) : Fm → Int
  | .mk a l => if a.k = 0 then a.s else if a.k = 1 ∨ a.k = 2 then wrap64 (a.s + sel a) else if a.k = 4 then sel a else if a.k = 5 then a.lo else spanL sel 0 l
def spanL (sel : FH → Int) : Int → List Fm → Int
  | n, [] => n
  | n, f :: t => spanL sel (wrap64 (n + spanR sel f)) t
end
theorem spanR_mk (sel : FH → Int) (a : FH) (l : List Fm) : spanR sel (.mk a l) = if a.k = 0 then a.s else if a.k = 1 ∨ a.k = 2 then wrap64 (a.s + sel a) else if a.k = 4 then sel a else if a.k = 5 then a.lo else spanL sel 0 l := by rw [spanR]
theorem spanL_snoc (sel : FH → Int) (l : List Fm) (f : Fm) (n : Int) : spanL sel n (l ++ [f]) = wrap64 (spanL sel n l + spanR sel f) := by
  induction l generalizing n with
  | nil => rw [List.nil_append, spanL, spanL, spanL]
  | cons g t ih => rw [List.cons_append, spanL, spanL, ih]
def leastR : Fm → Int := spanR FH.lo
def mostR : Fm → Int := spanR FH.hi

set_option maxRecDepth 100000 in
theorem lo1_any (ok : Nat → Prop) (v : Value) (f : Fm) (w : World) (hv : FmR w ok v f) : Calls Try.prog 49 #[v] w fun e w' => e = .returned (.int .i64 f.a.lo) ∧ Kp (fun _ => False) w w' := by
  obtain ⟨sv, rfl, hok, A, c, rfl, _, _, _⟩ := hv
  have hk1 : ∀ o, Kp (fun _ => False) w (w.alloc o) := fun o => (Kp.refl _ _).alloc o
  have HK := Lib.hid hk1
  clear hk1 hok
  go_enter Try.func49, Try.ntmps49
  go_wp2_with fail
  go_ret
  exact ⟨rfl, HK.out _⟩

set_option maxRecDepth 100000 in
set_option maxHeartbeats 3200000 in
theorem span_lo (ok : Nat → Prop) : ∀ (f : Fm) (v : Value) (w : World), FmR w ok v f →
    Calls Try.prog 48 #[v, .func (.func 49) #[] #[]] w fun e w' => e = .returned (.int .i64 (spanR FH.lo f)) ∧ Kp (fun _ => False) w w' := by
  intro f
  induction f using RT.induct with
  | h a l ih =>
  intro v w hv
  have hl1 := fun W hk => lo1_any ok v (.mk a l) W (hv.kp (S := fun _ => False) (w' := W) hk (fun _ _ h => h))
  obtain ⟨r, hr⟩ : ∃ r, spanR FH.lo (.mk a l) = r := ⟨_, rfl⟩
  rw [hr]
  rw [spanR_mk] at hr
  have HL1 := Lib.hid (show ∀ W, Kp (fun _ => False) w W → Calls Try.prog 49 #[v] W fun e w' => e = .returned (.int .i64 a.lo) ∧ Kp (fun _ => False) W w' from hl1)
  clear hl1
  obtain ⟨k, s, lo, hi, st⟩ := a
  obtain ⟨A, c, rfl, h1, h2, hk, hs, hlo, hhi, hst, hfs⟩ := hv.parts
  have hka : Kp (fun _ => False) w (w.alloc (.cells #[.int .i64 k, .int .i64 s, .int .i64 lo, .int .i64 hi, .int .i64 st, .slice A l.length c] 27)) := (Kp.refl _ _).alloc _
  have HK := Lib.hid hka
  have HFS := Lib.hid (hfs.kp hka (fun _ _ h => h))
  have IH := Lib.hid ih
  clear hv hk hs hlo hhi hst hfs hka ih
  by_cases k0 : k = 0
  · subst k0
    rw [if_pos rfl] at hr
    subst hr
    go_enter Try.func48, Try.ntmps48
    go_wp2_with fail
    go_ret
    exact ⟨rfl, HK.out⟩
  rw [if_neg k0] at hr
  by_cases k12 : k = 1 ∨ k = 2
  · rw [if_pos k12] at hr
    have HR := Lib.hid hr
    clear hr k0
    rcases k12 with hk' | hk'
    all_goals
      have HB := Lib.hid (Blk.new w 27 #[.int .i64 k, .int .i64 s, .int .i64 lo, .int .i64 hi, .int .i64 st, .slice A l.length c])
      have HKK := Lib.hid hk'
      have n0 : (k == 0) = false := by simp; omega
      have n12 : ((k == 1) = true) ∨ ((k == 1) = false ∧ (k == 2) = true) := by
        first
          | exact .inl (by simpa using hk')
          | exact .inr ⟨by simp; omega, by simpa using hk'⟩
      clear hk'
      rcases n12 with n1 | ⟨n1, n2⟩
      all_goals
        go_enter Try.func48, Try.ntmps48
        go_wp2_with fail
        obtain ⟨W1, hW1⟩ : ∃ W1, w.alloc (.cells #[.int .i64 k, .int .i64 s, .int .i64 lo, .int .i64 hi, .int .i64 st, .slice A l.length c] 27) = W1 := ⟨_, rfl⟩
        obtain ⟨g, hg⟩ : ∃ g, w.heap.size = g := ⟨_, rfl⟩
        rw [hW1] at HB HK ⊢
        rw [hg] at HB ⊢
        have HCE := Lib.hid (show ∀ W, Kp (fun _ => False) W1 W → W.cell? ⟨g, 0, none⟩ = some (.int .i64 k) ∧ W.cell? ⟨g, 1, none⟩ = some (.int .i64 s) ∧ W.cell? ⟨g, 2, none⟩ = some (.int .i64 lo) ∧ W.cell? ⟨g, 3, none⟩ = some (.int .i64 hi) ∧ W.cell? ⟨g, 4, none⟩ = some (.int .i64 st) ∧ W.cell? ⟨g, 5, none⟩ = some (.slice A l.length c) from fun W hk => by
          have hb := HB.out.kp hk (fun h => h)
          exact ⟨hb.cell 0, hb.cell 1, hb.cell 2, hb.cell 3, hb.cell 4, hb.cell 5⟩)
        have HKR := Lib.hid (Kp.refl (fun _ => False) W1)
        have hr2 : IntKind.i64.wrap (s + lo) = r := by
          rw [i64_wrap]
          exact HR.out
        clear hW1 hg
        go_region_held3 (fun w' => w'.cell? ⟨g, 0, none⟩ = some (.int .i64 k) ∧ w'.cell? ⟨g, 1, none⟩ = some (.int .i64 s) ∧ w'.cell? ⟨g, 2, none⟩ = some (.int .i64 lo) ∧ w'.cell? ⟨g, 3, none⟩ = some (.int .i64 hi) ∧ w'.cell? ⟨g, 4, none⟩ = some (.int .i64 st) ∧ w'.cell? ⟨g, 5, none⟩ = some (.slice A l.length c)) (first | exact HCE.out _ HKR.out | exact HCE.out _ HKR.out.drew) ((refine (HL1.out _ (HK.out.then_ (T := fun _ => False) (by first | exact HKR.out | exact HKR.out.drew) (fun _ h => h.elim))).mono ?_; rintro e w5 ⟨rfl, hk5⟩; have hq := Kp.then_ (a := W1) (S := fun _ => False) (by first | exact HKR.out | exact HKR.out.drew) hk5 (fun _ h => h.elim); clear HKR; have HKR := Lib.hid hq; clear hq hk5))
        go_wp2_with fail
        go_ret
        exact ⟨rfl, HK.out.then_ HKR.out (fun _ h => h.elim)⟩
  rw [if_neg k12] at hr
  by_cases k4 : k = 4
  · subst k4
    rw [if_pos rfl] at hr
    subst hr
    clear k0 k12
    go_enter Try.func48, Try.ntmps48
    go_wp2_with fail
    refine (HL1.out _ HK.out).mono ?_
    rintro e w1 ⟨rfl, hk1⟩
    have hkk := HK.out.then_ hk1 (fun _ h => h.elim)
    go_wp2_with fail
    go_ret
    exact ⟨rfl, hkk⟩
  rw [if_neg k4] at hr
  by_cases k5 : k = 5
  · subst k5
    rw [if_pos rfl] at hr
    subst hr
    clear k0 k12 k4
    go_enter Try.func48, Try.ntmps48
    go_wp2_with fail
    go_ret
    exact ⟨rfl, HK.out⟩
  rw [if_neg k5] at hr
  have n0 : (k == 0) = false := by simpa using k0
  have n1 : (k == 1) = false := by simp; omega
  have n2 : (k == 2) = false := by simp; omega
  have n4 : (k == 4) = false := by simpa using k4
  have n5 : (k == 5) = false := by simpa using k5
  have HR := Lib.hid hr
  clear hr k0 k12 k4 k5
  go_enter Try.func48, Try.ntmps48
  go_wp2_with fail
  go_loopw [35, 5] (fun i nv wr => ∃ j : Nat, j ≤ l.length ∧ i = .int .i64 j ∧ nv = .int .i64 (spanL FH.lo 0 (l.take j)) ∧ Kp (fun _ => False) w wr ∧ FsR wr ok (.slice A l.length c) l) (fun i _ _ => l.length - (intOf i).toNat)
  case atStart => exact ⟨0, Nat.zero_le _, rfl, by simp [spanL], HK.out, HFS.out⟩
  case round =>
    obtain ⟨j, hj, rfl, rfl, hkr, hfr⟩ := hrel
    have HKR := Lib.hid hkr
    have HFR := Lib.hid hfr
    clear hkr
    by_cases hlt : j < l.length
    · obtain ⟨b, off, A2, c2, rfl, hb, hf, q0, q1, q2, q3, q4, q5⟩ := hfr.at_ hlt
      have hmem : l[j] ∈ l := List.getElem_mem hlt
      have hts := List.take_succ_eq_append_getElem hlt
      obtain ⟨f, hfe⟩ : ∃ f, l[j] = f := ⟨_, rfl⟩
      rw [hfe] at hf q0 q1 q2 q3 q4 q5 hmem hts
      have hst := Lib.hid (show spanL FH.lo 0 (l.take (j + 1)) = wrap64 (spanL FH.lo 0 (l.take j) + spanR FH.lo f) by rw [hts, spanL_snoc])
      have hi0 : (0 : Int) ≤ (j : Int) := by omega
      have hi1 : (j : Int) < (l.length : Int) := by omega
      have hka : ∀ o, Kp (fun _ => False) wr (wr.alloc o) := fun o => (Kp.refl _ _).alloc o
      have HC := Lib.hid (fun o => IH.out f hmem _ _ (hf.kp (hka o) (fun _ _ h => h)))
      have HKA := Lib.hid hka
      generalize spanL FH.lo 0 (l.take j) = n at hst
      generalize spanR FH.lo f = x at hst HC
      clear hf hfe hmem hfr hts hka
      go_wp2_with fail
      refine (HC.out _).mono ?_
      rintro e w2 ⟨rfl, hk2⟩
      have HK2 := Lib.hid (HKR.out.then_ ((HKA.out _).then_ hk2 (fun _ h => h.elim)) (fun _ h => h.elim))
      have HF2 := Lib.hid (HFR.out.kp ((HKA.out _).then_ hk2 (fun _ h => h.elim)) (fun _ _ h => h))
      clear hk2
      go_wp2_with fail
      go_roundw
      case rel => exact ⟨j + 1, by omega, by go_num, by rw [hst.out], HK2.out, HF2.out⟩
      case measure => simp [intOf]; omega
    · obtain rfl : j = l.length := by omega
      rw [List.take_of_length_le (Nat.le_refl _)] at *
      clear hfr
      go_wp2_with fail
      go_ret
      exact ⟨by rw [HR.out]; rfl, HKR.out⟩

set_option maxRecDepth 100000 in
theorem hi1_any (ok : Nat → Prop) (v : Value) (f : Fm) (w : World) (hv : FmR w ok v f) : Calls Try.prog 50 #[v] w fun e w' => e = .returned (.int .i64 f.a.hi) ∧ Kp (fun _ => False) w w' := by
  obtain ⟨sv, rfl, hok, A, c, rfl, _, _, _⟩ := hv
  have hk1 : ∀ o, Kp (fun _ => False) w (w.alloc o) := fun o => (Kp.refl _ _).alloc o
  have HK := Lib.hid hk1
  clear hk1 hok
  go_enter Try.func50, Try.ntmps50
  go_wp2_with fail
  go_ret
  exact ⟨rfl, HK.out _⟩

set_option maxRecDepth 100000 in
set_option maxHeartbeats 3200000 in
theorem span_hi (ok : Nat → Prop) : ∀ (f : Fm) (v : Value) (w : World), FmR w ok v f →
    Calls Try.prog 48 #[v, .func (.func 50) #[] #[]] w fun e w' => e = .returned (.int .i64 (spanR FH.hi f)) ∧ Kp (fun _ => False) w w' := by
  intro f
  induction f using RT.induct with
  | h a l ih =>
  intro v w hv
  have hl1 := fun W hk => hi1_any ok v (.mk a l) W (hv.kp (S := fun _ => False) (w' := W) hk (fun _ _ h => h))
  obtain ⟨r, hr⟩ : ∃ r, spanR FH.hi (.mk a l) = r := ⟨_, rfl⟩
  rw [hr]
  rw [spanR_mk] at hr
  have HL1 := Lib.hid (show ∀ W, Kp (fun _ => False) w W → Calls Try.prog 50 #[v] W fun e w' => e = .returned (.int .i64 a.hi) ∧ Kp (fun _ => False) W w' from hl1)
  clear hl1
  obtain ⟨k, s, lo, hi, st⟩ := a
  obtain ⟨A, c, rfl, h1, h2, hk, hs, hlo, hhi, hst, hfs⟩ := hv.parts
  have hka : Kp (fun _ => False) w (w.alloc (.cells #[.int .i64 k, .int .i64 s, .int .i64 lo, .int .i64 hi, .int .i64 st, .slice A l.length c] 27)) := (Kp.refl _ _).alloc _
  have HK := Lib.hid hka
  have HFS := Lib.hid (hfs.kp hka (fun _ _ h => h))
  have IH := Lib.hid ih
  clear hv hk hs hlo hhi hst hfs hka ih
  by_cases k0 : k = 0
  · subst k0
    rw [if_pos rfl] at hr
    subst hr
    go_enter Try.func48, Try.ntmps48
    go_wp2_with fail
    go_ret
    exact ⟨rfl, HK.out⟩
  rw [if_neg k0] at hr
  by_cases k12 : k = 1 ∨ k = 2
  · rw [if_pos k12] at hr
    have HR := Lib.hid hr
    clear hr k0
    rcases k12 with hk' | hk'
    all_goals
      have HB := Lib.hid (Blk.new w 27 #[.int .i64 k, .int .i64 s, .int .i64 lo, .int .i64 hi, .int .i64 st, .slice A l.length c])
      have HKK := Lib.hid hk'
      have n0 : (k == 0) = false := by simp; omega
      have n12 : ((k == 1) = true) ∨ ((k == 1) = false ∧ (k == 2) = true) := by
        first
          | exact .inl (by simpa using hk')
          | exact .inr ⟨by simp; omega, by simpa using hk'⟩
      clear hk'
      rcases n12 with n1 | ⟨n1, n2⟩
      all_goals
        go_enter Try.func48, Try.ntmps48
        go_wp2_with fail
        obtain ⟨W1, hW1⟩ : ∃ W1, w.alloc (.cells #[.int .i64 k, .int .i64 s, .int .i64 lo, .int .i64 hi, .int .i64 st, .slice A l.length c] 27) = W1 := ⟨_, rfl⟩
        obtain ⟨g, hg⟩ : ∃ g, w.heap.size = g := ⟨_, rfl⟩
        rw [hW1] at HB HK ⊢
        rw [hg] at HB ⊢
        have HCE := Lib.hid (show ∀ W, Kp (fun _ => False) W1 W → W.cell? ⟨g, 0, none⟩ = some (.int .i64 k) ∧ W.cell? ⟨g, 1, none⟩ = some (.int .i64 s) ∧ W.cell? ⟨g, 2, none⟩ = some (.int .i64 lo) ∧ W.cell? ⟨g, 3, none⟩ = some (.int .i64 hi) ∧ W.cell? ⟨g, 4, none⟩ = some (.int .i64 st) ∧ W.cell? ⟨g, 5, none⟩ = some (.slice A l.length c) from fun W hk => by
          have hb := HB.out.kp hk (fun h => h)
          exact ⟨hb.cell 0, hb.cell 1, hb.cell 2, hb.cell 3, hb.cell 4, hb.cell 5⟩)
        have HKR := Lib.hid (Kp.refl (fun _ => False) W1)
        have hr2 : IntKind.i64.wrap (s + hi) = r := by
          rw [i64_wrap]
          exact HR.out
        clear hW1 hg
        go_region_held3 (fun w' => w'.cell? ⟨g, 0, none⟩ = some (.int .i64 k) ∧ w'.cell? ⟨g, 1, none⟩ = some (.int .i64 s) ∧ w'.cell? ⟨g, 2, none⟩ = some (.int .i64 lo) ∧ w'.cell? ⟨g, 3, none⟩ = some (.int .i64 hi) ∧ w'.cell? ⟨g, 4, none⟩ = some (.int .i64 st) ∧ w'.cell? ⟨g, 5, none⟩ = some (.slice A l.length c)) (first | exact HCE.out _ HKR.out | exact HCE.out _ HKR.out.drew) ((refine (HL1.out _ (HK.out.then_ (T := fun _ => False) (by first | exact HKR.out | exact HKR.out.drew) (fun _ h => h.elim))).mono ?_; rintro e w5 ⟨rfl, hk5⟩; have hq := Kp.then_ (a := W1) (S := fun _ => False) (by first | exact HKR.out | exact HKR.out.drew) hk5 (fun _ h => h.elim); clear HKR; have HKR := Lib.hid hq; clear hq hk5))
        go_wp2_with fail
        go_ret
        exact ⟨rfl, HK.out.then_ HKR.out (fun _ h => h.elim)⟩
  rw [if_neg k12] at hr
  by_cases k4 : k = 4
  · subst k4
    rw [if_pos rfl] at hr
    subst hr
    clear k0 k12
    go_enter Try.func48, Try.ntmps48
    go_wp2_with fail
    refine (HL1.out _ HK.out).mono ?_
    rintro e w1 ⟨rfl, hk1⟩
    have hkk := HK.out.then_ hk1 (fun _ h => h.elim)
    go_wp2_with fail
    go_ret
    exact ⟨rfl, hkk⟩
  rw [if_neg k4] at hr
  by_cases k5 : k = 5
  · subst k5
    rw [if_pos rfl] at hr
    subst hr
    clear k0 k12 k4
    go_enter Try.func48, Try.ntmps48
    go_wp2_with fail
    go_ret
    exact ⟨rfl, HK.out⟩
  rw [if_neg k5] at hr
  have n0 : (k == 0) = false := by simpa using k0
  have n1 : (k == 1) = false := by simp; omega
  have n2 : (k == 2) = false := by simp; omega
  have n4 : (k == 4) = false := by simpa using k4
  have n5 : (k == 5) = false := by simpa using k5
  have HR := Lib.hid hr
  clear hr k0 k12 k4 k5
  go_enter Try.func48, Try.ntmps48
  go_wp2_with fail
  go_loopw [35, 5] (fun i nv wr => ∃ j : Nat, j ≤ l.length ∧ i = .int .i64 j ∧ nv = .int .i64 (spanL FH.hi 0 (l.take j)) ∧ Kp (fun _ => False) w wr ∧ FsR wr ok (.slice A l.length c) l) (fun i _ _ => l.length - (intOf i).toNat)
  case atStart => exact ⟨0, Nat.zero_le _, rfl, by simp [spanL], HK.out, HFS.out⟩
  case round =>
    obtain ⟨j, hj, rfl, rfl, hkr, hfr⟩ := hrel
    have HKR := Lib.hid hkr
    have HFR := Lib.hid hfr
    clear hkr
    by_cases hlt : j < l.length
    · obtain ⟨b, off, A2, c2, rfl, hb, hf, q0, q1, q2, q3, q4, q5⟩ := hfr.at_ hlt
      have hmem : l[j] ∈ l := List.getElem_mem hlt
      have hts := List.take_succ_eq_append_getElem hlt
      obtain ⟨f, hfe⟩ : ∃ f, l[j] = f := ⟨_, rfl⟩
      rw [hfe] at hf q0 q1 q2 q3 q4 q5 hmem hts
      have hst := Lib.hid (show spanL FH.hi 0 (l.take (j + 1)) = wrap64 (spanL FH.hi 0 (l.take j) + spanR FH.hi f) by rw [hts, spanL_snoc])
      have hi0 : (0 : Int) ≤ (j : Int) := by omega
      have hi1 : (j : Int) < (l.length : Int) := by omega
      have hka : ∀ o, Kp (fun _ => False) wr (wr.alloc o) := fun o => (Kp.refl _ _).alloc o
      have HC := Lib.hid (fun o => IH.out f hmem _ _ (hf.kp (hka o) (fun _ _ h => h)))
      have HKA := Lib.hid hka
      generalize spanL FH.hi 0 (l.take j) = n at hst
      generalize spanR FH.hi f = x at hst HC
      clear hf hfe hmem hfr hts hka
      go_wp2_with fail
      refine (HC.out _).mono ?_
      rintro e w2 ⟨rfl, hk2⟩
      have HK2 := Lib.hid (HKR.out.then_ ((HKA.out _).then_ hk2 (fun _ h => h.elim)) (fun _ h => h.elim))
      have HF2 := Lib.hid (HFR.out.kp ((HKA.out _).then_ hk2 (fun _ h => h.elim)) (fun _ _ h => h))
      clear hk2
      go_wp2_with fail
      go_roundw
      case rel => exact ⟨j + 1, by omega, by go_num, by rw [hst.out], HK2.out, HF2.out⟩
      case measure => simp [intOf]; omega
    · obtain rfl : j = l.length := by omega
      rw [List.take_of_length_le (Nat.le_refl _)] at *
      clear hfr
      go_wp2_with fail
      go_ret
      exact ⟨by rw [HR.out]; rfl, HKR.out⟩

set_option maxRecDepth 100000 in
theorem least_any (ok : Nat → Prop) (v : Value) (f : Fm) (w : World) (hv : FmR w ok v f) : Calls Try.prog 24 #[v] w fun e w' => e = .returned (.int .i64 (leastR f)) ∧ Kp (fun _ => False) w w' := by
  have HC := Lib.hid (fun o => span_lo ok f v (w.alloc o) (hv.kp ((Kp.refl (fun _ => False) w).alloc o) (fun _ _ h => h)))
  obtain ⟨sv, rfl, hok, A, c, rfl, _, _, _⟩ := hv
  have HK := Lib.hid (show ∀ o, Kp (fun _ => False) w (w.alloc o) from fun o => (Kp.refl _ _).alloc o)
  have HR := Lib.hid (show leastR f = spanR FH.lo f from rfl)
  clear hok
  go_enter Try.func24, Try.ntmps24
  go_wp2_with fail
  refine (HC.out _).mono ?_
  rintro e w1 ⟨rfl, hk1⟩
  have hk := (HK.out _).then_ hk1 (fun _ h => h.elim)
  go_wp2_with fail
  go_ret
  exact ⟨by rw [HR.out]; rfl, hk⟩
set_option maxRecDepth 100000 in
theorem most_any (ok : Nat → Prop) (v : Value) (f : Fm) (w : World) (hv : FmR w ok v f) : Calls Try.prog 25 #[v] w fun e w' => e = .returned (.int .i64 (mostR f)) ∧ Kp (fun _ => False) w w' := by
  have HC := Lib.hid (fun o => span_hi ok f v (w.alloc o) (hv.kp ((Kp.refl (fun _ => False) w).alloc o) (fun _ _ h => h)))
  obtain ⟨sv, rfl, hok, A, c, rfl, _, _, _⟩ := hv
  have HK := Lib.hid (show ∀ o, Kp (fun _ => False) w (w.alloc o) from fun o => (Kp.refl _ _).alloc o)
  have HR := Lib.hid (show mostR f = spanR FH.hi f from rfl)
  clear hok
  go_enter Try.func25, Try.ntmps25
  go_wp2_with fail
  refine (HC.out _).mono ?_
  rintro e w1 ⟨rfl, hk1⟩
  have hk := (HK.out _).then_ hk1 (fun _ h => h.elim)
  go_wp2_with fail
  go_ret
  exact ⟨by rw [HR.out]; rfl, hk⟩
end Go.Proofs.Ytfcghajnnllmhaa
