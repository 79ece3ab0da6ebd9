/-
  The laws of the builder: what they share.
-/
import Derived.Test.YtgndammlhljfjaaBld5
import Derived.Deep.RegionWith
namespace Go.Proofs.Ytgndammlhljfjaa
open Go.RowKit

/-- All that is new since the law began may be the builder's. -/
theorem BStep.base {B g most : Nat} {bs : List UInt8} {ps : List (Nat × Nat)} {w w' : World} {e : Ending} (h : BStep (fun i => B ≤ i) g bs most ps w e w') (hB : B ≤ w.heap.size) :
    e = .returned (.int .i64 0) ∧ Bld w' (fun i => B ≤ i) g bs most ps ∧ Kp (fun i => B ≤ i) w w' := by
  obtain ⟨h1, h2, h3⟩ := h
  exact ⟨h1, h2.mono (fun i _ hi => hi.elim id (fun h => Nat.le_trans hB h)), h3⟩
theorem BStep.up {ok : Nat → Prop} {g most : Nat} {bs : List UInt8} {ps : List (Nat × Nat)} {w w' : World} {e : Ending} (h : BStep ok g bs most ps w e w') (hup : ∀ i, w.heap.size ≤ i → ok i) :
    e = .returned (.int .i64 0) ∧ Bld w' ok g bs most ps ∧ Kp ok w w' := by
  obtain ⟨h1, h2, h3⟩ := h
  exact ⟨h1, h2.mono (fun i _ hi => hi.elim id (hup i)), h3⟩
theorem str_toL (l : List UInt8) : (str l).toList = l := (ByteArray.toList_eq _).trans (str_toList l)
theorem Bld.base {B g most : Nat} {bs : List UInt8} {ps : List (Nat × Nat)} {w : World} (h : Bld w (· = g) g bs most ps) (hg : B ≤ g) : Bld w (fun i => B ≤ i) g bs most ps := h.mono (fun i _ hi => by subst hi; exact hg)
theorem kp_base {w0 w w' : World} (h0 : Kp (fun _ => False) w0 w) (h : Kp (fun i => w0.heap.size ≤ i) w w') : Kp (fun _ => False) w0 w' := h0.then_ h (fun _ hi => .inr hi)

theorem and_255 (y : Int) (n : Nat) (hy : y = n) (hn : n < 18446744073709551616) : bits .and .u64 y 255 = ((n % 256 : Nat) : Int) := by
  subst hy
  rw [show (255 : Int) = ((255 : Nat) : Int) from rfl, u64_and_nat _ _ hn (by omega)]
  rw [show (255 : Nat) = 2 ^ 8 - 1 from rfl, Nat.and_two_pow_sub_one_eq_mod]
theorem beB_one (y : Nat) : beB 1 (y % 256) = [UInt8.ofNat y] := by
  simp only [beB, List.nil_append]
  congr 1
  apply UInt8.toNat_inj.1
  simp
theorem bdone_at (ok : Nat → Prop) (g : Nat) (bs : List UInt8) (most n : Nat) (w : World) (hb : Bld w ok g bs most []) (hn : bs.length = n) :
    Calls Try.prog 31 #[.pointer (some ⟨g, 0, none⟩)] w fun e w' => ∃ A c, e = .returned (.tuple #[.slice A n c, .int .i64 0]) ∧ n ≤ c ∧ BR w' (fun i => w.heap.size ≤ i) (.slice A n c) bs ∧ Bld w' ok g bs most [] ∧ Kp (fun _ => False) w w' := by
  subst hn
  exact bdone_any ok g bs most w hb

theorem Bld.kp_new {ok : Nat → Prop} {g most : Nat} {bs : List UInt8} {ps : List (Nat × Nat)} {w w' : World} (h : Bld w ok g bs most ps) (hk : Kp (fun _ => False) w w') : Bld w' ok g bs most ps := h.kp hk (fun _ _ h => h)

theorem alive02 (w : World) : Calls Try.prog 27 #[] w fun e w' => e = .returned (.bool true) ∧ Kp (fun _ => False) w w' := by
  go_enter Try.func27, Try.ntmps27
  go_wp2_with fail
  refine (bnew_ok 9 (by omega) _).mono ?_
  rintro e w1 ⟨g, rfl, hg, hb1, hk1⟩
  have hb1 := hb1.base hg
  have hz1 := hk1.size
  go_wp2_with fail
  refine (bnumber_ok _ g [] 9 [] 1 9 (by omega) _ hb1 (by decide) (by decide) (by decide)).mono ?_
  intro e w2 hst
  obtain ⟨rfl, hb2, hk2⟩ := hst.base hz1
  have hk2 := kp_base hk1 hk2
  have hz2 := hk2.size
  go_wp2_with fail
  refine (bopen_ok _ g [9] 9 [] 2 (by omega) (by omega) _ hb2 (by decide) (by decide)).mono ?_
  intro e w3 hst
  obtain ⟨rfl, hb3, hk3⟩ := hst.base hz2
  have hk3 := kp_base hk2 hk3
  have hz3 := hk3.size
  have hbr : BR (w3.alloc (.cells #[.int .u8 7, .int .u8 8] 5)) (· = w3.heap.size) (.slice (some ⟨w3.heap.size, 0, none⟩) 2 2) [7, 8] := BR.lit w3 _ [7, 8] _ 2 rfl rfl
  have hka : Kp (fun _ => False) w3 (w3.alloc (.cells #[.int .u8 7, .int .u8 8] 5)) := (Kp.refl _ _).alloc _
  have hb3a := hb3.kp hka (fun _ _ h => h)
  have hk3a := hk3.then_ hka (fun _ h => h.elim)
  go_wp2_with fail
  refine (bbytes_ok _ _ g [9, 0, 0] [7, 8] 9 [(3, 2)] _ _ hb3a hbr (by decide)).mono ?_
  intro e w4 hst
  obtain ⟨rfl, hb4, hk4⟩ := hst.base hk3a.size
  have hk4 := kp_base hk3a hk4
  have hz4 := hk4.size
  go_wp2_with fail
  refine (bclose_ok _ g [9, 0, 0, 7, 8] 9 [] 3 2 (by omega) (by omega) _ hb4 (by omega) (by decide) (by decide) (by decide)).mono ?_
  intro e w5 hst
  obtain ⟨rfl, hb5, hk5⟩ := hst.base hz4
  have hk5 := kp_base hk4 hk5
  go_wp2_with fail
  refine (bdone_any _ g [9, 0, 2, 7, 8] 9 _ hb5).mono ?_
  rintro e w6 ⟨A, c, rfl, hlc, hb, hb6, hk6⟩
  have hs : (convert 22 9 (.slice A 5 c)).run Try.prog w6 = .ok (.string (str [9, 0, 2, 7, 8])) w6 := run_str (e := 5) Try.underlying22 Try.underlying5 Try.underlying9 hb
  have hk7 := hk5.then_ hk6 (fun _ h => h.elim)
  have hsl : ((str [9, 0, 2, 7, 8]).toList == [9, 0, 2, 7, 8]) = true := by decide +kernel
  go_wp2_with fail
  go_ret
  exact ⟨rfl, hk7⟩

/-! ### BuilderNone -/
theorem bnone_walk (w : World) (most : Int) (_h0 : (Lit.int .i64 most).wf = true) (size : Int) (_h1 : (Lit.int .i64 size).wf = true) (x : Int) (_h2 : (Lit.int .u64 x).wf = true) :
    Calls Try.prog 12 #[.int .i64 most, .int .i64 size, .int .u64 x] w fun e w' => e = .returned (.bool true) ∧ Below w.heap.size w w' := by
  by_cases hm : most < 0 ∨ 1073741824 < most
  · have hm2 : (most < 0) ∨ ¬ (most < 0) ∧ 1073741824 < most := by omega
    have HM := Lib.hid hm
    clear hm
    rcases hm2 with hm2 | ⟨hm2, hm3⟩
    all_goals
      go_enter Try.func12, Try.ntmps12
      go_wp2_with (first
        | (go_at_call 31; ((with_reducible refine (bdone_nil _).mono ?_); rintro e w' ⟨rfl, rfl⟩))
        | (go_at_call 29; ((with_reducible refine (bnumber_nil _ _ _).mono ?_); rintro e w' ⟨rfl, rfl⟩))
        | (go_at_call 28; ((with_reducible refine (bbytes_nil _ _).mono ?_); rintro e w' ⟨rfl, rfl⟩))
        | (go_at_call 30; ((with_reducible refine (bopen_nil _ _).mono ?_); rintro e w' ⟨rfl, rfl⟩))
        | (go_at_call 39; ((with_reducible refine (bclose_nil _).mono ?_); rintro e w' ⟨rfl, rfl⟩))
        | (go_at_call 32; ((with_reducible refine (blen_nil _).mono ?_); rintro e w' ⟨rfl, rfl⟩))
        | (go_at_call 38; ((with_reducible refine (bdeep_nil _).mono ?_); rintro e w' ⟨rfl, rfl⟩))
        | (go_at_call 26; ((with_reducible refine (bnew_bad most HM.out _).mono ?_); rintro e w' ⟨rfl, rfl⟩))
        | (go_at_call 27; ((with_reducible refine (alive02 _).mono ?_); rintro e w2 ⟨rfl, hk2⟩)))
      go_ret
      exact ⟨rfl, (((Kp.refl (fun _ => False) w).alloc _).then_ hk2 (fun _ h => h.elim)).below⟩
  · obtain ⟨m, rfl⟩ := Int.eq_ofNat_of_zero_le (show 0 ≤ most by omega)
    have hm' : m ≤ 1073741824 := by omega
    go_enter Try.func12, Try.ntmps12
    go_wp2_with (first
      | (go_at_call 31; ((with_reducible refine (bdone_nil _).mono ?_); rintro e w' ⟨rfl, rfl⟩))
      | (go_at_call 29; ((with_reducible refine (bnumber_nil _ _ _).mono ?_); rintro e w' ⟨rfl, rfl⟩))
      | (go_at_call 28; ((with_reducible refine (bbytes_nil _ _).mono ?_); rintro e w' ⟨rfl, rfl⟩))
      | (go_at_call 30; ((with_reducible refine (bopen_nil _ _).mono ?_); rintro e w' ⟨rfl, rfl⟩))
      | (go_at_call 39; ((with_reducible refine (bclose_nil _).mono ?_); rintro e w' ⟨rfl, rfl⟩))
      | (go_at_call_of 32 (Value.pointer none); ((with_reducible refine (blen_nil _).mono ?_); rintro e w' ⟨rfl, rfl⟩))
      | (go_at_call_of 38 (Value.pointer none); ((with_reducible refine (bdeep_nil _).mono ?_); rintro e w' ⟨rfl, rfl⟩)))
    refine (bnew_ok m hm' _).mono ?_
    rintro e w1 ⟨g, rfl, hg, hb1, hk1⟩
    go_wp2_with fail
    refine (alive02 _).mono ?_
    rintro e w2 ⟨rfl, hk2⟩
    have hb2 := hb1.kp hk2 (fun _ _ h => h)
    have hk : Kp (fun _ => False) w w2 := (((Kp.refl (fun _ => False) w).alloc (.cells #[.int .u8 1] 5)).then_ hk1 (fun _ h => h.elim)).then_ hk2 (fun _ h => h.elim)
    go_wp2_with (first
      | (go_at_call 32; ((with_reducible refine (blen_any _ g _ _ _ _ hb2).mono ?_); rintro e w' ⟨rfl, rfl⟩))
      | (go_at_call 38; ((with_reducible refine (bdeep_any _ g _ _ _ _ hb2).mono ?_); rintro e w' ⟨rfl, rfl⟩)))
    go_ret
    exact ⟨rfl, hk.below⟩

end Go.Proofs.Ytgndammlhljfjaa
