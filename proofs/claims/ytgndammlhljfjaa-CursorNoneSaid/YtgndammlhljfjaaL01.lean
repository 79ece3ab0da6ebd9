/-
  The laws of the cursor: the walks.
-/
import Derived.Test.YtgndammlhljfjaaCur
namespace Go.Proofs.Ytgndammlhljfjaa
open Go.RowKit

/-- Number, of a number that is known. -/
theorem number_at (ok : Nat → Prop) (g : Nat) (l : List UInt8) (a n : Int) (w : World) (hc : Cur w ok g l a) (hok : ¬ ok g) (hl : l.length ≤ 140737488351232) (ha : 0 ≤ a) (hal : a + l.length ≤ 9223372036854775807)
    (got rest : List UInt8) (er x b : Int) (h1 : nn l n = (got, er)) (h2 : (be got : Int) = x) (h3 : l.drop got.length = rest) (h4 : a + got.length = b) :
    Calls Try.prog 17 #[.pointer (some ⟨g, 0, none⟩), .int .i64 n] w fun e w' => e = .returned (.tuple #[.int .u64 x, .int .i64 er]) ∧ Cur w' ok g rest b ∧ Kp (· = g) w w' := by
  refine (number_any ok g l a n w hc hok hl ha hal).mono ?_
  rintro e w' ⟨rfl, hcur, hk⟩
  rw [h1] at hcur ⊢
  exact ⟨by rw [h2], by simpa only [h3, h4] using hcur, hk⟩

theorem alive01 (w : World) : Calls Try.prog 16 #[] w fun e w' => e = .returned (.bool true) ∧ Kp (fun _ => False) w w' := by
  have hb : BR (w.alloc (.cells #[.int .u8 1, .int .u8 2, .int .u8 3, .int .u8 4] 5)) (· = w.heap.size) (.slice (some ⟨w.heap.size, 0, none⟩) 4 4) [1, 2, 3, 4] := BR.lit w _ [1, 2, 3, 4] _ 4 rfl rfl
  have hk0 : Kp (fun _ => False) w (w.alloc (.cells #[.int .u8 1, .int .u8 2, .int .u8 3, .int .u8 4] 5)) := (Kp.refl _ _).alloc _
  go_enter Try.func16, Try.ntmps16
  go_wp2_with fail
  refine (new_any _ _ _ 10 _ hb).mono ?_
  rintro e w1 ⟨g, rfl, hg, hc1, hk1⟩
  have hne : ¬ g = w.heap.size := by simp at hg; omega
  go_wp2_with fail
  refine (number_at _ _ _ _ 2 _ hc1 hne (by simp) (by omega) (by simp) [1, 2] [3, 4] 0 258 12 rfl rfl rfl rfl).mono ?_
  rintro e w2 ⟨rfl, hc2, hk2⟩
  go_wp2_with fail
  refine (sub_ok _ _ _ _ 1 _ hc2 hne (by simp) (by omega) (by simp) (by simp)).mono ?_
  rintro e w3 ⟨g', rfl, hg', hs3, hc3, hk3⟩
  go_wp2_with fail
  refine (number_at _ _ _ _ 2 _ hc3 hne (by simp) (by omega) (by simp) [] [4] 4 0 13 rfl rfl rfl rfl).mono ?_
  rintro e w4 ⟨rfl, hc4, hk4⟩
  have hP : Kp (fun _ => False) w w4 := (hk0.trans (hk1.mono (fun _ _ h => h.elim))).trans (((hk2.trans (hk3.mono fun _ _ h => .inl h)).trans (hk4.mono fun _ _ h => .inl h)).mono (fun i hi h => .inr (by subst h; simp at hg; omega)))
  have hs4 := hs3.kp hk4 (fun i hi => by rintro rfl; exact hne hi) (by have := hc2.lt; omega)
  go_wp2_with fail
  refine (at_any _ g' _ _ _ hs4).mono ?_; rintro e w' ⟨rfl, rfl⟩
  go_wp2_with fail
  refine (end_any _ g' _ _ _ hs4 (by omega) (by simp)).mono ?_; rintro e w' ⟨rfl, rfl⟩
  go_wp2_with fail
  refine (at_any _ g _ _ _ hc4).mono ?_; rintro e w' ⟨rfl, rfl⟩
  go_wp2_with fail
  go_ret
  exact ⟨rfl, hP⟩

theorem none_walk (n : Int) (_hn : (Lit.int .i64 n).wf = true) (w : World) : Calls Try.prog 5 #[.int .i64 n] w fun e w' => e = .returned (.bool true) ∧ Below w.heap.size w w' := by
  go_enter Try.func5, Try.ntmps5
  go_wp2_with (first
    | (go_at_call 17; ((with_reducible refine (number_nil _ _).mono ?_); rintro e w' ⟨rfl, rfl⟩))
    | (go_at_call 21; ((with_reducible refine (take_nil _ _).mono ?_); rintro e w' ⟨rfl, rfl⟩))
    | (go_at_call 23; ((with_reducible refine (sub_nil _ _).mono ?_); rintro e w' ⟨rfl, rfl⟩))
    | (go_at_call 18; ((with_reducible refine (at_nil _).mono ?_); rintro e w' ⟨rfl, rfl⟩))
    | (go_at_call 25; ((with_reducible refine (left_nil _).mono ?_); rintro e w' ⟨rfl, rfl⟩))
    | (go_at_call 24; ((with_reducible refine (end_nil _).mono ?_); rintro e w' ⟨rfl, rfl⟩))
    | (go_at_call 16; ((with_reducible refine (alive01 _).mono ?_); rintro e w' ⟨rfl, hk⟩)))
  go_ret
  exact ⟨rfl, hk.below⟩

end Go.Proofs.Ytgndammlhljfjaa
