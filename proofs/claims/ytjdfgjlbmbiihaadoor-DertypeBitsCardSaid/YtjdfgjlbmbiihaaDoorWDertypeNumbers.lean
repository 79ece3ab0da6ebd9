/-
  DertypeNumbers: the walk.
-/
import Derived.Test.YtjdfgjlbmbiihaaDoorTy11
import Derived.Test.YtjdfgjlbmbiihaaDoorTy9
import Derived.Test.YtjdfgjlbmbiihaaDoorTy6
import Derived.Test.YtjdfgjlbmbiihaaDoorOpen
namespace Go.Proofs.YtjdfgjlbmbiihaaDoor
open Go.RowKit

set_option maxRecDepth 100000 in
set_option maxHeartbeats 6400000 in
theorem dnumbers_part (w : World) (n : Int) (h0 : -9223372036854775808 ≤ n) (h1 : n < 9223372036854775808) (a : UInt8) (ha : a.toNat = if n < 0 then 255 else 0) (hc : (n < 0 ∧ a = 255) ∨ (0 ≤ n ∧ a = 0)) :
    Calls Tryd.prog 11 #[.int .i64 n] w fun e w' => e = .returned (.bool true) ∧ Below w.heap.size w w' := by
  have hb := bytes_any n h0 h1 w
  have hi := num8_int 7 n (by omega) (by omega)
  have hw := num8_ahead 7 n (by omega) (by omega) a ha
  have hs := num8_sgn 7 n (by omega) (by omega)
  have hl := (num8_len 7 n).2
  generalize num8 7 n = L at hb hi hw hs hl
  have r1 : numR L = (n, 0) := by rw [numR, if_neg (by simp [hi]), if_neg (by omega), hs]
  have r2 : numR ([a] ++ L) = (0, 13) := by rw [numR, if_pos (by simpa using hw)]
  have HN1 := Lib.hid (fun ok v W hv => r1 ▸ dnumber_any ok v L W hv (by omega))
  have HN2 := Lib.hid (fun ok v W hv => r2 ▸ dnumber_any ok v ([a] ++ L) W hv (by simp; omega))
  have HC2 := Lib.hid (fun ok v W hv => by have := check2 ok v L W hv (by omega); rw [hi] at this; exact this)
  have HC10 := Lib.hid (fun ok v W hv => by have := check10 ok v L W hv (by omega); rw [hi] at this; exact this)
  have HC0 := Lib.hid (fun W => check2 (fun _ => False) (.slice none 0 0) [] W BR.nil (by simp))
  have HB := Lib.hid hb
  have hlit : ∀ W : World, Own (W.alloc (.cells #[.int .u8 (a.toNat : Int)] 5)) (W.heap.size ≤ ·) 5 1 (.slice (some ⟨W.heap.size, 0, none⟩) 1 1) 1 (bc [a]) := fun W => Own.lit W [a] _ 1 W.heap.size rfl rfl (Nat.le_refl _) (by decide)
  have HLIT := Lib.hid hlit
  clear hb hi hw hs r1 r2 ha hlit
  rcases hc with ⟨hn, rfl⟩ | ⟨hn, rfl⟩
  · have HL2 := Lib.hid (show ∀ W : World, Own (W.alloc (.cells #[.int .u8 255] 5)) (W.heap.size ≤ ·) 5 1 (.slice (some ⟨W.heap.size, 0, none⟩) 1 1) 1 (bc [255]) from HLIT.out)
    clear HLIT
    have hd : decide (n < 0) = true := by simpa using hn
    go_enter Tryd.func11, Tryd.ntmps11
    go_wp2_with fail
    refine HB.out.mono ?_
    rintro e w1 ⟨A, c, rfl, hown, hk1⟩
    have hbr := (hown.mono (fun i hi _ => hi) : Own w1 (· < w1.heap.size) _ _ _ _ _).br rfl
    have HBR := Lib.hid hbr
    clear hown hbr
    go_wp2_with fail
    refine (HN1.out _ _ w1 HBR.out).mono ?_
    rintro e w2 ⟨rfl, hk2⟩
    have hs2 := hk2.size
    have hs12 := Nat.le_trans hk1.size hs2
    have hka : Kp (fun _ => False) w1 (w2.alloc (.cells #[.int .u8 255] 5)) := hk2.alloc _
    have HB2 := Lib.hid (HBR.out.kp hka (fun _ _ h => h))
    have hk12 := hk1.then_ hka (fun _ h => h.elim)
    go_wp2_with (at_builtin; refine app_bytes rfl (.tmp 20) (.tmp 21) rfl w2.heap.size _ 1 _ [255] rfl rfl (HL2.out w2) _ A L.length c L rfl rfl HB2.out (1 + L.length) rfl (by omega) (by simp) ?_; intro A2 c2 W2 o2 q2; have O2 := Lib.hid o2; have HB3 := Lib.hid (HB2.out.kp q2 (fun i h1 h2 => Nat.lt_irrefl _ (Nat.lt_of_lt_of_le h1 (Nat.le_trans hs2 h2)))); have K2 := Lib.hid (hk12.then_ q2 (fun i hi => .inr (Nat.le_trans hs12 hi))); clear o2 q2)
    refine (HN2.out _ _ W2 (O2.out.br (by simp; omega))).mono ?_
    rintro e w3 ⟨rfl, hk3⟩
    go_wp2_with fail
    refine (alive10 w3).mono ?_
    rintro e w4 ⟨rfl, hk4⟩
    have hk34 := hk3.then_ hk4 (fun _ h => h.elim)
    go_wp2_with fail
    refine (HC2.out _ _ w4 (HB3.out.kp hk34 (fun _ _ h => h))).mono ?_
    rintro e w5 ⟨rfl, hk5⟩
    have hk35 := hk34.then_ hk5 (fun _ h => h.elim)
    go_wp2_with fail
    refine (HC10.out _ _ w5 (HB3.out.kp hk35 (fun _ _ h => h))).mono ?_
    rintro e w6 ⟨rfl, hk6⟩
    have hk36 := hk35.then_ hk6 (fun _ h => h.elim)
    go_wp2_with fail
    refine (HC0.out w6).mono ?_
    rintro e w7 ⟨rfl, hk7⟩
    have hk37 := hk36.then_ hk7 (fun _ h => h.elim)
    go_wp2_with fail
    go_ret
    exact ⟨rfl, (K2.out.then_ hk37 (fun _ h => h.elim)).below⟩
  · have HL2 := Lib.hid (show ∀ W : World, Own (W.alloc (.cells #[.int .u8 0] 5)) (W.heap.size ≤ ·) 5 1 (.slice (some ⟨W.heap.size, 0, none⟩) 1 1) 1 (bc [0]) from HLIT.out)
    clear HLIT
    have hd : decide (n < 0) = false := by simpa using hn
    go_enter Tryd.func11, Tryd.ntmps11
    go_wp2_with fail
    refine HB.out.mono ?_
    rintro e w1 ⟨A, c, rfl, hown, hk1⟩
    have hbr := (hown.mono (fun i hi _ => hi) : Own w1 (· < w1.heap.size) _ _ _ _ _).br rfl
    have HBR := Lib.hid hbr
    clear hown hbr
    go_wp2_with fail
    refine (HN1.out _ _ w1 HBR.out).mono ?_
    rintro e w2 ⟨rfl, hk2⟩
    have hs2 := hk2.size
    have hs12 := Nat.le_trans hk1.size hs2
    have hka : Kp (fun _ => False) w1 (w2.alloc (.cells #[.int .u8 0] 5)) := hk2.alloc _
    have HB2 := Lib.hid (HBR.out.kp hka (fun _ _ h => h))
    have hk12 := hk1.then_ hka (fun _ h => h.elim)
    go_wp2_with (at_builtin; refine app_bytes rfl (.tmp 20) (.tmp 21) rfl w2.heap.size _ 1 _ [0] rfl rfl (HL2.out w2) _ A L.length c L rfl rfl HB2.out (1 + L.length) rfl (by omega) (by simp) ?_; intro A2 c2 W2 o2 q2; have O2 := Lib.hid o2; have HB3 := Lib.hid (HB2.out.kp q2 (fun i h1 h2 => Nat.lt_irrefl _ (Nat.lt_of_lt_of_le h1 (Nat.le_trans hs2 h2)))); have K2 := Lib.hid (hk12.then_ q2 (fun i hi => .inr (Nat.le_trans hs12 hi))); clear o2 q2)
    refine (HN2.out _ _ W2 (O2.out.br (by simp; omega))).mono ?_
    rintro e w3 ⟨rfl, hk3⟩
    go_wp2_with fail
    refine (alive10 w3).mono ?_
    rintro e w4 ⟨rfl, hk4⟩
    have hk34 := hk3.then_ hk4 (fun _ h => h.elim)
    go_wp2_with fail
    refine (HC2.out _ _ w4 (HB3.out.kp hk34 (fun _ _ h => h))).mono ?_
    rintro e w5 ⟨rfl, hk5⟩
    have hk35 := hk34.then_ hk5 (fun _ h => h.elim)
    go_wp2_with fail
    refine (HC10.out _ _ w5 (HB3.out.kp hk35 (fun _ _ h => h))).mono ?_
    rintro e w6 ⟨rfl, hk6⟩
    have hk36 := hk35.then_ hk6 (fun _ h => h.elim)
    go_wp2_with fail
    refine (HC0.out w6).mono ?_
    rintro e w7 ⟨rfl, hk7⟩
    have hk37 := hk36.then_ hk7 (fun _ h => h.elim)
    go_wp2_with fail
    go_ret
    exact ⟨rfl, (K2.out.then_ hk37 (fun _ h => h.elim)).below⟩

/-- No table is asked for. -/
theorem tab0 {p : Prop} (_h : p) : True := trivial
theorem dnumbers_walk (w : World) (_tab : True) (n : Int) (hn : (Lit.int .i64 n).wf = true) :
    Calls Tryd.prog 11 #[.int .i64 n] w fun e w' => e = .returned (.bool true) ∧ Below w.heap.size w w' := by
  obtain ⟨q0, q1⟩ := bounds_i64 hn
  by_cases h : n < 0
  · exact dnumbers_part w n q0 (by omega) 255 (by rw [if_pos h]; rfl) (.inl ⟨h, rfl⟩)
  · exact dnumbers_part w n q0 (by omega) 0 (by rw [if_neg h]; rfl) (.inr ⟨by omega, rfl⟩)
end Go.Proofs.YtjdfgjlbmbiihaaDoor
