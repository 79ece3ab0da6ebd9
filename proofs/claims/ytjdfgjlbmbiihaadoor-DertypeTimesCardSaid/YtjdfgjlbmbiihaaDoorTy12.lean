/-
  dertype.bits, dertype.Bits: a bit string's bytes.
-/
import Derived.Test.YtjdfgjlbmbiihaaDoorTy3
import Derived.Test.YtjdfgjlbmbiihaaDoorPt10
import Derived.IntWalk
import Derived.Deep.RegionHeld3
namespace Go.Proofs.YtjdfgjlbmbiihaaDoor
open Go.RowKit

theorem u8_low (y : Nat) (k : Nat) (hk : k ≤ 8) (hy : y < 256) : bits .and .u8 (y : Int) ((2 ^ k - 1 : Nat) : Int) = ((y % 2 ^ k : Nat) : Int) := by
  have h2 : 2 ^ k ≤ 2 ^ 8 := Nat.pow_le_pow_right (by omega) hk
  rw [u8_and_nat _ _ hy (by omega), Nat.and_two_pow_sub_one_eq_mod]

set_option maxRecDepth 100000 in
set_option maxHeartbeats 3200000 in
theorem bits_any (ok : Nat → Prop) (v : Value) (l : List UInt8) (w : World) (hv : BR w ok v l) (hl : l.length ≤ 140737488355328) :
    Calls Tryd.prog 38 #[v] w fun e w' => e = .returned (.bool (bitsB l)) ∧ Kp (fun _ => False) w w' := by
  obtain ⟨A, c, rfl, hc, hr⟩ := id hv
  by_cases h0 : l.length = 0
  · have hB : bitsB l = false := by rw [bitsB, h0]; rfl
    rw [hB]
    rw [h0] at hc ⊢
    clear hB hr hv h0
    go_enter Tryd.func38, Tryd.ntmps38
    go_wp2_with fail
    go_ret
    exact ⟨rfl, Kp.refl _ _⟩
  obtain ⟨n, hn⟩ : ∃ n, l.length = n + 1 := ⟨l.length - 1, by omega⟩
  obtain ⟨g, off, rfl, _, hc0⟩ := hr.byte (k := 0) (by omega)
  obtain ⟨g', off', ee, _, hcn⟩ := hr.byte (k := n) (by omega)
  simp only [Option.some.injEq, Addr.mk.injEq, and_true] at ee
  obtain ⟨rfl, rfl⟩ := ee
  have q0 := bt_at (l := l) (i := 0) (by omega)
  have qn := bt_at (l := l) (i := n) (by omega)
  rw [← q0] at hc0
  rw [← qn] at hcn
  have b0 := bt_lt l 0
  have bn := bt_lt l n
  obtain ⟨r, hr0⟩ : ∃ r, bitsB l = r := ⟨_, rfl⟩
  rw [hr0]
  rw [bitsB, show l.length - 1 = n by omega, hn] at hr0
  have hnn : n = 0 → bt l n = bt l 0 := by rintro rfl; rfl
  rw [hn] at hc ⊢
  clear hr hv q0 qn h0
  obtain ⟨x, hx⟩ : ∃ x, bt l 0 = x := ⟨_, rfl⟩
  obtain ⟨y, hy⟩ : ∃ y, bt l n = y := ⟨_, rfl⟩
  rw [hx] at hc0 b0 hr0 hnn
  rw [hy] at hcn bn hr0 hnn
  rw [Nat.add_zero] at hc0
  clear hx hy
  have g1 : ((n : Int) + 1 == 0) = false := by simp <;> omega
  have g2 : (0 : Int) < (n : Int) + 1 := by omega
  have g6 : decide ((0 : Int) < (n : Int) + 1) = true := by simp <;> omega
  have hn63 : (n : Int) + 1 ≤ 140737488355328 := by omega
  by_cases h7 : 7 < x
  · have hr1 : r = false := by rw [← hr0, decide_eq_false (by omega : ¬ x ≤ 7)]; simp
    subst hr1
    have g3 : decide ((7 : Int) < (x : Int)) = true := by simp <;> omega
    clear hr0 hnn hn hl
    go_enter Tryd.func38, Tryd.ntmps38
    go_wp2_with fail
    go_ret
    exact ⟨rfl, Kp.refl _ _⟩
  have g3 : decide ((7 : Int) < (x : Int)) = false := by simp <;> omega
  by_cases h1 : n = 0
  · subst h1
    obtain rfl := hnn rfl
    rw [if_pos rfl] at hr0
    by_cases hx0 : y = 0
    · subst hx0
      have hr1 : r = true := by rw [← hr0]; rfl
      subst hr1
      clear hr0 hnn hn hl h7
      go_enter Tryd.func38, Tryd.ntmps38
      go_wp2_with fail
      go_ret
      exact ⟨rfl, Kp.refl _ _⟩
    · have hr1 : r = false := by rw [← hr0, decide_eq_false hx0]; simp
      subst hr1
      have g4 : ((y : Int) == 0) = false := by simp <;> omega
      clear hr0 hnn hn hl h7
      go_enter Tryd.func38, Tryd.ntmps38
      go_wp2_with fail
      go_ret
      exact ⟨rfl, Kp.refl _ _⟩
  have g4 : ((n : Int) + 1 == 1) = false := by simp <;> omega
  have g5 : ((n : Int) == 0) = false := by simp <;> omega
  rw [if_neg (by omega)] at hr0
  have hr1 : decide (y % 2 ^ x = 0) = r := by
    rw [← hr0, decide_eq_true (by omega : x ≤ 7)]
    simp
  obtain ⟨z, hz⟩ : ∃ z, y % 2 ^ x = z := ⟨_, rfl⟩
  have e1 := u8_low y x (by omega) bn
  rw [hz] at e1 hr1
  have hr2 : ((z : Int) == 0) = r := by
    rw [← hr1]
    by_cases hz0 : z = 0
    · subst hz0; rfl
    · rw [decide_eq_false hz0]; simp; omega
  have s1 : IntKind.i64.wrap ((n : Int) + 1 - 1) = (n : Int) := by
    rw [show (n : Int) + 1 - 1 = n by omega]
    exact IntWalk.i64_in _ (by omega)
  have s2 : (0 : Int) ≤ (n : Int) := by omega
  have s3 : (n : Int) < (n : Int) + 1 := by omega
  have hx8 : x = 0 ∨ x = 1 ∨ x = 2 ∨ x = 3 ∨ x = 4 ∨ x = 5 ∨ x = 6 ∨ x = 7 := by omega
  clear hr0 hr1 hnn hn hl h7 h1 hz g3 b0
  rcases hx8 with rfl | rfl | rfl | rfl | rfl | rfl | rfl | rfl <;>
  · simp at e1
    go_enter Tryd.func38, Tryd.ntmps38
    go_wp2_with fail
    go_quiet (fail)
    go_wp2_with fail
    go_ret
    exact ⟨rfl, (Kp.refl _ _).drewN _⟩

/-! ### bytes.Clone. -/
set_option maxRecDepth 100000 in
theorem clone_any (ok : Nat → Prop) (v : Value) (l : List UInt8) (w : World) (hv : BR w ok v l) (hl : l.length ≤ 140737488355328) :
    Calls Tryd.prog 39 #[v] w fun e w' => ∃ A c, e = .returned (.slice A l.length c) ∧ Own w' (w.heap.size ≤ ·) 5 1 (.slice A l.length c) l.length (bc l) ∧ Kp (fun _ => False) w w' := by
  obtain ⟨A, c, rfl, hc, hr⟩ := id hv
  cases A with
  | none =>
    have h0 : l = [] := by
      rcases l with _ | ⟨a, l⟩
      · rfl
      · obtain ⟨ad, e, _⟩ := hr.2 (by simp)
        cases e
    subst h0
    have HN := fun W c => Lib.run_eql_slice_nil (P := Tryd.prog) W 22 5 none 0 c 0 0 Tryd.underlying22
    go_enter Tryd.func39, Tryd.ntmps39
    go_wp2_with fail
    go_ret
    exact ⟨none, 0, rfl, Own.nil, Kp.refl _ _⟩
  | some ad =>
    have HN := fun W => Lib.run_eql_slice_nil (P := Tryd.prog) W 22 5 (some ad) l.length c 0 0 Tryd.underlying22
    have ka : Kp (fun _ => False) w (w.alloc (.cells #[] 5)) := (Kp.refl _ _).alloc _
    have HV := Lib.hid (hv.kp ka (fun _ _ h => h))
    clear hr hv
    have HO := Lib.hid (Own.lit w [] #[] 0 w.heap.size rfl rfl (Nat.le_refl _) (by decide))
    have hz := ka.size
    go_enter Tryd.func39, Tryd.ntmps39
    go_wp2_with (at_builtin; refine app_bytes rfl (.tmp 5) (.tmp 6) rfl w.heap.size _ 0 _ [] rfl rfl HO.out _ (some ad) l.length c l rfl rfl HV.out l.length (by omega) hl hz ?_; intro A2 c2 W2 o2 q2; have O2 := Lib.hid o2; have K2 := Lib.hid (ka.then_ q2 (fun i hi => .inr hi)); clear o2 q2)
    go_ret
    exact ⟨A2, c2, rfl, O2.out, K2.out⟩

/-- What Bits tells. -/
def bitsR (l : List UInt8) : List UInt8 × Nat × Int := if bitsB l = true then (l.drop 1, bt l 0, 0) else ([], 0, 13)
theorem bitsB_pos {l : List UInt8} (h : bitsB l = true) : 0 < l.length := by
  simp only [bitsB, Bool.and_eq_true, decide_eq_true_eq] at h
  exact h.1.1

set_option maxRecDepth 100000 in
set_option maxHeartbeats 1600000 in
theorem dbits_any (ok : Nat → Prop) (v : Value) (l : List UInt8) (w : World) (hv : BR w ok v l) (hl : l.length ≤ 140737488355328) :
    Calls Tryd.prog 27 #[v] w fun e w' => ∃ A n c, e = .returned (.tuple #[.slice A n c, .int .i64 (bitsR l).2.1, .int .i64 (bitsR l).2.2]) ∧ BR w' (w.heap.size ≤ ·) (.slice A n c) (bitsR l).1 ∧ (bitsR l).1.length = n ∧ Kp (fun _ => False) w w' := by
  have HI := Lib.hid (bits_any ok v l w hv hl)
  cases hb : bitsB l
  · have e : bitsR l = ([], 0, 13) := by rw [bitsR, if_neg (by simp [hb])]
    rw [e]
    rw [hb] at HI
    clear hb e hv
    go_enter Tryd.func27, Tryd.ntmps27
    go_wp2_with fail
    refine HI.out.mono ?_
    rintro e w1 ⟨rfl, hk1⟩
    go_wp2_with fail
    go_ret3
    exact ⟨none, 0, 0, rfl, BR.nil, rfl, hk1⟩
  · have e : bitsR l = (l.drop 1, bt l 0, 0) := by rw [bitsR, if_pos hb]
    have hp := bitsB_pos hb
    rw [hb] at HI
    rw [e]
    obtain ⟨A, c, rfl, hc, hr⟩ := id hv
    obtain ⟨n, hn⟩ : ∃ n, l.length = n + 1 := ⟨l.length - 1, by omega⟩
    have hld : (l.drop 1).length = n := by simp; omega
    have q0 := bt_at (l := l) (i := 0) (by omega)
    obtain ⟨g, off, rfl, hok, hcx⟩ := hr.byte (k := 0) (by omega)
    clear hcx
    have hsub := BR.sub (ok := ok) hr hc (i := 1) (j := l.length) (by omega) (Nat.le_refl _)
    rw [hn, show n + 1 - 1 = n by omega, List.take_of_length_le (by omega)] at hsub
    obtain ⟨D, hD⟩ : ∃ D, l.drop 1 = D := ⟨_, rfl⟩
    obtain ⟨x, hx⟩ : ∃ x, bt l 0 = x := ⟨_, rfl⟩
    have hxb : x < 256 := by rw [← hx]; exact bt_lt l 0
    rw [hD] at hsub hld
    rw [hD, hx]
    have hcl : ∀ W, Kp (fun _ => False) w W → Calls Tryd.prog 39 #[.slice (if c = 1 then some ⟨g, off, none⟩ else some ⟨g, off + 1, none⟩) n (c - 1)] W fun e w' => ∃ A c, e = .returned (.slice A n c) ∧ Own w' (W.heap.size ≤ ·) 5 1 (.slice A n c) n (bc D) ∧ Kp (fun _ => False) W w' := by
      intro W hk
      have h1 := hsub.kp hk (fun _ _ h => h)
      have := clone_any ok _ D W h1 (by omega)
      rw [hld] at this
      exact this
    have HCL := Lib.hid hcl
    have HR := Lib.hid hr
    have hcell : ∀ W, Kp (fun _ => False) w W → W.cell? ⟨g, off, none⟩ = some (.int .u8 (x : Int)) := by
      intro W hk
      obtain ⟨g', off', ee, _, h2⟩ := (HR.out.kp hk (fun _ _ h => h)).byte (k := 0) (by omega)
      simp only [Option.some.injEq, Addr.mk.injEq, and_true] at ee
      obtain ⟨rfl, rfl⟩ := ee
      rw [← q0, hx] at h2
      exact h2
    have HCE := Lib.hid hcell
    have hx0 : w.cell? ⟨g, off, none⟩ = some (.int .u8 (x : Int)) := hcell w (Kp.refl _ _)
    rw [hn] at hc hl HI ⊢
    clear hcell hcl hsub hr hv q0 hx hD e hb hn HR hp hok
    show Calls Tryd.prog 27 #[.slice (some ⟨g, off, none⟩) (n + 1) c] w fun e w' => ∃ A n c, e = .returned (.tuple #[.slice A n c, .int .i64 (x : Int), .int .i64 0]) ∧ BR w' (w.heap.size ≤ ·) (.slice A n c) D ∧ D.length = n ∧ Kp (fun _ => False) w w'
    have wx : IntKind.i64.wrap (x : Int) = (x : Int) := IntWalk.i64_in _ (by omega)
    have z1 : (1 : Int) ≤ (n : Int) + 1 := by omega
    have z2 : (n : Int) + 1 ≤ (c : Int) := by omega
    by_cases h1 : c = 1
    · subst h1
      obtain rfl : n = 0 := by omega
      have HCL2 := Lib.hid (show ∀ W, Kp (fun _ => False) w W → Calls Tryd.prog 39 #[.slice (some ⟨g, off, none⟩) 0 0] W fun e w' => ∃ A c, e = .returned (.slice A 0 c) ∧ Own w' (W.heap.size ≤ ·) 5 1 (.slice A 0 c) 0 (bc D) ∧ Kp (fun _ => False) W w' from HCL.out)
      clear HCL
      go_enter Tryd.func27, Tryd.ntmps27
      go_wp2_with fail
      refine HI.out.mono ?_
      rintro e w1 ⟨rfl, hk1⟩
      have hx1 := HCE.out w1 hk1
      go_wp2_with fail
      go_region_held3 (fun w' => w'.cell? ⟨g, off, none⟩ = some (.int .u8 (x : Int))) (first | go_keep | exact hx2) (first | (go_at_call 39; ((refine (HCL2.out _ (hk1.drew)).mono ?_); rintro e w2 ⟨A2, c2, rfl, ho2, hk2⟩; have hx2 : w2.cell? ⟨g, off, none⟩ = some (.int .u8 (x : Int)) := HCE.out w2 (hk1.drew.then_ hk2 (fun _ h => h.elim)); have HO2 := Lib.hid ho2; have HK2 := Lib.hid (hk1.drew.then_ hk2 (fun _ h => h.elim)); clear ho2 hk2)))
      go_wp2_with fail
      go_ret3
      exact ⟨A2, 0, c2, rfl, (HO2.out.mono (fun i _ hi => Nat.le_trans hk1.size hi)).br hld, hld, HK2.out⟩
    · have HCL2 := Lib.hid (show ∀ W, Kp (fun _ => False) w W → Calls Tryd.prog 39 #[.slice (some ⟨g, off + 1, none⟩) n (c - 1)] W fun e w' => ∃ A c, e = .returned (.slice A n c) ∧ Own w' (W.heap.size ≤ ·) 5 1 (.slice A n c) n (bc D) ∧ Kp (fun _ => False) W w' from by
        have := HCL.out
        rwa [if_neg h1] at this)
      clear HCL
      go_enter Tryd.func27, Tryd.ntmps27
      go_wp2_with fail
      refine HI.out.mono ?_
      rintro e w1 ⟨rfl, hk1⟩
      have hx1 := HCE.out w1 hk1
      go_wp2_with fail
      go_region_held3 (fun w' => w'.cell? ⟨g, off, none⟩ = some (.int .u8 (x : Int))) (first | go_keep | exact hx2) (first | (go_at_call 39; ((refine (HCL2.out _ (hk1.drew)).mono ?_); rintro e w2 ⟨A2, c2, rfl, ho2, hk2⟩; have hx2 : w2.cell? ⟨g, off, none⟩ = some (.int .u8 (x : Int)) := HCE.out w2 (hk1.drew.then_ hk2 (fun _ h => h.elim)); have HO2 := Lib.hid ho2; have HK2 := Lib.hid (hk1.drew.then_ hk2 (fun _ h => h.elim)); clear ho2 hk2)))
      go_wp2_with fail
      go_ret3
      exact ⟨A2, n, c2, rfl, (HO2.out.mono (fun i _ hi => Nat.le_trans hk1.size hi)).br hld, hld, HK2.out⟩
end Go.Proofs.YtjdfgjlbmbiihaaDoor
