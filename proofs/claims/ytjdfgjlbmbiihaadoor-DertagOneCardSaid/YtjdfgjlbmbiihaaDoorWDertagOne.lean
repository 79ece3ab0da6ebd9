/-
  DertagOne: the walk.
-/
import Derived.Test.YtjdfgjlbmbiihaaDoorL09
import Derived.Test.YtjdfgjlbmbiihaaDoorDl
import Derived.Deep.RegionWith
import Derived.Deep.RegionHeld3
import Derived.Deep.DrawnRows
namespace Go.Proofs.YtjdfgjlbmbiihaaDoor
open Go.RowKit
attribute [local go_sem ↓] Go.wp_at_zero Go.wp_at_succ

/-- 'b[:k]' of bytes. -/
theorem BR.head {w : World} {ok : Nat → Prop} {A : Option Addr} {c k : Nat} {l : List UInt8} (hr : Rd w ok 1 A l.length (bc l)) (hlc : l.length ≤ c) (hk : k ≤ l.length) : BR w ok (.slice A k c) (l.take k) := by
  have h := hr.take (k := k) hk
  rw [Nat.mul_one, bc_take] at h
  have hlen : (l.take k).length = k := by simp; omega
  exact ⟨A, c, by rw [hlen], by omega, by rw [hlen]; exact h⟩

set_option maxRecDepth 100000 in
set_option maxHeartbeats 1600000 in
theorem done_walk (w : World) (ht : Tab w) (v : Value) (l : List UInt8) (hv : BR w (· < w.heap.size) v l) (hl : l.length ≤ 140737488351232) :
    Calls Tryd.prog 7 #[v] w fun e w' => e = .returned (.bool true) ∧ Below w.heap.size w w' := by
  obtain ⟨c, t, m, n, k, er, hq⟩ : ∃ c t m n k er, rd l = ((c, t, m, n), k, er) := ⟨_, _, _, _, _, _, rfl⟩
  have R := Lib.hid (rdV_of hq)
  have hb := rd_back l _ _ _ hq
  clear hq
  obtain ⟨A, cp, rfl, hlc, hr⟩ := id hv
  rcases hb with ⟨he, h0, hk0, hkl⟩ | ⟨rfl, K, rfl, hK, hpt⟩
  · simp only [hd0, Prod.mk.injEq] at h0
    obtain ⟨rfl, rfl, rfl, rfl⟩ := h0
    have hne : (er != 0) = true := by simpa using he
    have h1 : decide (0 ≤ k) = true := by simpa using hk0
    have h2 : decide (k ≤ (l.length : Int)) = true := by simpa using hkl
    clear he
    go_enter Tryd.func7, Tryd.ntmps7
    go_wp2_with fail
    refine (read_any _ _ _ l hv ht hl).mono ?_
    rw [R.out]
    rintro e w1 ⟨rfl, hk1⟩
    have k1 := hk1.alloc (.cells #[.int .i64 0, .int .i64 0, .bool false, .int .i64 0] 24)
    have b1 := Blk.new w1 24 #[.int .i64 0, .int .i64 0, .bool false, .int .i64 0]
    go_wp2_with fail
    generalize hW1 : w1.alloc (.cells #[.int .i64 0, .int .i64 0, .bool false, .int .i64 0] 24) = W1 at k1 b1 ⊢
    refine (alive09 W1 (ht.kp k1)).mono ?_
    rintro e w3 ⟨rfl, hk3⟩
    obtain ⟨c0, c1, c2, c3⟩ := (b1.kp hk3 (fun h => h)).cells4
    have K3 := Lib.hid (k1.then_ hk3 (fun _ h => h.elim))
    go_wp2_with fail
    go_ret
    exact ⟨by simp, K3.out.below⟩
  · simp only at hpt
    have hput := fun W hW => put_any W hW c t m n
    unfold PutP at hput
    simp only [hpt, List.length_take, Nat.min_eq_left hK] at hput
    have HPut := Lib.hid hput
    clear hput hpt
    go_enter Tryd.func7, Tryd.ntmps7
    go_wp2_with fail
    refine (read_any _ _ _ l hv ht hl).mono ?_
    rw [R.out]
    rintro e w1 ⟨rfl, hk1⟩
    have k1 := hk1.alloc (.cells #[.int .i64 c, .int .i64 t, .bool m, .int .i64 n] 24)
    go_wp2_with fail
    generalize hW1 : w1.alloc (.cells #[.int .i64 c, .int .i64 t, .bool m, .int .i64 n] 24) = W1 at k1 ⊢
    refine (HPut.out W1 (ht.kp k1)).mono ?_
    rintro e w2 ⟨A2, cp2, rfl, hb2, hk2⟩
    have k2 := k1.then_ hk2 (fun _ h => h.elim)
    have hsz := k1.size
    go_wp2_with fail
    have hcut := (BR.head hr hlc hK).kp k2 (fun _ _ h => h)
    have hKi : (K : Int) ≤ (l.length : Int) := by omega
    have hKd : decide ((K : Int) ≤ (l.length : Int)) = true := decide_eq_true hKi
    have hKc : K ≤ cp := by omega
    have hKc' : (K : Int) ≤ (cp : Int) := by omega
    have hK0 : (0 : Int) ≤ (K : Int) := by omega
    have HB2 := Lib.hid hb2
    have HCUT := Lib.hid hcut
    have K2 := Lib.hid k2
    clear hb2 hcut HPut R hv hr
    have hS1 : ∀ W, Kp (fun _ => False) w2 W → (convert 22 9 (.slice A2 K cp2)).run Tryd.prog W = .ok (.string (str (l.take K))) W := fun W hk => run_str (e := 5) Tryd.underlying22 Tryd.underlying5 Tryd.underlying9 (HB2.out.kp hk (fun _ _ h => h))
    have hS2 : ∀ W, Kp (fun _ => False) w2 W → (convert 22 9 (.slice A K cp)).run Tryd.prog W = .ok (.string (str (l.take K))) W := fun W hk => run_str (e := 5) Tryd.underlying22 Tryd.underlying5 Tryd.underlying9 (HCUT.out.kp hk (fun _ _ h => h))
    generalize str (l.take K) = gs at hS1 hS2
    have HS1 := Lib.hid hS1
    have HS2 := Lib.hid hS2
    have HAL := Lib.hid (fun W (hk : Kp (fun _ => False) w2 W) => alive09 W (ht.kp (k1.then_ hk2 (fun _ h => h.elim) |>.then_ hk (fun _ h => h.elim))))
    clear hS1 hS2 HB2 HCUT
    generalize hln : l.length = ln at hKi hKd hlc
    have HLN := Lib.hid hln
    clear hln
    clear k1 hk1 hk2
    go_region_held3 (fun w' => (convert 22 9 (.slice A2 K cp2)).run Tryd.prog w' = .ok (.string gs) w' ∧ (convert 22 9 (.slice A K cp)).run Tryd.prog w' = .ok (.string gs) w') (first | exact ⟨hs1, hs2⟩ | exact ⟨HS1.out _ ((Kp.refl _ _).drew), HS2.out _ ((Kp.refl _ _).drew)⟩) ((go_at_call 16; (refine (HAL.out _ ((Kp.refl _ _).drew)).mono ?_); rintro e w3 ⟨rfl, hk3⟩; have hs1 := HS1.out w3 (((Kp.refl _ _).drew).then_ hk3 (fun _ h => h.elim)); have hs2 := HS2.out w3 (((Kp.refl _ _).drew).then_ hk3 (fun _ h => h.elim))))
    go_wp2_with fail
    go_ret
    exact ⟨by simp, (K2.out.drew.then_ hk3 (fun _ h => h.elim)).below⟩
end Go.Proofs.YtjdfgjlbmbiihaaDoor
