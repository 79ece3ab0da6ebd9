/-
  DertagBack: the walk.
-/
import Derived.Test.YtjdfgjlbmbiihaaDoorL09
import Derived.Test.YtjdfgjlbmbiihaaDoorDl2
import Derived.Test.YtjdfgjlbmbiihaaDoorOpen09
namespace Go.Proofs.YtjdfgjlbmbiihaaDoor
open Go.RowKit

set_option maxRecDepth 100000 in
set_option maxHeartbeats 1600000 in
theorem dback_walk (w : World) (ht : Tab w) (c t : Int) (m : Bool) (n : Int) (v : Value) (l : List UInt8) (hv : BR w (· < w.heap.size) v l) (hl : l.length ≤ 140737488351232) :
    Calls Tryd.prog 6 #[.agg #[.int .i64 c, .int .i64 t, .bool m, .int .i64 n], v] w fun e w' => e = .returned (.bool true) ∧ Below w.heap.size w w' := by
  obtain ⟨A, cp, rfl, hlc, hr⟩ := id hv
  have k0 : Kp (fun _ => False) w (w.alloc (.cells #[.int .i64 c, .int .i64 t, .bool m, .int .i64 n] 24)) := (Kp.refl _ _).alloc _
  have b0 := Blk.new w 24 #[.int .i64 c, .int .i64 t, .bool m, .int .i64 n]
  have hput := fun W hW => put_any W hW c t m n
  unfold PutP at hput
  by_cases hbad : kindB c t m = false ∨ n < 0 ∨ 16777215 < n
  · obtain ⟨r, hpt, hr0⟩ : ∃ r : Int, pt c t m n = ([], r) ∧ r ≠ 0 := by
      cases hk : kindB c t m
      · exact ⟨13, by rw [pt, hk]; rfl, by decide⟩
      · rw [hk] at hbad
        simp only [Bool.true_eq_false, false_or] at hbad
        exact ⟨5, by rw [pt, hk, if_pos rfl, if_pos hbad], by decide⟩
    have hne : (r != 0) = true := by simpa using hr0
    simp only [hpt] at hput
    have HP := Lib.hid hput
    have K0 := Lib.hid k0
    clear hput hpt k0 b0 hbad hr0 hv hr
    go_enter Tryd.func6, Tryd.ntmps6
    go_wp2_with fail
    refine (HP.out _ (ht.kp K0.out)).mono ?_
    rintro e w1 ⟨A1, c1, rfl, hb1, hk1⟩
    have k1 := K0.out.then_ hk1 (fun _ h => h.elim)
    clear hb1
    go_wp2_with fail
    refine (alive09 _ (ht.kp k1)).mono ?_
    rintro e w2 ⟨rfl, hk2⟩
    go_wp2_with fail
    go_ret
    exact ⟨by simp, (k1.then_ hk2 (fun _ h => h.elim)).below⟩
  · have hk : kindB c t m = true := by
      cases h : kindB c t m
      · exact absurd (.inl h) hbad
      · rfl
    have hn : ¬ (n < 0 ∨ 16777215 < n) := fun h => hbad (.inr h)
    clear hbad
    obtain ⟨N, hN⟩ := Int.eq_ofNat_of_zero_le (show 0 ≤ n by omega)
    have hpt : pt c t m n = (hb c t m :: lenB N, 0) := by rw [pt, hk, if_pos rfl, if_neg hn, hN]; rfl
    have hrd : rd (hb c t m :: lenB N ++ l) = ((c, t, m, n), ((hb c t m :: lenB N).length : Int), 0) := by
      rw [hN]
      exact rd_put hk (by omega) l
    have hcut : ∀ i, i < (hb c t m :: lenB N).length → rd ((hb c t m :: lenB N).take i) = ((0, 0, false, 0), (i : Int), 4) := fun i hi => rd_cut hk i hi
    have hql : 2 ≤ (hb c t m :: lenB N).length ∧ (hb c t m :: lenB N).length ≤ 5 := by
      have := lenB_len N
      simp only [List.length_cons]
      omega
    generalize hb c t m :: lenB N = q at hpt hrd hcut hql
    simp only [hpt] at hput
    have HP := Lib.hid hput
    have R := Lib.hid (rdV_of hrd)
    have HC := Lib.hid (fun i hi => rdV_of (hcut i hi))
    have K0 := Lib.hid k0
    have B0 := Lib.hid b0
    have HV := Lib.hid hv
    obtain ⟨hq2, hq5⟩ := hql
    have hg1 : decide ((q.length : Int) < 2) = false := by simp; omega
    have hg2 : decide ((5 : Int) < (q.length : Int)) = false := by simp; omega
    clear hput hpt hrd hcut k0 b0 hv hr hk hn hN
    go_enter Tryd.func6, Tryd.ntmps6
    go_wp2_with fail
    refine (HP.out _ (ht.kp K0.out)).mono ?_
    rintro e w1 ⟨A1, c1, rfl, hb1, hk1⟩
    have k1 := K0.out.then_ hk1 (fun _ h => h.elim)
    have HB0 := Lib.hid (B0.out.kp hk1 (fun h => h))
    have ke : Kp (fun _ => False) w1 (w1.alloc (.cells #[] 5)) := (Kp.refl _ _).alloc _
    have HN := Lib.hid (Own.lit w1 [] #[] 0 w1.heap.size rfl rfl (Nat.le_refl _) (by simp [maxLen]))
    have HQ := Lib.hid (hb1.kp ke (fun _ _ h => h))
    have HB1 := Lib.hid hb1
    have KE := Lib.hid ke
    have HX := Lib.hid (fun W (hk : Kp (fun _ => False) w W) => HV.out.kp hk (fun _ _ h => h))
    clear hb1 ke
    go_wp2_with (first
      | (at_builtin; refine app_bytes rfl (.tmp 28) (.tmp 29) rfl w1.heap.size (some ⟨w1.heap.size, 0, none⟩) 0 0 [] rfl rfl HN.out _ A1 q.length c1 q rfl rfl HQ.out q.length (by omega) (by omega) (by simp) ?_; intro A2 c2 W2 o2 q2; have O2 := Lib.hid o2; have K2 := Lib.hid (KE.out.then_ (S := fun _ => False) q2 (fun i hi => .inr hi)); have Z2 := Lib.hid q2.size; clear o2 q2)
      | (at_builtin; refine app_bytes rfl (.tmp 30) (.tmp 31) rfl w1.heap.size A2 q.length c2 ([] ++ q) rfl rfl O2.out _ A l.length cp l rfl rfl (HX.out W2 (k1.then_ K2.out (fun _ h => h.elim))) (q.length + l.length) rfl (by omega) (by have := K2.out.size; omega) ?_; intro A3 c3 W3 o3 q3; have O3 := Lib.hid o3; have K3 := Lib.hid (K2.out.then_ (S := fun _ => False) q3 (fun i hi => .inr hi)); clear o3 q3))
    have k3 := k1.then_ K3.out (fun _ h => h.elim)
    have hbr3 := O3.out.br (by simp)
    rw [show [] ++ q ++ l = q ++ l from by simp] at hbr3
    refine (read_anyB _ _ _ (q ++ l) hbr3 (ht.kp k3) (by simp; omega)).mono ?_
    rw [R.out]
    rintro e w4 ⟨rfl, hk4⟩
    have k4 := (k3.then_ hk4 (fun _ h => h.elim)).alloc (.cells #[.int .i64 c, .int .i64 t, .bool m, .int .i64 n] 24)
    have b4 := Blk.new w4 24 #[.int .i64 c, .int .i64 t, .bool m, .int .i64 n]
    have hb4 := ((HB0.out.kp K3.out (fun h => h)).kp hk4 (fun h => h)).alloc (.cells #[.int .i64 c, .int .i64 t, .bool m, .int .i64 n] 24)
    obtain ⟨d0, d1, d2, d3⟩ := hb4.cells4
    obtain ⟨f0, f1, f2, f3⟩ := b4.cells4
    have K4 := Lib.hid k4
    have hq1 : Kp (fun _ => False) w1 (w4.alloc (.cells #[.int .i64 c, .int .i64 t, .bool m, .int .i64 n] 24)) := (K3.out.then_ hk4 (fun _ h => h.elim)).alloc _
    have HQ4 := Lib.hid (HB1.out.kp hq1 (fun _ _ h => h))
    clear hbr3 k3 k4 b4 hb4 hq1
    go_wp2_with fail
    generalize hW4 : w4.alloc (.cells #[.int .i64 c, .int .i64 t, .bool m, .int .i64 n] 24) = W4 at d0 d1 d2 d3 f0 f1 f2 f3 K4 HQ4 ⊢
    clear hW4
    go_wp2_with fail
    go_loopw [60] (fun i wr => ∃ k : Nat, k ≤ q.length ∧ i = .int .i64 k ∧ BR wr (fun i => (w.alloc (.cells #[.int .i64 c, .int .i64 t, .bool m, .int .i64 n] 24)).heap.size ≤ i) (.slice A1 q.length c1) q ∧ Kp (fun _ => False) w wr) (fun i _ => q.length - (intOf i).toNat)
    case atStart => exact ⟨0, Nat.zero_le _, rfl, HQ4.out, K4.out⟩
    case round =>
      obtain ⟨k, hk, rfl, hqr, hkr⟩ := hrel
      by_cases hlt : k < q.length
      · obtain ⟨A', c', e', hc', hr'⟩ := id hqr
        injection e' with e1 e2 e3
        subst e1 e3
        have hcut := BR.head2 (k := k) hr' hc' (by omega)
        have HCUT := Lib.hid hcut
        have hkc : (k : Int) ≤ (c1 : Int) := by omega
        have HR := Lib.hid (HC.out k hlt)
        have HQR := Lib.hid hqr
        clear hcut hqr hr' hc'
        go_wp2_with fail
        refine (read_anyB _ _ _ (q.take k) HCUT.out (ht.kp hkr) (by simp; omega)).mono ?_
        rw [HR.out]
        rintro e w6 ⟨rfl, hk6⟩
        have k6 := (hkr.then_ hk6 (fun _ h => h.elim)).alloc (.cells #[.int .i64 0, .int .i64 0, .bool false, .int .i64 0] 24)
        have HQ6 := Lib.hid (HQR.out.kp (hk6.alloc (.cells #[.int .i64 0, .int .i64 0, .bool false, .int .i64 0] 24)) (fun _ _ h => h))
        have K6 := Lib.hid k6
        clear k6
        go_wp2_with fail
        go_roundw
        case rel => exact ⟨k + 1, by omega, by go_num, HQ6.out, K6.out⟩
        case measure => simp [intOf]; omega
      · obtain rfl : k = q.length := by omega
        clear hqr
        go_wp2_with fail
        refine (alive09 _ (ht.kp hkr)).mono ?_
        rintro e w6 ⟨rfl, hk6⟩
        go_wp2_with fail
        go_ret
        exact ⟨by simp, (hkr.then_ hk6 (fun _ h => h.elim)).below⟩

theorem dback_walk2 (w : World) (ht : Tab w) (v0 : Value) (x : Int × Int × Bool × Int) (hv0 : v0 = headV x) (v : Value) (l : List UInt8) (hv : BR w (· < w.heap.size) v l) (hl : l.length ≤ 140737488351232) :
    Calls Tryd.prog 6 #[v0, v] w fun e w' => e = .returned (.bool true) ∧ Below w.heap.size w w' := by
  subst hv0
  exact dback_walk w ht _ _ _ _ v l hv hl
end Go.Proofs.YtjdfgjlbmbiihaaDoor
