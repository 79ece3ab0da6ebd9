/-
  DertypeBits: the walk.
-/
import Derived.Test.YtjdfgjlbmbiihaaDoorLib4
import Derived.Test.YtjdfgjlbmbiihaaDoorTy18
import Derived.Test.YtjdfgjlbmbiihaaDoorTy6
import Derived.Test.YtjdfgjlbmbiihaaDoorOpen
import Derived.Test.YtjdfgjlbmbiihaaDoorWDertypeNumbers
import Derived.RegionTactic
import Derived.ChangeAlike
namespace Go.Proofs.YtjdfgjlbmbiihaaDoor
open Go.RowKit

theorem bitsR_nil : bitsR [] = ([], 0, 13) := by decide
theorem bitsR_0 : bitsR [0] = ([], 0, 0) := by decide
theorem bitsR_odd (u : UInt8) (h : u.toNat ≠ 0) : bitsR [u] = ([], 0, 13) := by
  have e : bitsB [u] = false := by
    have e0 : bt [u] 0 = u.toNat := rfl
    rw [bitsB, e0]
    simp [h]
  rw [bitsR, if_neg (by simp [e])]
theorem bc_at {l : List UInt8} {i : Nat} (h : i < l.length) : (bc l)[i]? = some (.int .u8 (bt l i : Int)) := by
  rw [bt_at h, bc, List.getElem?_map, List.getElem?_eq_getElem h]
  rfl
theorem u8_clr_ : ∀ k : Fin 8, ∀ y : Fin 256, bits .andNot .u8 (y.val : Int) (((2 : Int) ^ k.val - 1) % 256) = ((y.val - y.val % 2 ^ k.val : Nat) : Int) := by decide +kernel
theorem u8_clr (k y : Nat) (hk : k < 8) (hy : y < 256) : ∃ z : Nat, bits .andNot .u8 (y : Int) (((2 : Int) ^ k - 1) % 256) = (z : Int) ∧ z < 256 ∧ z % 2 ^ k = 0 := by
  refine ⟨y - y % 2 ^ k, u8_clr_ ⟨k, hk⟩ ⟨y, hy⟩, by omega, ?_⟩
  have h := Nat.div_add_mod y (2 ^ k)
  rw [show y - y % 2 ^ k = 2 ^ k * (y / 2 ^ k) by omega]
  exact Nat.mul_mod_right _ _
theorem u8_orq_ : ∀ k q : Fin 8, ∀ z : Fin 256, q.val < k.val → z.val % 2 ^ k.val = 0 →
    bits .or .u8 (z.val : Int) ((2 : Int) ^ q.val % 256) = ((bits .or .u8 (z.val : Int) ((2 : Int) ^ q.val % 256)).toNat : Int) ∧ (bits .or .u8 (z.val : Int) ((2 : Int) ^ q.val % 256)).toNat < 256 ∧ (bits .or .u8 (z.val : Int) ((2 : Int) ^ q.val % 256)).toNat % 2 ^ k.val ≠ 0 := by decide +kernel
theorem u8_orq (k q z : Nat) (hk : k < 8) (hq : q < k) (hz : z < 256) (h0 : z % 2 ^ k = 0) : ∃ x : Nat, bits .or .u8 (z : Int) ((2 : Int) ^ q % 256) = (x : Int) ∧ x < 256 ∧ x % 2 ^ k ≠ 0 :=
  ⟨_, u8_orq_ ⟨k, hk⟩ ⟨q, by omega⟩ ⟨z, hz⟩ hq h0⟩
theorem bc_set (l : List UInt8) (i z : Nat) (hz : z < 256) : (bc l).set i (.int .u8 (z : Int)) = bc (l.set i (UInt8.ofNat z)) := by
  rw [bc, bc, List.map_set, UInt8.toNat_ofNat', show z % 2 ^ 8 = z by omega]
theorem bt_set (l : List UInt8) (i j z : Nat) (hz : z < 256) (hi : i < l.length) : bt (l.set i (UInt8.ofNat z)) j = if i = j then z else bt l j := by
  unfold bt
  rw [List.getElem?_set]
  split
  · next h =>
    subst h
    simp only [Option.getD_some, UInt8.toNat_ofNat']
    omega
  · rfl
theorem u8_or1 : ∀ x : Fin 256, ∃ y : Fin 256, bits .or .u8 (x.val : Int) 1 = (y.val : Int) ∧ y.val ≠ 0 := by decide +kernel

set_option maxRecDepth 100000 in
set_option maxHeartbeats 3200000 in
theorem dbits_first (w : World) (v : Value) (l : List UInt8) (hv : BR w (· < w.heap.size) v l) (hl : l.length ≤ 140737488351232) (h5 : 500 < l.length ∨ l.length = 0) (u : Nat) (hu : u < 256) (v2 : Value) :
    Calls Tryd.prog 13 #[v, .int .u8 u, v2] w fun e w' => e = .returned (.bool true) ∧ Kp (fun _ => False) w w' := by
  obtain ⟨A, c, rfl, hc, hr⟩ := id hv
  clear hv hr
  obtain ⟨⟨y, hy256⟩, hy, hy0⟩ := u8_or1 ⟨u, hu⟩
  simp only at hy hy0
  have HN := Lib.hid (fun W : World => bitsR_nil ▸ dbits_any (fun _ => False) _ [] W BR.nil (by simp))
  have H0 := Lib.hid (fun W : World => bitsR_0 ▸ dbits_any _ _ [0] _ (BR.lit W 5 [0] #[.int .u8 0] 1 rfl rfl) (by simp))
  have HY := Lib.hid (fun W : World => bitsR_odd (UInt8.ofNat y) (by rw [UInt8.toNat_ofNat']; omega) ▸ dbits_any _ _ [UInt8.ofNat y] _ (BR.lit W 5 [UInt8.ofNat y] #[.int .u8 (y : Int)] 1 rfl (by simp only [bc, List.map_cons, List.map_nil, UInt8.toNat_ofNat', show y % 2 ^ 8 = y from by omega])) (by simp))
  have hcase : (decide ((500 : Int) < (l.length : Int)) = true) ∨ l.length = 0 := by
    rcases h5 with h | h
    · exact .inl (by simp; omega)
    · exact .inr h
  clear h5
  rcases hcase with hd | hd
  case' inr => rw [hd]
  all_goals
    go_enter Tryd.func13, Tryd.ntmps13
    go_wp2_with fail
    refine (HN.out w).mono ?_
    rintro e w1 ⟨A1, n1, c1, rfl, hb1, hl1, hk1⟩
    clear hb1 hl1
    go_wp2_with fail
    refine (H0.out w1).mono ?_
    rintro e w2 ⟨A2, n2, c2, rfl, hb2, hl2, hk2⟩
    have hk12 := hk1.then_ (((Kp.refl (fun _ => False) w1).alloc _).then_ hk2 (fun _ h => h.elim)) (fun _ h => h.elim)
    simp at hl2
    subst hl2
    clear hb2
    go_wp2_with fail
    refine (HY.out w2).mono ?_
    rintro e w3 ⟨A3, n3, c3, rfl, hb3, hl3, hk3⟩
    have hk13 := hk12.then_ (((Kp.refl (fun _ => False) w2).alloc _).then_ hk3 (fun _ h => h.elim)) (fun _ h => h.elim)
    clear hb3 hl3
    go_wp2_with fail
    refine (alive10 w3).mono ?_
    rintro e w4 ⟨rfl, hk4⟩
    go_wp2_with fail
    go_ret
    exact ⟨rfl, hk13.then_ hk4 (fun _ h => h.elim)⟩

set_option maxRecDepth 100000 in
set_option maxHeartbeats 3200000 in
theorem dbits_second (w : World) (v : Value) (l : List UInt8) (hv : BR w (· < w.heap.size) v l) (h5 : l.length ≤ 500) (m p : Nat) (hn : l.length = m) (hm : 1 ≤ m) (hp : m + 1 = p) (u t k : Nat) (hu : u < 256) (ht : t < 256) (hk : u % 8 = k) :
    Calls Tryd.prog 13 #[v, .int .u8 u, .int .u8 t] w fun e w' => e = .returned (.bool true) ∧ Kp (fun _ => False) w w' := by
  obtain ⟨A, c, rfl, hc, hr⟩ := id hv
  have hk8 : k < 8 := by omega
  have hka : Kp (fun _ => False) w (w.alloc (.cells #[.int .u8 (k : Int)] 5)) := (Kp.refl _ _).alloc _
  have HV := Lib.hid (hv.kp hka (fun _ _ h => h))
  have HO := Lib.hid (Own.lit w [UInt8.ofNat k] #[.int .u8 (k : Int)] 1 w.heap.size rfl (by simp only [bc, List.map_cons, List.map_nil, UInt8.toNat_ofNat', show k % 2 ^ 8 = k from by omega]) (Nat.le_refl _) (by decide))
  have hz := hka.size
  have e1 : ((u : Int) % 8) = (k : Int) := by omega
  have HN := Lib.hid hn
  rw [hn] at hc h5 ⊢
  rw [hn] at HV
  have d1 : decide ((500 : Int) < (m : Int)) = false := by simp; omega
  have d2 : ((m : Int) == 0) = false := by simp; omega
  have HP := Lib.hid hp
  have hp5 : p ≤ 501 := by omega
  have hp0 : 0 < p := by omega
  have hpm : 1 + m = p := by omega
  have HPM := Lib.hid hpm
  clear hr hv hn hp hpm
  go_enter Tryd.func13, Tryd.ntmps13
  go_wp2_with (at_builtin; refine app_bytes rfl (.tmp 78) (.tmp 79) rfl w.heap.size _ 1 _ [UInt8.ofNat k] rfl rfl HO.out _ A m c l rfl HN.out HV.out p HPM.out (Nat.le_trans hp5 (by decide)) hz ?_; intro A2 c2 W2 o2 q2; have O2 := Lib.hid o2; have K2 := Lib.hid (hka.then_ q2 (fun i hi => .inr hi)); clear o2 q2)
  have hlen : ([UInt8.ofNat k] ++ l).length = p := by have := HN.out; have := HP.out; simp; omega
  obtain ⟨g, rfl, hgok, hgl⟩ := O2.out.form1 hp0
  obtain ⟨y, hy⟩ : ∃ y, bt ([UInt8.ofNat k] ++ l) m = y := ⟨_, rfl⟩
  have hyb : y < 256 := by rw [← hy]; exact bt_lt _ _
  have hcl : W2.cell? ⟨g, m, none⟩ = some (.int .u8 (y : Int)) := by
    obtain ⟨cur, hb, hcur⟩ := O2.out.blk
    rw [hb.cell, hcur m (by have := HP.out; omega), bc_at (by rw [hlen]; have := HP.out; omega), hy]
  have hfz : W2.frozen? ⟨g, m, none⟩ = false := by
    obtain ⟨cur, hb, _⟩ := O2.out.blk
    exact hb.frozen m
  have s1 : IntKind.i64.wrap ((p : Int) - 1) = (m : Int) := by
    have := HP.out
    rw [show (p : Int) - 1 = m by omega]
    exact IntWalk.i64_in _ (by omega)
  have s2 : (0 : Int) ≤ (m : Int) := by omega
  have s3 : (m : Int) < (p : Int) := by have := HP.out; omega
  have s4 : (k : Int) < 8 := by omega
  have s5 : (0 : Int) ≤ (k : Int) := by omega
  obtain ⟨z, hz1, hz2, hz3⟩ := u8_clr k y hk8 hyb
  obtain ⟨D, hD⟩ : ∃ D, ([UInt8.ofNat k] ++ l).set m (UInt8.ofNat z) = D := ⟨_, rfl⟩
  have hDl : D.length = p := by rw [← hD, List.length_set, hlen]
  have hm1 : m < ([UInt8.ofNat k] ++ l).length := by rw [hlen]; have := HP.out; omega
  have hD0 : bt D 0 = k := by
    rw [← hD, bt_set _ _ _ _ hz2 hm1, if_neg (by omega)]
    show (UInt8.ofNat k).toNat = k
    rw [UInt8.toNat_ofNat']
    omega
  have hDm : bt D m = z := by rw [← hD, bt_set _ _ _ _ hz2 hm1, if_pos rfl]
  have hDB : bitsB D = true := by
    have := HP.out
    rw [bitsB, hDl, show p - 1 = m by omega, hD0, hDm, if_neg (by omega), decide_eq_true hz3, decide_eq_true (by omega : 0 < p), decide_eq_true (by omega : k ≤ 7)]
    rfl
  have hDR : bitsR D = (D.drop 1, k, 0) := by rw [bitsR, if_pos hDB, hD0]
  have O3 := Lib.hid (show Own (W2.setCell ⟨g, m, none⟩ (.int .u8 (z : Int))).drew (w.heap.size ≤ ·) 5 1 (.slice (some ⟨g, 0, none⟩) p c2) p (bc D) by
    have h := O2.out.set1 m (.int .u8 (z : Int))
    rw [bc_set _ _ _ hz2, hD] at h
    exact h.kp ((Kp.refl (fun _ => False) _).drew) (fun _ _ h => h))
  have K3 := Lib.hid (show Kp (fun _ => False) w (W2.setCell ⟨g, m, none⟩ (.int .u8 (z : Int))).drew from (K2.out.setCell (p := ⟨g, m, none⟩) (.inr hgok) _).drew)
  have hcp : p ≤ c2 := by obtain ⟨A', c', ee, hc'⟩ := O2.out.shape; injection ee with _ _ e3; omega
  have HD0 := Lib.hid hD0
  have HDM := Lib.hid hDm
  have HDB := Lib.hid hDB
  have HDR := Lib.hid hDR
  have HDL := Lib.hid hDl
  clear hD hDl hD0 hDm hDB hDR hlen hm1 O2 K2
  go_region
  go_wp2_with fail
  obtain ⟨W3, hW3⟩ : ∃ W3, (W2.setCell ⟨g, m, none⟩ (.int .u8 (z : Int))).drew = W3 := ⟨_, rfl⟩
  rw [hW3] at O3 K3 ⊢
  clear hW3 hcl hfz hz1
  have hbr := O3.out.br HDL.out
  have hcall := dbits_any _ _ D W3 hbr (by rw [HDL.out]; omega)
  rw [HDR.out] at hcall
  refine hcall.mono ?_
  rintro e w4 ⟨A4, n4, c4, rfl, hb4, hl4, hk4⟩
  have hn4 : n4 = m := by
    have := HP.out
    rw [← hl4, List.length_drop, HDL.out]
    omega
  subst hn4
  simp only at hb4
  have HB4 := Lib.hid hb4
  have O4 := Lib.hid (O3.out.kp hk4 (fun _ _ h => h))
  have K4 := Lib.hid (K3.out.then_ hk4 (fun _ h => h.elim))
  clear hb4 hl4 hcall hbr hk4
  have HSUB := Lib.hid (show BR w4 (w.heap.size ≤ ·) (.slice (some ⟨g, 1, none⟩) n4 (c2 - 1)) (D.drop 1) by
    have h := BR.sub (l := D) (ok := (w.heap.size ≤ ·)) (w := w4) (A := some ⟨g, 0, none⟩) (c := c2) (i := 1) (j := p) (by rw [HDL.out]; exact O4.out.rd) (by rw [HDL.out]; exact hcp) (by omega) (by rw [HDL.out]; exact Nat.le_refl _)
    rw [if_neg (by omega), List.take_of_length_le (by rw [List.length_drop, HDL.out]; omega), show p - 1 = n4 by have := HP.out; omega] at h
    exact h)
  obtain ⟨gs, hgs⟩ : ∃ gs, str (D.drop 1) = gs := ⟨_, rfl⟩
  have HS1 := Lib.hid (show ∀ W, Kp (fun _ => False) w4 W → (convert 22 9 (.slice A4 n4 c4)).run Tryd.prog W = .ok (.string gs) W from fun W hk => by
    rw [← hgs]
    exact run_str Tryd.underlying22 Tryd.underlying5 Tryd.underlying9 (HB4.out.kp hk (fun _ _ h => h)))
  have HS2 := Lib.hid (show ∀ W, Kp (fun _ => False) w4 W → (convert 22 9 (.slice (some ⟨g, 1, none⟩) n4 (c2 - 1))).run Tryd.prog W = .ok (.string gs) W from fun W hk => by
    rw [← hgs]
    exact run_str Tryd.underlying22 Tryd.underlying5 Tryd.underlying9 (HSUB.out.kp hk (fun _ _ h => h)))
  have HCK := Lib.hid (show ∀ W, Kp (fun _ => False) w4 W → Calls Tryd.prog 31 #[.int .i64 3, .slice (some ⟨g, 0, none⟩) p c2] W fun e w' => e = .returned (.int .i64 0) ∧ Kp (fun _ => False) W w' from fun W hk => by
    have := check3 _ _ D W ((O4.out.br HDL.out).kp hk (fun _ _ h => h)) (by rw [HDL.out]; omega)
    rw [HDB.out] at this
    exact this)
  have hpm1 : p - 1 = n4 := by have := HP.out; omega
  have hp1 : (1 : Int) ≤ (p : Int) := by omega
  have hp2 : (p : Int) ≤ (c2 : Int) := by omega
  have hc1 : ¬ c2 = 1 := by omega
  have HGS := Lib.hid hgs
  clear hgs s1 s3
  go_wp2_with fail
  go_region_held3 (fun w' => (convert 22 9 (.slice A4 n4 c4)).run Tryd.prog w' = .ok (.string gs) w' ∧ (convert 22 9 (.slice (some ⟨g, 1, none⟩) n4 (c2 - 1))).run Tryd.prog w' = .ok (.string gs) w') (first | exact ⟨hs6, hs7⟩ | exact ⟨hs1, hs2⟩ | exact ⟨HS1.out _ ((Kp.refl _ _).drew), HS2.out _ ((Kp.refl _ _).drew)⟩) ((first
    | (go_at_call 25; (refine (alive10 _).mono ?_); rintro e w5 ⟨rfl, hk5⟩; have HK5 := Lib.hid (((Kp.refl (fun _ => False) w4).drew).then_ hk5 (fun _ h => h.elim)); have hs1 := HS1.out w5 HK5.out; have hs2 := HS2.out w5 HK5.out; clear hk5)
    | (go_at_call 31; (refine (HCK.out _ HK5.out).mono ?_); rintro e w6 ⟨rfl, hk6⟩; have HK6 := Lib.hid (HK5.out.then_ hk6 (fun _ h => h.elim)); have hs6 := HS1.out w6 HK6.out; have hs7 := HS2.out w6 HK6.out; clear hk6)))
  by_cases hk0 : k = 0
  · subst hk0
    go_wp2_with fail
    go_ret
    exact ⟨rfl, K4.out.then_ HK6.out (fun _ h => h.elim)⟩
  have g0 : ((k : Int) == 0) = false := by simp; omega
  have g1 : (0 : Int) < (k : Int) := by omega
  have hq : t % k < k := Nat.mod_lt _ (by omega)
  have hq2 : (t : Int) % (k : Int) = ((t % k : Nat) : Int) := by omega
  have hq3 : Int.tmod (t : Int) (k : Int) = ((t % k : Nat) : Int) := by
    rw [Int.tmod_eq_emod_of_nonneg (by omega)]
    exact hq2
  obtain ⟨q, hq0⟩ : ∃ q, t % k = q := ⟨_, rfl⟩
  rw [hq0] at hq hq2 hq3
  obtain ⟨x, hx1, hx2, hx3⟩ := u8_orq k q z hk8 hq hz2 hz3
  have O6 := Lib.hid (O4.out.kp HK6.out (fun _ _ h => h))
  have hcl6 : w6.cell? ⟨g, n4, none⟩ = some (.int .u8 (z : Int)) := by
    obtain ⟨cur, hb, hcur⟩ := O6.out.blk
    rw [hb.cell, hcur n4 (by have := HP.out; omega), bc_at (by rw [HDL.out]; have := HP.out; omega), HDM.out]
  have hfz6 : w6.frozen? ⟨g, n4, none⟩ = false := by
    obtain ⟨cur, hb, _⟩ := O6.out.blk
    exact hb.frozen n4
  have s1 : IntKind.i64.wrap ((p : Int) - 1) = (n4 : Int) := by
    have := HP.out
    rw [show (p : Int) - 1 = n4 by omega]
    exact IntWalk.i64_in _ (by omega)
  have s3 : (n4 : Int) < (p : Int) := by have := HP.out; omega
  have hq8 : (q : Int) < 8 := by omega
  have hq9 : (0 : Int) ≤ (q : Int) := by omega
  clear hq0 hq hs1 hs2 hs6 hs7 hpm1
  go_wp2_with fail
  go_region
  go_wp2_with fail
  have hm1 : n4 < D.length := by rw [HDL.out]; have := HP.out; omega
  obtain ⟨E, hE⟩ : ∃ E, D.set n4 (UInt8.ofNat x) = E := ⟨_, rfl⟩
  have hEl : E.length = p := by rw [← hE, List.length_set, HDL.out]
  have hE0 : bt E 0 = k := by rw [← hE, bt_set _ _ _ _ hx2 hm1, if_neg (by omega), HD0.out]
  have hEm : bt E n4 = x := by rw [← hE, bt_set _ _ _ _ hx2 hm1, if_pos rfl]
  have hEB : bitsB E = false := by
    have := HP.out
    rw [bitsB, hEl, show p - 1 = n4 by omega, hE0, hEm, if_neg (by omega), decide_eq_false hx3]
    simp
  have hER : bitsR E = ([], 0, 13) := by rw [bitsR, if_neg (by simp [hEB])]
  have O7 : Own (w6.setCell ⟨g, n4, none⟩ (.int .u8 (x : Int))).drew (w.heap.size ≤ ·) 5 1 (.slice (some ⟨g, 0, none⟩) p c2) p (bc E) := by
    have h := O6.out.set1 n4 (.int .u8 (x : Int))
    rw [bc_set _ _ _ hx2, hE] at h
    exact h.kp ((Kp.refl (fun _ => False) _).drew) (fun _ _ h => h)
  have K7 : Kp (fun _ => False) w (w6.setCell ⟨g, n4, none⟩ (.int .u8 (x : Int))).drew := ((K4.out.then_ HK6.out (fun _ h => h.elim)).setCell (p := ⟨g, n4, none⟩) (.inr hgok) _).drew
  obtain ⟨W7, hW7⟩ : ∃ W7, (w6.setCell ⟨g, n4, none⟩ (.int .u8 (x : Int))).drew = W7 := ⟨_, rfl⟩
  rw [hW7] at O7 K7 ⊢
  clear hW7
  have hcall := dbits_any _ _ E W7 (O7.br hEl) (by rw [hEl]; omega)
  rw [hER] at hcall
  clear hE hEl hE0 hEm hEB hER O7
  refine hcall.mono ?_
  rintro e w8 ⟨A8, n8, c8, rfl, hb8, hl8, hk8'⟩
  clear hb8 hl8 hcall
  go_wp2_with fail
  go_ret
  exact ⟨rfl, K7.then_ hk8' (fun _ h => h.elim)⟩

theorem dbits_walk (w : World) (_tab : True) (v : Value) (l : List UInt8) (hv : BR w (· < w.heap.size) v l) (hl : l.length ≤ 140737488351232) (u : Int) (hu : (Lit.int .u8 u).wf = true) (t : Int) (ht : (Lit.int .u8 t).wf = true) :
    Calls Tryd.prog 13 #[v, .int .u8 u, .int .u8 t] w fun e w' => e = .returned (.bool true) ∧ Below w.heap.size w w' := by
  obtain ⟨u0, u1⟩ := bounds_u8 hu
  obtain ⟨t0, t1⟩ := bounds_u8 ht
  obtain ⟨un, rfl⟩ : ∃ n : Nat, u = (n : Int) := ⟨u.toNat, by omega⟩
  obtain ⟨tn, rfl⟩ : ∃ n : Nat, t = (n : Int) := ⟨t.toNat, by omega⟩
  by_cases h : 500 < l.length ∨ l.length = 0
  · exact (dbits_first w v l hv hl h un (by omega) _).mono fun _ _ ⟨he, hk⟩ => ⟨he, hk.below⟩
  · exact (dbits_second w v l hv (by omega) l.length (l.length + 1) rfl (by omega) rfl un tn (un % 8) (by omega) (by omega) rfl).mono fun _ _ ⟨he, hk⟩ => ⟨he, hk.below⟩
end Go.Proofs.YtjdfgjlbmbiihaaDoor
