/-
  The document's bits, oid, digits, days.
-/
import Derived.Test.YtjdfgjlbmbiihaaDoorTy13
import Derived.Test.YtjdfgjlbmbiihaaDoorTy3
import Derived.Test.YtjdfgjlbmbiihaaDoorTy12
namespace Go.Proofs.YtjdfgjlbmbiihaaDoor
open Go.RowKit

/-! ### days. -/
set_option maxRecDepth 100000 in
set_option maxHeartbeats 1600000 in
theorem rdays_any (y m : Nat) (hy : y < 10000) (hm : m < 100) (w : World) :
    Calls Tryd.prog 45 #[.int .i64 (y : Int), .int .i64 (m : Int)] w fun e w' => e = .returned (.int .i64 (dim y m : Int)) ∧ w = w' := by
  by_cases h30 : m = 4 ∨ m = 6 ∨ m = 9 ∨ m = 11
  · have hr : dim y m = 30 := by rw [dim, if_pos h30]
    rw [hr]
    clear hr
    rcases h30 with rfl | rfl | rfl | rfl
    all_goals
      go_enter Tryd.func45, Tryd.ntmps45
      go_wp2_with fail
      go_ret
      exact ⟨rfl, rfl⟩
  · have f4 : ((m : Int) == 4) = false := by simp; omega
    have f6 : ((m : Int) == 6) = false := by simp; omega
    have f9 : ((m : Int) == 9) = false := by simp; omega
    have f11 : ((m : Int) == 11) = false := by simp; omega
    by_cases h2 : m = 2
    · subst h2
      clear f4 f6 f9 f11 h30
      have e4 : ((y : Int) % 4 == 0) = decide (y % 4 = 0) := by rw [Bool.eq_iff_iff]; simp; omega
      have e100 : ((y : Int) % 100 != 0) = decide (y % 100 ≠ 0) := by rw [Bool.eq_iff_iff]; simp; omega
      have e400 : ((y : Int) % 400 == 0) = decide (y % 400 = 0) := by rw [Bool.eq_iff_iff]; simp; omega
      have hd : dim y 2 = if leapN y = true then 29 else 28 := rfl
      rw [hd]
      by_cases h400 : y % 400 = 0
      · rw [decide_eq_true h400] at e400
        have h4 : y % 4 = 0 := by omega
        have h100 : ¬ y % 100 ≠ 0 := by omega
        rw [decide_eq_true h4] at e4
        rw [decide_eq_false h100] at e100
        rw [if_pos (by rw [leapN, decide_eq_true h4, decide_eq_true h400]; simp)]
        clear h4 h100 h400 hd
        go_enter Tryd.func45, Tryd.ntmps45
        go_wp2_with fail
        go_ret
        exact ⟨rfl, rfl⟩
      rw [decide_eq_false h400] at e400
      by_cases h4 : y % 4 = 0
      · rw [decide_eq_true h4] at e4
        by_cases h100 : y % 100 ≠ 0
        · rw [decide_eq_true h100] at e100
          rw [if_pos (by rw [leapN, decide_eq_true h4, decide_eq_true h100]; rfl)]
          clear h4 h100 h400 hd
          go_enter Tryd.func45, Tryd.ntmps45
          go_wp2_with fail
          go_ret
          exact ⟨rfl, rfl⟩
        · rw [decide_eq_false h100] at e100
          rw [if_neg (by rw [leapN, decide_eq_false h100, decide_eq_false h400]; simp)]
          clear h4 h100 h400 hd
          go_enter Tryd.func45, Tryd.ntmps45
          go_wp2_with fail
          go_ret
          exact ⟨rfl, rfl⟩
      · rw [decide_eq_false h4] at e4
        rw [if_neg (by rw [leapN, decide_eq_false h4]; simp)]
        clear h4 h400 hd
        go_enter Tryd.func45, Tryd.ntmps45
        go_wp2_with fail
        go_ret
        exact ⟨rfl, rfl⟩
    · have f2 : ((m : Int) == 2) = false := by simp; omega
      have hr : dim y m = 31 := by rw [dim, if_neg h30, if_neg h2]
      rw [hr]
      clear hr h30 h2
      go_enter Tryd.func45, Tryd.ntmps45
      go_wp2_with fail
      go_ret
      exact ⟨rfl, rfl⟩

/-! ### digits. -/
set_option maxRecDepth 100000 in
set_option maxHeartbeats 1600000 in
theorem digits_any (ok : Nat → Prop) (v : Value) (l : List UInt8) (w : World) (hv : BR w ok v l) (hl : l.length ≤ 4) :
    Calls Tryd.prog 44 #[v] w fun e w' => e = .returned (.int .i64 (digitsR l)) ∧ w = w' := by
  obtain ⟨A, c, rfl, hc, hr⟩ := id hv
  obtain ⟨r, hr0⟩ : ∃ r, digitsR l = r := ⟨_, rfl⟩
  rw [hr0]
  have HNO := Lib.hid (show digs l = false → r = -1 from fun h => by rw [← hr0]; exact digitsR_no h)
  have HYES := Lib.hid (show digs l = true → r = (num l : Int) from fun h => by rw [← hr0]; exact digitsR_yes h)
  clear hr0 hv
  go_enter Tryd.func44, Tryd.ntmps44
  go_wp2_with fail
  go_loop [3, 4] (fun n i => ∃ k : Nat, k ≤ l.length ∧ i = .int .i64 k ∧ digs (l.take k) = true ∧ n = .int .i64 (num (l.take k) : Int)) (fun _ i => l.length - (intOf i).toNat)
  case atStart => exact ⟨0, Nat.zero_le _, rfl, rfl, rfl⟩
  case round =>
    obtain ⟨k, hk, rfl, hdk, rfl⟩ := hrel
    have hnb := num_lt _ hdk
    rw [List.length_take, Nat.min_eq_left hk] at hnb
    have hnb2 : 10 ^ k ≤ 10 ^ 4 := Nat.pow_le_pow_right (by omega) (by omega)
    have HDK := Lib.hid hdk
    clear hdk
    by_cases hlt : k < l.length
    · obtain ⟨g, off, rfl, _, hcell⟩ := hr.byte hlt
      have hst := num_take l k hlt
      have hts := Lib.hid (List.take_succ_eq_append_getElem hlt)
      obtain ⟨x, hx⟩ : ∃ x, num (l.take k) = x := ⟨_, rfl⟩
      rw [hx] at hst hnb ⊢
      have hxb : x < 10000 := by omega
      obtain ⟨d, hd⟩ : ∃ d, l[k] = d := ⟨_, rfl⟩
      rw [hd] at hst hts hcell
      have HST := Lib.hid hst
      have hi0 : (0 : Int) ≤ (k : Int) := by omega
      have hi1 : (k : Int) < (l.length : Int) := by omega
      have HMEM := Lib.hid (show d ∈ l by rw [← hd]; exact List.getElem_mem hlt)
      clear hst hnb hnb2 hx hd
      by_cases hdg : isDig d = true
      · have hd2 := hdg
        simp only [isDig, Bool.and_eq_true, decide_eq_true_eq] at hd2
        obtain ⟨hd3, hd4⟩ := hd2
        have HDG := Lib.hid hdg
        obtain ⟨y, hy⟩ : ∃ y, d.toNat = y := ⟨_, rfl⟩
        rw [hy] at hcell hd3 hd4
        have HY := Lib.hid hy
        have d1 : decide ((y : Int) < 48) = false := by simp; omega
        have d2 : decide ((57 : Int) < (y : Int)) = false := by simp; omega
        clear hdg hy
        go_wp2_with fail
        go_round
        case rel => exact ⟨k + 1, by omega, by go_num, by rw [hts.out, digs_append, HDK.out]; simp [digs, HDG.out], by rw [HST.out, HY.out]; first | go_num | (congr 1; omega)⟩
        case measure => simp [intOf]; omega
      · have hr1 := HNO.out (by
          cases hq : digs l
          · rfl
          · exact absurd (List.all_eq_true.1 hq d HMEM.out) hdg)
        subst hr1
        have hd2 : d.toNat < 48 ∨ 57 < d.toNat := by
          simp only [isDig, Bool.and_eq_true, decide_eq_true_eq] at hdg
          omega
        obtain ⟨y, hy⟩ : ∃ y, d.toNat = y := ⟨_, rfl⟩
        rw [hy] at hcell hd2
        have hd5 : (decide ((y : Int) < 48) = true) ∨ (decide ((y : Int) < 48) = false ∧ decide ((57 : Int) < (y : Int)) = true) := by
          rcases hd2 with h | h
          · exact .inl (by simp; omega)
          · exact .inr ⟨by simp; omega, by simp; omega⟩
        clear hdg hd2 hy HNO HYES
        rcases hd5 with d1 | ⟨d1, d2⟩
        · go_wp2_with fail
          go_ret
          exact ⟨rfl, rfl⟩
        · go_wp2_with fail
          go_ret
          exact ⟨rfl, rfl⟩
    · obtain rfl : k = l.length := by omega
      rw [List.take_of_length_le (Nat.le_refl _)] at HDK hnb ⊢
      have hr1 := HYES.out HDK.out
      have HR1 := Lib.hid hr1
      clear hr1 HNO HYES hnb hnb2
      go_wp2_with fail
      go_ret
      exact ⟨by rw [HR1.out]; rfl, rfl⟩

/-! ### oid. -/
/-- The document's words on an identifier's bytes. -/
theorem oidS_at (l : List UInt8) : ∀ (k : Nat) (b : Bool), k ≤ l.length → (b = true ↔ (k = 0 ∨ bt l (k - 1) < 128)) → (∀ i, k ≤ i → i < l.length → ¬ (bt l i = 128 ∧ (i = 0 ∨ bt l (i - 1) < 128))) → oidS (l.drop k) b = some (decide (l.length = 0 ∨ bt l (l.length - 1) < 128)) := by
  intro k
  induction hd : l.length - k generalizing k with
  | zero =>
    intro b hk hb _
    obtain rfl : k = l.length := by omega
    rw [List.drop_of_length_le (Nat.le_refl _), oidS]
    congr 1
    rw [Bool.eq_iff_iff, hb, decide_eq_true_eq]
  | succ n ih =>
    intro b hk hb hno
    have hlt : k < l.length := by omega
    rw [oidS_drop hlt, ← bt_at hlt]
    have h1 := hno k (Nat.le_refl _) hlt
    rw [if_neg (fun x => h1 ⟨x.2, hb.1 x.1⟩)]
    refine ih (k + 1) (by omega) _ (by omega) ?_ (fun i hi hil => hno i (by omega) hil)
    simp
theorem oidS_bad (l : List UInt8) : ∀ (k : Nat) (b : Bool) (i : Nat), k ≤ i → i < l.length → (b = true ↔ (k = 0 ∨ bt l (k - 1) < 128)) → bt l i = 128 → (i = 0 ∨ bt l (i - 1) < 128) → oidS (l.drop k) b = none := by
  intro k
  induction hd : l.length - k generalizing k with
  | zero => intro b i hki hil; omega
  | succ n ih =>
    intro b i hki hil hb h1 h2
    have hlt : k < l.length := by omega
    rw [oidS_drop hlt, ← bt_at hlt]
    split
    · rfl
    · next hn =>
      rcases Nat.eq_or_lt_of_le hki with rfl | hki
      · exact absurd ⟨hb.2 h2, h1⟩ hn
      · exact ih (k + 1) (by omega) _ i (by omega) hil (by simp) h1 h2
theorem oidB_bad (l : List UInt8) (i : Nat) (hil : i < l.length) (h1 : bt l i = 128) (h2 : i = 0 ∨ bt l (i - 1) < 128) : oidB l = false := by
  have := oidS_bad l 0 true i (Nat.zero_le _) hil (by simp) h1 h2
  rw [List.drop_zero] at this
  rw [oidB, this]
theorem oidB_good (l : List UInt8) (h : ∀ i, i < l.length → ¬ (bt l i = 128 ∧ (i = 0 ∨ bt l (i - 1) < 128))) : oidB l = (decide (0 < l.length) && decide (bt l (l.length - 1) < 128)) := by
  have := oidS_at l 0 true (Nat.zero_le _) (by simp) (fun i _ hi => h i hi)
  rw [List.drop_zero] at this
  rw [oidB, this]
  simp only
  by_cases h0 : l.length = 0
  · simp [h0]
  · simp [h0]

set_option maxRecDepth 100000 in
set_option maxHeartbeats 3200000 in
theorem roid_any (ok : Nat → Prop) (v : Value) (l : List UInt8) (w : World) (hv : BR w ok v l) (hl : l.length ≤ 140737488355328) :
    Calls Tryd.prog 41 #[v] w fun e w' => e = .returned (.bool (oidB l)) ∧ w = w' := by
  obtain ⟨A, c, rfl, hc, hr⟩ := id hv
  obtain ⟨r, hr0⟩ : ∃ r, oidB l = r := ⟨_, rfl⟩
  rw [hr0]
  have HNO := Lib.hid (show ∀ i, i < l.length → bt l i = 128 → (i = 0 ∨ bt l (i - 1) < 128) → r = false from fun i hi h1 h2 => by rw [← hr0]; exact oidB_bad l i hi h1 h2)
  have HYES := Lib.hid (show (∀ i, i < l.length → ¬ (bt l i = 128 ∧ (i = 0 ∨ bt l (i - 1) < 128))) → r = (decide (0 < l.length) && decide (bt l (l.length - 1) < 128)) from fun h => by rw [← hr0]; exact oidB_good l h)
  have HCE := Lib.hid (show ∀ g off, A = some ⟨g, off, none⟩ → ∀ k, k < l.length → w.cell? ⟨g, off + k, none⟩ = some (.int .u8 (bt l k : Int)) from fun g off hA k hk => by
    obtain ⟨g', off', ee, _, h2⟩ := hr.byte hk
    rw [hA] at ee
    simp only [Option.some.injEq, Addr.mk.injEq, and_true] at ee
    obtain ⟨rfl, rfl⟩ := ee
    rw [bt_at hk]
    exact h2)
  have HA := Lib.hid (show 0 < l.length → ∃ g off, A = some ⟨g, off, none⟩ from fun h => by
    obtain ⟨g', off', ee, _, h2⟩ := hr.byte h
    exact ⟨g', off', ee⟩)
  clear hr0 hv hr
  go_enter Tryd.func41, Tryd.ntmps41
  go_wp2_with fail
  go_loop [3] (fun i => ∃ k : Nat, k ≤ l.length ∧ i = .int .i64 k ∧ Hid (∀ j, j < k → ¬ (bt l j = 128 ∧ (j = 0 ∨ bt l (j - 1) < 128)))) (fun i => l.length - (intOf i).toNat)
  case atStart => exact ⟨0, Nat.zero_le _, rfl, fun j hj => absurd hj (by omega)⟩
  case round =>
    obtain ⟨k, hk, rfl, hno⟩ := hrel
    by_cases hlt : k < l.length
    · obtain ⟨g, off, rfl⟩ := HA.out (by omega)
      have hc0 := HCE.out g off rfl k hlt
      have hxb := bt_lt l k
      by_cases h128 : bt l k = 128
      · by_cases h0 : k = 0
        · subst h0
          have hr1 := HNO.out 0 hlt h128 (.inl rfl)
          subst hr1
          rw [h128, Nat.add_zero] at hc0
          clear h128 HNO HYES
          go_wp2_with fail
          go_ret
          exact ⟨rfl, rfl⟩
        · obtain ⟨j, rfl⟩ : ∃ j, k = j + 1 := ⟨k - 1, by omega⟩
          have hcj := HCE.out g off rfl j (by omega)
          have hjb := bt_lt l j
          have HJ := Lib.hid (show (j + 1 - 1) = j by omega)
          by_cases hp : bt l j < 128
          · have hr1 := HNO.out (j + 1) hlt h128 (.inr (by rw [HJ.out]; exact hp))
            subst hr1
            rw [h128] at hc0
            generalize bt l j = y at hcj hjb hp
            have d1 : decide ((y : Int) < 128) = true := by simp; omega
            have n0 : ((j : Int) + 1 == 0) = false := by simp; omega
            clear h128 HNO HYES h0 hp
            go_wp2_with fail
            go_ret
            exact ⟨rfl, rfl⟩
          · have HN2 := Lib.hid (show ∀ i, i < j + 1 + 1 → ¬ (bt l i = 128 ∧ (i = 0 ∨ bt l (i - 1) < 128)) from fun i hi => by
              rcases Nat.eq_or_lt_of_le (Nat.le_of_lt_succ hi) with rfl | hi
              · rintro ⟨_, h2⟩
                rw [HJ.out] at h2
                rcases h2 with h2 | h2
                · omega
                · exact hp h2
              · exact hno.out i hi)
            rw [h128] at hc0
            generalize bt l j = y at hcj hjb hp
            have d1 : decide ((y : Int) < 128) = false := by simp; omega
            have n0 : ((j : Int) + 1 == 0) = false := by simp; omega
            clear h128 HNO HYES h0 hp
            go_wp2_with fail
            go_round
            case rel => exact ⟨j + 1 + 1, by omega, by go_num, HN2⟩
            case measure => simp [intOf]; omega
      · have HN2 := Lib.hid (show ∀ i, i < k + 1 → ¬ (bt l i = 128 ∧ (i = 0 ∨ bt l (i - 1) < 128)) from fun i hi => by
          rcases Nat.eq_or_lt_of_le (Nat.le_of_lt_succ hi) with rfl | hi
          · exact fun x => h128 x.1
          · exact hno.out i hi)
        generalize bt l k = y at hc0 hxb h128
        have d1 : ((y : Int) == 128) = false := by simp; omega
        clear h128 HNO HYES
        go_wp2_with fail
        go_round
        case rel => exact ⟨k + 1, by omega, by go_num, HN2⟩
        case measure => simp [intOf]; omega
    · obtain rfl : k = l.length := by omega
      have hr1 := HYES.out hno.out
      have HR1 := Lib.hid hr1
      clear hr1 HNO HYES
      by_cases h0 : 0 < l.length
      · obtain ⟨g, off, rfl⟩ := HA.out h0
        obtain ⟨n, hn⟩ : ∃ n, l.length = n + 1 := ⟨l.length - 1, by omega⟩
        have hc0 := HCE.out g off rfl n (by omega)
        have HN := Lib.hid hn
        have hrr : r = decide (bt l n < 128) := by
          rw [HR1.out, HN.out, show n + 1 - 1 = n by omega, decide_eq_true (by omega : 0 < n + 1), Bool.true_and]
        rw [hn] at hc hl ⊢
        have hyb := bt_lt l n
        generalize bt l n = y at hc0 hrr hyb
        have d1 : decide ((y : Int) < 128) = r := by
          rw [hrr, Bool.eq_iff_iff]
          simp
          omega
        have n0 : decide ((0 : Int) < (n : Int) + 1) = true := by simp <;> omega
        clear hrr hn hlt hk h0
        go_wp2_with fail
        go_ret
        exact ⟨rfl, rfl⟩
      · have hn : l.length = 0 := by omega
        have hrr : r = false := by rw [HR1.out, hn]; rfl
        subst hrr
        rw [hn] at hc hl ⊢
        clear hlt hk h0
        go_wp2_with fail
        go_ret
        exact ⟨rfl, rfl⟩

/-! ### bits. -/
theorem shr_odd (y x : Nat) (h : y % 2 ^ x = 0) : ∀ i, i < x → y / 2 ^ i % 2 = 0 := by
  intro i hi
  have h1 : 2 ^ x = 2 ^ (i + 1) * 2 ^ (x - (i + 1)) := by rw [← Nat.pow_add]; congr 1; omega
  have h2 : y % 2 ^ (i + 1) = 0 := by
    have := Nat.mod_mul_right_mod y (2 ^ (i + 1)) (2 ^ (x - (i + 1)))
    rw [← h1, h] at this
    simpa using this.symm
  rw [Nat.pow_succ, Nat.mod_mul] at h2
  have h3 := (Nat.add_eq_zero_iff.1 h2).2
  rcases Nat.mul_eq_zero.1 h3 with h4 | h4
  · exact absurd h4 (Nat.pos_iff_ne_zero.1 (Nat.two_pow_pos i))
  · exact h4
theorem shr_even (y x : Nat) (h : ∀ i, i < x → y / 2 ^ i % 2 = 0) : y % 2 ^ x = 0 := by
  induction x with
  | zero => simp [Nat.mod_one]
  | succ x ih =>
    rw [Nat.pow_succ, Nat.mod_mul, ih (fun i hi => h i (by omega)), h x (by omega)]
    simp
theorem div_pow_succ (y k : Nat) : y / 2 ^ k / 2 = y / 2 ^ (k + 1) := by rw [Nat.div_div_eq_div_mul, Nat.pow_succ]

set_option maxRecDepth 100000 in
set_option maxHeartbeats 3200000 in
theorem rbits_any (ok : Nat → Prop) (v : Value) (l : List UInt8) (w : World) (hv : BR w ok v l) (hl : l.length ≤ 140737488355328) :
    Calls Tryd.prog 40 #[v] w fun e w' => e = .returned (.bool (bitsB l)) ∧ w = w' := by
  obtain ⟨A, c, rfl, hc, hr⟩ := id hv
  by_cases h0 : l.length = 0
  · have hB : bitsB l = false := by rw [bitsB, h0]; rfl
    rw [hB]
    rw [h0] at hc ⊢
    clear hB hr hv h0
    go_enter Tryd.func40, Tryd.ntmps40
    go_wp2_with fail
    go_ret
    exact ⟨rfl, rfl⟩
  obtain ⟨n, hn⟩ : ∃ n, l.length = n + 1 := ⟨l.length - 1, by omega⟩
  obtain ⟨g, off, rfl, _, hc0⟩ := hr.byte (k := 0) (by omega)
  obtain ⟨g', off', ee, _, hcn⟩ := hr.byte (k := n) (by omega)
  simp only [Option.some.injEq, Addr.mk.injEq, and_true] at ee
  obtain ⟨rfl, rfl⟩ := ee
  have q0 := bt_at (l := l) (i := 0) (by omega)
  have qn := bt_at (l := l) (i := n) (by omega)
  rw [← q0] at hc0
  rw [← qn] at hcn
  have b0 := bt_lt l 0
  have bn := bt_lt l n
  obtain ⟨r, hr0⟩ : ∃ r, bitsB l = r := ⟨_, rfl⟩
  rw [hr0]
  rw [bitsB, show l.length - 1 = n by omega, hn] at hr0
  have hnn : n = 0 → bt l n = bt l 0 := by rintro rfl; rfl
  rw [hn] at hc ⊢
  clear hr hv q0 qn h0
  obtain ⟨x, hx⟩ : ∃ x, bt l 0 = x := ⟨_, rfl⟩
  obtain ⟨y, hy⟩ : ∃ y, bt l n = y := ⟨_, rfl⟩
  rw [hx] at hc0 b0 hr0 hnn
  rw [hy] at hcn bn hr0 hnn
  rw [Nat.add_zero] at hc0
  clear hx hy
  have g1 : ((n : Int) + 1 == 0) = false := by simp <;> omega
  have hn63 : (n : Int) + 1 ≤ 140737488355328 := by omega
  by_cases h7 : 7 < x
  · have hr1 : r = false := by rw [← hr0, decide_eq_false (by omega : ¬ x ≤ 7)]; simp
    subst hr1
    have g3 : decide ((7 : Int) < (x : Int)) = true := by simp; omega
    clear hr0 hnn hn hl
    go_enter Tryd.func40, Tryd.ntmps40
    go_wp2_with fail
    go_ret
    exact ⟨rfl, rfl⟩
  have g3 : decide ((7 : Int) < (x : Int)) = false := by simp; omega
  by_cases h1 : n = 0
  · subst h1
    obtain rfl := hnn rfl
    rw [if_pos rfl] at hr0
    by_cases hx0 : y = 0
    · subst hx0
      have hr1 : r = true := by rw [← hr0]; rfl
      subst hr1
      clear hr0 hnn hn hl h7
      go_enter Tryd.func40, Tryd.ntmps40
      go_wp2_with fail
      refine wp_loop_rounds 1 ?_
      rw [rounds_succ]
      go_wp2_with fail
      go_ret
      exact ⟨rfl, rfl⟩
    · have hr1 : r = false := by rw [← hr0, decide_eq_false hx0]; simp
      subst hr1
      have g4 : ((y : Int) != 0) = true := by simp; omega
      have g5 : ((y : Int) == 0) = false := by simp; omega
      clear hr0 hnn hn hl h7
      go_enter Tryd.func40, Tryd.ntmps40
      go_wp2_with fail
      go_ret
      exact ⟨rfl, rfl⟩
  have g4 : ((n : Int) + 1 == 1) = false := by simp <;> omega
  have g5 : ((n : Int) == 0) = false := by simp; omega
  rw [if_neg (by omega)] at hr0
  have hr1 : decide (y % 2 ^ x = 0) = r := by
    rw [← hr0, decide_eq_true (by omega : x ≤ 7)]
    simp
  have HNO := Lib.hid (show ∀ i, i < x → y / 2 ^ i % 2 ≠ 0 → r = false from fun i hi h => by
    rw [← hr1]
    exact decide_eq_false (fun h0 => h (shr_odd y x h0 i hi)))
  have HYES := Lib.hid (show (∀ i, i < x → y / 2 ^ i % 2 = 0) → r = true from fun h => by
    rw [← hr1]
    exact decide_eq_true (shr_even y x h))
  have hx7 : x ≤ 7 := by omega
  clear hr0 hr1 hnn hn hl h7 h1
  go_enter Tryd.func40, Tryd.ntmps40
  go_wp2_with fail
  go_loop [3, 4] (fun lv i => ∃ (k z : Nat), k ≤ x ∧ i = .int .i64 k ∧ lv = .int .i64 z ∧ Hid (y / 2 ^ k = z) ∧ Hid (∀ j, j < k → y / 2 ^ j % 2 = 0) ∧ z < 256) (fun _ i => x - (intOf i).toNat)
  case atStart => exact ⟨0, y, Nat.zero_le _, rfl, rfl, by simp [Hid], fun j hj => absurd hj (by omega), bn⟩
  case round =>
    obtain ⟨k, z, hk, rfl, rfl, hz, hno, hzb⟩ := hrel
    have i0 : (0 : Int) ≤ (k : Int) := by omega
    by_cases hlt : k < x
    · have d1 : decide (k < x) = true := decide_eq_true hlt
      by_cases hodd : z % 2 = 0
      · have e1 : ((z : Int) % 2 == 1) = false := by simp; omega
        have hz2 : Hid (y / 2 ^ (k + 1) = z / 2) := by rw [← div_pow_succ, hz.out]; rfl
        have hn2 : Hid (∀ j, j < k + 1 → y / 2 ^ j % 2 = 0) := fun j hj => by
          rcases Nat.eq_or_lt_of_le (Nat.le_of_lt_succ hj) with rfl | hj
          · rw [hz.out]; exact hodd
          · exact hno.out j hj
        clear hodd HNO HYES
        go_wp2_with fail
        go_round
        case rel => exact ⟨k + 1, z / 2, by omega, by go_num, by first | go_num | (congr 1), hz2, hn2, by omega⟩
        case measure => simp [intOf]; omega
      · have hr1 := HNO.out k hlt (by rw [hz.out]; exact hodd)
        subst hr1
        have e1 : ((z : Int) % 2 == 1) = true := by simp; omega
        clear hodd HNO HYES
        go_wp2_with fail
        go_ret
        exact ⟨rfl, rfl⟩
    · obtain rfl : k = x := by omega
      have hr1 := HYES.out hno.out
      subst hr1
      clear HNO HYES
      go_wp2_with fail
      go_ret
      exact ⟨rfl, rfl⟩
end Go.Proofs.YtjdfgjlbmbiihaaDoor
