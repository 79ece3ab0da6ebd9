/-
  'same'; which bytes may be an identifier's; a number laid seven bits a byte.
-/
import Derived.Test.YtjdfgjlbmbiihaaDoorTy2
import Derived.Test.YtjdfgjlbmbiihaaDoorLib3
namespace Go.Proofs.YtjdfgjlbmbiihaaDoor
open Go.RowKit

set_option maxRecDepth 100000 in
set_option maxHeartbeats 1600000 in
theorem same_any (ok1 ok2 : Nat → Prop) (v1 v2 : Value) (a b : List Nat) (w : World) (ha : UR w ok1 v1 a) (hb : UR w ok2 v2 b) (hla : a.length ≤ 140737488355328) :
    Calls Tryd.prog 26 #[v1, v2] w fun e w' => e = .returned (.bool (a == b)) ∧ Kp (fun _ => False) w w' := by
  obtain ⟨A1, c1, rfl, hc1, hr1⟩ := id ha
  obtain ⟨A2, c2, rfl, hc2, hr2⟩ := id hb
  by_cases hl : a.length = b.length
  · obtain ⟨r, hr⟩ : ∃ r, (a == b) = r := ⟨_, rfl⟩
    rw [hr]
    have HNO := Lib.hid (show ∀ k (hk : k < a.length) (hk' : k < b.length), a[k] ≠ b[k] → r = false from fun k hk hk' hne => by
      rw [← hr]
      refine beq_eq_false_iff_ne.2 (fun e => hne ?_)
      subst e
      rfl)
    have HYES := Lib.hid (show a.take a.length = b.take a.length → r = true from fun h => by
      rw [List.take_of_length_le (Nat.le_refl _), hl, List.take_of_length_le (Nat.le_refl _)] at h
      rw [← hr, h]
      simp)
    rw [← hl] at hr2 hc2 ⊢
    have HL := Lib.hid hl
    clear hr hl ha hb
    go_enter Tryd.func26, Tryd.ntmps26
    go_wp2_with fail
    go_loopw [13] (fun i wr => ∃ k : Nat, k ≤ a.length ∧ i = .int .i64 k ∧ a.take k = b.take k ∧ Kp (fun _ => False) w wr) (fun i _ => a.length - (intOf i).toNat)
    case atStart => exact ⟨0, Nat.zero_le _, rfl, rfl, Kp.refl _ _⟩
    case round =>
      obtain ⟨k, hk, rfl, htk, hkr⟩ := hrel
      have HTK := Lib.hid htk
      clear htk
      by_cases hlt : k < a.length
      · have hlb : k < b.length := by have := HL.out; omega
        obtain ⟨x, xo, rfl, _, hx⟩ := (hr1.kp hkr (fun _ _ h => h)).unum hlt
        have hr2' : Rd w ok2 1 A2 b.length (uc b) := by rw [← HL.out]; exact hr2
        obtain ⟨y, yo, rfl, _, hy⟩ := (hr2'.kp hkr (fun _ _ h => h)).unum hlb
        obtain ⟨p, hp⟩ : ∃ p, a[k] = p := ⟨_, rfl⟩
        obtain ⟨q, hq⟩ : ∃ q, b[k] = q := ⟨_, rfl⟩
        rw [hp] at hx
        rw [hq] at hy
        have hi0 : (0 : Int) ≤ (k : Int) := by omega
        have hi1 : (k : Int) < (a.length : Int) := by omega
        have HP := Lib.hid hp
        have HQ := Lib.hid hq
        clear hp hq hr2'
        by_cases hpq : p = q
        · subst hpq
          have hT : a.take (k + 1) = b.take (k + 1) := by
            rw [List.take_succ_eq_append_getElem hlt, List.take_succ_eq_append_getElem hlb, HTK.out, HP.out, HQ.out]
          have HT := Lib.hid hT
          clear hT
          go_wp2_with fail
          go_quiet (fail)
          go_wp2_with fail
          go_roundw
          case rel => exact ⟨k + 1, by omega, by go_num, HT.out, hkr.drewN _⟩
          case measure => simp [intOf]; omega
        · have hr0 := HNO.out k hlt hlb (by rw [HP.out, HQ.out]; exact hpq)
          subst hr0
          have hne : ((p : Int) == (q : Int)) = false := by simp; omega
          have hne2 : ((p : Int) != (q : Int)) = true := by simp; omega
          clear HNO HYES
          go_wp2_with fail
          go_quiet (fail)
          go_wp2_with fail
          go_ret
          exact ⟨rfl, hkr.drewN _⟩
      · obtain rfl : k = a.length := by omega
        have hr0 := HYES.out HTK.out
        subst hr0
        clear HNO HYES
        go_wp2_with fail
        go_ret
        exact ⟨rfl, hkr⟩
  · have he : (a == b) = false := beq_eq_false_iff_ne.2 (fun e => hl (by rw [e]))
    rw [he]
    have hne : ((a.length : Int) == (b.length : Int)) = false := by simp; omega
    have hne2 : ((a.length : Int) != (b.length : Int)) = true := by simp; omega
    clear hl he
    go_enter Tryd.func26, Tryd.ntmps26
    go_wp2_with fail
    go_ret
    exact ⟨rfl, Kp.refl _ _⟩

/-- The scan: may a byte begin a number here? none: refused. -/
def oidS : List UInt8 → Bool → Option Bool
  | [], b => some b
  | c :: r, b => if b = true ∧ c.toNat = 128 then none else oidS r (decide (c.toNat < 128))
def oidB (l : List UInt8) : Bool := match oidS l true with
  | none => false
  | some b => decide (0 < l.length) && b
theorem oidS_drop {l : List UInt8} {k : Nat} (hk : k < l.length) (b : Bool) : oidS (l.drop k) b = if b = true ∧ (l[k]).toNat = 128 then none else oidS (l.drop (k + 1)) (decide ((l[k]).toNat < 128)) := by
  rw [List.drop_eq_getElem_cons hk, oidS]

set_option maxRecDepth 100000 in
set_option maxHeartbeats 1600000 in
theorem oid_any (ok : Nat → Prop) (v : Value) (l : List UInt8) (w : World) (hv : BR w ok v l) (hl : l.length ≤ 140737488355328) :
    Calls Tryd.prog 36 #[v] w fun e w' => e = .returned (.bool (oidB l)) ∧ w = w' := by
  obtain ⟨A, c, rfl, hc, hr⟩ := id hv
  obtain ⟨r, hr0⟩ : ∃ r, oidB l = r := ⟨_, rfl⟩
  rw [hr0]
  have HNO := Lib.hid (show oidS l true = none → r = false from fun h => by rw [← hr0, oidB, h])
  have HS := Lib.hid (show ∀ b, oidS l true = some b → r = (decide (0 < l.length) && b) from fun b h => by rw [← hr0, oidB, h])
  clear hr0 hv
  go_enter Tryd.func36, Tryd.ntmps36
  go_wp2_with fail
  go_loop [3, 8] (fun bv i => ∃ (k : Nat) (b : Bool), k ≤ l.length ∧ i = .int .i64 k ∧ bv = .bool b ∧ oidS l true = oidS (l.drop k) b) (fun _ i => l.length - (intOf i).toNat)
  case atStart => exact ⟨0, true, Nat.zero_le _, rfl, rfl, rfl⟩
  case round =>
    obtain ⟨k, b, hk, rfl, rfl, he⟩ := hrel
    have HE := Lib.hid he
    clear he
    by_cases hlt : k < l.length
    · obtain ⟨g, off, rfl, _, hcell⟩ := hr.byte hlt
      have hd := oidS_drop hlt b
      obtain ⟨x, hx⟩ : ∃ x, (l[k]).toNat = x := ⟨_, rfl⟩
      rw [hx] at hcell hd
      have hxl : x < 256 := by rw [← hx]; exact (l[k]).toNat_lt
      have HD := Lib.hid hd
      clear hd hx
      cases b
      · by_cases h128 : x < 128
        · have h1 : decide ((x : Int) < 128) = true := by simp; omega
          go_wp2_with fail
          go_round
          case rel => exact ⟨k + 1, true, by omega, by go_num, rfl, by rw [HE.out, HD.out, if_neg (by simp), decide_eq_true h128]⟩
          case measure => simp [intOf]; omega
        · have h1 : decide ((x : Int) < 128) = false := by simp; omega
          go_wp2_with fail
          go_round
          case rel => exact ⟨k + 1, false, by omega, by go_num, rfl, by rw [HE.out, HD.out, if_neg (by simp), decide_eq_false h128]⟩
          case measure => simp [intOf]; omega
      · by_cases h128 : x < 128
        · have h1 : decide ((x : Int) < 128) = true := by simp; omega
          have h2 : ((x : Int) == 128) = false := by simp; omega
          go_wp2_with fail
          go_round
          case rel => exact ⟨k + 1, true, by omega, by go_num, rfl, by rw [HE.out, HD.out, if_neg (by omega), decide_eq_true h128]⟩
          case measure => simp [intOf]; omega
        · by_cases he : x = 128
          · subst he
            have hr1 := HNO.out (by rw [HE.out, HD.out, if_pos ⟨rfl, rfl⟩])
            subst hr1
            clear HNO HS
            go_wp2_with fail
            go_ret
            exact ⟨rfl, rfl⟩
          · have h1 : decide ((x : Int) < 128) = false := by simp; omega
            have h2 : ((x : Int) == 128) = false := by simp; omega
            go_wp2_with fail
            go_round
            case rel => exact ⟨k + 1, false, by omega, by go_num, rfl, by rw [HE.out, HD.out, if_neg (by omega), decide_eq_false h128]⟩
            case measure => simp [intOf]; omega
    · obtain rfl : k = l.length := by omega
      have hr1 := HS.out b (by rw [HE.out, List.drop_of_length_le (Nat.le_refl _)]; rfl)
      have HR1 := Lib.hid hr1
      clear hr1 HNO HS
      by_cases h0 : 0 < l.length
      · have h1 : (0 : Int) < (l.length : Int) := by omega
        go_wp2_with fail
        go_ret
        exact ⟨by rw [HR1.out, decide_eq_true h0]; simp, rfl⟩
      · have h1 : l.length = 0 := by omega
        have h2 : decide ((0 : Int) < (l.length : Int)) = false := decide_eq_false (by omega)
        have h3 : decide (0 < l.length) = false := decide_eq_false (by omega)
        clear h1
        go_wp2_with fail
        go_ret
        exact ⟨by rw [HR1.out, decide_eq_false h0]; simp, rfl⟩
end Go.Proofs.YtjdfgjlbmbiihaaDoor
