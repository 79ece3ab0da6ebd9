/-
  The table of days; strconv.Atoi of digits; leap.
-/
import Derived.Test.YtjdfgjlbmbiihaaDoorPt10b
import Derived.Test.YtjdfgjlbmbiihaaDoorLib3
import Derived.Lib.LaidTab
import Derived.LaidSub
import Derived.MakeChecks
import Derived.Stop.LaidErr
import Derived.IntWalk
import Derived.Lib.Strings
import Derived.Lib.Walk
import Derived.Lib.AtoiErrMem
import Derived.Lib.ItoaWalk
namespace Go.Proofs.YtjdfgjlbmbiihaaDoor
open Go.RowKit

def daysT : List Int := [31, 28, 31, 30, 31, 30, 31, 31, 30, 31, 30, 31]
/-- The table of days lies as the program's text lays it. -/
def Tab10 (w : World) : Prop := ∀ i, i < 12 → w.cell? ⟨2, i, none⟩ = some (.int .i64 (daysT.getD i 0))
theorem Tab10.kp {w w' : World} (h : Tab10 w) (hk : Kp (fun _ => False) w w') : Tab10 w' := fun i hi => hk.cell (h i hi) (fun h => h)
theorem tab10 {W : World} {laid : List (String × DataW Unit)} (h : laidMetH Tryd.prog laid W)
    (hf : (laid.filter fun x => x.1 == "passepartout/dertype.days") = [("passepartout/dertype.days", Lib.tabData .i64 daysT)]) : Tab10 W := by
  have h1 := h.filter (fun x => x.1 == "passepartout/dertype.days")
  rw [hf, MakeChecks.laidMetH_plain _ _ _ (by kernel_rfl)] at h1
  have g0 : Tryd.prog.globalNamed "passepartout/dertype.days" = some 2 := by kernel_rfl
  have t0 := Lib.tabIs_of_head (t := 80) (e := 3) (n := 12) g0 (by kernel_rfl) Tryd.underlying80 Tryd.underlying3 (by kernel_rfl) (by kernel_rfl) h1
  exact fun i hi => t0.cell g0 i hi

/-! ### leap. -/
def leapI (y m : Nat) : Nat := if m = 2 ∧ leapN y = true then 1 else 0
theorem dim_days (y m : Nat) (h1 : 1 ≤ m) (h2 : m ≤ 12) : ∃ d : Nat, daysT.getD (m - 1) 0 = (d : Int) ∧ dim y m = d + leapI y m ∧ d ≤ 31 := by
  have hm : m = 1 ∨ m = 2 ∨ m = 3 ∨ m = 4 ∨ m = 5 ∨ m = 6 ∨ m = 7 ∨ m = 8 ∨ m = 9 ∨ m = 10 ∨ m = 11 ∨ m = 12 := by omega
  rcases hm with rfl | rfl | rfl | rfl | rfl | rfl | rfl | rfl | rfl | rfl | rfl | rfl
  case inr.inl =>
    refine ⟨28, rfl, ?_, by omega⟩
    cases h : leapN y <;> simp [dim, leapI, h]
  all_goals first
    | exact ⟨31, rfl, by simp [dim, leapI], by omega⟩
    | exact ⟨30, rfl, by simp [dim, leapI], by omega⟩

set_option maxRecDepth 100000 in
theorem leap_any (y m : Nat) (hy : y < 10000) (hm : m < 100) (w : World) :
    Calls Tryd.prog 43 #[.int .i64 (y : Int), .int .i64 (m : Int)] w fun e w' => e = .returned (.int .i64 (leapI y m : Int)) ∧ w = w' := by
  by_cases h2 : m = 2
  · subst h2
    have e4 : ((y : Int) % 4 == 0) = decide (y % 4 = 0) := by rw [Bool.eq_iff_iff]; simp; omega
    have e100 : ((y : Int) % 100 != 0) = decide (y % 100 ≠ 0) := by rw [Bool.eq_iff_iff]; simp; omega
    have e400 : ((y : Int) % 400 == 0) = decide (y % 400 = 0) := by rw [Bool.eq_iff_iff]; simp; omega
    by_cases h4 : y % 4 = 0
    · rw [decide_eq_true h4] at e4
      by_cases h100 : y % 100 ≠ 0
      · rw [decide_eq_true h100] at e100
        have hr : leapI y 2 = 1 := by rw [leapI, leapN, decide_eq_true h4, decide_eq_true h100]; rfl
        rw [hr]
        clear e400 hr h100 h4
        go_enter Tryd.func43, Tryd.ntmps43
        go_wp2_with fail
        go_ret
        exact ⟨rfl, rfl⟩
      · rw [decide_eq_false h100] at e100
        by_cases h400 : y % 400 = 0
        · rw [decide_eq_true h400] at e400
          have hr : leapI y 2 = 1 := by rw [leapI, leapN, decide_eq_true h4, decide_eq_true h400]; simp
          rw [hr]
          clear hr h100 h4 h400
          go_enter Tryd.func43, Tryd.ntmps43
          go_wp2_with fail
          go_ret
          exact ⟨rfl, rfl⟩
        · rw [decide_eq_false h400] at e400
          have hr : leapI y 2 = 0 := by rw [leapI, leapN, decide_eq_false h400, decide_eq_false h100]; simp
          rw [hr]
          clear hr h100 h4 h400
          go_enter Tryd.func43, Tryd.ntmps43
          go_wp2_with fail
          go_ret
          exact ⟨rfl, rfl⟩
    · rw [decide_eq_false h4] at e4
      have hr : leapI y 2 = 0 := by rw [leapI, leapN, decide_eq_false h4]; simp
      rw [hr]
      clear e100 e400 hr h4
      go_enter Tryd.func43, Tryd.ntmps43
      go_wp2_with fail
      go_ret
      exact ⟨rfl, rfl⟩
  · have hr : leapI y m = 0 := by rw [leapI, if_neg (fun x => h2 x.1)]
    rw [hr]
    have e2 : ((m : Int) == 2) = false := by simp; omega
    clear hr h2
    go_enter Tryd.func43, Tryd.ntmps43
    go_wp2_with fail
    go_ret
    exact ⟨rfl, rfl⟩

/-! ### strconv.Atoi of digits. -/
theorem bytesWorld_kp (w : World) (e : TypeId) (s : ByteArray) : Kp (fun _ => False) w (Lib.bytesWorld w e s) := Kp.of_below (Lib.bytesWorld_below w e s)

set_option maxRecDepth 100000 in
set_option maxHeartbeats 3200000 in
theorem iatoi_any (s : ByteArray) (l : List UInt8) (hs : s.data.toList = l) (h0 : 1 ≤ l.length) (h4 : l.length ≤ 4) (hd : digs l = true) (w : World) :
    Calls Tryd.prog 50 #[.string s] w fun e w' => e = .returned (.tuple #[.int .i64 (num l : Int), .nilIface]) ∧ Kp (fun _ => False) w w' := by
  have hsz : s.size = l.length := by rw [Lib.size_eq, hs]
  have hdig : ∀ k (hk : k < l.length), 48 ≤ (l[k]).toNat ∧ (l[k]).toNat ≤ 57 := by
    intro k hk
    have := List.all_eq_true.1 hd l[k] (List.getElem_mem hk)
    simpa [isDig] using this
  have hpos : 0 < s.size := by omega
  have hs0 : s[0]'hpos = l[0]'(by omega) := by
    have := Lib.getD_at s 0 hpos
    rw [hs] at this
    rw [this, List.getD_eq_getElem?_getD, List.getElem?_eq_getElem (by omega)]
    rfl
  have d0 := hdig 0 (by omega)
  obtain ⟨b0, hb0⟩ : ∃ b, l[0]'(by omega) = b := ⟨_, rfl⟩
  rw [hb0] at hs0 d0
  have h45 : ((b0.toNat : Int) == 45) = false := by simp; omega
  have h43 : ((b0.toNat : Int) == 43) = false := by simp; omega
  have hcv := Lib.run_convert_string_bytes (P := Tryd.prog) w 9 22 5 s (u := .string) Tryd.underlying9 Tryd.underlying22 Tryd.underlying5
  have hB : ∀ j (hj : j < l.length), (Lib.bytesWorld w 5 s).cell? ⟨w.heap.size, j, none⟩ = some (.int .u8 ((l[j]).toNat : Int)) := fun j hj => by
    rw [Lib.bytesWorld_cell w 5 s j (by omega), hs, List.getD_eq_getElem?_getD, List.getElem?_eq_getElem hj]
    rfl
  have hkw := bytesWorld_kp w 5 s
  obtain ⟨W1, hW1⟩ : ∃ W1, W1 = Lib.bytesWorld w 5 s := ⟨_, rfl⟩
  rw [← hW1] at hcv hB hkw
  have HB := Lib.hid hB
  have HDG := Lib.hid hdig
  have HNL := Lib.hid (num_lt l hd)
  have HS := Lib.hid hs
  have HLN := Lib.hid hsz
  have hl18 : s.size ≤ 18 := by omega
  have hnum : ∀ k, k ≤ l.length → num (l.take k) < 10 ^ k := by
    intro k hk
    have := num_lt (l.take k) (List.all_eq_true.2 fun c hc => List.all_eq_true.1 hd c (List.mem_of_mem_take hc))
    rwa [List.length_take, Nat.min_eq_left hk] at this
  have HNUM := Lib.hid hnum
  have HD := Lib.hid hd
  clear hW1 hB hdig hs hsz hnum hd hb0
  go_enter Tryd.func50, Tryd.ntmps50
  go_wp2_with fail
  go_loop [49, 6] (fun vi vn => ∃ (k acc : Nat), k ≤ s.size ∧ vi = .int .i64 k ∧ vn = .int .i64 acc ∧ Hid (num (l.take k) = acc)) (fun vi _ => s.size - (RowKit.intOf vi).toNat)
  case atStart => exact ⟨0, 0, Nat.zero_le _, rfl, rfl, rfl⟩
  case round =>
    obtain ⟨k, acc, hk, rfl, rfl, hacc⟩ := hrel
    by_cases hkn : k < s.size
    · have hkl : k < l.length := by have := HLN.out; omega
      have hc1 := HB.out k hkl
      obtain ⟨h48, h57⟩ := HDG.out k hkl
      have hst := num_take l k hkl
      have hlt := HNUM.out k (by have := HLN.out; omega)
      have hlt2 : 10 ^ k ≤ 10 ^ 3 := Nat.pow_le_pow_right (by omega) (by omega)
      have ha := hacc.out
      rw [ha] at hlt hst
      have hacc3 : acc < 1000 := by omega
      clear hlt hlt2 ha
      generalize (l[k]).toNat = x at hc1 h48 h57 hst
      have HST := Lib.hid hst
      clear hst
      go_wp2_with fail
      go_round
      case rel => exact ⟨k + 1, acc * 10 + (x - 48), by omega, by go_num, by first | go_num | (congr 1; omega), HST.out⟩
      case measure => simp [RowKit.intOf]; omega
    · have hke : k = s.size := by omega
      subst hke
      have hfin : num l = acc := by
        have h1 := hacc.out
        rwa [List.take_of_length_le (by have := HLN.out; omega)] at h1
      have HF := Lib.hid hfin
      clear hfin
      go_wp2_with fail
      go_ret2
      exact ⟨by rw [HF.out]; rfl, hkw⟩

set_option maxRecDepth 100000 in
theorem atoi_any (s : ByteArray) (l : List UInt8) (hs : s.data.toList = l) (h0 : 1 ≤ l.length) (h4 : l.length ≤ 4) (hd : digs l = true) (w : World) :
    Calls Tryd.prog 42 #[.string s] w fun e w' => e = .returned (.tuple #[.int .i64 (num l : Int), .nilIface]) ∧ Kp (fun _ => False) w w' := by
  have HI := Lib.hid (iatoi_any s l hs h0 h4 hd w)
  clear hs h0 h4 hd
  go_enter Tryd.func42, Tryd.ntmps42
  go_wp2_with fail
  refine HI.out.mono ?_
  rintro e w1 ⟨rfl, hk1⟩
  go_wp2_with fail
  go_ret2
  exact ⟨rfl, hk1⟩
end Go.Proofs.YtjdfgjlbmbiihaaDoor
