/-
  dertag: which things there are; the two tables.
-/
import Derived.Test.YtjdfgjlbmbiihaaDoorProg
import Derived.Test.YtjdfgjlbmbiihaaDoorOpen
import Derived.Test.YtjdfgjlbmbiihaaDoorNum
import Derived.Lib.LaidTab
import Derived.MakeChecks
import Derived.Stop.LaidErr
namespace Go.Proofs.YtjdfgjlbmbiihaaDoor
open Go.RowKit

def plainT : List Int := [1, 2, 3, 4, 5, 6, 10, 12, 18, 19, 20, 22, 23, 24, 26, 28, 30]
def madeT : List Int := [16, 17]

/-- The two tables lie as the program's text lays them. -/
def Tab (w : World) : Prop :=
  (∀ i, i < plainT.length → w.cell? ⟨0, i, none⟩ = some (.int .i64 (plainT.getD i 0))) ∧ (∀ i, i < madeT.length → w.cell? ⟨1, i, none⟩ = some (.int .i64 (madeT.getD i 0)))
theorem Tab.kp {w w' : World} (h : Tab w) (hk : Kp (fun _ => False) w w') : Tab w' := ⟨fun i hi => hk.cell (h.1 i hi) (fun h => h), fun i hi => hk.cell (h.2 i hi) (fun h => h)⟩

theorem tab09 {W : World} (h : laidMetH Tryd.prog [("passepartout/dertag.plain", Lib.tabData .i64 plainT), ("passepartout/dertag.made", Lib.tabData .i64 madeT)] W) : Tab W := by
  rw [MakeChecks.laidMetH_plain _ _ _ (by kernel_rfl)] at h
  have g0 : Tryd.prog.globalNamed "passepartout/dertag.plain" = some 0 := by kernel_rfl
  have g1 : Tryd.prog.globalNamed "passepartout/dertag.made" = some 1 := by kernel_rfl
  have t0 := Lib.tabIs_of_head (t := 72) (e := 3) (n := 17) g0 (by kernel_rfl) Tryd.underlying72 Tryd.underlying3 (by kernel_rfl) (by kernel_rfl) h
  have t1 := Lib.tabIs_of_head (t := 73) (e := 3) (n := 2) g1 (by kernel_rfl) Tryd.underlying73 Tryd.underlying3 (by kernel_rfl) (by kernel_rfl) h.tail
  exact ⟨fun i hi => t0.cell g0 i hi, fun i hi => t1.cell g1 i hi⟩

/-- Is there such a thing? -/
def kindB (c t : Int) (m : Bool) : Bool := (c == 2 && (decide (0 ≤ t) && decide (t ≤ 30))) || (c == 0 && (if m then madeT else plainT).contains t)

theorem kind_any (c t : Int) (m : Bool) (w : World) (ht : Tab w) : Calls Tryd.prog 19 #[.int .i64 c, .int .i64 t, .bool m] w fun e w' => e = .returned (.int .i64 (if kindB c t m then 0 else 13)) ∧ w = w' := by
  by_cases h2 : c = 2
  · subst h2
    by_cases h0 : 0 ≤ t ∧ t ≤ 30
    · have hk : kindB 2 t m = true := by simp [kindB, h0.1, h0.2]
      obtain ⟨h0, h1⟩ := h0
      rw [hk]
      go_enter Tryd.func19, Tryd.ntmps19
      go_wp2_with fail
      go_ret
      exact ⟨rfl, rfl⟩
    · have hk : kindB 2 t m = false := by
        simp [kindB]
        omega
      have h1 : t < 0 ∨ 0 ≤ t ∧ 30 < t := by omega
      rw [hk]
      rcases h1 with h1 | ⟨h1, h3⟩
      all_goals
        go_enter Tryd.func19, Tryd.ntmps19
        go_wp2_with fail
        go_ret
        exact ⟨rfl, rfl⟩
  by_cases h0 : c = 0
  · subst h0
    cases m
    · obtain ⟨r, hr⟩ : ∃ r : Int, (if kindB 0 t false then 0 else 13) = r := ⟨_, rfl⟩
      rw [hr]
      have hc : ∀ i, i < plainT.length → w.cell? ⟨0, i, none⟩ = some (.int .i64 (plainT.getD i 0)) := ht.1
      have hkt : ∀ i, i < 17 → (plainT.getD i 0 == t) = true → r = 0 := by
        intro i hi h
        have h' : plainT.getD i 0 = t := by simpa using h
        have : t ∈ plainT := by
          have hi' : i < plainT.length := by simpa [plainT] using hi
          rw [List.getD_eq_getElem?_getD, List.getElem?_eq_getElem hi', Option.getD_some] at h'
          rw [← h']
          exact List.getElem_mem _
        rw [← hr]
        simp [kindB, this]
      have hkf : (∀ i, i < 17 → plainT.getD i 0 ≠ t) → r = 13 := by
        intro h
        have : t ∉ plainT := by
          intro hm
          obtain ⟨i, hi, e⟩ := List.mem_iff_getElem.1 hm
          exact h i (by simpa [plainT] using hi) (by rw [List.getD_eq_getElem?_getD, List.getElem?_eq_getElem hi, Option.getD_some, e])
        rw [← hr]
        simp [kindB, this]
      have hcc : ∀ i, i < 17 → w.cell? ⟨0, i, none⟩ = some (.int .i64 (plainT.getD i 0)) := fun i hi => hc i (by simpa [plainT] using hi)
      clear hc h2 ht
      have HT := Lib.hid hkt
      have HF := Lib.hid hkf
      have HC := Lib.hid hcc
      clear hkt hkf hcc hr
      go_enter Tryd.func19, Tryd.ntmps19
      go_wp2_with fail
      go_loop [30] (fun i => ∃ k : Nat, (k ≤ 17 ∧ ∀ j, j < k → plainT.getD j 0 ≠ t) ∧ i = .int .i64 k) (fun i => 17 - (intOf i).toNat)
      case atStart => exact ⟨0, ⟨Nat.zero_le _, fun j hj => by omega⟩, rfl⟩
      case round =>
        obtain ⟨k, ⟨hk, hno⟩, rfl⟩ := hrel
        by_cases hlt : k < 17
        · have hcell := HC.out k hlt
          obtain ⟨z, hz⟩ : ∃ z, plainT.getD k 0 = z := ⟨_, rfl⟩
          rw [hz] at hcell
          by_cases heq : (z == t) = true
          · have hk1 := Lib.hid (HT.out k hlt (by rw [hz]; exact heq))
            clear hno hz
            go_wp2_with fail
            go_ret
            exact ⟨by rw [hk1.out]; rfl, rfl⟩
          · have heq' : (z == t) = false := by simpa using heq
            have hno' : ∀ j, j < k + 1 → plainT.getD j 0 ≠ t := by
              intro j hj
              rcases Nat.lt_succ_iff_lt_or_eq.1 hj with h | h
              · exact hno j h
              · subst h; rw [hz]; simpa using heq'
            have HN := Lib.hid hno'
            clear hno hno' heq hz
            go_wp2_with fail
            go_round
            case rel => exact ⟨k + 1, ⟨by omega, HN.out⟩, by go_num⟩
            case measure => simp [intOf]; omega
        · obtain rfl : k = 17 := by omega
          have hk1 := Lib.hid (HF.out hno)
          clear hno
          go_wp2_with fail
          go_ret
          exact ⟨by rw [hk1.out]; rfl, rfl⟩
    · have hc : ∀ i, i < madeT.length → w.cell? ⟨1, i, none⟩ = some (.int .i64 (madeT.getD i 0)) := ht.2
      have c0 : w.cell? ⟨1, 0, none⟩ = some (.int .i64 16) := hc 0 (by decide)
      have c1 : w.cell? ⟨1, 1, none⟩ = some (.int .i64 17) := hc 1 (by decide)
      clear hc h2 ht
      by_cases h6 : t = 16
      · subst h6
        go_enter Tryd.func19, Tryd.ntmps19
        go_wp2_with fail
        refine wp_loop_rounds 3 ?_
        rw [rounds_succ]
        go_wp2_with fail
        go_ret
        exact ⟨rfl, rfl⟩
      by_cases h7 : t = 17
      · subst h7
        go_enter Tryd.func19, Tryd.ntmps19
        go_wp2_with fail
        refine wp_loop_rounds 3 ?_
        iterate 2 (rw [rounds_succ]; go_wp2_with fail)
        go_ret
        exact ⟨rfl, rfl⟩
      · have e6 : (16 == t) = false := by simpa using fun e => h6 e.symm
        have e7 : (17 == t) = false := by simpa using fun e => h7 e.symm
        have hk : kindB 0 t true = false := by simp [kindB, madeT, h6, h7]
        rw [hk]
        clear h6 h7
        go_enter Tryd.func19, Tryd.ntmps19
        go_wp2_with fail
        refine wp_loop_rounds 3 ?_
        iterate 3 (rw [rounds_succ]; go_wp2_with fail)
        go_ret
        exact ⟨rfl, rfl⟩
  · have e2 : (c == 2) = false := by simpa using h2
    have e0 : (c != 0) = true := by simpa using h0
    have hk : kindB c t m = false := by simp [kindB, h2, h0]
    rw [hk]
    clear h2 h0 hk
    go_enter Tryd.func19, Tryd.ntmps19
    go_wp2_with fail
    go_ret
    exact ⟨rfl, rfl⟩

theorem rkind_any (c t : Int) (m : Bool) (w : World) : Calls Tryd.prog 17 #[.int .i64 c, .int .i64 t, .bool m] w fun e w' => e = .returned (.bool (kindB c t m)) ∧ w = w' := by
  by_cases h2 : c = 2
  · subst h2
    have hk : kindB 2 t m = (decide (0 ≤ t) && decide (t ≤ 30)) := by simp [kindB]
    rw [hk]
    clear hk
    rcases Int.lt_or_le t 0 with h1 | h1
    · go_enter Tryd.func17, Tryd.ntmps17
      go_wp2_with fail
      go_ret
      exact ⟨by simp; omega, rfl⟩
    · rcases Int.lt_or_le 30 t with h3 | h3
      all_goals
        go_enter Tryd.func17, Tryd.ntmps17
        go_wp2_with fail
        go_ret
        exact ⟨by simp; omega, rfl⟩
  by_cases h0 : c = 0
  · subst h0
    clear h2
    by_cases hp : t ∈ plainT
    · have hk : kindB 0 t m = !m := by
        cases m
        · simp [kindB, hp]
        · have : t ∉ madeT := fun h => by
            simp [madeT] at h
            rcases h with rfl | rfl <;> revert hp <;> decide
          simp [kindB, this]
      rw [hk]
      clear hk
      simp only [plainT, List.mem_cons, List.not_mem_nil, or_false] at hp
      rcases hp with rfl | rfl | rfl | rfl | rfl | rfl | rfl | rfl | rfl | rfl | rfl | rfl | rfl | rfl | rfl | rfl | rfl
      all_goals
        go_enter Tryd.func17, Tryd.ntmps17
        go_wp2_with fail
        go_ret
        exact ⟨rfl, rfl⟩
    by_cases hm : t ∈ madeT
    · have hk : kindB 0 t m = m := by
        cases m
        · simp [kindB, hp]
        · simp [kindB, hm]
      rw [hk]
      clear hk hp
      simp only [madeT, List.mem_cons, List.not_mem_nil, or_false] at hm
      rcases hm with rfl | rfl
      all_goals
        go_enter Tryd.func17, Tryd.ntmps17
        go_wp2_with fail
        go_ret
        exact ⟨rfl, rfl⟩
    · have hk : kindB 0 t m = false := by cases m <;> simp [kindB, hp, hm]
      rw [hk]
      clear hk
      simp only [plainT, madeT, List.mem_cons, List.not_mem_nil, or_false, not_or] at hp hm
      obtain ⟨a1, a2, a3, a4, a5, a6, a7, a8, a9, b0, b1, b2, b3, b4, b5, b6, b7⟩ := hp
      obtain ⟨c1, c2⟩ := hm
      replace a1 := beq_false_of_ne a1
      replace a2 := beq_false_of_ne a2
      replace a3 := beq_false_of_ne a3
      replace a4 := beq_false_of_ne a4
      replace a5 := beq_false_of_ne a5
      replace a6 := beq_false_of_ne a6
      replace a7 := beq_false_of_ne a7
      replace a8 := beq_false_of_ne a8
      replace a9 := beq_false_of_ne a9
      replace b0 := beq_false_of_ne b0
      replace b1 := beq_false_of_ne b1
      replace b2 := beq_false_of_ne b2
      replace b3 := beq_false_of_ne b3
      replace b4 := beq_false_of_ne b4
      replace b5 := beq_false_of_ne b5
      replace b6 := beq_false_of_ne b6
      replace b7 := beq_false_of_ne b7
      replace c1 := beq_false_of_ne c1
      replace c2 := beq_false_of_ne c2
      go_enter Tryd.func17, Tryd.ntmps17
      go_wp2_with fail
      go_ret
      exact ⟨rfl, rfl⟩
  · have e2 : (c == 2) = false := by simpa using h2
    have e0 : (c != 0) = true := by simpa using h0
    have hk : kindB c t m = false := by simp [kindB, h2, h0]
    rw [hk]
    clear h2 h0 hk
    go_enter Tryd.func17, Tryd.ntmps17
    go_wp2_with fail
    go_ret
    exact ⟨rfl, rfl⟩
end Go.Proofs.YtjdfgjlbmbiihaaDoor
