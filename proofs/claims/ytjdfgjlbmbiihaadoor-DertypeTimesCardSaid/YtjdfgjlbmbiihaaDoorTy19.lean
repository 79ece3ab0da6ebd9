/-
  dertype.Time at any tag and bytes; the functions of the rows; dertype.Check.
-/
import Derived.Test.YtjdfgjlbmbiihaaDoorTy15
import Derived.Test.YtjdfgjlbmbiihaaDoorTy16
import Derived.Test.YtjdfgjlbmbiihaaDoorTy17
import Derived.Test.YtjdfgjlbmbiihaaDoorTy18
namespace Go.Proofs.YtjdfgjlbmbiihaaDoor
open Go.RowKit Go.Maps

theorem time_any (tag : Int) (ok : Nat → Prop) (v : Value) (l : List UInt8) (w : World) (hv : BR w ok v l) (htab : Tab10 w) :
    Calls Tryd.prog 29 #[.int .i64 tag, v] w fun e w' => e = .returned (.tuple #[(timeV tag l).1.v, .int .i64 (timeV tag l).2]) ∧ Kp (fun _ => False) w w' := by
  by_cases h23 : tag = 23
  · subst h23
    by_cases h13 : l.length = 13
    · have e : timeR 23 l = time15 (cent l ++ l) := by rw [timeR, if_pos rfl, if_pos h13]
      by_cases h53 : 53 ≤ bt l 0
      · have hc : cent l = [49, 57] := by rw [cent, if_pos h53]
        refine time_b ok v l (cent l ++ l) w hv htab (by rw [hc]; simp; omega) (by rw [hc]) h53 (timeV 23 l) ?_
        rw [timeV, if_pos (.inl rfl), e]
      · have hc : cent l = [50, 48] := by rw [cent, if_neg h53]
        refine time_c ok v l (cent l ++ l) w hv htab (by rw [hc]; simp; omega) (by rw [hc]) (by omega) (timeV 23 l) ?_
        rw [timeV, if_pos (.inl rfl), e]
    · have e : timeV 23 l = (T6.zero, 13) := by rw [timeV, if_pos (.inl rfl), timeR, if_pos rfl, if_neg h13]
      rw [e]
      exact time_13 ok v l w hv h13
  · by_cases h24 : tag = 24
    · subst h24
      by_cases h15 : l.length = 15
      · refine time_a ok v l l w hv htab h15 rfl (timeV 24 l) ?_
        rw [timeV, if_pos (.inr rfl), timeR, if_neg h23]
      · have e : timeV 24 l = (T6.zero, 13) := by rw [timeV, if_pos (.inr rfl), timeR, if_neg h23, time15, if_neg (fun x => h15 x.1)]
        rw [e]
        exact time_15 ok v l w hv h15
    · have e : timeV tag l = (T6.zero, 2) := by rw [timeV, if_neg (by omega)]
      rw [e]
      exact time_arg tag h23 h24 v w
theorem timeV_ok (tag : Int) (h : tag = 23 ∨ tag = 24) (l : List UInt8) : ((timeV tag l).2 == 0) = (timeR tag l).isSome := by
  rw [timeV, if_pos h]
  cases timeR tag l <;> rfl

set_option maxRecDepth 100000 in
theorem row4_any (ok : Nat → Prop) (v : Value) (l : List UInt8) (w : World) (hv : BR w ok v l) (htab : Tab10 w) :
    Calls Tryd.prog 55 #[v] w fun e w' => e = .returned (.bool (timeR 23 l).isSome) ∧ Kp (fun _ => False) w w' := by
  have HT := Lib.hid (time_any 23 ok v l w hv htab)
  have hb := timeV_ok 23 (.inl rfl) l
  obtain ⟨t, ht⟩ : ∃ t, (timeV 23 l).1 = t := ⟨_, rfl⟩
  obtain ⟨n, hn⟩ : ∃ n, (timeV 23 l).2 = n := ⟨_, rfl⟩
  obtain ⟨r, hr⟩ : ∃ r, (timeR 23 l).isSome = r := ⟨_, rfl⟩
  rw [ht, hn] at HT
  rw [hn, hr] at hb
  rw [hr]
  obtain ⟨a, b, c, d, e, f⟩ := t
  clear hv htab ht hn hr
  go_enter Tryd.func55, Tryd.ntmps55
  go_wp2_with fail
  refine HT.out.mono ?_
  rintro e w1 ⟨rfl, hk1⟩
  simp only [T6.v]
  go_wp2_with fail
  go_ret
  exact ⟨rfl, hk1.alloc _⟩
set_option maxRecDepth 100000 in
theorem row5_any (ok : Nat → Prop) (v : Value) (l : List UInt8) (w : World) (hv : BR w ok v l) (htab : Tab10 w) :
    Calls Tryd.prog 56 #[v] w fun e w' => e = .returned (.bool (timeR 24 l).isSome) ∧ Kp (fun _ => False) w w' := by
  have HT := Lib.hid (time_any 24 ok v l w hv htab)
  have hb := timeV_ok 24 (.inr rfl) l
  obtain ⟨t, ht⟩ : ∃ t, (timeV 24 l).1 = t := ⟨_, rfl⟩
  obtain ⟨n, hn⟩ : ∃ n, (timeV 24 l).2 = n := ⟨_, rfl⟩
  obtain ⟨r, hr⟩ : ∃ r, (timeR 24 l).isSome = r := ⟨_, rfl⟩
  rw [ht, hn] at HT
  rw [hn, hr] at hb
  rw [hr]
  obtain ⟨a, b, c, d, e, f⟩ := t
  clear hv htab ht hn hr
  go_enter Tryd.func56, Tryd.ntmps56
  go_wp2_with fail
  refine HT.out.mono ?_
  rintro e w1 ⟨rfl, hk1⟩
  simp only [T6.v]
  go_wp2_with fail
  go_ret
  exact ⟨rfl, hk1.alloc _⟩
set_option maxRecDepth 100000 in
theorem row1_any (v : Value) (w : World) : Calls Tryd.prog 52 #[v] w fun e w' => e = .returned (.bool true) ∧ Kp (fun _ => False) w w' := by
  go_enter Tryd.func52, Tryd.ntmps52
  go_wp2_with fail
  go_ret
  exact ⟨rfl, Kp.refl _ _⟩
set_option maxRecDepth 100000 in
theorem row3_any (ok : Nat → Prop) (v : Value) (l : List UInt8) (w : World) (hv : BR w ok v l) : Calls Tryd.prog 54 #[v] w fun e w' => e = .returned (.bool (decide (l.length = 0))) ∧ Kp (fun _ => False) w w' := by
  obtain ⟨A, c, rfl, hc, hr⟩ := hv
  clear hr
  have hb : ((l.length : Int) == 0) = decide (l.length = 0) := by rw [Bool.eq_iff_iff]; simp
  go_enter Tryd.func54, Tryd.ntmps54
  go_wp2_with fail
  go_ret
  exact ⟨by simp, Kp.refl _ _⟩
/-- May bytes be a boolean's? -/
def boolB (l : List UInt8) : Bool := decide (l.length = 1) && (decide (bt l 0 = 0) || decide (bt l 0 = 255))
set_option maxRecDepth 100000 in
theorem row2_any (ok : Nat → Prop) (v : Value) (l : List UInt8) (w : World) (hv : BR w ok v l) : Calls Tryd.prog 53 #[v] w fun e w' => e = .returned (.bool (boolB l)) ∧ Kp (fun _ => False) w w' := by
  obtain ⟨A, c, rfl, hc, hr⟩ := hv
  obtain ⟨r, hr0⟩ : ∃ r, boolB l = r := ⟨_, rfl⟩
  rw [hr0]
  rw [boolB] at hr0
  by_cases h1 : l.length = 1
  · obtain ⟨g, off, rfl, _, hc0⟩ := hr.byte (k := 0) (by omega)
    rw [← bt_at (l := l) (i := 0) (by omega), Nat.add_zero] at hc0
    generalize bt l 0 = x at hr0 hc0
    rw [decide_eq_true h1, Bool.true_and] at hr0
    rw [h1] at hc ⊢
    by_cases hx0 : x = 0
    · subst hx0
      have hr1 : r = true := by rw [← hr0]; rfl
      subst hr1
      clear hr0 hr h1
      go_enter Tryd.func53, Tryd.ntmps53
      go_wp2_with fail
      go_ret
      exact ⟨rfl, Kp.refl _ _⟩
    · have g0 : ((x : Int) == 0) = false := by simp; omega
      have hb : ((x : Int) == 255) = r := by
        rw [← hr0, decide_eq_false hx0, Bool.eq_iff_iff]
        simp
        omega
      clear hr0 hr h1 hx0
      go_enter Tryd.func53, Tryd.ntmps53
      go_wp2_with fail
      go_ret
      exact ⟨rfl, Kp.refl _ _⟩
  · have hr1 : r = false := by rw [← hr0, decide_eq_false h1]; rfl
    subst hr1
    have g0 : ((l.length : Int) == 1) = false := by simp; omega
    clear hr0 hr h1
    go_enter Tryd.func53, Tryd.ntmps53
    go_wp2_with fail
    go_ret
    exact ⟨rfl, Kp.refl _ _⟩

/-! ### Check. -/
/-- What is asked of a tag's bytes. -/
def mayR (tag : Int) : Option (List UInt8 → Bool) :=
  if tag = 1 then some boolB else if tag = 2 ∨ tag = 10 then some intB else if tag = 3 then some bitsB else if tag = 5 then some (fun l => decide (l.length = 0)) else if tag = 6 then some oidB
  else if tag = 23 then some (fun l => (timeR 23 l).isSome) else if tag = 24 then some (fun l => (timeR 24 l).isSome)
  else if tag = 4 ∨ tag = 12 ∨ tag = 18 ∨ tag = 19 ∨ tag = 20 ∨ tag = 22 ∨ tag = 26 ∨ tag = 28 ∨ tag = 30 then some (fun _ => true) else none
def checkR (tag : Int) (l : List UInt8) : Int := match mayR tag with
  | some p => if p l then 0 else 13
  | none => 2

theorem rows_none (tag : Int) (h : tag ≠ 1 ∧ tag ≠ 2 ∧ tag ≠ 10 ∧ tag ≠ 3 ∧ tag ≠ 5 ∧ tag ≠ 6 ∧ tag ≠ 23 ∧ tag ≠ 24 ∧ tag ≠ 4 ∧ tag ≠ 12 ∧ tag ≠ 18 ∧ tag ≠ 19 ∧ tag ≠ 20 ∧ tag ≠ 22 ∧ tag ≠ 26 ∧ tag ≠ 28 ∧ tag ≠ 30) :
    (rowsD 9).atKey (.int .i64 tag) (.lit (.int .i64 (-1))) = .lit (.int .i64 (-1)) ∧ Maps.has (rowsD 9) (.int .i64 tag) = false := by
  have ne : ∀ k : Int, tag ≠ k → (Lit.int .i64 tag) ≠ Lit.int .i64 k := fun k hk e => hk (by injection e)
  have e1 : rowsD 9 = (((((((((rowsD8.put (.int .i64 4) (rowD 52)).put (.int .i64 12) (rowD 52)).put (.int .i64 18) (rowD 52)).put (.int .i64 19) (rowD 52)).put (.int .i64 20) (rowD 52)).put (.int .i64 22) (rowD 52)).put (.int .i64 26) (rowD 52)).put (.int .i64 28) (rowD 52)).put (.int .i64 30) (rowD 52)) := rfl
  obtain ⟨h1, h2, h3, h4, h5, h6, h7, h8, h9, h10, h11, h12, h13, h14, h15, h16, h17⟩ := h
  rw [e1, rowsD8]
  constructor
  · iterate 17 rw [atKey_put_other (ne _ (by assumption))]
    rfl
  · iterate 17 rw [has_put_other (ne _ (by assumption))]
    rfl
theorem mayR_none (tag : Int) (h : tag ≠ 1 ∧ tag ≠ 2 ∧ tag ≠ 10 ∧ tag ≠ 3 ∧ tag ≠ 5 ∧ tag ≠ 6 ∧ tag ≠ 23 ∧ tag ≠ 24 ∧ tag ≠ 4 ∧ tag ≠ 12 ∧ tag ≠ 18 ∧ tag ≠ 19 ∧ tag ≠ 20 ∧ tag ≠ 22 ∧ tag ≠ 26 ∧ tag ≠ 28 ∧ tag ≠ 30) : mayR tag = none := by
  obtain ⟨h1, h2, h3, h4, h5, h6, h7, h8, h9, h10, h11, h12, h13, h14, h15, h16, h17⟩ := h
  simp [mayR, h1, h2, h3, h4, h5, h6, h7, h8, h9, h10, h11, h12, h13, h14, h15, h16, h17]
theorem tag_cases (tag : Int) : (tag = 1 ∨ tag = 2 ∨ tag = 10 ∨ tag = 3 ∨ tag = 5 ∨ tag = 6 ∨ tag = 23 ∨ tag = 24 ∨ tag = 4 ∨ tag = 12 ∨ tag = 18 ∨ tag = 19 ∨ tag = 20 ∨ tag = 22 ∨ tag = 26 ∨ tag = 28 ∨ tag = 30) ∨
    (tag ≠ 1 ∧ tag ≠ 2 ∧ tag ≠ 10 ∧ tag ≠ 3 ∧ tag ≠ 5 ∧ tag ≠ 6 ∧ tag ≠ 23 ∧ tag ≠ 24 ∧ tag ≠ 4 ∧ tag ≠ 12 ∧ tag ≠ 18 ∧ tag ≠ 19 ∧ tag ≠ 20 ∧ tag ≠ 22 ∧ tag ≠ 26 ∧ tag ≠ 28 ∧ tag ≠ 30) := by omega

theorem check_any (tag : Int) (hw : (Lit.int .i64 tag).wf = true) (ok : Nat → Prop) (v : Value) (l : List UInt8) (w : World) (hv : BR w ok v l) (hl : l.length ≤ 140737488355328) (htab : Tab10 w) :
    Calls Tryd.prog 31 #[.int .i64 tag, v] w fun e w' => e = .returned (.int .i64 (checkR tag l)) ∧ Kp (fun _ => False) w w' := by
  rcases tag_cases tag with h | h
  · have all : ∀ t : Int, mayR t = some (fun _ => true) → checkR t l = (if true then 0 else 13) := fun t ht => by rw [checkR, ht]
    rcases h with rfl | rfl | rfl | rfl | rfl | rfl | rfl | rfl | rfl | rfl | rfl | rfl | rfl | rfl | rfl | rfl | rfl
    · exact check_gen 1 53 hw rfl rfl ok v l w hv (boolB l) (enters_ Tryd.func53 (by kernel_rfl) rfl) fun W _ hW => row2_any ok v l W hW
    · exact check_gen 2 35 hw rfl rfl ok v l w hv (intB l) (enters_ Tryd.func35 (by kernel_rfl) rfl) fun W _ hW => integer_any ok v l W hW hl
    · exact check_gen 10 35 hw rfl rfl ok v l w hv (intB l) (enters_ Tryd.func35 (by kernel_rfl) rfl) fun W _ hW => integer_any ok v l W hW hl
    · exact check_gen 3 38 hw rfl rfl ok v l w hv (bitsB l) (enters_ Tryd.func38 (by kernel_rfl) rfl) fun W _ hW => bits_any ok v l W hW hl
    · exact check_gen 5 54 hw rfl rfl ok v l w hv (decide (l.length = 0)) (enters_ Tryd.func54 (by kernel_rfl) rfl) fun W _ hW => row3_any ok v l W hW
    · exact check_gen 6 36 hw rfl rfl ok v l w hv (oidB l) (enters_ Tryd.func36 (by kernel_rfl) rfl) fun W _ hW => (oid_any ok v l W hW hl).mono fun _ _ ⟨he, hw⟩ => ⟨he, hw ▸ Kp.refl _ _⟩
    · exact check_gen 23 55 hw rfl rfl ok v l w hv (timeR 23 l).isSome (enters_ Tryd.func55 (by kernel_rfl) rfl) fun W hk hW => row4_any ok v l W hW (htab.kp hk)
    · exact check_gen 24 56 hw rfl rfl ok v l w hv (timeR 24 l).isSome (enters_ Tryd.func56 (by kernel_rfl) rfl) fun W hk hW => row5_any ok v l W hW (htab.kp hk)
    all_goals
      rw [all _ rfl]
      exact check_gen _ 52 hw rfl rfl ok v l w hv true (enters_ Tryd.func52 (by kernel_rfl) rfl) fun W _ _ => row1_any v W
  · have e : checkR tag l = 2 := by rw [checkR, mayR_none tag h]
    rw [e]
    exact check_no tag hw (rows_none tag h).1 (rows_none tag h).2 v w
end Go.Proofs.YtjdfgjlbmbiihaaDoor
