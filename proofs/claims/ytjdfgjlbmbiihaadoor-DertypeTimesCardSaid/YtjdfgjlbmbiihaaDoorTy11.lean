/-
  dertype.Check at an integer's tags.
-/
import Derived.Test.YtjdfgjlbmbiihaaDoorTy10
import Derived.Test.YtjdfgjlbmbiihaaDoorTy5
namespace Go.Proofs.YtjdfgjlbmbiihaaDoor
open Go.RowKit Go.Maps

theorem zeroRow (w : World) : (zeroValue 84).run Tryd.prog w = .ok (.agg #[.nilFunc]) w := by kernel_rfl

set_option maxRecDepth 100000 in
set_option maxHeartbeats 3200000 in
theorem check_int (tag : Int) (hw : (Lit.int .i64 tag).wf = true) (hat : (rowsD 9).atKey (.int .i64 tag) (.lit (.int .i64 (-1))) = rowD 35) (hhas : Maps.has (rowsD 9) (.int .i64 tag) = true)
    (ok : Nat → Prop) (v : Value) (l : List UInt8) (w : World) (hv : BR w ok v l) (hl : l.length ≤ 140737488355328) :
    Calls Tryd.prog 31 #[.int .i64 tag, v] w fun e w' => e = .returned (.int .i64 (if intB l then 0 else 13)) ∧ Kp (fun _ => False) w w' := by
  have hkey := Lib.hid (keyOf_int_mk Tryd.underlying3 hw)
  have HAT := Lib.hid hat
  have HHAS := Lib.hid hhas
  have HV := Lib.hid hv
  have hi := fun W hv => integer_any ok v l W hv hl
  clear hat hhas hw hv
  obtain ⟨r, hr⟩ : ∃ r, intB l = r := ⟨_, rfl⟩
  rw [hr] at hi ⊢
  clear hr
  cases r
  · have HI := Lib.hid hi
    clear hi
    show Calls Tryd.prog 31 #[.int .i64 tag, v] w fun e w' => e = .returned (.int .i64 13) ∧ Kp (fun _ => False) w w'
    go_enter Tryd.func31, Tryd.ntmps31
    go_wp2_with fail
    refine (rows_any w).mono ?_
    rintro e w1 ⟨b, rfl, hown, hk1⟩
    have HOWN := Lib.hid hown
    clear hown
    go_wp2_with (first
      | (at_lookup; refine wpList_lookup_own_ok _ rfl _ _ 86 rfl 3 84 lawInt Tryd.underlying86 rowR (zeroRow _) _ [] rowR_0 _ _ _ rfl HOWN.out _ _ rfl hkey.out ?_; rw [HAT.out, HHAS.out]; intro v1 ps hv1; have e1 := rowR_inv hv1; subst e1; clear hv1)
      | fail)
    have hka := hk1.alloc (.cells #[.func (.func 35) #[] #[]] 84)
    refine (HI.out _ (HV.out.kp hka (fun _ _ h => h))).mono ?_
    rintro e w2 ⟨rfl, hk2⟩
    have hkw := hka.then_ hk2 (fun _ h => h.elim)
    go_wp2_with fail
    go_ret
    exact ⟨rfl, hkw⟩
  · have HI := Lib.hid hi
    clear hi
    show Calls Tryd.prog 31 #[.int .i64 tag, v] w fun e w' => e = .returned (.int .i64 0) ∧ Kp (fun _ => False) w w'
    go_enter Tryd.func31, Tryd.ntmps31
    go_wp2_with fail
    refine (rows_any w).mono ?_
    rintro e w1 ⟨b, rfl, hown, hk1⟩
    have HOWN := Lib.hid hown
    clear hown
    go_wp2_with (first
      | (at_lookup; refine wpList_lookup_own_ok _ rfl _ _ 86 rfl 3 84 lawInt Tryd.underlying86 rowR (zeroRow _) _ [] rowR_0 _ _ _ rfl HOWN.out _ _ rfl hkey.out ?_; rw [HAT.out, HHAS.out]; intro v1 ps hv1; have e1 := rowR_inv hv1; subst e1; clear hv1)
      | fail)
    have hka := hk1.alloc (.cells #[.func (.func 35) #[] #[]] 84)
    refine (HI.out _ (HV.out.kp hka (fun _ _ h => h))).mono ?_
    rintro e w2 ⟨rfl, hk2⟩
    have hkw := hka.then_ hk2 (fun _ h => h.elim)
    go_wp2_with fail
    go_ret
    exact ⟨rfl, hkw⟩

theorem rows_at2 : (rowsD 9).atKey (.int .i64 2) (.lit (.int .i64 (-1))) = rowD 35 ∧ Maps.has (rowsD 9) (.int .i64 2) = true := by
  constructor <;> rfl
theorem rows_at10 : (rowsD 9).atKey (.int .i64 10) (.lit (.int .i64 (-1))) = rowD 35 ∧ Maps.has (rowsD 9) (.int .i64 10) = true := by
  constructor <;> rfl
theorem check2 (ok : Nat → Prop) (v : Value) (l : List UInt8) (w : World) (hv : BR w ok v l) (hl : l.length ≤ 140737488355328) :
    Calls Tryd.prog 31 #[.int .i64 2, v] w fun e w' => e = .returned (.int .i64 (if intB l then 0 else 13)) ∧ Kp (fun _ => False) w w' :=
  check_int 2 (by decide) rows_at2.1 rows_at2.2 ok v l w hv hl
theorem check10 (ok : Nat → Prop) (v : Value) (l : List UInt8) (w : World) (hv : BR w ok v l) (hl : l.length ≤ 140737488355328) :
    Calls Tryd.prog 31 #[.int .i64 10, v] w fun e w' => e = .returned (.int .i64 (if intB l then 0 else 13)) ∧ Kp (fun _ => False) w w' :=
  check_int 10 (by decide) rows_at10.1 rows_at10.2 ok v l w hv hl
end Go.Proofs.YtjdfgjlbmbiihaaDoor
