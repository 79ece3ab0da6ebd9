/-
  dertype.Check at any tag.
-/
import Derived.Test.YtjdfgjlbmbiihaaDoorTy11
import Derived.Test.YtjdfgjlbmbiihaaDoorTy12
namespace Go.Proofs.YtjdfgjlbmbiihaaDoor
open Go.RowKit Go.Maps

theorem enters_ {P : Program} {f : FuncId} {fn : Func} {c : Code} (hf : P.funcs[f]? = some fn) (hname : (fn.name == "runtime.NumGoroutine") = false) (hb : fn.body = some c) (args : Array Value) (w : World) : (callFunc f args).run P w = .ok (.enter f args) w := by
  have hn : fn.name ≠ "runtime.NumGoroutine" := by simpa using hname
  simp [callFunc, hf, hn, hb]

set_option maxRecDepth 100000 in
set_option maxHeartbeats 3200000 in
/-- Check at a tag that there is, by what its function answers. -/
theorem check_gen (tag : Int) (F : Nat) (hw : (Lit.int .i64 tag).wf = true) (hat : (rowsD 9).atKey (.int .i64 tag) (.lit (.int .i64 (-1))) = rowD F) (hhas : Maps.has (rowsD 9) (.int .i64 tag) = true)
    (ok : Nat → Prop) (v : Value) (l : List UInt8) (w : World) (hv : BR w ok v l) (r : Bool) (hen : ∀ args w, (callFunc F args).run Tryd.prog w = .ok (.enter F args) w)
    (hF : ∀ W, Kp (fun _ => False) w W → BR W ok v l → Calls Tryd.prog F #[v] W fun e w' => e = .returned (.bool r) ∧ Kp (fun _ => False) W w') :
    Calls Tryd.prog 31 #[.int .i64 tag, v] w fun e w' => e = .returned (.int .i64 (if r then 0 else 13)) ∧ Kp (fun _ => False) w w' := by
  have hkey := Lib.hid (keyOf_int_mk Tryd.underlying3 hw)
  have HAT := Lib.hid hat
  have HHAS := Lib.hid hhas
  have HV := Lib.hid hv
  have HI := Lib.hid hF
  clear hat hhas hw hv hF
  cases r
  · show Calls Tryd.prog 31 #[.int .i64 tag, v] w fun e w' => e = .returned (.int .i64 13) ∧ Kp (fun _ => False) w w'
    go_enter Tryd.func31, Tryd.ntmps31
    go_wp2_with fail
    refine (rows_any w).mono ?_
    rintro e w1 ⟨b, rfl, hown, hk1⟩
    have HOWN := Lib.hid hown
    clear hown
    go_wp2_with (first
      | (at_lookup; refine wpList_lookup_own_ok _ rfl _ _ 86 rfl 3 84 lawInt Tryd.underlying86 rowR (zeroRow _) _ [] rowR_0 _ _ _ rfl HOWN.out _ _ rfl hkey.out ?_; rw [HAT.out, HHAS.out]; intro v1 ps hv1; have e1 := rowR_inv hv1; subst e1; clear hv1)
      | fail)
    have hka := hk1.alloc (.cells #[.func (.func F) #[] #[]] 84)
    refine (HI.out _ hka (HV.out.kp hka (fun _ _ h => h))).mono ?_
    rintro e w2 ⟨rfl, hk2⟩
    have hkw := hka.then_ hk2 (fun _ h => h.elim)
    go_wp2_with fail
    go_ret
    exact ⟨rfl, hkw⟩
  · show Calls Tryd.prog 31 #[.int .i64 tag, v] w fun e w' => e = .returned (.int .i64 0) ∧ Kp (fun _ => False) w w'
    go_enter Tryd.func31, Tryd.ntmps31
    go_wp2_with fail
    refine (rows_any w).mono ?_
    rintro e w1 ⟨b, rfl, hown, hk1⟩
    have HOWN := Lib.hid hown
    clear hown
    go_wp2_with (first
      | (at_lookup; refine wpList_lookup_own_ok _ rfl _ _ 86 rfl 3 84 lawInt Tryd.underlying86 rowR (zeroRow _) _ [] rowR_0 _ _ _ rfl HOWN.out _ _ rfl hkey.out ?_; rw [HAT.out, HHAS.out]; intro v1 ps hv1; have e1 := rowR_inv hv1; subst e1; clear hv1)
      | fail)
    have hka := hk1.alloc (.cells #[.func (.func F) #[] #[]] 84)
    refine (HI.out _ hka (HV.out.kp hka (fun _ _ h => h))).mono ?_
    rintro e w2 ⟨rfl, hk2⟩
    have hkw := hka.then_ hk2 (fun _ h => h.elim)
    go_wp2_with fail
    go_ret
    exact ⟨rfl, hkw⟩

set_option maxRecDepth 100000 in
set_option maxHeartbeats 3200000 in
/-- Check at a tag that there isn't. -/
theorem check_no (tag : Int) (hw : (Lit.int .i64 tag).wf = true) (hat : (rowsD 9).atKey (.int .i64 tag) (.lit (.int .i64 (-1))) = .lit (.int .i64 (-1))) (hhas : Maps.has (rowsD 9) (.int .i64 tag) = false) (v : Value) (w : World) :
    Calls Tryd.prog 31 #[.int .i64 tag, v] w fun e w' => e = .returned (.int .i64 2) ∧ Kp (fun _ => False) w w' := by
  have hkey := Lib.hid (keyOf_int_mk Tryd.underlying3 hw)
  have HAT := Lib.hid hat
  have HHAS := Lib.hid hhas
  clear hat hhas hw
  go_enter Tryd.func31, Tryd.ntmps31
  go_wp2_with fail
  refine (rows_any w).mono ?_
  rintro e w1 ⟨b, rfl, hown, hk1⟩
  have HOWN := Lib.hid hown
  clear hown
  go_wp2_with (first
    | (at_lookup; refine wpList_lookup_own_ok _ rfl _ _ 86 rfl 3 84 lawInt Tryd.underlying86 rowR (zeroRow _) _ [] rowR_0 _ _ _ rfl HOWN.out _ _ rfl hkey.out ?_; rw [HAT.out, HHAS.out]; intro v1 ps hv1; have e1 := rowR_inv0 hv1; subst e1; clear hv1)
    | fail)
  go_ret
  exact ⟨rfl, hk1.alloc _⟩

theorem check3 (ok : Nat → Prop) (v : Value) (l : List UInt8) (w : World) (hv : BR w ok v l) (hl : l.length ≤ 140737488355328) :
    Calls Tryd.prog 31 #[.int .i64 3, v] w fun e w' => e = .returned (.int .i64 (if bitsB l then 0 else 13)) ∧ Kp (fun _ => False) w w' :=
  check_gen 3 38 (by decide) rfl rfl ok v l w hv (bitsB l) (enters_ Tryd.func38 (by kernel_rfl) rfl) fun W _ hW => bits_any ok v l W hW hl
end Go.Proofs.YtjdfgjlbmbiihaaDoor
