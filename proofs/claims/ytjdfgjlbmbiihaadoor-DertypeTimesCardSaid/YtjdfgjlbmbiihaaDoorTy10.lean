/-
  The rows of all tags: a map of function values (the walk of dertype.rows).
-/
import Derived.Test.YtjdfgjlbmbiihaaDoorTy3
import Derived.Maps.OwnSet
import Derived.Laws.EntriesVeiled
namespace Go.Proofs.YtjdfgjlbmbiihaaDoor
open Go.RowKit Go.Maps

/-- Which function a value is: its number; none is -1. -/
def fnR : Value → Option Int
  | .func (.func f) a b => if a.toList = [] ∧ b.toList = [] then some (f : Int) else none
  | .nilFunc => some (-1)
  | _ => none
/-- How a row reads: by the number of its function. -/
def rowR (v : Value) : Option (DataW Unit × List MemPlace) :=
  match v with
  | .agg cs => (match cs.toList with | [x] => (fnR x).map (fun n => (.lit (.int .i64 n), [])) | _ => none)
  | _ => none
theorem fnR_inv {v : Value} {f : Nat} (h : fnR v = some (f : Int)) : v = .func (.func f) #[] #[] := by
  unfold fnR at h
  split at h
  · split at h
    · rename_i g a b hab
      injection h with h
      have h1 : g = f := Int.natCast_inj.1 h
      have ha : a = #[] := by simpa using hab.1
      have hb : b = #[] := by simpa using hab.2
      rw [h1, ha, hb]
    · simp at h
  · injection h with h
    omega
  · simp at h
theorem rowR_inv {v : Value} {f : Nat} {ps : List MemPlace} (h : rowR v = some (.lit (.int .i64 f), ps)) : v = .agg #[.func (.func f) #[] #[]] := by
  unfold rowR at h
  split at h
  · rename_i cs
    split at h
    · rename_i x hx
      cases hf : fnR x with
      | none => rw [hf] at h; simp at h
      | some n =>
        rw [hf] at h
        simp at h
        have e := h.1
        rw [e] at hf
        rw [fnR_inv hf] at hx
        have : cs = #[.func (.func f) #[] #[]] := by
          rw [← Array.toList_inj, hx]
        rw [this]
    · simp at h
  · simp at h
theorem fnR_inv0 {v : Value} (h : fnR v = some (-1)) : v = .nilFunc := by
  unfold fnR at h
  split at h
  · split at h
    · injection h with h
      omega
    · simp at h
  · rfl
  · simp at h
theorem rowR_inv0 {v : Value} {ps : List MemPlace} (h : rowR v = some (.lit (.int .i64 (-1)), ps)) : v = .agg #[.nilFunc] := by
  unfold rowR at h
  split at h
  · rename_i cs
    split at h
    · rename_i x hx
      cases hf : fnR x with
      | none => rw [hf] at h; simp at h
      | some n =>
        rw [hf] at h
        simp at h
        have e := h.1
        rw [e] at hf
        rw [fnR_inv0 hf] at hx
        have : cs = #[.nilFunc] := by
          rw [← Array.toList_inj, hx]
        rw [this]
    · simp at h
  · simp at h
theorem rowR_f (f : Nat) : rowR (.agg #[.func (.func f) #[] #[]]) = some (.lit (.int .i64 f), []) := rfl
theorem rowR_0 : rowR (.agg #[.nilFunc]) = some (.lit (.int .i64 (-1)), []) := rfl

/-- A store at a map's making, at the operation. -/
theorem wpList_insert_own {H : Type} {P : Program} (w : World) {ops : Array Oper} {rest : List Oper} {o : Oper} {a : Act} {Q : Exit → Act → World → Prop}
    (hg : o.guard = none) (m x v : Operand) (t : TypeId) (hop : o.op = Op.insert t m x v)
    (k e : TypeId) (K : Keyed P k) (ht : P.underlying t = some (.map k e)) (R : Value → Option (DataW H × List MemPlace)) (b n : Nat) (D : DataW H)
    (hm : a.eval m = .map (some b)) (hown : w.ownsMap P k R b n D) (hn : n < maxLen) (key val : Value) (kl : Lit) (hx : a.eval x = key) (hv : a.eval v = val) (hkey : keyOf P k key = some kl)
    (d : DataW H) (ps : List MemPlace) (hval : R val = some (d, ps))
    (hK : ∀ w', w'.ownsMap P k R b (n + 1) (D.put kl d) → w.grownBy w' (some b) → wpList P ops Q rest (a.put o.dst undef) w') :
    wpList P ops Q (o :: rest) a w := by
  refine wpList_plain hg fun K' hK' => ?_
  obtain ⟨w', hrun, r1, r2⟩ := hown.update K ht hn hkey hval
  unfold Oper.wp
  simp [execOp, hop, hm, hx, hv, hrun, Result.andThen]
  exact hK' _ _ (hK w' r1 r2)

theorem lawInt : Keyed Tryd.prog 3 := int_keyed Tryd.underlying3

/-- The rows, as they are told at the map's making. -/
def rowD (f : Nat) : DataW Unit := .lit (.int .i64 f)
def rowsD8 : DataW Unit := (((((((((.map [] : DataW Unit).put (.int .i64 1) (rowD 53)).put (.int .i64 2) (rowD 35)).put (.int .i64 10) (rowD 35)).put (.int .i64 3) (rowD 38)).put (.int .i64 5) (rowD 54)).put (.int .i64 6) (rowD 36)).put (.int .i64 23) (rowD 55)).put (.int .i64 24) (rowD 56))
def rowKeys : List Int := [4, 12, 18, 19, 20, 22, 26, 28, 30]
def rowsD (k : Nat) : DataW Unit := (rowKeys.take k).foldl (fun D t => D.put (.int .i64 t) (rowD 52)) rowsD8
theorem rowsD_succ (k : Nat) (h : k < rowKeys.length) : rowsD (k + 1) = (rowsD k).put (.int .i64 rowKeys[k]) (rowD 52) := by
  rw [rowsD, List.take_succ_eq_append_getElem h, List.foldl_append]
  rfl

set_option maxRecDepth 100000 in
set_option maxHeartbeats 3200000 in
theorem rows_any (w : World) : Calls Tryd.prog 46 #[] w fun e w' => ∃ b, e = .returned (.map (some b)) ∧ w'.ownsMap Tryd.prog 3 rowR b 17 (rowsD 9) ∧ Kp (fun _ => False) w w' := by
  have hmm := @run_makeMap Tryd.prog
  have HM := Lib.hid (by simpa using World.ownsMap_made (w.alloc (.cells #[.func (.func 52) #[] #[]] 84)) Tryd.prog 3 rowR)
  have hk0 := ((Kp.refl (fun _ => False) w).alloc (.cells #[.func (.func 52) #[] #[]] 84)).alloc (.map #[] 0)
  obtain ⟨W0, hW0⟩ : ∃ W0, ((w.alloc (.cells #[.func (.func 52) #[] #[]] 84)).alloc (.map #[] 0)) = W0 := ⟨_, rfl⟩
  have hsz : W0.heap.size = w.heap.size + 2 := by rw [← hW0]; simp
  have hf0 : W0.cell? ⟨w.heap.size, 0, none⟩ = some (.func (.func 52) #[] #[]) := by
    rw [← hW0, World.cell?_alloc_past _ _ _ (by simp), World.cell?_alloc_at _ _ _ _ rfl]
    rfl
  rw [hW0] at HM hk0
  have kr := Kp.refl (fun j => j = w.heap.size + 1) W0
  have HW := Lib.hid hW0
  clear hW0
  go_enter Tryd.func46, Tryd.ntmps46
  go_wp2_with (first
    | (rw [HW.out]; refine wpList_insert_own _ rfl _ _ _ 86 rfl 3 84 lawInt Tryd.underlying86 rowR _ _ _ rfl HM.out (by unfold maxLen; omega) _ _ _ rfl rfl (keyOf_int_mk Tryd.underlying3 (by decide)) _ _ (rowR_f _) ?_; intro w1 hown1 hg1; have hk1 := kr.grown hg1 (fun j hj => by cases hj; exact .inl rfl); clear hg1)
    | (refine wpList_insert_own _ rfl _ _ _ 86 rfl 3 84 lawInt Tryd.underlying86 rowR _ _ _ rfl hown1 (by unfold maxLen; omega) _ _ _ rfl rfl (keyOf_int_mk Tryd.underlying3 (by decide)) _ _ (rowR_f _) ?_; clear hown1; intro w2 hown1 hg1; have hk2 := hk1.grown hg1 (fun j hj => by cases hj; exact .inl rfl); clear hg1 hk1; have hk1 := hk2; clear hk2)
    | fail)
  obtain ⟨W1, hW1⟩ : ∃ W1, (w2.alloc (.cells #[.int .i64 4, .int .i64 12, .int .i64 18, .int .i64 19, .int .i64 20, .int .i64 22, .int .i64 26, .int .i64 28, .int .i64 30] 3)) = W1 := ⟨_, rfl⟩
  have hg : w.heap.size + 2 ≤ w2.heap.size := by have := hk1.size; omega
  have hkw := hk0.then_ (hk1.alloc (.cells #[.int .i64 4, .int .i64 12, .int .i64 18, .int .i64 19, .int .i64 20, .int .i64 22, .int .i64 26, .int .i64 28, .int .i64 30] 3)) (fun j hj => .inr (by omega))
  have hf1 := (hk1.alloc (.cells #[.int .i64 4, .int .i64 12, .int .i64 18, .int .i64 19, .int .i64 20, .int .i64 22, .int .i64 26, .int .i64 28, .int .i64 30] 3)).cell hf0 (by simp)
  have hcs : ∀ (k : Nat) (h : k < rowKeys.length), (w2.alloc (.cells #[.int .i64 4, .int .i64 12, .int .i64 18, .int .i64 19, .int .i64 20, .int .i64 22, .int .i64 26, .int .i64 28, .int .i64 30] 3)).cell? ⟨w2.heap.size, 0 + k, none⟩ = some (.int .i64 rowKeys[k]) := by
    intro k h
    rw [World.cell?_alloc_at _ _ _ _ rfl]
    have h9 : k < 9 := h
    match k, h9 with
    | 0, _ | 1, _ | 2, _ | 3, _ | 4, _ | 5, _ | 6, _ | 7, _ | 8, _ => rfl
  have ho1 := hown1.alloc (.cells #[.int .i64 4, .int .i64 12, .int .i64 18, .int .i64 19, .int .i64 20, .int .i64 22, .int .i64 26, .int .i64 28, .int .i64 30] 3)
  have hsz1 : w2.heap.size < W1.heap.size := by rw [← hW1]; simp
  rw [hW1] at hkw hf1 hcs ho1 ⊢
  obtain ⟨g, hgg⟩ : ∃ g, w2.heap.size = g := ⟨_, rfl⟩
  rw [hgg] at hcs hsz1 hg ⊢
  have HO1 := Lib.hid (show W1.ownsMap Tryd.prog 3 rowR (w.heap.size + 1) 8 (rowsD 0) from ho1)
  clear hW1 ho1 hown1 hk1 hgg hk0 kr HM HW hf0 hmm
  have HSTEP := Lib.hid rowsD_succ
  have hwf : ∀ (k : Nat) (h : k < rowKeys.length), (Lit.int .i64 rowKeys[k]).wf = true := by decide
  go_loopw [18] (fun i wr => ∃ k : Nat, k ≤ 9 ∧ i = .int .i64 k ∧ wr.ownsMap Tryd.prog 3 rowR (w.heap.size + 1) (8 + k) (rowsD k) ∧ Kp (fun j => j = w.heap.size + 1) W1 wr) (fun i _ => 9 - (intOf i).toNat)
  case atStart => exact ⟨0, Nat.zero_le _, rfl, HO1.out, Kp.refl _ _⟩
  case round =>
    obtain ⟨k, hk, rfl, hown, hkr⟩ := hrel
    have HOW := Lib.hid hown
    clear hown
    by_cases hlt : k < 9
    · have hk9 : k < rowKeys.length := hlt
      have hst := HSTEP.out k hk9
      have hc := hkr.cell (hcs k hk9) (by simp; omega)
      have hf := hkr.cell hf1 (by simp)
      simp only [Nat.zero_add] at hc
      have hw := hwf k hk9
      generalize rowKeys[k] = x at hst hc hw
      have HST := Lib.hid hst
      have hkey := Lib.hid (keyOf_int_mk Tryd.underlying3 hw)
      clear hst hw
      go_wp2_with (first
        | (at_mapUpdate; refine wpList_mapUpdate_own _ rfl _ _ _ 86 rfl 3 84 lawInt Tryd.underlying86 rowR _ _ _ rfl HOW.out (by unfold maxLen; omega) _ _ _ rfl rfl hkey.out _ _ (rowR_f _) ?_; intro w3 hown3 hg3; have HO3 := Lib.hid hown3; have HK3 := Lib.hid (hkr.grown hg3 (fun j hj => by cases hj; exact .inl rfl)); clear hown3 hg3)
        | fail)
      go_roundw
      case rel => exact ⟨k + 1, by omega, by go_num, by rw [HST.out]; exact HO3.out, HK3.out⟩
      case measure => simp [intOf]; omega
    · obtain rfl : k = 9 := by omega
      go_wp2_with fail
      go_ret
      exact ⟨_, rfl, HOW.out, hkw.then_ hkr (fun j hj => .inr (by omega))⟩
end Go.Proofs.YtjdfgjlbmbiihaaDoor
