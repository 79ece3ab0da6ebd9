/-
  Four ints that came in, by value.
-/
import Derived.Test.YtfcghajnnllmhaaProg
import Derived.Test.YtfcghajnnllmhaaOpen
import Derived.Test.YtfcghajnnllmhaaTrF
import Derived.Lib.SmallJoins
namespace Go.Proofs.Ytfcghajnnllmhaa
open Go.Joins Go.ChangeShapes Go.WideShapes Go.ChangeAt Go.RowKit Go.Deep

theorem i64B_of {n : Int} (h : (Lit.int .i64 n).wf = true) : i64B n := by
  obtain ⟨h0, h1⟩ := bounds_i64 h
  exact ⟨h0, by omega⟩
theorem okWide_array_ {P : Program} {w : World} {r : Reach} {b : Nat} {t e : TypeId} {n : Nat} {v : Value} (ht : P.underlying t = some (.array n e)) (h : Value.okWide P w r b t v) : ∃ cs, v = .agg cs ∧ cs.size = P.cellsOf t := by
  simp only [Value.okWide, ht] at h
  obtain ⟨cs, h1, h2, _⟩ := h
  exact ⟨cs, h1, h2⟩
section
variable {H : Type} {enc : TypeId × Value → H} {w : World} {sp : Nat → Bool} {held : Bool} {r : Reach} {b0 : Nat}
set_option maxRecDepth 100000 in
theorem open_arr4 {v : Value} {d : DataW H} {ps : List MemPlace} {ts : List TypeId} {ds : List (DataW H)} (hv : Value.okWide Try.prog w r b0 22 v) (h : DataW.Trod enc Try.prog w 0 sp held 22 v d ps)
    (_hsz : (DataW.weightsEach Try.prog ts ds).all (· ≤ reachBytes) = true) {j : Nat} (_ht : ts[j]? = some 22) (_hd : ds[j]? = some d) : ∃ x : Int × Int × Int × Int, v = .agg #[.int .i64 x.1, .int .i64 x.2.1, .int .i64 x.2.2.1, .int .i64 x.2.2.2] ∧ i64B x.1 ∧ i64B x.2.1 ∧ i64B x.2.2.1 ∧ i64B x.2.2.2 := by
  obtain ⟨cs, rfl, hsz⟩ := okWide_array_ Try.underlying22 hv
  rw [show Try.prog.cellsOf 22 = 4 from by kernel_rfl] at hsz
  obtain ⟨c0, c1, c2, c3, rfl⟩ := array4 hsz
  obtain ⟨fuel, hf⟩ := h
  obtain ⟨xs, m, _, _, _, hl, hat⟩ := DataW.trod_array Try.underlying22 hf
  rw [show Try.prog.cellsOf 3 = 1 from by kernel_rfl] at hat
  have each : ∀ (i : Nat) (c : Value) (hi : i < 4), #[c0, c1, c2, c3][i]? = some c → ∃ n : Int, c = .int .i64 n ∧ i64B n := by
    intro i c hi hc
    have h1 := hat i hi
    rw [Nat.mul_one] at h1
    have e : (([c0, c1, c2, c3] : List Value).drop i).take 1 = [c] := by
      have hc' : ([c0, c1, c2, c3] : List Value)[i]? = some c := by simpa using hc
      have hlt : i < ([c0, c1, c2, c3] : List Value).length := by simpa using hi
      rw [List.drop_eq_getElem_cons hlt]
      rw [List.getElem?_eq_getElem hlt] at hc'
      injection hc' with hc'
      rw [hc']
      rfl
    have h2 : ((Value.agg #[c0, c1, c2, c3]).cells.toList.drop i).take 1 = [c] := e
    rw [h2, List.getElem?_eq_getElem (by omega)] at h1
    obtain ⟨k0, e0, _, hw0⟩ := DataW.trod_int Try.underlying3 h1
    simp only [List.cons.injEq, and_true] at e0
    exact ⟨k0, e0, i64B_of hw0⟩
  obtain ⟨x0, rfl, g0⟩ := each 0 c0 (by omega) rfl
  obtain ⟨x1, rfl, g1⟩ := each 1 c1 (by omega) rfl
  obtain ⟨x2, rfl, g2⟩ := each 2 c2 (by omega) rfl
  obtain ⟨x3, rfl, g3⟩ := each 3 c3 (by omega) rfl
  exact ⟨(x0, x1, x2, x3), rfl, g0, g1, g2, g3⟩
end
end Go.Proofs.Ytfcghajnnllmhaa
