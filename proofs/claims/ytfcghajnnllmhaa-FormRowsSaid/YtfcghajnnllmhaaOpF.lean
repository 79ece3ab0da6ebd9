/-
  Forms that came in: one by value, or in a slice.
-/
import Derived.Test.YtfcghajnnllmhaaTrF
import Derived.Test.YtfcghajnnllmhaaOpenA
namespace Go.Proofs.Ytfcghajnnllmhaa
open Go.Joins Go.ChangeShapes Go.WideShapes Go.ChangeAt Go.RowKit Go.Deep

theorem okWide_struct_ {P : Program} {w : World} {r : Reach} {b : Nat} {t : TypeId} {fs : Array Field} {v : Value} (ht : P.underlying t = some (.struct fs)) (h : Value.okWide P w r b t v) : ∃ cs, v = .agg cs := by
  simp only [Value.okWide, ht] at h
  obtain ⟨cs, h1, _⟩ := h
  exact ⟨cs, h1⟩
theorem form_type : TreeType Try.prog 27 25 (match Try.prog.underlying 27 with | some (.struct fs) => fs | _ => #[]) 5 where
  ht := by rw [Try.underlying27]
  hone := by rw [Try.underlying27]; kernel_rfl
  hC := by kernel_rfl
  hn := by rw [Try.underlying27]; rfl
  hlast := by rw [Try.underlying27]; rfl
  hts := Try.underlying25
  hB := by rw [show Try.prog.bytesOf 27 = 64 from by kernel_rfl]; omega
section
variable {H : Type} {enc : TypeId × Value → H} {w : World} {sp : Nat → Bool} {held : Bool} {r : Reach} {b0 : Nat}
theorem sized_at {P : Program} {ts : List TypeId} {ds : List (DataW H)} (hsz : (DataW.weightsEach P ts ds).all (· ≤ reachBytes) = true) {j : Nat} {t : TypeId} {d : DataW H} (ht : ts[j]? = some t) (hd : ds[j]? = some d) : (d.weights P t).all (· ≤ reachBytes) = true :=
  List.all_eq_true.2 fun n hn => List.all_eq_true.1 hsz n (DataW.weights_mem_each ht hd n hn)
theorem form_head : HeadOpen enc Try.prog w sp held (match Try.prog.underlying 27 with | some (.struct fs) => fs | _ => #[]) 5 FHd := by
  intro vs ds hl hf
  have each : ∀ i, i < 5 → ∃ n : Int, vs[i]? = some (.int .i64 n) ∧ i64B n := by
    intro i hi
    obtain ⟨f, v, d, ps, fuel, hfi, hv, _, ht, _⟩ := hf i hi
    have hft : f.type = 3 := by
      rw [Try.underlying27] at hfi
      rcases (show i = 0 ∨ i = 1 ∨ i = 2 ∨ i = 3 ∨ i = 4 by omega) with rfl | rfl | rfl | rfl | rfl <;>
        · simp at hfi
          rw [← hfi]
    rw [hft] at ht
    obtain ⟨k0, e0, _, hw0⟩ := DataW.trod_int Try.underlying3 ht
    simp only [List.cons.injEq, and_true] at e0
    exact ⟨k0, by rw [hv, e0], i64B_of hw0⟩
  obtain ⟨a, ha, b0⟩ := each 0 (by omega)
  obtain ⟨b, hb, b1⟩ := each 1 (by omega)
  obtain ⟨c, hc, b2⟩ := each 2 (by omega)
  obtain ⟨d, hd, b3⟩ := each 3 (by omega)
  obtain ⟨e, he, b4⟩ := each 4 (by omega)
  refine ⟨⟨a, b, c, d, e⟩, ?_, ⟨b0, b1, b2, b3, b4⟩⟩
  rcases vs with _ | ⟨v0, _ | ⟨v1, _ | ⟨v2, _ | ⟨v3, _ | ⟨v4, _ | ⟨v5, vs⟩⟩⟩⟩⟩⟩ <;> simp_all
theorem open_form {v : Value} {d : DataW H} {ps : List MemPlace} {ts : List TypeId} {ds : List (DataW H)} (hv : Value.okWide Try.prog w r b0 27 v) (h : DataW.Trod enc Try.prog w 0 sp held 27 v d ps)
    (_hsz : (DataW.weightsEach Try.prog ts ds).all (· ≤ reachBytes) = true) {j : Nat} (_ht : ts[j]? = some 27) (_hd : ds[j]? = some d) : ∃ x : Fm, FmR w (· < w.heap.size) v x := by
  obtain ⟨cs, rfl⟩ := okWide_struct_ Try.underlying27 hv
  obtain ⟨fuel, hf⟩ := h
  obtain ⟨x, hx⟩ := (open_tree_ form_type form_head fuel).1 _ _ _ hf (sized_at _hsz _ht _hd)
  have h1 := (FmR.of_tr hx).1
  rw [show (Value.agg cs).cells.toList.toArray = cs from by simp [Value.cells]] at h1
  exact ⟨x, h1⟩
theorem open_forms {v : Value} {d : DataW H} {ps : List MemPlace} {ts : List TypeId} {ds : List (DataW H)} (hv : Value.okWide Try.prog w r b0 25 v) (h : DataW.Trod enc Try.prog w 0 sp held 25 v d ps)
    (_hsz : (DataW.weightsEach Try.prog ts ds).all (· ≤ reachBytes) = true) {j : Nat} (_ht : ts[j]? = some 25) (_hd : ds[j]? = some d) : ∃ l : List Fm, FsR w (· < w.heap.size) v l := by
  obtain ⟨a, n, c, rfl⟩ := okWide_slice Try.underlying25 hv
  obtain ⟨fuel, hf⟩ := h
  obtain ⟨l, A, c', e, h1, h2, h3⟩ := (open_tree_ form_type form_head fuel).2 _ _ _ hf (sized_at _hsz _ht _hd)
  simp [Value.cells] at e
  obtain ⟨rfl, rfl, rfl⟩ := e
  exact ⟨l, _, _, rfl, h1, h2, h3⟩
end
end Go.Proofs.Ytfcghajnnllmhaa
