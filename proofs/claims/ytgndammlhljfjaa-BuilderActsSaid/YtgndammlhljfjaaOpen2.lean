/-
  Cells that came in (a field, an element), as the walks are told of them: integers of a slice, bytes.
-/
import Derived.Test.YtgndammlhljfjaaOpen
namespace Go.Proofs.Ytgndammlhljfjaa
open Go.ChangeShapes Go.WideShapes Go.ChangeAt Go.RowKit Go.Deep

section
variable {H : Type} {enc : TypeId × Value → H} {P : Program} {w : World} {spare : Nat → Bool} {held : Bool}

theorem cells_ir {t e : TypeId} {k : IntKind} {v : Value} {fuel : Nat} {x : DataW H × List MemPlace} (ht : P.underlying t = some (.slice e)) (he : P.underlying e = some (.int k)) (hC : P.cellsOf e = 1)
    (hf : DataW.trod enc P w 0 spare held fuel t [v] = some x) :
    ∃ l : List Int, IR k w (· < w.heap.size) v l ∧ (∀ n ∈ l, (Lit.int k n).wf = true) ∧ lenD x.1 = l.length ∧ l.length ≤ maxLen := by
  rcases open_ints ht he hC hf with ⟨hcs, hx⟩ | ⟨x, l, c, zs, hcs, _, hl, hm, hz, hx, hcell, hwz⟩
  · simp only [List.cons.injEq, and_true] at hcs
    subst hcs hx
    exact ⟨[], ⟨none, 0, rfl, Nat.le_refl _, Rd.none_⟩, fun n hn => by simp at hn, rfl, Nat.zero_le _⟩
  · simp only [List.cons.injEq, and_true] at hcs
    subst hcs hx
    have hlz : l ≤ zs.length := by rw [hz]; split <;> omega
    have hlt : (zs.take l).length = l := by simp; omega
    refine ⟨zs.take l, ⟨some x, c, ?_, ?_, ?_, fun hn => ?_⟩, fun n hn => hwz n (List.mem_of_mem_take hn), ?_, by rw [hlt]; omega⟩
    · rw [hlt]
    · rw [hlt]; exact hl
    · simp [ic]
    · have h0 := hcell 0 (by rw [hlt] at hn; omega)
      have hsp : x.spot = none := by simpa [Addr.add] using World.cell?_spot h0
      have hb := cell_lt h0
      rw [block_add] at hb
      refine ⟨x, rfl, hsp, hb, fun j u hu => ?_⟩
      simp only [ic, List.getElem?_map, List.getElem?_take] at hu
      split at hu
      · rename_i hj
        have hj' : j < zs.length := by omega
        rw [List.getElem?_eq_getElem hj'] at hu
        simp at hu
        subst hu
        have h1 := hcell j hj'
        rw [h1]
        simp [List.getElem?_eq_getElem hj']
      · simp at hu
    · simp [lenD, lits]

theorem cells_br {t e : TypeId} {v : Value} {fuel : Nat} {x : DataW H × List MemPlace} (ht : P.underlying t = some (.slice e)) (he : P.underlying e = some (.int .u8)) (hC : P.cellsOf e = 1)
    (hf : DataW.trod enc P w 0 spare held fuel t [v] = some x) :
    ∃ l : List UInt8, BR w (· < w.heap.size) v l ∧ lenD x.1 = l.length ∧ l.length ≤ maxLen := by
  obtain ⟨l, ⟨A, c, rfl, hc, hr⟩, hw, hd, hm⟩ := cells_ir ht he hC hf
  obtain ⟨m, hme, hl⟩ := bytes_of hw
  refine ⟨m, ⟨A, c, by rw [hl], by omega, ?_⟩, by omega, by omega⟩
  rw [← hme, hl]
  exact hr
end
end Go.Proofs.Ytgndammlhljfjaa
