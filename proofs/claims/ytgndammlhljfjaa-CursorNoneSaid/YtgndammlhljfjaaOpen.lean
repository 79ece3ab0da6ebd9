/-
  Arguments that came in, as the walks are told of them: bytes, integers; the size that each may have.
-/
import Derived.Test.YtgndammlhljfjaaLib
import Derived.ProofKit
import Derived.OpenShut
import Derived.ShutString
import Derived.SizedLaws
import Derived.Deep.Slices
import Derived.Deep.Fields
namespace Go.Proofs.Ytgndammlhljfjaa
open Go.ChangeShapes Go.WideShapes Go.ChangeAt Go.RowKit

/-- Integers of a kind, as cells. -/
def ic (k : IntKind) (l : List Int) : List Value := l.map fun n => Value.int k n
/-- A slice value that reads as these integers. -/
def IR (k : IntKind) (w : World) (ok : Nat → Prop) (v : Value) (l : List Int) : Prop := ∃ A c, v = .slice A l.length c ∧ l.length ≤ c ∧ Rd w ok 1 A l.length (ic k l)

section
variable {H : Type} {enc : TypeId × Value → H} {P : Program} {w : World} {sp : Nat → Bool} {held : Bool} {r : Reach} {b0 : Nat}

/-- How long a slice's datum is. -/
def lenD : DataW H → Nat
  | .slice es _ => es.length
  | _ => 0

theorem open_ir {t e : TypeId} {k : IntKind} {v : Value} {d : DataW H} {ps : List MemPlace} (ht : P.underlying t = some (.slice e)) (he : P.underlying e = some (.int k)) (hC : P.cellsOf e = 1)
    (hv : Value.okWide P w r b0 t v) (h : DataW.Trod enc P w 0 sp held t v d ps) :
    ∃ l : List Int, IR k w (· < w.heap.size) v l ∧ (∀ n ∈ l, (Lit.int k n).wf = true) ∧ lenD d = l.length := by
  obtain ⟨a, len, cap, rfl⟩ := okWide_slice ht hv
  obtain ⟨fuel, hf⟩ := h
  rcases open_ints ht he hC hf with ⟨hcs, hx⟩ | ⟨x, l, c, zs, hcs, _, hl, hm, hz, hx, hcell, hwz⟩
  · simp [Value.cells] at hcs
    obtain ⟨rfl, rfl, rfl⟩ := hcs
    simp only [Prod.mk.injEq] at hx
    obtain ⟨rfl, rfl⟩ := hx
    exact ⟨[], ⟨none, 0, rfl, Nat.le_refl _, Rd.none_⟩, fun n hn => by simp at hn, rfl⟩
  · simp [Value.cells] at hcs
    obtain ⟨rfl, rfl, rfl⟩ := hcs
    simp only [Prod.mk.injEq] at hx
    obtain ⟨rfl, rfl⟩ := hx
    have hlz : len ≤ zs.length := by rw [hz]; split <;> omega
    have hlt : (zs.take len).length = len := by simp; omega
    refine ⟨zs.take len, ⟨some x, cap, ?_, ?_, ?_, fun hn => ?_⟩, fun n hn => hwz n (List.mem_of_mem_take hn), ?_⟩
    · rw [hlt]
    · rw [hlt]; exact hl
    · simp [ic]
    · have h0 := hcell 0 (by rw [hlt] at hn; omega)
      have hsp : x.spot = none := by simpa [Addr.add] using World.cell?_spot h0
      have hb := cell_lt h0
      rw [block_add] at hb
      refine ⟨x, rfl, hsp, hb, fun j u hu => ?_⟩
      simp only [ic, List.getElem?_map, List.getElem?_take] at hu
      split at hu
      · rename_i hj
        have hj' : j < zs.length := by omega
        rw [List.getElem?_eq_getElem hj'] at hu
        simp at hu
        subst hu
        have h1 := hcell j hj'
        rw [h1]
        simp [List.getElem?_eq_getElem hj']
      · simp at hu
    · simp [lenD, lits]

theorem bytes_of {l : List Int} (h : ∀ n ∈ l, (Lit.int .u8 n).wf = true) : ∃ m : List UInt8, ic .u8 l = bc m ∧ m.length = l.length := by
  induction l with
  | nil => exact ⟨[], rfl, rfl⟩
  | cons a l ih =>
    obtain ⟨m, hm, hl⟩ := ih (fun n hn => h n (List.mem_cons_of_mem _ hn))
    obtain ⟨h0, h1⟩ := bounds_u8 (h a List.mem_cons_self)
    refine ⟨UInt8.ofNat a.toNat :: m, ?_, by simp [hl]⟩
    have e : ((UInt8.ofNat a.toNat).toNat : Int) = a := by
      rw [UInt8.toNat_ofNat']
      omega
    simp only [ic, bc, List.map_cons] at hm ⊢
    rw [hm, e]

theorem open_br {t e : TypeId} {v : Value} {d : DataW H} {ps : List MemPlace} (ht : P.underlying t = some (.slice e)) (he : P.underlying e = some (.int .u8)) (hC : P.cellsOf e = 1)
    (hv : Value.okWide P w r b0 t v) (h : DataW.Trod enc P w 0 sp held t v d ps) :
    ∃ l : List UInt8, BR w (· < w.heap.size) v l ∧ lenD d = l.length := by
  obtain ⟨l, ⟨A, c, rfl, hc, hr⟩, hw, hd⟩ := open_ir ht he hC hv h
  obtain ⟨m, hm, hl⟩ := bytes_of hw
  refine ⟨m, ⟨A, c, by rw [hl], by omega, ?_⟩, by omega⟩
  rw [← hm, hl]
  exact hr

theorem sized_len {ts : List TypeId} {ds : List (DataW H)} (h : (DataW.weightsEach P ts ds).all (· ≤ reachBytes) = true) {j : Nat} {t e : TypeId} {d : DataW H} (ht : ts[j]? = some t) (hd : ds[j]? = some d) (hu : P.underlying t = some (.slice e)) {n : Nat} (hn : lenD d = n) :
    n * P.bytesOf e ≤ 140737488351232 := by
  subst hn
  cases d with
  | slice es rest =>
    have := sized_slice h ht hd hu
    simp only [lenD]
    have h2 := Nat.mul_le_mul_right (P.bytesOf e) (Nat.le_add_right es.length rest.length)
    have h3 : reachBytes = 140737488351232 := by decide
    omega
  | _ => simp [lenD]
end
end Go.Proofs.Ytgndammlhljfjaa
