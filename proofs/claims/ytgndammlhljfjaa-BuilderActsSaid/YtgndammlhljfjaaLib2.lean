/-
  More words of memory: bytes out of a block that is known whole.
-/
import Derived.Test.YtgndammlhljfjaaLib
namespace Go.Proofs.Ytgndammlhljfjaa
open Go.RowKit

theorem BR.blk {w : World} {g t k n : Nat} {l : List UInt8} (h : Blk w g t (bc l).toArray) (hk : k + n ≤ l.length) (c : Nat) (hc : n ≤ c) : BR w (· = g) (.slice (some ⟨g, k, none⟩) n c) ((l.drop k).take n) := by
  have hlen : ((l.drop k).take n).length = n := by simp; omega
  refine ⟨some ⟨g, k, none⟩, c, by rw [hlen], by rw [hlen]; exact hc, by rw [bc_length, hlen]; omega, fun _ => ⟨_, rfl, rfl, rfl, fun j u hu => ?_⟩⟩
  have h1 := h.cell (k + j)
  have e : (⟨g, k, none⟩ : Addr).add j = ⟨g, k + j, none⟩ := by
    unfold Addr.add
    split
    · next h0 => subst h0; rfl
    · rfl
  rw [e, h1]
  rw [← bc_take, ← bc_drop, List.getElem?_take] at hu
  split at hu
  · rw [List.getElem?_drop] at hu
    simpa using hu
  · cases hu
/-- The rest of a list, as bytes. -/
theorem BR.blk_drop {w : World} {g t k n : Nat} {l : List UInt8} (h : Blk w g t (bc l).toArray) (hk : k + n = l.length) : BR w (· = g) (.slice (some ⟨g, k, none⟩) n n) (l.drop k) := by
  have := BR.blk h (k := k) (n := n) (by omega) n (Nat.le_refl _)
  rwa [List.take_of_length_le (by simp; omega)] at this

end Go.Proofs.Ytgndammlhljfjaa
