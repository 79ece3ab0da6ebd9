/-
  Words for contracts of my own among the printed ones: a literal without elements; nothing behind no address.
-/
import Derived.Test.YtfcghajnnllmhaaWMore
import Derived.Test.YtfcghajnnllmhaaWNEv
import Derived.Test.YtfcghajnnllmhaaWShare
namespace Go.Proofs.Ytfcghajnnllmhaa
open Go.RowKit YtfcghajnnllmhaaW.PrintWords

theorem kd_lit0 {α : Type} (d : Kd α) (w : World) (e : Nat) (ok : Nat → Prop) (hok : ok w.heap.size) : d.R e (w.alloc (.cells #[] e)) w.heap.size ok (.slice (some ⟨w.heap.size, 0, none⟩) 0 0) [] := by
  refine ⟨fun k hk => ?_, [], ⟨by simp, .inr ⟨w.heap.size, 0, #[], rfl, Nat.le_refl _, heap_alloc_new w _, Nat.le_refl _, by decide, by simp, by simp⟩⟩, Reps.none _ _⟩
  have : w.heap.size = k := by simpa [Value.ownBlock] using hk
  rw [← this]
  exact hok
theorem kd_none {α : Type} {d : Kd α} {w : World} {n : Nat} {l : List α} (h : d.C w none n l) : l = [] := by
  obtain ⟨h1, _, h2⟩ := h
  rcases Nat.eq_zero_or_pos n with h0 | h0
  · exact List.eq_nil_of_length_eq_zero (h1.trans h0)
  · obtain ⟨_, e, _⟩ := h2 h0
    cases e
end Go.Proofs.Ytfcghajnnllmhaa
