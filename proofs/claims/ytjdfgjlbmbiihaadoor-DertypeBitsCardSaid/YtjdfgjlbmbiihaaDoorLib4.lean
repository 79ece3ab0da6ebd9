/-
  A row of the call's own, stored into.
-/
import Derived.Test.YtjdfgjlbmbiihaaDoorLib
namespace Go.Proofs.YtjdfgjlbmbiihaaDoor
open Go.RowKit

theorem Own.form1 {w : World} {ok : Nat → Prop} {e size n : Nat} {A : Option Addr} {c : Nat} {xs : List Value} (h : Own w ok e size (.slice A n c) n xs) (hn : 0 < n) : ∃ g, A = some ⟨g, 0, none⟩ ∧ ok g ∧ g < w.heap.size := by
  obtain ⟨g, cap, hv, _, hlt⟩ := h.1.form hn
  have hA : A = some ⟨g, 0, none⟩ := by injection hv
  exact ⟨g, hA, h.2 g (by rw [hA]; rfl), hlt⟩
theorem Own.set1 {w : World} {ok : Nat → Prop} {e g n c : Nat} {xs : List Value} (h : Own w ok e 1 (.slice (some ⟨g, 0, none⟩) n c) n xs) (k : Nat) (u : Value) : Own (w.setCell ⟨g, k, none⟩ u) ok e 1 (.slice (some ⟨g, 0, none⟩) n c) n (xs.set k u) := by
  obtain ⟨⟨h1, h2⟩, h3⟩ := h
  refine ⟨⟨by rw [List.length_set]; exact h1, ?_⟩, h3⟩
  rcases h2 with ⟨h2, _⟩ | ⟨g', cap, cur, h2, hb, hh, hn, hc, hs, ht⟩
  · cases h2
  · injection h2 with hA _ hc'
    injection hA with hA
    injection hA with hA
    subst hA hc'
    refine .inr ⟨g, c, cur.setIfInBounds k u, rfl, hb, ?_, hn, hc, by simpa using hs, ?_⟩
    · simp [World.setCell, Array.getElem?_modify, hh]
    · rw [Array.toList_setIfInBounds, List.take_set, ht]
/-- The block of such a row. -/
theorem Own.blk {w : World} {ok : Nat → Prop} {e g n c : Nat} {xs : List Value} (h : Own w ok e 1 (.slice (some ⟨g, 0, none⟩) n c) n xs) : ∃ cur : Array Value, Blk w g e cur ∧ ∀ k, k < n → cur[k]? = xs[k]? := by
  obtain ⟨⟨h1, h2⟩, h3⟩ := h
  rcases h2 with ⟨h2, _⟩ | ⟨g', cap, cur, h2, hb, hh, hnn, hc, hs, ht⟩
  · cases h2
  · injection h2 with hA _ hc'
    injection hA with hA
    injection hA with hA
    subst hA hc'
    refine ⟨cur, hh, fun k hk => ?_⟩
    rw [← ht, List.getElem?_take, if_pos (by omega)]
    simp
end Go.Proofs.YtjdfgjlbmbiihaaDoor
