/-
  A list of trees as one row of cells: wherever these cells lie, the list reads the same.
-/
import Derived.Test.YtfcghajnnllmhaaTree
namespace Go.Proofs.Ytfcghajnnllmhaa
open Go.RowKit

section
variable {α : Type}
theorem TRs.flat {H : Head α} (hH : HeadKp H) (hone : ∀ {w : World} {ok : Nat → Prop} {a : α} {hd : List Value}, H w ok a hd → ∀ u ∈ hd, u.oneCell' = true) {n : Nat} {w : World} {ok : Nat → Prop} :
    ∀ {l : List (RT α)} {b off : Nat}, TRs H n w ok l b off → ∃ xs : List Value, xs.length = l.length * n ∧ (∀ u ∈ xs, u.oneCell' = true) ∧ (∀ j u, xs[j]? = some u → w.cell? ⟨b, off + j, none⟩ = some u) ∧
      ∀ (S ok' : Nat → Prop) (W : World) (b' off' : Nat), Kp S w W → (∀ i, ok i → ¬ S i) → (∀ i, ok i → ok' i) → (∀ j u, xs[j]? = some u → W.cell? ⟨b', off' + j, none⟩ = some u) → TRs H n W ok' l b' off' := by
  intro l
  induction l with
  | nil => exact fun {b off} _ => ⟨[], by simp, by simp, by simp, fun _ _ _ _ _ _ _ _ _ => by rw [TRs]; trivial⟩
  | cons t l ih =>
    intro b off h
    rw [TRs] at h
    obtain ⟨⟨cs, h1, h2⟩, h3⟩ := h
    obtain ⟨xs, g1, g2, g3, g4⟩ := ih h3
    obtain ⟨hd, A, c, e, hl, hh, _⟩ := (TR_def _ _ _ _ _ _).1 h1
    have hcn : cs.length = n := by rw [e]; simpa using hl
    refine ⟨cs ++ xs, by rw [List.length_append, g1, hcn, List.length_cons, Nat.succ_mul]; omega, ?_, ?_, ?_⟩
    · intro u hu
      rcases List.mem_append.1 hu with hu | hu
      · rw [e] at hu
        rcases List.mem_append.1 hu with hu | hu
        · exact hone hh u hu
        · obtain rfl : u = _ := by simpa using hu
          rfl
      · exact g2 u hu
    · intro j u hu
      by_cases hj : j < cs.length
      · rw [List.getElem?_append_left hj] at hu
        exact h2 j u hu
      · rw [List.getElem?_append_right (by omega)] at hu
        have := g3 _ u hu
        rw [show off + n + (j - cs.length) = off + j from by omega] at this
        exact this
    · intro S ok' W b' off' hk hd' hm hc
      rw [TRs]
      refine ⟨⟨cs, TR.kp_ hH hk hd' hm t cs h1, fun j u hu => hc j u ?_⟩, g4 S ok' W b' (off' + n) hk hd' hm (fun j u hu => ?_)⟩
      · rw [List.getElem?_append_left (List.getElem?_eq_some_iff.1 hu).1]
        exact hu
      · have := hc (n + j) u (by rw [List.getElem?_append_right (by omega), ← hu, hcn]; congr 1; omega)
        rw [show off' + (n + j) = off' + n + j from by omega] at this
        exact this
theorem TRs.here {H : Head α} {n : Nat} {w : World} {ok : Nat → Prop} {l : List (RT α)} {b off : Nat} (h0 : 0 < l.length) (h : TRs H n w ok l b off) : b < w.heap.size := by
  cases l with
  | nil => simp at h0
  | cons t l =>
    rw [TRs] at h
    obtain ⟨⟨cs, h1, h2⟩, _⟩ := h
    obtain ⟨hd, A, c, e, hl, _⟩ := (TR_def _ _ _ _ _ _).1 h1
    have h3 : 0 < cs.length := by rw [e]; simp
    exact cell_lt (h2 0 _ (List.getElem?_eq_getElem h3))
theorem add_spot (b off j : Nat) : (⟨b, off, none⟩ : Addr).add j = ⟨b, off + j, none⟩ := by
  unfold Addr.add
  split
  · rename_i h
    first | (subst h; rfl) | simp_all
  · rfl
theorem TL.flat {H : Head α} (hH : HeadKp H) (hone : ∀ {w : World} {ok : Nat → Prop} {a : α} {hd : List Value}, H w ok a hd → ∀ u ∈ hd, u.oneCell' = true) {n : Nat} {w : World} {ok : Nat → Prop} {l : List (RT α)} {A : Option Addr} (h : TL H n w ok l A) :
    ∃ xs : List Value, Rd w ok n A l.length xs ∧ (∀ u ∈ xs, u.oneCell' = true) ∧
      ∀ (S ok' : Nat → Prop) (W : World) (A' : Option Addr), Kp S w W → (∀ i, ok i → ¬ S i) → (∀ i, ok i → ok' i) → Rd W ok' n A' l.length xs → TL H n W ok' l A' := by
  by_cases h0 : 0 < l.length
  · obtain ⟨b, off, rfl, hb, ht⟩ := h h0
    obtain ⟨xs, g1, g2, g3, g4⟩ := ht.flat hH hone
    refine ⟨xs, ⟨g1, fun _ => ⟨_, rfl, rfl, hb, fun j u hu => by rw [add_spot]; exact g3 j u hu⟩⟩, g2, fun S ok' W A' hk hd hm hr _ => ?_⟩
    obtain ⟨⟨b', off', sp⟩, rfl, hsp, hb', hc⟩ := hr.2 h0
    obtain rfl : sp = none := hsp
    exact ⟨b', off', rfl, hb', g4 S ok' W b' off' hk hd hm (fun j u hu => by rw [← add_spot]; exact hc j u hu)⟩
  · obtain rfl : l = [] := List.eq_nil_of_length_eq_zero (by omega)
    exact ⟨[], ⟨by simp, fun h => by simp at h⟩, by simp, fun _ _ _ _ _ _ _ _ h => by simp at h⟩
end

/-- The blocks of a tree are there. -/
structure HeadLt {α : Type} (H : Head α) : Prop where
  lt : ∀ {w : World} {ok : Nat → Prop} {a : α} {hd : List Value}, H w ok a hd → H w (fun i => ok i ∧ i < w.heap.size) a hd
section
variable {α : Type}
mutual
theorem TR.lt_ {H : Head α} (hH : HeadLt H) {n : Nat} {w : World} {ok : Nat → Prop} : ∀ (t : RT α) (cs : List Value), TR H n w ok t cs → TR H n w (fun i => ok i ∧ i < w.heap.size) t cs
  | .mk a l, cs, h => by
    rw [TR] at h ⊢
    obtain ⟨hds, A, c, e, hl, hh, hc, hc2, ht⟩ := h
    refine ⟨hds, A, c, e, hl, hH.lt hh, hc, hc2, fun h0 => ?_⟩
    obtain ⟨b, off, e1, hb, hs⟩ := ht h0
    exact ⟨b, off, e1, ⟨hb, TRs.here h0 hs⟩, TRs.lt_ hH l b off hs⟩
theorem TRs.lt_ {H : Head α} (hH : HeadLt H) {n : Nat} {w : World} {ok : Nat → Prop} : ∀ (l : List (RT α)) (b off : Nat), TRs H n w ok l b off → TRs H n w (fun i => ok i ∧ i < w.heap.size) l b off
  | [], _, _, _ => by rw [TRs]; trivial
  | t :: l, b, off, h => by
    rw [TRs] at h ⊢
    obtain ⟨⟨cs, h1, h2⟩, h3⟩ := h
    exact ⟨⟨cs, TR.lt_ hH t cs h1, h2⟩, TRs.lt_ hH l b _ h3⟩
end
theorem TL.lt_ {H : Head α} (hH : HeadLt H) {n : Nat} {w : World} {ok : Nat → Prop} {l : List (RT α)} {A : Option Addr} (h : TL H n w ok l A) : TL H n w (fun i => ok i ∧ i < w.heap.size) l A := by
  intro h0
  obtain ⟨b, off, e1, hb, hs⟩ := h h0
  exact ⟨b, off, e1, ⟨hb, TRs.here h0 hs⟩, TRs.lt_ hH l b off hs⟩
end
theorem Kp.at_ {S : Nat → Prop} {a w : World} (h : Kp S a w) (g : Nat) (hg : S g ∨ a.heap.size ≤ g) (i : Nat) (u : Value) : Kp S a (w.setCell ⟨g, i, none⟩ u) := h.setCell (p := ⟨g, i, none⟩) hg u

/-- Rows of any type: laid as a literal. -/
theorem Own.lit_ (w : World) (e size : Nat) (xs : List Value) (cs : Array Value) (n B : Nat) (hn : xs.length = n * size) (hcs : cs = xs.toArray) (hB : B ≤ w.heap.size) (hm : n ≤ maxLen) :
    Own (w.alloc (.cells cs e)) (B ≤ ·) e size (.slice (some ⟨w.heap.size, 0, none⟩) n n) n xs := by
  subst hcs
  refine ⟨⟨hn, .inr ⟨w.heap.size, n, _, rfl, Nat.zero_le _, heap_alloc_new w _, Nat.le_refl _, hm, by simp [hn], ?_⟩⟩, fun k hk => ?_⟩
  · exact List.take_of_length_le (by simp [hn])
  · have : w.heap.size = k := by simpa [Value.ownBlock] using hk
    omega
end Go.Proofs.Ytfcghajnnllmhaa
