/-
  Structs that hold a slice of themselves, as trees: how a value reads as one; what a call leaves of it.
-/
import Derived.Test.YtfcghajnnllmhaaLib
namespace Go.Proofs.Ytfcghajnnllmhaa
open Go.RowKit

inductive RT (α : Type) where
  | mk (a : α) (l : List (RT α))
namespace RT
variable {α : Type}
def a : RT α → α
  | .mk a _ => a
def l : RT α → List (RT α)
  | .mk _ l => l
end RT

/-- How a struct's fields ahead of the slice read. -/
abbrev Head (α : Type) := World → (Nat → Prop) → α → List Value → Prop

section
variable {α : Type}
mutual
/-- A struct's cells read as a tree: its last field is the slice. -/
def TR (H : Head α) (n : Nat) (w : World) (ok : Nat → Prop) : RT α → List Value → Prop
  | .mk a l, cs => ∃ hd A c, cs = hd ++ [.slice A l.length c] ∧ hd.length + 1 = n ∧ H w ok a hd ∧ l.length ≤ c ∧ l.length ≤ 140737488355328 ∧ (0 < l.length → ∃ b off, A = some ⟨b, off, none⟩ ∧ ok b ∧ TRs H n w ok l b off)
def TRs (H : Head α) (n : Nat) (w : World) (ok : Nat → Prop) : List (RT α) → Nat → Nat → Prop
  | [], _, _ => True
  | t :: l, b, off => (∃ cs, TR H n w ok t cs ∧ ∀ j u, cs[j]? = some u → w.cell? ⟨b, off + j, none⟩ = some u) ∧ TRs H n w ok l b (off + n)
end
/-- A slice's address reads as a list of trees. -/
def TL (H : Head α) (n : Nat) (w : World) (ok : Nat → Prop) (l : List (RT α)) (A : Option Addr) : Prop :=
  0 < l.length → ∃ b off, A = some ⟨b, off, none⟩ ∧ ok b ∧ TRs H n w ok l b off
theorem TR_def (H : Head α) (n : Nat) (w : World) (ok : Nat → Prop) (t : RT α) (cs : List Value) :
    TR H n w ok t cs ↔ ∃ hd A c, cs = hd ++ [.slice A t.l.length c] ∧ hd.length + 1 = n ∧ H w ok t.a hd ∧ t.l.length ≤ c ∧ t.l.length ≤ 140737488355328 ∧ TL H n w ok t.l A := by
  cases t
  rw [TR]
  rfl
theorem TRs.at_ {H : Head α} {n : Nat} {w : World} {ok : Nat → Prop} {l : List (RT α)} {b off : Nat} (h : TRs H n w ok l b off) {i : Nat} (hi : i < l.length) :
    ∃ cs, TR H n w ok (l[i]'hi) cs ∧ ∀ j u, cs[j]? = some u → w.cell? ⟨b, off + i * n + j, none⟩ = some u := by
  induction l generalizing off i with
  | nil => simp at hi
  | cons t l ih =>
    rw [TRs] at h
    cases i with
    | zero => simpa using h.1
    | succ i =>
      obtain ⟨cs, h1, h2⟩ := ih h.2 (i := i) (by simpa using hi)
      refine ⟨cs, by simpa using h1, fun j u hu => ?_⟩
      rw [Nat.succ_mul, show off + (i * n + n) + j = off + n + i * n + j from by omega]
      exact h2 j u hu
theorem TRs.of {H : Head α} {n : Nat} {w : World} {ok : Nat → Prop} {l : List (RT α)} {b off : Nat}
    (h : ∀ i (hi : i < l.length), ∃ cs, TR H n w ok (l[i]'hi) cs ∧ ∀ j u, cs[j]? = some u → w.cell? ⟨b, off + i * n + j, none⟩ = some u) : TRs H n w ok l b off := by
  induction l generalizing off with
  | nil => rw [TRs]; trivial
  | cons t l ih =>
    rw [TRs]
    obtain ⟨c0, g1, g2⟩ := h 0 (by simp)
    refine ⟨⟨c0, g1, fun j u hu => by simpa using g2 j u hu⟩, ih (fun i hi => ?_)⟩
    obtain ⟨cs, h1, h2⟩ := h (i + 1) (by simpa using hi)
    refine ⟨cs, by simpa using h1, fun j u hu => ?_⟩
    have := h2 j u hu
    rw [Nat.succ_mul, show off + (i * n + n) + j = off + n + i * n + j from by omega] at this
    exact this
theorem TL.at_ {H : Head α} {n : Nat} {w : World} {ok : Nat → Prop} {l : List (RT α)} {A : Option Addr} (h : TL H n w ok l A) {i : Nat} (hi : i < l.length) :
    ∃ b off cs, A = some ⟨b, off, none⟩ ∧ ok b ∧ TR H n w ok (l[i]'hi) cs ∧ ∀ j u, cs[j]? = some u → w.cell? ⟨b, off + i * n + j, none⟩ = some u := by
  obtain ⟨b, off, e, hb, ht⟩ := h (by omega)
  obtain ⟨cs, h1, h2⟩ := ht.at_ hi
  exact ⟨b, off, cs, e, hb, h1, h2⟩

/-- A head that reads out of memory reads there as before, if its blocks are as before. -/
structure HeadKp (H : Head α) : Prop where
  kp : ∀ {w w' : World} {ok S : Nat → Prop} {a : α} {hd : List Value}, H w ok a hd → Kp S w w' → (∀ i, ok i → ¬ S i) → H w' ok a hd
  mono : ∀ {w : World} {ok ok' : Nat → Prop} {a : α} {hd : List Value}, H w ok a hd → (∀ i, ok i → ok' i) → H w ok' a hd

mutual
theorem TR.kp_ {H : Head α} (hH : HeadKp H) {n : Nat} {w w' : World} {ok ok' S : Nat → Prop} (hk : Kp S w w') (hd : ∀ i, ok i → ¬ S i) (hm : ∀ i, ok i → ok' i) : ∀ (t : RT α) (cs : List Value), TR H n w ok t cs → TR H n w' ok' t cs
  | .mk a l, cs, h => by
    rw [TR] at h ⊢
    obtain ⟨hds, A, c, e, hl, hh, hc, hc2, ht⟩ := h
    refine ⟨hds, A, c, e, hl, hH.mono (hH.kp hh hk hd) hm, hc, hc2, fun h0 => ?_⟩
    obtain ⟨b, off, e1, hb, hs⟩ := ht h0
    exact ⟨b, off, e1, hm b hb, TRs.kp_ hH hk hd hm l b off hb hs⟩
theorem TRs.kp_ {H : Head α} (hH : HeadKp H) {n : Nat} {w w' : World} {ok ok' S : Nat → Prop} (hk : Kp S w w') (hd : ∀ i, ok i → ¬ S i) (hm : ∀ i, ok i → ok' i) : ∀ (l : List (RT α)) (b off : Nat), ok b → TRs H n w ok l b off → TRs H n w' ok' l b off
  | [], _, _, _, _ => by rw [TRs]; trivial
  | t :: l, b, off, hb, h => by
    rw [TRs] at h ⊢
    obtain ⟨⟨cs, h1, h2⟩, h3⟩ := h
    exact ⟨⟨cs, TR.kp_ hH hk hd hm t cs h1, fun j u hu => hk.cell (h2 j u hu) (hd b hb)⟩, TRs.kp_ hH hk hd hm l b _ hb h3⟩
end
theorem TL.kp_ {H : Head α} (hH : HeadKp H) {n : Nat} {w w' : World} {ok ok' S : Nat → Prop} {l : List (RT α)} {A : Option Addr} (h : TL H n w ok l A) (hk : Kp S w w') (hd : ∀ i, ok i → ¬ S i) (hm : ∀ i, ok i → ok' i) : TL H n w' ok' l A := by
  intro h0
  obtain ⟨b, off, e1, hb, hs⟩ := h h0
  exact ⟨b, off, e1, hm b hb, TRs.kp_ hH hk hd hm l b off hb hs⟩
/-- The rest of a list. -/
theorem TL.drop {H : Head α} {n : Nat} {w : World} {ok : Nat → Prop} {l : List (RT α)} {b off : Nat} (h : TL H n w ok l (some ⟨b, off, none⟩)) (k : Nat) : TL H n w ok (l.drop k) (some ⟨b, off + k * n, none⟩) := by
  intro h0
  rw [List.length_drop] at h0
  obtain ⟨b', off', e, hb, hs⟩ := h (by omega)
  injection e with e
  injection e with e1 e2
  subst e1 e2
  refine ⟨b, _, rfl, hb, TRs.of (fun i hi => ?_)⟩
  rw [List.length_drop] at hi
  obtain ⟨cs, h1, h2⟩ := hs.at_ (i := k + i) (by omega)
  refine ⟨cs, by simpa using h1, fun j u hu => ?_⟩
  have := h2 j u hu
  rw [Nat.add_mul, show off + (k * n + i * n) + j = off + k * n + i * n + j from by omega] at this
  exact this
theorem TL.take {H : Head α} {n : Nat} {w : World} {ok : Nat → Prop} {l : List (RT α)} {A : Option Addr} (h : TL H n w ok l A) (k : Nat) : TL H n w ok (l.take k) A := by
  intro h0
  rw [List.length_take] at h0
  obtain ⟨b, off, e, hb, hs⟩ := h (by omega)
  refine ⟨b, off, e, hb, TRs.of (fun i hi => ?_)⟩
  rw [List.length_take] at hi
  obtain ⟨cs, h1, h2⟩ := hs.at_ (i := i) (by omega)
  exact ⟨cs, by simpa using h1, h2⟩
end

/-! ### Folds over trees. -/
theorem RT.induct {α : Type} {p : RT α → Prop} (h : ∀ a l, (∀ t ∈ l, p t) → p (.mk a l)) : ∀ t, p t := by
  intro t
  exact RT.rec (motive_1 := p) (motive_2 := fun l => ∀ t ∈ l, p t) (fun a l ih => h a l ih) (fun _ h => by simp at h)
    (fun t l h1 h2 x hx => by
      rcases List.mem_cons.1 hx with rfl | hx
      · exact h1
      · exact h2 x hx) t
end Go.Proofs.Ytfcghajnnllmhaa
