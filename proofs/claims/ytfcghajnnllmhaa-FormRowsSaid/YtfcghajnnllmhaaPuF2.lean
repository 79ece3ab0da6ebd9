/-
  Plain facts on forms: what right ones' numbers are; how many bytes there may be; my contracts' answers among the printed ones.
-/
import Derived.Test.YtfcghajnnllmhaaPuF
import Derived.Test.YtfcghajnnllmhaaQPx4
import Derived.Test.YtfcghajnnllmhaaQPx1
import Derived.Test.YtfcghajnnllmhaaQPx4
namespace Go.Proofs.Ytfcghajnnllmhaa
open Go.RowKit YtfcghajnnllmhaaW.PrintWords

structure OwnOk (a : FH) : Prop where
  k0 : a.k = 0 → 1 ≤ a.s ∧ a.s ≤ 8
  k12 : a.k = 1 ∨ a.k = 2 → 1 ≤ a.s ∧ a.s ≤ 3 ∧ 0 ≤ a.lo ∧ a.lo ≤ a.hi ∧ a.hi ≤ 16777215 ∧ a.hi ≤ 256 ^ a.s.toNat - 1 ∧ 1 ≤ a.st ∧ a.st ≤ 65536
  k4 : a.k = 4 → 0 ≤ a.lo ∧ a.lo ≤ a.hi ∧ a.hi ≤ 16777215
  k5 : a.k = 5 → 0 ≤ a.lo ∧ a.lo ≤ 16777215
  k : 0 ≤ a.k ∧ a.k ≤ 5
theorem own_ok {a : FH} {n : Nat} (h : ownN a.k a.s a.lo a.hi a.st n = 0) : OwnOk a ∧ (a.k = 2 → n = 1) ∧ (a.k = 3 → n ≤ 32) := by
  obtain ⟨k, s, lo, hi, st⟩ := a
  simp only [] at h ⊢
  unfold ownN at h
  by_cases k0 : k = 0
  · rw [if_pos k0] at h
    split at h
    · omega
    · exact ⟨⟨fun _ => ⟨by simp only []; omega, by simp only []; omega⟩, fun h => by simp only [] at h; omega, fun h => by simp only [] at h; omega, fun h => by simp only [] at h; omega, ⟨by simp only []; omega, by simp only []; omega⟩⟩, by omega, by omega⟩
  rw [if_neg k0] at h
  by_cases k12 : k = 2 ∨ k = 1
  · rw [if_pos k12] at h
    split at h
    · omega
    rename_i hs
    split at h
    · omega
    rename_i hb
    have hb1 : ¬ boundsR lo hi (256 ^ s.toNat - 1) ≠ 0 := fun x => hb (.inl x)
    rw [bounds_ne] at hb1
    have hM : (256 : Int) ^ s.toNat - 1 ≤ 16777215 := by
      rcases (show s.toNat = 1 ∨ s.toNat = 2 ∨ s.toNat = 3 by omega) with e | e | e <;> rw [e] <;> decide
    refine ⟨⟨fun h => by simp only [] at h; omega, fun _ => ⟨by simp only []; omega, by simp only []; omega, by simp only []; omega, by simp only []; omega, by simp only []; omega, ?_, by simp only []; omega, by simp only []; omega⟩, fun h => by simp only [] at h; omega, fun h => by simp only [] at h; omega, ⟨by simp only []; omega, by simp only []; omega⟩⟩, fun k2 => ?_, by omega⟩
    · show hi ≤ (256 : Int) ^ s.toNat - 1
      omega
    · split at h
      · omega
      · omega
  rw [if_neg k12] at h
  by_cases k3 : k = 3
  · rw [if_pos k3] at h
    split at h
    · omega
    · exact ⟨⟨fun h => by simp only [] at h; omega, fun h => by simp only [] at h; omega, fun h => by simp only [] at h; omega, fun h => by simp only [] at h; omega, ⟨by simp only []; omega, by simp only []; omega⟩⟩, by omega, by omega⟩
  rw [if_neg k3] at h
  by_cases k4 : k = 4
  · rw [if_pos k4] at h
    have hb : ¬ boundsR lo hi 16777215 ≠ 0 := by omega
    rw [bounds_ne] at hb
    exact ⟨⟨fun h => by simp only [] at h; omega, fun h => by simp only [] at h; omega, fun _ => ⟨by simp only []; omega, by simp only []; omega, by simp only []; omega⟩, fun h => by simp only [] at h; omega, ⟨by simp only []; omega, by simp only []; omega⟩⟩, by omega, by omega⟩
  rw [if_neg k4] at h
  by_cases k5 : k = 5
  · rw [if_pos k5] at h
    have hb : ¬ boundsR lo lo 16777215 ≠ 0 := by omega
    rw [bounds_ne] at hb
    exact ⟨⟨fun h => by simp only [] at h; omega, fun h => by simp only [] at h; omega, fun h => by simp only [] at h; omega, fun _ => ⟨by simp only []; omega, by simp only []; omega⟩, ⟨by simp only []; omega, by simp only []; omega⟩⟩, by omega, by omega⟩
  · rw [if_neg k5] at h
    omega
/-- What a right form is. -/
theorem check_ok {a : FH} {l : List Fm} (h : checkR (.mk a l) = 0) : OwnOk a ∧ (a.k = 2 → l.length = 1) ∧ (a.k = 3 → l.length ≤ 32) ∧ ((a.k = 2 ∨ a.k = 3) → (∀ x ∈ l, checkR x = 0) ∧ badF a.k l.length 0 l = false) := by
  rw [checkR_mk] at h
  by_cases h0 : ownN a.k a.s a.lo a.hi a.st l.length ≠ 0
  · rw [if_pos h0] at h
    exact absurd h h0
  rw [if_neg h0] at h
  have ho := own_ok (Decidable.not_not.1 h0)
  refine ⟨ho.1, ho.2.1, ho.2.2, fun hk => ?_⟩
  rw [if_pos hk] at h
  have hL : ∀ t : List Fm, checkL t = 0 → ∀ x ∈ t, checkR x = 0 := by
    intro t
    induction t with
    | nil => intro _ x hx; simp at hx
    | cons f t ih =>
      intro h x hx
      rw [checkL] at h
      split at h
      · omega
      · rcases List.mem_cons.1 hx with rfl | hx
        · omega
        · exact ih h x hx
  split at h
  · omega
  · rename_i h1
    refine ⟨hL l (by omega), ?_⟩
    split at h
    · omega
    · rename_i h2
      simpa using h2

theorem cntL_ge (m : Nat) : ∀ (t : List Fm) (n : Nat), n ≤ m → n ≤ cntL m n t := by
  intro t
  induction t with
  | nil => intro n _; rw [cntL]; omega
  | cons f t ih =>
    intro n hn
    rw [cntL, if_pos hn]
    have hb := cnt_bound f (m - n)
    by_cases h : n + cntR (m - n) f ≤ m
    · exact Nat.le_trans (by omega) (ih _ h)
    · have : cntL m (n + cntR (m - n) f) t = n + cntR (m - n) f := by
        cases t with
        | nil => rw [cntL]
        | cons g u => rw [cntL, if_neg h]
      rw [this]; omega
/-- How many bytes there may be: as many as the forms allow, and no wrap. -/
theorem span_bd (sel : FH → Int) (hs : sel = FH.lo ∨ sel = FH.hi) (f : Fm) : ∀ m, m ≤ 100000 → cntR m f ≤ m → checkR f = 0 → 0 ≤ spanR sel f ∧ spanR sel f ≤ 16777218 * (cntR m f : Nat) := by
  induction f using RT.induct with
  | h a l ih =>
  intro m hm hc hk
  obtain ⟨ho, _, _, hch⟩ := check_ok hk
  have h1 := (cnt_bound (.mk a l) m).1
  rw [spanR_mk]
  by_cases k0 : a.k = 0
  · rw [if_pos k0]
    have := ho.k0 k0
    omega
  rw [if_neg k0]
  by_cases k12 : a.k = 1 ∨ a.k = 2
  · rw [if_pos k12]
    have := ho.k12 k12
    have hsel : 0 ≤ sel a ∧ sel a ≤ 16777215 := by rcases hs with rfl | rfl <;> omega
    rw [w64 (by omega) (by omega)]
    omega
  rw [if_neg k12]
  by_cases k4 : a.k = 4
  · rw [if_pos k4]
    have := ho.k4 k4
    have hsel : 0 ≤ sel a ∧ sel a ≤ 16777215 := by rcases hs with rfl | rfl <;> omega
    omega
  rw [if_neg k4]
  by_cases k5 : a.k = 5
  · rw [if_pos k5]
    have := ho.k5 k5
    omega
  rw [if_neg k5]
  have k3 : a.k = 3 := by have := ho.k; omega
  have hm1 : 1 ≤ m := by omega
  rw [cntR, if_pos (.inr k3)] at hc ⊢
  have key : ∀ (t : List Fm), (∀ x ∈ t, x ∈ l) → ∀ (n : Nat) (q : Int), cntL m n t ≤ m → n ≤ m → 0 ≤ q → q ≤ 16777218 * (n : Nat) → 0 ≤ spanL sel q t ∧ spanL sel q t ≤ 16777218 * (cntL m n t : Nat) := by
    intro t
    induction t with
    | nil => intro _ n q _ _ h1 h2; rw [spanL, cntL]; exact ⟨h1, h2⟩
    | cons f t ih2 =>
      intro hmem n q hc hn h1 h2
      have hb := cnt_bound f (m - n)
      rw [cntL, if_pos hn] at hc ⊢
      have hle : n + cntR (m - n) f ≤ m := by
        rcases Nat.lt_or_ge m (n + cntR (m - n) f) with h | h
        · have : cntL m (n + cntR (m - n) f) t = n + cntR (m - n) f := by
            cases t with
            | nil => rw [cntL]
            | cons g u => rw [cntL, if_neg (by omega)]
          omega
        · exact h
      have hf := ih f (hmem f (by simp)) (m - n) (by omega) (by omega) ((hch (.inr k3)).1 f (hmem f (by simp)))
      rw [spanL, w64 (by omega) (by omega)]
      exact ih2 (fun x hx => hmem x (by simp [hx])) _ _ hc hle (by omega) (by omega)
  exact key l (fun x hx => hx) 1 0 hc (by omega) (by omega) (by omega)

/-! ### My contracts' answers among the printed ones. -/
theorem to_mk (f : Fm) : toF ⟨f.a.k, f.a.s, f.a.lo, f.a.hi, f.a.st, f.l.map ofF⟩ = f := by
  obtain ⟨a, l⟩ := f
  rw [toF_mk, map_to_ofF]
  rfl
theorem lay_check (f : Fm) (hw : wfF f = true) : QP.layout_Check.f f.a.k f.a.s f.a.lo f.a.hi f.a.st (f.l.map ofF) = some (if deepB 8 f then 14 else checkR f) := by
  rw [QP.layout_Check.f, to_mk, if_pos hw]
theorem lay_least (f : Fm) (hw : wfF f = true) : QP.layout_Least.f f.a.k f.a.s f.a.lo f.a.hi f.a.st (f.l.map ofF) = some (leastR f) := by
  rw [QP.layout_Least.f, to_mk, if_pos hw]
theorem lay_most (f : Fm) (hw : wfF f = true) : QP.layout_Most.f f.a.k f.a.s f.a.lo f.a.hi f.a.st (f.l.map ofF) = some (mostR f) := by
  rw [QP.layout_Most.f, to_mk, if_pos hw]
theorem lay_open (f : Fm) (hw : wfF f = true) : QP.layout_Open.f f.a.k f.a.s f.a.lo f.a.hi f.a.st (f.l.map ofF) = some (openR f) := by
  rw [QP.layout_Open.f, to_mk, if_pos hw]
theorem great_ev (f : Fm) (hw : wfF f = true) : Ev (fun k => QP.passepartoutlaw04_great.f k f.a.k f.a.s f.a.lo f.a.hi f.a.st (f.l.map ofF)) (decide (500 < cntR 500 f)) := by
  simp only [QP.passepartoutlaw04_great.f]
  refine Ev.bind (cnt_ev f 500 (by omega) hw) (Ev.is ?_)
  congr 1
  rw [Bool.eq_iff_iff]
  simp only [decide_eq_true_eq]
  omega
end Go.Proofs.Ytfcghajnnllmhaa
