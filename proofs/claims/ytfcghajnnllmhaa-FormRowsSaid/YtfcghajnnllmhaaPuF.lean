/-
  The document's forms, as plain functions: what they answer.
-/
import Derived.Test.YtfcghajnnllmhaaBrF
import Derived.Test.YtfcghajnnllmhaaPuE
import Derived.Test.YtfcghajnnllmhaaF9
import Derived.Test.YtfcghajnnllmhaaF5
import Derived.Test.YtfcghajnnllmhaaQPx4
import Derived.Test.YtfcghajnnllmhaaQPx5
import Derived.Test.YtfcghajnnllmhaaQPx10
import Derived.Test.YtfcghajnnllmhaaQPx6
import Derived.Test.YtfcghajnnllmhaaQPx11
namespace Go.Proofs.Ytfcghajnnllmhaa
open Go.RowKit YtfcghajnnllmhaaW.PrintWords

theorem of_f0 (x : Fm) : (ofF x).f0 = x.a.k := by cases x; rw [ofF_mk]; rfl
theorem of_f1 (x : Fm) : (ofF x).f1 = x.a.s := by cases x; rw [ofF_mk]; rfl
theorem of_f2 (x : Fm) : (ofF x).f2 = x.a.lo := by cases x; rw [ofF_mk]; rfl
theorem of_f3 (x : Fm) : (ofF x).f3 = x.a.hi := by cases x; rw [ofF_mk]; rfl
theorem of_f4 (x : Fm) : (ofF x).f4 = x.a.st := by cases x; rw [ofF_mk]; rfl
theorem of_f5 (x : Fm) : (ofF x).f5 = x.l.map ofF := by cases x; rw [ofF_mk]; rfl
theorem rparts_f (a : FH) (l : List Fm) : QP.passepartoutref04_parts.f a.k a.s a.lo a.hi a.st (l.map ofF) = some ((partsF (.mk a l)).map ofF) := by
  rw [QP.passepartoutref04_parts.f]
  show _ = some ((if a.k = 2 ∨ a.k = 3 then l else []).map ofF)
  by_cases h2 : a.k = 2
  · rw [if_pos h2, if_pos (.inl h2)]
  · rw [if_neg h2]
    by_cases h3 : a.k = 3
    · rw [if_pos h3, if_pos (.inr h3)]
    · rw [if_neg h3, if_neg (by omega)]
      rfl
theorem partsF_len (a : FH) (l : List Fm) : (partsF (.mk a l)).length ≤ l.length := by
  show (if a.k = 2 ∨ a.k = 3 then l else []).length ≤ _
  split <;> simp

/-- A number of forms, no more than so many told. -/
theorem cnt_ev (f : Fm) : ∀ m : Nat, m ≤ 100000 → wfF f = true → Ev (fun k => QP.passepartoutref04_Count.f k f.a.k f.a.s f.a.lo f.a.hi f.a.st (f.l.map ofF) (m : Int)) ((cntR m f : Nat) : Int) := by
  induction f using RT.induct with
  | h a l ih =>
  intro m hm hw
  obtain ⟨_, hl, hws⟩ := (wfF_mk _ _).1 hw
  apply Ev.step
  · intro k
    simp only [QP.passepartoutref04_Count.f]
    rfl
  refine Ev.cb (rparts_f a l) ?_
  rw [cntR_parts]
  have hpl := partsF_len a l
  have hmem : ∀ x ∈ partsF (.mk a l), x ∈ l := fun x hx => partsF_mem hx
  generalize partsF (.mk a l) = P at hpl hmem
  have key : ∀ (d j q : Nat), P.length - j = d → j ≤ P.length → 1 ≤ q → q ≤ m + 1 → Ev (fun k => QP.passepartoutref04_Count.l0 k (m : Int) (q : Int) (P.map ofF) (j : Int)) ((cntL m q (P.drop j) : Nat) : Int) := by
    intro d
    induction d with
    | zero =>
      intro j q hd hj hq1 hq2
      apply Ev.step
      · intro k
        simp only [QP.passepartoutref04_Count.l0]
        rfl
      refine Ev.in_ (by simp; omega) ?_
      rw [cntL_end (by omega)]
      exact Ev.now _
    | succ d ihd =>
      intro j q hd hj hq1 hq2
      have hlt : j < P.length := by omega
      apply Ev.step
      · intro k
        simp only [QP.passepartoutref04_Count.l0, rd_ofF P j hlt, of_f0, of_f1, of_f2, of_f3, of_f4, of_f5]
        rfl
      refine Ev.ip (by simp; omega) ?_
      refine Ev.sp (fun hqm => ?_) (fun hqm => ?_)
      · have hqm' : q ≤ m := by omega
        have hb := cnt_bound P[j] (m - q)
        refine Ev.ip (by omega) ?_
        have h1 := ih P[j] (hmem _ (List.getElem_mem hlt)) (m - q) (by omega) (hws _ (hmem _ (List.getElem_mem hlt)))
        rw [w64 (by omega) (by omega), show (m : Int) - (q : Int) = ((m - q : Nat) : Int) by omega]
        refine Ev.bind h1 ?_
        rw [w64 (by omega) (by omega), w64 (by omega) (by omega), show (q : Int) + ((cntR (m - q) P[j] : Nat) : Int) = ((q + cntR (m - q) P[j] : Nat) : Int) by omega, show (j : Int) + 1 = ((j + 1 : Nat) : Int) by omega]
        refine Ev.eq_ (ihd (j + 1) (q + cntR (m - q) P[j]) (by omega) (by omega) (by omega) (by omega)) ?_
        rw [cntL_drop (k := j) hlt, if_pos hqm']
      · rw [cntL_end (by omega)]
        exact Ev.now _
  have h0 := key P.length 0 1 (by omega) (by omega) (by omega) (by omega)
  rw [List.drop_zero] at h0
  exact h0

mutual
/-- How deep; no more than so much (and one) is told. -/
def depR : Nat → Fm → Nat
  | m, .mk a l => (if a.k = 2 ∨ a.k = 3 then depL m 0 l else 0) + 1
def depL : Nat → Nat → List Fm → Nat
  | _, b, [] => b
  | 0, b, _ :: _ => b
  | m + 1, b, f :: t => depL (m + 1) (max b (depR m f)) t
end
theorem depR_parts (m : Nat) (f : Fm) : depR m f = depL m 0 (partsF f) + 1 := by
  obtain ⟨a, l⟩ := f
  rw [depR]
  show _ = depL m 0 (if a.k = 2 ∨ a.k = 3 then l else []) + 1
  split
  · rfl
  · cases m <;> rw [depL]
theorem depL_end {l : List Fm} {k m b : Nat} (hk : l.length ≤ k ∨ m = 0) : depL m b (l.drop k) = b := by
  rcases hk with hk | rfl
  · rw [List.drop_of_length_le hk]
    cases m <;> rw [depL]
  · cases l.drop k <;> rw [depL]
theorem depL_drop {l : List Fm} {k m b : Nat} (hk : k < l.length) : depL (m + 1) b (l.drop k) = depL (m + 1) (max b (depR m l[k])) (l.drop (k + 1)) := by
  rw [List.drop_eq_getElem_cons hk, depL]
theorem dep_bound (f : Fm) : ∀ m, depR m f ≤ m + 1 := by
  induction f using RT.induct with
  | h a l ih =>
  intro m
  rw [depR]
  split
  · have key : ∀ (t : List Fm), (∀ f ∈ t, ∀ m, depR m f ≤ m + 1) → ∀ b, b ≤ m → depL m b t ≤ m := by
      intro t
      induction t with
      | nil => intro _ b hb; cases m <;> rw [depL] <;> omega
      | cons f t ih2 =>
        intro hf b hb
        cases m with
        | zero => rw [depL]; omega
        | succ m =>
          rw [depL]
          have h1 := hf f (by simp) m
          exact ih2 (fun g hg => hf g (by simp [hg])) _ (by omega)
    have := key l ih 0 (by omega)
    omega
  · omega
theorem dep_deep (f : Fm) : ∀ n m, n ≤ m → deepB n f = decide (n < depR m f) := by
  induction f using RT.induct with
  | h a l ih =>
  intro n m hnm
  cases n with
  | zero => rw [depR]; simp [deepB]
  | succ n =>
    obtain ⟨m, rfl⟩ : ∃ q, m = q + 1 := ⟨m - 1, by omega⟩
    rw [depR_parts, deepB]
    have key : ∀ (t : List Fm), (∀ f ∈ t, f ∈ l) → ∀ b, (decide (n < b) || t.any (deepB n)) = decide (n < depL (m + 1) b t) := by
      intro t
      induction t with
      | nil => intro _ b; rw [depL]; simp
      | cons f t ih2 =>
        intro hf b
        rw [depL, List.any_cons, ← ih2 (fun g hg => hf g (by simp [hg])), ih f (hf f (by simp)) n m (by omega), Bool.eq_iff_iff]
        simp only [Bool.or_eq_true, decide_eq_true_eq]
        constructor
        · rintro (h | h | h)
          · exact .inl (by omega)
          · exact .inl (by omega)
          · exact .inr h
        · rintro (h | h)
          · rcases Nat.lt_or_ge n b with hb | hb
            · exact .inl hb
            · exact .inr (.inl (by omega))
          · exact .inr (.inr h)
    have h0 := key (partsF (.mk a l)) (fun f hf => partsF_mem hf) 0
    rw [Bool.eq_iff_iff] at h0 ⊢
    simp only [Bool.or_eq_true, decide_eq_true_eq] at h0 ⊢
    constructor
    · intro h
      have := h0.1 (.inr h)
      omega
    · intro h
      rcases h0.2 (by omega) with h2 | h2
      · omega
      · exact h2

theorem dep_ev (f : Fm) : ∀ m : Nat, m ≤ 100000 → wfF f = true → Ev (fun k => QP.passepartoutref04_Depth.f k f.a.k f.a.s f.a.lo f.a.hi f.a.st (f.l.map ofF) (m : Int)) ((depR m f : Nat) : Int) := by
  induction f using RT.induct with
  | h a l ih =>
  intro m hm hw
  obtain ⟨_, hl, hws⟩ := (wfF_mk _ _).1 hw
  apply Ev.step
  · intro k
    simp only [QP.passepartoutref04_Depth.f]
    rfl
  refine Ev.cb (rparts_f a l) ?_
  rw [depR_parts]
  have hpl := partsF_len a l
  have hmem : ∀ x ∈ partsF (.mk a l), x ∈ l := fun x hx => partsF_mem hx
  generalize partsF (.mk a l) = P at hpl hmem
  have key : ∀ (d j q : Nat), P.length - j = d → j ≤ P.length → q ≤ m + 1 → Ev (fun k => QP.passepartoutref04_Depth.l0 k (m : Int) (q : Int) (P.map ofF) (j : Int)) ((depL m q (P.drop j) + 1 : Nat) : Int) := by
    intro d
    induction d with
    | zero =>
      intro j q hd hj hq2
      apply Ev.step
      · intro k
        simp only [QP.passepartoutref04_Depth.l0]
        rfl
      refine Ev.in_ (by simp; omega) ?_
      apply Ev.step
      · intro k
        simp only [QP.passepartoutref04_Depth.j1]
        rfl
      refine Ev.in_ (by simp) ?_
      rw [depL_end (.inl (by omega)), w64 (by omega) (by omega)]
      exact Ev.is (by simp)
    | succ d ihd =>
      intro j q hd hj hq2
      have hlt : j < P.length := by omega
      apply Ev.step
      · intro k
        simp only [QP.passepartoutref04_Depth.l0]
        rfl
      refine Ev.ip (by simp; omega) ?_
      apply Ev.step
      · intro k
        simp only [QP.passepartoutref04_Depth.j1, rd_ofF P j hlt, of_f0, of_f1, of_f2, of_f3, of_f4, of_f5]
        rfl
      cases m with
      | zero =>
        refine Ev.in_ (by simp) ?_
        rw [depL_end (.inr rfl), w64 (by omega) (by omega)]
        exact Ev.is (by simp)
      | succ m =>
        refine Ev.ip (by simp) ?_
        refine Ev.ip (by omega) (Ev.ip (by simp; omega) ?_)
        have h1 := ih P[j] (hmem _ (List.getElem_mem hlt)) m (by omega) (hws _ (hmem _ (List.getElem_mem hlt)))
        have hb := dep_bound P[j] m
        rw [w64 (x := ((m + 1 : Nat) : Int) - 1) (by omega) (by omega), show ((m + 1 : Nat) : Int) - 1 = (m : Int) by omega]
        refine Ev.bind h1 ?_
        rw [depL_drop hlt, w64 (x := (j : Int) + 1) (by omega) (by omega), show (j : Int) + 1 = ((j + 1 : Nat) : Int) by omega]
        refine Ev.sp (fun hx => ?_) (fun hx => ?_)
        · refine Ev.eq_ (ihd (j + 1) (depR m P[j]) (by omega) (by omega) (by omega)) ?_
          rw [show max q (depR m P[j]) = depR m P[j] by omega]
        · refine Ev.eq_ (ihd (j + 1) q (by omega) (by omega) (by omega)) ?_
          rw [show max q (depR m P[j]) = q by omega]
  have h0 := key P.length 0 0 (by omega) (by omega) (by omega)
  rw [List.drop_zero] at h0
  exact h0

theorem top_ev (n : Nat) (hn : n ≤ 3) : Ev (fun k => QP.passepartoutref04_top.f k (n : Int)) ((256 : Int) ^ n - 1) := by
  refine ⟨n + 1, fun k hk => ?_⟩
  obtain ⟨m, rfl⟩ : ∃ m, k = m + (n + 1) := ⟨k - (n + 1), by omega⟩
  rcases (show n = 0 ∨ n = 1 ∨ n = 2 ∨ n = 3 by omega) with rfl | rfl | rfl | rfl <;> simp [QP.passepartoutref04_top.f, QP.passepartoutref04_top.l0, wrap64]
theorem bounds_ne (lo hi M : Int) : boundsR lo hi M ≠ 0 ↔ lo < 0 ∨ hi < lo ∨ M < hi := by
  unfold boundsR
  split
  · rename_i h
    simp [h]
  · rename_i h
    simp only [ne_eq, not_true_eq_false, false_iff]
    exact h
theorem own_ev (k s lo hi st : Int) (l : List SF) : Ev (fun n => QP.passepartoutref04_own.f n k s lo hi st l) (ownN k s lo hi st l.length) := by
  by_cases hk : k < 0 ∨ 5 < k
  · have e : ownN k s lo hi st l.length = 2 := by
      rw [ownN, if_neg (by omega), if_neg (by omega), if_neg (by omega), if_neg (by omega), if_neg (by omega)]
    rw [e]
    refine ⟨1, fun n hn => ?_⟩
    obtain ⟨m, rfl⟩ : ∃ m, n = m + 1 := ⟨n - 1, by omega⟩
    by_cases h0 : k < 0
    · simp only [QP.passepartoutref04_own.f, QP.passepartoutref04_own.j0]
      rw [if_pos h0]
      simp
    · simp only [QP.passepartoutref04_own.f, QP.passepartoutref04_own.j0]
      rw [if_neg h0, if_pos (by simp; omega)]
  rcases (show k = 0 ∨ k = 1 ∨ k = 2 ∨ k = 3 ∨ k = 4 ∨ k = 5 by omega) with rfl | rfl | rfl | rfl | rfl | rfl
  · refine ⟨8, fun n hn => ?_⟩
    obtain ⟨m, rfl⟩ : ∃ m, n = m + 8 := ⟨n - 8, by omega⟩
    simp only [QP.passepartoutref04_own.f, QP.passepartoutref04_own.j0, QP.passepartoutref04_own.j1, QP.passepartoutref04_own.j2, QP.passepartoutref04_own.j4, QP.passepartoutref04_own.j5, QP.passepartoutref04_own.j6, ownN]
    by_cases h1 : s = 1
    · subst h1; simp
    by_cases h2 : s = 2
    · subst h2; simp
    by_cases h3 : s = 3
    · subst h3; simp
    by_cases h4 : s = 4
    · subst h4; simp
    by_cases h8 : s = 8
    · subst h8; simp
    have h9 : s < 1 ∨ 4 < s ∧ s ≠ 8 := by omega
    simp [h1, h2, h3, h4, h8]
    omega
  · by_cases hs : s < 1 ∨ 3 < s
    · refine ⟨8, fun n hn => ?_⟩
      obtain ⟨m, rfl⟩ : ∃ m, n = m + 8 := ⟨n - 8, by omega⟩
      by_cases h1 : s < 1
      · simp [QP.passepartoutref04_own.f, QP.passepartoutref04_own.j0, QP.passepartoutref04_own.j1, QP.passepartoutref04_own.j2, QP.passepartoutref04_own.j3, ownN, h1]
      · have h3 : 3 < s := by omega
        simp [QP.passepartoutref04_own.f, QP.passepartoutref04_own.j0, QP.passepartoutref04_own.j1, QP.passepartoutref04_own.j2, QP.passepartoutref04_own.j3, ownN, h1, h3]
    · obtain ⟨n0, rfl⟩ : ∃ n0 : Nat, s = n0 := ⟨s.toNat, by omega⟩
      obtain ⟨K, hK⟩ := top_ev n0 (by omega)
      refine ⟨K + 8, fun n hn => ?_⟩
      obtain ⟨m, rfl⟩ : ∃ m, n = m + 8 := ⟨n - 8, by omega⟩
      have hT := hK (m + 4) (by omega)
      have h1 : ¬ ((n0 : Int) < 1) := by omega
      have h3 : ¬ (3 < (n0 : Int)) := by omega
      simp [QP.passepartoutref04_own.f, QP.passepartoutref04_own.j0, QP.passepartoutref04_own.j1, QP.passepartoutref04_own.j2, QP.passepartoutref04_own.j3, QP.passepartoutref04_own.j4, QP.passepartoutref04_own.j5, QP.passepartoutref04_own.j6, ownN, h1, h3, hT, bounds_ne]
      generalize (256 : Int) ^ n0 - 1 = M
      by_cases a1 : lo < 0
      · simp [a1]
      by_cases a2 : hi < lo
      · simp [a1, a2]
      by_cases a3 : M < hi
      · simp [a1, a2, a3]
      by_cases a4 : st < 1
      · simp [a1, a2, a3, a4]
      by_cases a5 : 65536 < st
      · simp [a1, a2, a3, a4, a5]
      simp [a1, a2, a3, a4, a5]
  · by_cases hs : s < 1 ∨ 3 < s
    · refine ⟨8, fun n hn => ?_⟩
      obtain ⟨m, rfl⟩ : ∃ m, n = m + 8 := ⟨n - 8, by omega⟩
      by_cases h1 : s < 1
      · simp [QP.passepartoutref04_own.f, QP.passepartoutref04_own.j0, QP.passepartoutref04_own.j1, QP.passepartoutref04_own.j2, QP.passepartoutref04_own.j3, ownN, h1]
      · have h3 : 3 < s := by omega
        simp [QP.passepartoutref04_own.f, QP.passepartoutref04_own.j0, QP.passepartoutref04_own.j1, QP.passepartoutref04_own.j2, QP.passepartoutref04_own.j3, ownN, h1, h3]
    · obtain ⟨n0, rfl⟩ : ∃ n0 : Nat, s = n0 := ⟨s.toNat, by omega⟩
      obtain ⟨K, hK⟩ := top_ev n0 (by omega)
      refine ⟨K + 8, fun n hn => ?_⟩
      obtain ⟨m, rfl⟩ : ∃ m, n = m + 8 := ⟨n - 8, by omega⟩
      have hT := hK (m + 4) (by omega)
      have h1 : ¬ ((n0 : Int) < 1) := by omega
      have h3 : ¬ (3 < (n0 : Int)) := by omega
      simp [QP.passepartoutref04_own.f, QP.passepartoutref04_own.j0, QP.passepartoutref04_own.j1, QP.passepartoutref04_own.j2, QP.passepartoutref04_own.j3, QP.passepartoutref04_own.j4, QP.passepartoutref04_own.j5, QP.passepartoutref04_own.j6, ownN, h1, h3, hT, bounds_ne]
      generalize (256 : Int) ^ n0 - 1 = M
      by_cases a1 : lo < 0
      · simp [a1]
      by_cases a2 : hi < lo
      · simp [a1, a2]
      by_cases a3 : M < hi
      · simp [a1, a2, a3]
      by_cases a4 : st < 1
      · simp [a1, a2, a3, a4]
      by_cases a5 : 65536 < st
      · simp [a1, a2, a3, a4, a5]
      by_cases a6 : l.length = 1
      · simp [a1, a2, a3, a4, a5, a6]
      · have a7 : ¬ ((l.length : Int) = 1) := by omega
        simp [a1, a2, a3, a4, a5, a6, a7]
  · refine ⟨8, fun n hn => ?_⟩
    obtain ⟨m, rfl⟩ : ∃ m, n = m + 8 := ⟨n - 8, by omega⟩
    simp [QP.passepartoutref04_own.f, QP.passepartoutref04_own.j0, QP.passepartoutref04_own.j1, QP.passepartoutref04_own.j2, QP.passepartoutref04_own.j4, QP.passepartoutref04_own.j5, QP.passepartoutref04_own.j6, ownN]
    by_cases a1 : 32 < l.length
    · have a2 : (32 : Int) < (l.length : Int) := by omega
      simp [a1, a2]
    · have a2 : ¬ ((32 : Int) < (l.length : Int)) := by omega
      simp [a1, a2]
  · refine ⟨8, fun n hn => ?_⟩
    obtain ⟨m, rfl⟩ : ∃ m, n = m + 8 := ⟨n - 8, by omega⟩
    simp [QP.passepartoutref04_own.f, QP.passepartoutref04_own.j0, QP.passepartoutref04_own.j1, QP.passepartoutref04_own.j2, QP.passepartoutref04_own.j4, QP.passepartoutref04_own.j5, QP.passepartoutref04_own.j6, ownN, boundsR]
    by_cases a1 : lo < 0
    · simp [a1]
    by_cases a2 : hi < lo
    · simp [a1, a2]
    by_cases a3 : 16777215 < hi
    · simp [a1, a2, a3]
    simp [a1, a2, a3]
  · refine ⟨8, fun n hn => ?_⟩
    obtain ⟨m, rfl⟩ : ∃ m, n = m + 8 := ⟨n - 8, by omega⟩
    simp [QP.passepartoutref04_own.f, QP.passepartoutref04_own.j0, QP.passepartoutref04_own.j1, QP.passepartoutref04_own.j2, QP.passepartoutref04_own.j4, QP.passepartoutref04_own.j5, QP.passepartoutref04_own.j6, ownN, boundsR]
    by_cases a1 : lo < 0
    · simp [a1]
    by_cases a3 : 16777215 < lo
    · simp [a1, a3]
    simp [a1, a3]

theorem least_ev (f : Fm) : wfF f = true → Ev (fun k => QP.passepartoutref04_Least.f k f.a.k f.a.s f.a.lo f.a.hi f.a.st (f.l.map ofF)) (spanR FH.lo f) := by
  induction f using RT.induct with
  | h a l ih =>
  intro hw
  obtain ⟨_, hl, hws⟩ := (wfF_mk _ _).1 hw
  rw [spanR_mk]
  simp only [RT.a, RT.l]
  apply Ev.step
  · intro k
    simp only [QP.passepartoutref04_Least.f]
    rfl
  by_cases k0 : a.k = 0
  · rw [if_pos k0]
    exact Ev.ip k0 (Ev.now _)
  rw [if_neg k0]
  refine Ev.in_ k0 ?_
  by_cases k1 : a.k = 1
  · rw [if_pos (.inl k1)]
    refine Ev.ip k1 ?_
    apply Ev.step
    · intro k
      simp only [QP.passepartoutref04_Least.j0]
      rfl
    exact Ev.ip (by simp [k1]) (Ev.now _)
  refine Ev.in_ k1 ?_
  apply Ev.step
  · intro k
    simp only [QP.passepartoutref04_Least.j0]
    rfl
  by_cases k2 : a.k = 2
  · rw [if_pos (.inr k2)]
    exact Ev.ip (by simp [k2]) (Ev.now _)
  rw [if_neg (by omega)]
  refine Ev.in_ (by simp [k2]) ?_
  by_cases k4 : a.k = 4
  · rw [if_pos k4]
    exact Ev.ip k4 (Ev.now _)
  rw [if_neg k4]
  refine Ev.in_ k4 ?_
  by_cases k5 : a.k = 5
  · rw [if_pos k5]
    exact Ev.ip k5 (Ev.now _)
  rw [if_neg k5]
  refine Ev.in_ k5 ?_
  have key : ∀ (d j : Nat) (q : Int), l.length - j = d → j ≤ l.length → Ev (fun k => QP.passepartoutref04_Least.l0 k q (j : Int) a.k a.s a.lo a.hi a.st (l.map ofF)) (spanL FH.lo q (l.drop j)) := by
    intro d
    induction d with
    | zero =>
      intro j q hd hj
      apply Ev.step
      · intro k
        simp only [QP.passepartoutref04_Least.l0]
        rfl
      refine Ev.in_ (by simp; omega) ?_
      rw [List.drop_of_length_le (by omega), spanL]
      exact Ev.now _
    | succ d ihd =>
      intro j q hd hj
      have hlt : j < l.length := by omega
      apply Ev.step
      · intro k
        simp only [QP.passepartoutref04_Least.l0, rd_ofF l j hlt, of_f0, of_f1, of_f2, of_f3, of_f4, of_f5]
        rfl
      refine Ev.ip (by simp; omega) (Ev.ip (by omega) ?_)
      refine Ev.bind (ih l[j] (List.getElem_mem hlt) (hws _ (List.getElem_mem hlt))) ?_
      rw [w64 (x := (j : Int) + 1) (by omega) (by omega), show (j : Int) + 1 = ((j + 1 : Nat) : Int) by omega]
      refine Ev.eq_ (ihd (j + 1) _ (by omega) (by omega)) ?_
      rw [List.drop_eq_getElem_cons hlt, spanL]
  have h0 := key l.length 0 0 (by omega) (by omega)
  rw [List.drop_zero] at h0
  exact h0

theorem open_ev (f : Fm) : wfF f = true → Ev (fun k => QP.passepartoutref04_Open.f k f.a.k f.a.s f.a.lo f.a.hi f.a.st (f.l.map ofF)) (openR f) := by
  induction f using RT.induct with
  | h a l ih =>
  intro hw
  obtain ⟨_, hl, hws⟩ := (wfF_mk _ _).1 hw
  rw [openR_mk]
  simp only [RT.a, RT.l]
  apply Ev.step
  · intro k
    simp only [QP.passepartoutref04_Open.f]
    rfl
  by_cases k4 : a.k = 4
  · rw [if_neg (by omega), decide_eq_true k4]
    exact Ev.ip k4 (Ev.now _)
  refine Ev.in_ k4 ?_
  by_cases k3 : a.k = 3
  · rw [if_pos k3]
    refine Ev.ip k3 ?_
    by_cases h0 : l.length = 0
    · obtain rfl : l = [] := List.eq_nil_of_length_eq_zero h0
      exact Ev.ip (by simp) (Ev.now _)
    · obtain ⟨n, hn⟩ : ∃ n, l.length = n + 1 := ⟨l.length - 1, by omega⟩
      rw [openL_last l n hn]
      refine Ev.in_ (by simp; intro h; simp [h] at h0) ?_
      rw [w64 (x := ((l.map ofF).length : Int) - 1) (by rw [List.length_map]; omega) (by rw [List.length_map]; omega), show ((l.map ofF).length : Int) - 1 = (n : Int) by rw [List.length_map]; omega]
      refine Ev.ip (by omega) (Ev.ip (by rw [List.length_map]; omega) ?_)
      simp only [rd_ofF l n (by omega), of_f0, of_f1, of_f2, of_f3, of_f4, of_f5]
      have hm : l[n]'(by omega) ∈ l := List.getElem_mem _
      exact Ev.bind (ih _ hm (hws _ hm)) (Ev.now _)
  · rw [if_neg k3, decide_eq_false k4]
    exact Ev.in_ k3 (Ev.now _)

theorem check_ev (f : Fm) : wfF f = true → Ev (fun k => QP.passepartoutref04_check.f k f.a.k f.a.s f.a.lo f.a.hi f.a.st (f.l.map ofF)) (checkR f) := by
  induction f using RT.induct with
  | h a l ih =>
  intro hw
  obtain ⟨_, hl, hws⟩ := (wfF_mk _ _).1 hw
  rw [checkR_parts]
  simp only [RT.a, RT.l]
  apply Ev.step
  · intro k
    simp only [QP.passepartoutref04_check.f]
    rfl
  have how := own_ev a.k a.s a.lo a.hi a.st (l.map ofF)
  rw [List.length_map] at how
  refine Ev.bind how ?_
  show Ev _ (if ownN a.k a.s a.lo a.hi a.st l.length ≠ 0 then ownN a.k a.s a.lo a.hi a.st l.length else restR a.k (partsF (.mk a l)))
  by_cases h0 : ownN a.k a.s a.lo a.hi a.st l.length = 0
  rotate_left
  · rw [if_pos h0]
    exact Ev.in_ h0 (Ev.now _)
  rw [if_neg (by omega)]
  refine Ev.ip h0 (Ev.cb (rparts_f a l) ?_)
  have hpl := partsF_len a l
  have hmem : ∀ x ∈ partsF (.mk a l), x ∈ l := fun x hx => partsF_mem hx
  have hone : a.k = 2 → (partsF (.mk a l)).length = 1 := by
    intro k2
    show (if a.k = 2 ∨ a.k = 3 then l else []).length = 1
    rw [if_pos (.inl k2)]
    by_cases h1 : l.length = 1
    · exact h1
    · exfalso
      rw [ownN, if_neg (by omega), if_pos (.inl k2)] at h0
      split at h0
      · omega
      · split at h0
        · omega
        · rw [if_pos ⟨k2, h1⟩] at h0
          omega
  generalize partsF (.mk a l) = P at hpl hmem hone
  have hP : ∀ j (h : j < P.length), wfF P[j] = true := fun j h => hws _ (hmem _ (List.getElem_mem h))
  -- the second loop
  let opn : Nat → List Fm → Bool := fun j t => (t.zipIdx j).any (fun x => openR x.1 && (decide (a.k = 2) || decide (x.2 + 1 < P.length)))
  have hopn : ∀ j (h : j < P.length), opn j (P.drop j) = ((openR P[j] && (decide (a.k = 2) || decide (j + 1 < P.length))) || opn (j + 1) (P.drop (j + 1))) := by
    intro j h
    simp only [opn]
    rw [List.drop_eq_getElem_cons h, List.zipIdx_cons, List.any_cons]
  have key2 : ∀ (d j : Nat), P.length - j = d → j ≤ P.length → Ev (fun k => QP.passepartoutref04_check.l1 k (P.map ofF) (j : Int) a.k a.s a.lo a.hi a.st (l.map ofF)) (if opn j (P.drop j) then 15 else if a.k = 2 ∧ ∃ h : 0 < P.length, leastR (P[0]'h) = 0 then 15 else 0) := by
    intro d
    induction d with
    | zero =>
      intro j hd hj
      apply Ev.step
      · intro k
        simp only [QP.passepartoutref04_check.l1]
        rfl
      refine Ev.in_ (by simp; omega) ?_
      rw [List.drop_of_length_le (by omega), if_neg (by simp [opn])]
      by_cases k2 : a.k = 2
      · have h1 := hone k2
        have hlt : 0 < P.length := by omega
        refine Ev.ip k2 (Ev.ip (by simp; omega) ?_)
        have hrd := rd_ofF P 0 hlt
        simp only [Int.natCast_zero] at hrd
        simp only [hrd, of_f0, of_f1, of_f2, of_f3, of_f4, of_f5]
        refine Ev.bind (least_ev P[0] (hP 0 hlt)) ?_
        show Ev _ _
        by_cases hz : spanR FH.lo P[0] = 0
        · exact Ev.eq_ (Ev.ip hz (Ev.now _)) (if_pos ⟨k2, hlt, hz⟩).symm
        · exact Ev.eq_ (Ev.in_ hz (Ev.now _)) (if_neg (by rintro ⟨_, _, h⟩; exact hz h)).symm
      · rw [if_neg (by rintro ⟨h, _⟩; exact k2 h)]
        exact Ev.in_ k2 (Ev.now _)
    | succ d ihd =>
      intro j hd hj
      have hlt : j < P.length := by omega
      apply Ev.step
      · intro k
        simp only [QP.passepartoutref04_check.l1, rd_ofF P j hlt, of_f0, of_f1, of_f2, of_f3, of_f4, of_f5]
        rfl
      refine Ev.ip (by simp; omega) (Ev.ip (by omega) ?_)
      refine Ev.bind (open_ev P[j] (hP j hlt)) ?_
      rw [hopn j hlt, w64 (x := (j : Int) + 1) (by omega) (by omega), show (j : Int) + 1 = ((j + 1 : Nat) : Int) by omega]
      have hn := ihd (j + 1) (by omega) (by omega)
      cases ho : openR P[j]
      · refine Ev.in_ (by simp) ?_
        simpa using hn
      · refine Ev.ip rfl ?_
        by_cases k2 : a.k = 2
        · rw [if_pos (by simp [k2])]
          exact Ev.ip k2 (Ev.now _)
        · refine Ev.in_ k2 ?_
          by_cases hj1 : j + 1 < P.length
          · rw [if_pos (by simp [hj1])]
            exact Ev.ip (by simp; omega) (Ev.now _)
          · refine Ev.in_ (by simp; omega) ?_
            simpa [k2, hj1] using hn
  have hbad : (if opn 0 P then (15 : Int) else if a.k = 2 ∧ ∃ h : 0 < P.length, leastR (P[0]'h) = 0 then 15 else 0) = if badF a.k P.length 0 P then 15 else 0 := by
    have hb : ∀ (t : List Fm) (j : Nat), badF a.k P.length j t = ((t.zipIdx j).any (fun x => openR x.1 && (decide (a.k = 2) || decide (x.2 + 1 < P.length))) || (decide (a.k = 2) && t.any (fun x => decide (leastR x = 0)))) := by
      intro t
      induction t with
      | nil => intro j; simp [badF]
      | cons f t ih2 =>
        intro j
        rw [badF, ih2, badI, List.zipIdx_cons, List.any_cons, List.any_cons]
        cases openR f <;> cases decide (a.k = 2) <;> cases decide (j + 1 < P.length) <;> cases decide (leastR f = 0) <;> simp
    rw [hb P 0]
    show (if opn 0 P then (15 : Int) else _) = if (opn 0 P || _) = true then 15 else 0
    cases opn 0 P
    · by_cases k2 : a.k = 2
      · have h1 := hone k2
        obtain ⟨x, rfl⟩ : ∃ x, P = [x] := List.length_eq_one_iff.1 h1
        simp [k2]
      · simp [k2]
    · simp
  have key : ∀ (d j : Nat), P.length - j = d → j ≤ P.length → Ev (fun k => QP.passepartoutref04_check.l0 k (P.map ofF) (j : Int) a.k a.s a.lo a.hi a.st (l.map ofF)) (if checkL (P.drop j) ≠ 0 then checkL (P.drop j) else if badF a.k P.length 0 P then 15 else 0) := by
    intro d
    induction d with
    | zero =>
      intro j hd hj
      apply Ev.step
      · intro k
        simp only [QP.passepartoutref04_check.l0]
        rfl
      refine Ev.in_ (by simp; omega) ?_
      rw [List.drop_of_length_le (by omega), checkL, if_neg (by omega)]
      have h2 := key2 P.length 0 (by omega) (by omega)
      rw [List.drop_zero, hbad] at h2
      exact h2
    | succ d ihd =>
      intro j hd hj
      have hlt : j < P.length := by omega
      apply Ev.step
      · intro k
        simp only [QP.passepartoutref04_check.l0, rd_ofF P j hlt, of_f0, of_f1, of_f2, of_f3, of_f4, of_f5]
        rfl
      refine Ev.ip (by simp; omega) (Ev.ip (by omega) ?_)
      refine Ev.bind (ih P[j] (hmem _ (List.getElem_mem hlt)) (hP j hlt)) ?_
      rw [w64 (x := (j : Int) + 1) (by omega) (by omega), show (j : Int) + 1 = ((j + 1 : Nat) : Int) by omega, checkL_drop hlt]
      by_cases hc : checkR P[j] = 0
      · refine Ev.ip hc ?_
        rw [if_neg (show ¬ checkR P[j] ≠ 0 by omega)]
        exact ihd (j + 1) (by omega) (by omega)
      · refine Ev.in_ hc ?_
        rw [if_pos hc, if_pos hc]
        exact Ev.now _
  have h0 := key P.length 0 (by omega) (by omega)
  rw [List.drop_zero] at h0
  exact h0

/-- The document's word on a form. -/
theorem Check_ev (f : Fm) (hw : wfF f = true) : Ev (fun k => QP.passepartoutref04_Check.f k f.a.k f.a.s f.a.lo f.a.hi f.a.st (f.l.map ofF)) (if deepB 8 f then 14 else checkR f) := by
  have hd := dep_ev f 9 (by omega) hw
  rw [dep_deep f 8 9 (by omega)]
  simp only [QP.passepartoutref04_Check.f]
  refine Ev.bind hd ?_
  by_cases h : 8 < depR 9 f
  · rw [if_pos (by simpa using h)]
    exact Ev.ip (by omega) (Ev.now _)
  · rw [if_neg (by simpa using h)]
    exact Ev.in_ (by omega) (Ev.bind (check_ev f hw) (Ev.now _))
end Go.Proofs.Ytfcghajnnllmhaa
