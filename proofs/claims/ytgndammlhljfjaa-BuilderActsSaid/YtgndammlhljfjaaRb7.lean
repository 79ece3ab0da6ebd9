/-
  The document's builder beside the program's: an act leaves both alike.
-/
import Derived.Test.YtgndammlhljfjaaRb6
namespace Go.Proofs.Ytgndammlhljfjaa
open Go.RowKit

/-! ### Plain: open parts as frames. -/
def partsF (fr : List (List UInt8 × Nat)) (L : List UInt8) : List (List UInt8) := fr.map (·.1) ++ [L]
def sizesF (fr : List (List UInt8 × Nat)) : List Nat := fr.map (·.2)
def preG (st : List UInt8 × List (Nat × Nat)) (p : List UInt8 × Nat) : List UInt8 × List (Nat × Nat) :=
  (st.1 ++ p.1 ++ List.replicate p.2 0, st.2 ++ [((st.1 ++ p.1).length + p.2, p.2)])
def preR (fr : List (List UInt8 × Nat)) : List UInt8 × List (Nat × Nat) := fr.foldl preG ([], [])
theorem preR_snoc (fr : List (List UInt8 × Nat)) (p : List UInt8 × Nat) : preR (fr ++ [p]) = preG (preR fr) p := by simp [preR]
def bsF (fr : List (List UInt8 × Nat)) (L : List UInt8) : List UInt8 := (preR fr).1 ++ L
def psF (fr : List (List UInt8 × Nat)) : List (Nat × Nat) := (preR fr).2
def FrOk (fr : List (List UInt8 × Nat)) : Prop := ∀ p ∈ fr, 1 ≤ p.2 ∧ p.2 ≤ 3
theorem psF_len (fr : List (List UInt8 × Nat)) : (psF fr).length = fr.length := by
  obtain ⟨m, rfl⟩ : ∃ m : List (List UInt8 × Nat), fr = m.reverse := ⟨fr.reverse, by simp⟩
  induction m with
  | nil => rfl
  | cons a m ih =>
    rw [List.reverse_cons, psF, preR_snoc, preG, List.length_append, ← psF, ih]
    simp
theorem preR_len (fr : List (List UInt8 × Nat)) : (preR fr).1.length = sumP (fr.map (·.1)) + (sizesF fr).sum := by
  obtain ⟨m, rfl⟩ : ∃ m : List (List UInt8 × Nat), fr = m.reverse := ⟨fr.reverse, by simp⟩
  induction m with
  | nil => rfl
  | cons a m ih =>
    rw [List.reverse_cons, preR_snoc, preG]
    simp only [List.length_append, List.length_replicate, ih, sumP, sizesF, List.map_append, List.map_cons, List.map_nil, List.sum_append, List.sum_cons, List.sum_nil]
    omega
theorem lenF (fr : List (List UInt8 × Nat)) (L : List UInt8) : sumP (partsF fr L) + (sizesF fr).sum = (bsF fr L).length := by
  rw [bsF, List.length_append, preR_len, partsF, sumP, sumP, List.map_append, List.sum_append]
  simp
  omega
theorem ps_ok {fr : List (List UInt8 × Nat)} (h : FrOk fr) (L : List UInt8) : PsOk (bsF fr L) (psF fr) := by
  suffices h2 : ∀ p ∈ psF fr, 1 ≤ p.2 ∧ p.2 ≤ 3 ∧ p.2 ≤ p.1 ∧ p.1 ≤ (preR fr).1.length by
    intro p hp
    have := h2 p hp
    rw [bsF, List.length_append]
    omega
  obtain ⟨m, rfl⟩ : ∃ m : List (List UInt8 × Nat), fr = m.reverse := ⟨fr.reverse, by simp⟩
  induction m with
  | nil => intro p hp; simp [psF, preR] at hp
  | cons a m ih =>
    rw [List.reverse_cons] at h ⊢
    have ih' := ih (fun p hp => h p (List.mem_append_left _ hp))
    have ha := h a (List.mem_append_right _ (by simp))
    rw [psF, preR_snoc, preG]
    intro p hp
    simp only [List.length_append, List.length_replicate]
    rcases List.mem_append.1 hp with hp | hp
    · have := ih' p hp
      omega
    · obtain rfl := List.mem_singleton.1 hp
      simp only [List.length_append]
      omega

def addF (most : Nat) (fr : List (List UInt8 × Nat)) (L x : List UInt8) : List (List UInt8 × Nat) × List UInt8 × Int :=
  if most < (bsF fr L).length + x.length then (fr, L, 5) else (fr, L ++ x, 0)
def stepF (most : Nat) (fr : List (List UInt8 × Nat)) (L : List UInt8) (a : AV) : List (List UInt8 × Nat) × List UInt8 × Int :=
  if a.k = 0 then
    if szB a.s = false then (fr, L, 2) else if 256 ^ a.s.toNat ≤ a.x then (fr, L, 3) else addF most fr L (beB a.s.toNat a.x)
  else if a.k = 1 then addF most fr L a.b
  else if a.k = 2 then
    if a.s < 1 ∨ 3 < a.s then (fr, L, 2) else if most < (bsF fr L).length + a.s.toNat then (fr, L, 5) else (fr ++ [(L, a.s.toNat)], [], 0)
  else if a.k = 3 then
    match fr.getLast? with
    | none => (fr, L, 17)
    | some (P, s) => if 256 ^ s ≤ L.length then (fr, L, 5) else (fr.dropLast, P ++ (beB s L.length ++ L), 0)
  else if a.k = 4 then addF most fr L (fiveL a.n)
  else (fr, L, 0)

theorem addF_rel (most : Nat) (fr : List (List UInt8 × Nat)) (L x : List UInt8) : addB most (bsF fr L) (psF fr) x = (bsF (addF most fr L x).1 (addF most fr L x).2.1, psF (addF most fr L x).1, (addF most fr L x).2.2) := by
  unfold addB addF
  by_cases h : most < (bsF fr L).length + x.length
  · rw [if_pos h, if_pos h]
  · rw [if_neg h, if_neg h]
    simp [bsF]

theorem stepF_rel (most : Nat) (fr : List (List UInt8 × Nat)) (L : List UInt8) (a : AV) :
    stepB most (bsF fr L) (psF fr) a = (bsF (stepF most fr L a).1 (stepF most fr L a).2.1, psF (stepF most fr L a).1, (stepF most fr L a).2.2) := by
  unfold stepB stepF
  by_cases h0 : a.k = 0
  · rw [if_pos h0, if_pos h0]
    by_cases hs : szB a.s = false
    · rw [if_pos hs, if_pos hs]
    · rw [if_neg hs, if_neg hs]
      by_cases h1 : 256 ^ a.s.toNat ≤ a.x
      · rw [if_pos h1, if_pos h1]
      · rw [if_neg h1, if_neg h1, ← addF_rel, addB, beB_length]
  rw [if_neg h0, if_neg h0]
  by_cases h1 : a.k = 1
  · rw [if_pos h1, if_pos h1, addF_rel]
  rw [if_neg h1, if_neg h1]
  by_cases h2 : a.k = 2
  · rw [if_pos h2, if_pos h2]
    by_cases hs : a.s < 1 ∨ 3 < a.s
    · rw [if_pos hs, if_pos hs]
    · rw [if_neg hs, if_neg hs]
      by_cases hm : most < (bsF fr L).length + a.s.toNat
      · rw [if_pos hm, if_pos hm]
      · rw [if_neg hm, if_neg hm]
        simp only [bsF, psF, preR_snoc, preG, List.append_nil]
  rw [if_neg h2, if_neg h2]
  by_cases h3 : a.k = 3
  · rw [if_pos h3, if_pos h3]
    rcases List.eq_nil_or_concat fr with rfl | ⟨f0, ⟨P, s⟩, rfl⟩
    · rfl
    · rw [List.concat_eq_append]
      have e1 : psF (f0 ++ [(P, s)]) = psF f0 ++ [(((preR f0).1 ++ P).length + s, s)] := by rw [psF, preR_snoc, preG, psF]
      have e2 : bsF (f0 ++ [(P, s)]) L = (preR f0).1 ++ P ++ List.replicate s 0 ++ L := by rw [bsF, preR_snoc, preG]
      rw [e1]
      simp only [List.getLast?_concat, List.dropLast_concat]
      have hlen : (bsF (f0 ++ [(P, s)]) L).length - (((preR f0).1 ++ P).length + s) = L.length := by
        rw [e2]; simp only [List.length_append, List.length_replicate]; omega
      rw [hlen]
      by_cases hb : 256 ^ s ≤ L.length
      · rw [if_pos hb, if_pos hb]
        simp only [e1]
      · rw [if_neg hb, if_neg hb]
        have h2 : ((preR f0).1 ++ P).length + s = ((preR f0).1 ++ P ++ List.replicate s 0).length := by simp; omega
        have e3 : (bsF (f0 ++ [(P, s)]) L).take (((preR f0).1 ++ P).length + s - s) = (preR f0).1 ++ P := by
          rw [e2, Nat.add_sub_cancel, List.append_assoc ((preR f0).1 ++ P), List.take_left]
        have e4 : (bsF (f0 ++ [(P, s)]) L).drop (((preR f0).1 ++ P).length + s) = L := by
          rw [e2, h2, List.drop_left]
        rw [e3, e4]
        simp [bsF]
  rw [if_neg h3, if_neg h3]
  by_cases h4 : a.k = 4
  · rw [if_pos h4, if_pos h4, addF_rel]
  · rw [if_neg h4, if_neg h4]

theorem addF_ok {most : Nat} {fr : List (List UInt8 × Nat)} {L x : List UInt8} (h : FrOk fr) : FrOk (addF most fr L x).1 ∧ (addF most fr L x).1.length ≤ fr.length + 1 := by
  unfold addF
  split
  · exact ⟨h, by simp⟩
  · exact ⟨h, by simp⟩
theorem stepF_ok {most : Nat} {fr : List (List UInt8 × Nat)} {L : List UInt8} {a : AV} (h : FrOk fr) : FrOk (stepF most fr L a).1 ∧ (stepF most fr L a).1.length ≤ fr.length + 1 := by
  unfold stepF
  repeat' split
  all_goals first | exact addF_ok h | exact ⟨h, by simp⟩ | skip
  · refine ⟨fun p hp => ?_, by simp⟩
    rcases List.mem_append.1 hp with hp | hp
    · exact h p hp
    · obtain rfl := List.mem_singleton.1 hp
      simp only
      omega
  · exact ⟨fun p hp => h p (List.dropLast_subset _ hp), by simp; omega⟩

/-! ### The calls. -/
section
variable {ok okx : Nat → Prop} {h most : Nat} {fr : List (List UInt8 × Nat)} {L : List UInt8} {w : World}

theorem rbb_add (x : List UInt8) (vx : Value) (hb : RB w ok h most (partsF fr L) (sizesF fr)) (hx : BR w okx vx x) (hm : most ≤ 1073741824) (hT : (bsF fr L).length ≤ most) (hfr : fr.length ≤ 1000) :
    Calls Try.prog 46 #[.pointer (some ⟨h, 0, none⟩), vx] w (RBStep ok h most (partsF (addF most fr L x).1 (addF most fr L x).2.1) (sizesF (addF most fr L x).1) (addF most fr L x).2.2 w) := by
  have hl := lenF fr L
  have h1 : (partsF fr L).length = fr.length + 1 := by simp [partsF]
  have h2 : (sizesF fr).length = fr.length := by simp [sizesF]
  rw [addF]
  by_cases hm2 : most < (bsF fr L).length + x.length
  · rw [if_pos hm2]
    exact (rbb_full ok okx h most _ x _ vx w hb hx hm (by omega) (by omega) (by omega) (by omega)).mono fun e w' ⟨he, hw⟩ => by
      subst he hw
      exact hb.step (Kp.refl _ _)
  · rw [if_neg hm2]
    exact rbb_ok ok okx h most (fr.map (fun p : List UInt8 × Nat => p.1)) L x (sizesF fr) vx w hb hx hm (by rw [← partsF]; omega) (by simp; omega) (by omega)

theorem rbn_add (n : Int) (x : Nat) (v : Value) (b : List UInt8) (m : Int) (hx : x < 18446744073709551616) (hb : RB w ok h most (partsF fr L) (sizesF fr)) (hm : most ≤ 1073741824) (hT : (bsF fr L).length ≤ most) (hfr : fr.length ≤ 1000) {st : List (List UInt8 × Nat) × List UInt8 × Int} (hst : stepF most fr L ⟨0, n, m, x, v, b⟩ = st) :
    Calls Try.prog 45 #[.pointer (some ⟨h, 0, none⟩), .int .i64 n, .int .u64 x] w (RBStep ok h most (partsF st.1 st.2.1) (sizesF st.1) st.2.2 w) := by
  subst hst
  rw [stepF, if_pos rfl]
  by_cases hs : szB n = false
  · simp only [hs]
    exact (rbnumber_size h n x w hs).mono fun e w' ⟨he, hw⟩ => by
      subst he hw
      exact hb.step (Kp.refl _ _)
  · rw [if_neg hs]
    have hs' : szB n = true := by simpa using hs
    have hn := szB_true hs'
    obtain ⟨N, rfl⟩ := Int.eq_ofNat_of_zero_le (show 0 ≤ n by omega)
    simp only [Int.toNat_natCast]
    by_cases h1 : 256 ^ N ≤ x
    · rw [if_pos h1]
      exact (rbnumber_range h N x hx w hs' h1).mono fun e w' ⟨he, hw⟩ => by
        subst he
        exact hb.step hw
    · rw [if_neg h1]
      exact rbnumber_fit h N x hx w hs' (by omega) ok most _ _ _ (fun w1 A c hk hbr => rbb_add (beB N x) _ (hb.kp hk (fun _ _ h => h)) hbr hm hT hfr)

theorem rbo_add (n : Int) (x : Nat) (v : Value) (b : List UInt8) (m : Int) (hb : RB w ok h most (partsF fr L) (sizesF fr)) (hm : most ≤ 1073741824) (hT : (bsF fr L).length ≤ most) (hfr : fr.length ≤ 1000) {st : List (List UInt8 × Nat) × List UInt8 × Int} (hst : stepF most fr L ⟨2, n, m, x, v, b⟩ = st) :
    Calls Try.prog 47 #[.pointer (some ⟨h, 0, none⟩), .int .i64 n] w (RBStep ok h most (partsF st.1 st.2.1) (sizesF st.1) st.2.2 w) := by
  subst hst
  have hl := lenF fr L
  have h1 : (partsF fr L).length = fr.length + 1 := by simp [partsF]
  have h2 : (sizesF fr).length = fr.length := by simp [sizesF]
  rw [stepF, if_neg (by simp), if_neg (by simp), if_pos rfl]
  by_cases hs : n < 1 ∨ 3 < n
  · simp only [hs, if_true]
    exact (rbopen_size h n w hs).mono fun e w' ⟨he, hw⟩ => by
      subst he hw
      exact hb.step (Kp.refl _ _)
  · rw [if_neg hs]
    obtain ⟨N, rfl⟩ := Int.eq_ofNat_of_zero_le (show 0 ≤ n by omega)
    simp only [Int.toNat_natCast]
    by_cases h3 : most < (bsF fr L).length + N
    · rw [if_pos h3]
      exact (rbopen_full ok h most _ _ N (by omega) (by omega) w hb hm (by omega) (by omega) (by omega) (by omega)).mono fun e w' ⟨he, hw⟩ => by
        subst he hw
        exact hb.step (Kp.refl _ _)
    · rw [if_neg h3]
      have := rbopen_ok ok h most _ _ N (by omega) (by omega) w hb hm (by omega) (by omega) (by omega)
      have e1 : partsF fr L ++ [[]] = partsF (fr ++ [(L, N)]) [] := by simp [partsF]
      have e2 : sizesF fr ++ [N] = sizesF (fr ++ [(L, N)]) := by simp [sizesF]
      rw [e1, e2] at this
      exact this

theorem rbc_add (n : Int) (x : Nat) (v : Value) (b : List UInt8) (m : Int) (hb : RB w ok h most (partsF fr L) (sizesF fr)) (hfo : FrOk fr) (hm : most ≤ 1073741824) (hT : (bsF fr L).length ≤ most) (hfr : fr.length ≤ 1000) {st : List (List UInt8 × Nat) × List UInt8 × Int} (hst : stepF most fr L ⟨3, n, m, x, v, b⟩ = st) :
    Calls Try.prog 48 #[.pointer (some ⟨h, 0, none⟩)] w (RBStep ok h most (partsF st.1 st.2.1) (sizesF st.1) st.2.2 w) := by
  subst hst
  rw [stepF, if_neg (by simp), if_neg (by simp), if_neg (by simp), if_pos rfl]
  rcases List.eq_nil_or_concat fr with rfl | ⟨f0, ⟨P, s⟩, rfl⟩
  · simp only [List.getLast?_nil]
    exact (rbclose_none ok h most _ w hb).mono fun e w' ⟨he, hw⟩ => by
      subst he hw
      exact hb.step (Kp.refl _ _)
  · rw [List.concat_eq_append] at hb hT hfr hfo ⊢
    simp only [List.getLast?_concat, List.dropLast_concat]
    have hs3 := hfo (P, s) (by simp)
    simp only at hs3
    have hb' : RB w ok h most (f0.map (·.1) ++ [P, L]) (sizesF f0 ++ [s]) := by
      have e1 : partsF (f0 ++ [(P, s)]) L = f0.map (·.1) ++ [P, L] := by simp [partsF]
      have e2 : sizesF (f0 ++ [(P, s)]) = sizesF f0 ++ [s] := by simp [sizesF]
      rwa [e1, e2] at hb
    have hlen : (bsF (f0 ++ [(P, s)]) L).length = (preR f0).1.length + P.length + s + L.length := by
      rw [bsF, preR_snoc, preG]
      simp
      omega
    simp at hfr
    have hq : (f0.map (·.1)).length = (sizesF f0).length := by simp [sizesF]
    have hsl : (sizesF f0).length ≤ 1073741824 := by simp [sizesF]; omega
    by_cases hbig : 256 ^ s ≤ L.length
    · rw [if_pos hbig]
      exact (rbclose_long ok h most _ P L _ s hq (by omega) w hb' hbig (by omega) hsl).mono fun e w' ⟨he, hw⟩ => by
        subst he
        exact hb.step hw
    · rw [if_neg hbig]
      exact rbclose_ok ok h most _ P L _ s hq (by omega) w hb' (by omega) (by omega) (by omega) hsl
end
end Go.Proofs.Ytgndammlhljfjaa
