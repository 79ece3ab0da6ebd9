/-
  Texts for the law WriteOne: part 3.
-/
import Derived.StillTailTactics
import Derived.Deep.CutRange
import Derived.Test.YtdhnfccgojgehaaDoorMWriteOne1
import Derived.Test.YtdhnfccgojgehaaDoorMWriteOne2

set_option linter.unusedVariables false
set_option linter.unusedSimpArgs false
namespace Go.Proofs.YtdhnfccgojgehaaDoor
open Go.RowKit

/-- What a reading tells: where it is wrong (so many bytes on), why; or the value, and the bytes that are left; its steps. -/
inductive RdT where
 | bad (at_ : Int) (e : Int) (q : Nat)
 | got (x : Vt) (rest : List UInt8) (q : Nat)
def RdT.steps : RdT → Nat
 | .bad _ _ q => q
 | .got _ _ q => q
/-- A length: where it is wrong, why; how many. -/
def lenE (h : FH) (b : List UInt8) : Int × Int × Nat :=
 if (b.length : Int) < h.s then (b.length, 4, 0)
 else if (be (b.take h.s.toNat) : Int) < h.lo ∨ h.hi < (be (b.take h.s.toNat) : Int) ∨ Int.tmod (be (b.take h.s.toNat) : Int) h.st ≠ 0 then (0, 5, 0)
 else if b.length < h.s.toNat + be (b.take h.s.toNat) then (b.length, 4, 0)
 else (0, 0, be (b.take h.s.toNat))
/-- Things, as long as there are bytes. -/
def iterR (f : List UInt8 → RdT) : Nat → List UInt8 → Nat → Nat → List Vt → RdT
 | 0, b, _, q, acc => .got (.mk ⟨0, []⟩ acc) b q
 | n + 1, b, d, q, acc =>
  if b.length = 0 then .got (.mk ⟨0, []⟩ acc) b q
  else match f b with
   | .bad a e s => .bad (d + a) e (q + s)
   | .got x r s => iterR f n r (d + (b.length - r.length)) (q + s) (acc ++ [x])
mutual
/-- Reads one. -/
def readR : Fm → List UInt8 → RdT
 | .mk h P, b =>
  if h.k = 0 then (if (b.length : Int) < h.s then .bad b.length 4 1 else .got (.mk ⟨(be (b.take h.s.toNat) : Nat), []⟩ []) (b.drop h.s.toNat) 1)
  else if h.k = 1 then (if (lenE h b).2.1 ≠ 0 then .bad (lenE h b).1 (lenE h b).2.1 1 else .got (.mk ⟨0, (b.drop h.s.toNat).take (lenE h b).2.2⟩ []) (b.drop (h.s.toNat + (lenE h b).2.2)) 1)
  else if h.k = 4 then (if (b.length : Int) < h.lo then .bad b.length 4 1 else if h.hi < (b.length : Int) then .bad h.hi 6 1 else .got (.mk ⟨0, b⟩ []) [] 1)
  else if h.k = 5 then (if (b.length : Int) < h.lo then .bad b.length 4 1 else .got (.mk ⟨0, b.take h.lo.toNat⟩ []) (b.drop h.lo.toNat) 1)
  else if h.k = 3 then readRow P b 0 1 []
  else if (lenE h b).2.1 ≠ 0 then .bad (lenE h b).1 (lenE h b).2.1 1
  else match iterR (readHd P) (lenE h b).2.2 ((b.drop h.s.toNat).take (lenE h b).2.2) h.s.toNat 1 [] with
   | .bad a e q => .bad a e q
   | .got x _ q => .got x (b.drop (h.s.toNat + (lenE h b).2.2)) q
def readRow : List Fm → List UInt8 → Nat → Nat → List Vt → RdT
 | [], b, _, q, acc => .got (.mk ⟨0, []⟩ acc) b q
 | g :: P, b, d, q, acc => match readR g b with
  | .bad a e s => .bad (d + a) e (q + s)
  | .got x r s => readRow P r (d + (b.length - r.length)) (q + s) (acc ++ [x])
def readHd : List Fm → List UInt8 → RdT
 | [], _ => .bad 0 0 0
 | g :: _, b => readR g b
end
theorem readR_mk (h : FH) (P : List Fm) (b : List UInt8) : readR (.mk h P) b =
  if h.k = 0 then (if (b.length : Int) < h.s then .bad b.length 4 1 else .got (.mk ⟨(be (b.take h.s.toNat) : Nat), []⟩ []) (b.drop h.s.toNat) 1)
  else if h.k = 1 then (if (lenE h b).2.1 ≠ 0 then .bad (lenE h b).1 (lenE h b).2.1 1 else .got (.mk ⟨0, (b.drop h.s.toNat).take (lenE h b).2.2⟩ []) (b.drop (h.s.toNat + (lenE h b).2.2)) 1)
  else if h.k = 4 then (if (b.length : Int) < h.lo then .bad b.length 4 1 else if h.hi < (b.length : Int) then .bad h.hi 6 1 else .got (.mk ⟨0, b⟩ []) [] 1)
  else if h.k = 5 then (if (b.length : Int) < h.lo then .bad b.length 4 1 else .got (.mk ⟨0, b.take h.lo.toNat⟩ []) (b.drop h.lo.toNat) 1)
  else if h.k = 3 then readRow P b 0 1 []
  else if (lenE h b).2.1 ≠ 0 then .bad (lenE h b).1 (lenE h b).2.1 1
  else match iterR (readHd P) (lenE h b).2.2 ((b.drop h.s.toNat).take (lenE h b).2.2) h.s.toNat 1 [] with
   | .bad a e q => .bad a e q
   | .got x _ q => .got x (b.drop (h.s.toNat + (lenE h b).2.2)) q := by rw [readR]
theorem readRow_drop {P : List Fm} {i : Nat} (hi : i < P.length) (b : List UInt8) (d q : Nat) (acc : List Vt) : readRow (P.drop i) b d q acc = match readR P[i] b with
  | .bad a e s => .bad (d + a) e (q + s)
  | .got x r s => readRow (P.drop (i + 1)) r (d + (b.length - r.length)) (q + s) (acc ++ [x]) := by
 rw [List.drop_eq_getElem_cons hi, readRow]
theorem readRow_end {P : List Fm} {i : Nat} (hi : P.length ≤ i) (b : List UInt8) (d q : Nat) (acc : List Vt) : readRow (P.drop i) b d q acc = .got (.mk ⟨0, []⟩ acc) b q := by
 rw [List.drop_of_length_le hi, readRow]
theorem readHd_one (g : Fm) (t : List Fm) : readHd (g :: t) = readR g := by
 funext b
 rw [readHd]
mutual
/-- The bytes of a value. -/
def writeR : Fm → Vt → List UInt8
 | f, .mk a l =>
  if f.a.k = 0 then beB f.a.s.toNat a.n.toNat
  else if f.a.k = 1 then beB f.a.s.toNat a.b.length ++ a.b
  else if f.a.k = 4 ∨ f.a.k = 5 then a.b
  else if f.a.k = 2 then beB f.a.s.toNat (writeL f 0 l).length ++ writeL f 0 l
  else writeL f 0 l
def writeL : Fm → Nat → List Vt → List UInt8
 | _, _, [] => []
 | f, j, x :: t => writeR (f.l.getD (j % f.l.length) nilF) x ++ writeL f (j + 1) t
end
theorem writeR_mk (h : FH) (P : List Fm) (a : VH) (l : List Vt) : writeR (.mk h P) (.mk a l) =
  if h.k = 0 then beB h.s.toNat a.n.toNat
  else if h.k = 1 then beB h.s.toNat a.b.length ++ a.b
  else if h.k = 4 ∨ h.k = 5 then a.b
  else if h.k = 2 then beB h.s.toNat (writeL (.mk h P) 0 l).length ++ writeL (.mk h P) 0 l
  else writeL (.mk h P) 0 l := by rw [writeR]; rfl
theorem lenE_ok {h : FH} {b : List UInt8} (h1 : (lenE h b).2.1 = 0) : h.s ≤ b.length ∧ h.lo ≤ ((lenE h b).2.2 : Int) ∧ ((lenE h b).2.2 : Int) ≤ h.hi ∧ Int.tmod ((lenE h b).2.2 : Int) h.st = 0 ∧ h.s.toNat + (lenE h b).2.2 ≤ b.length ∧ (lenE h b).2.2 = be (b.take h.s.toNat) ∧ (lenE h b).1 = 0 := by
 unfold lenE at h1 ⊢
 split at h1
 ·simp at h1
 ·rename_i g1
  split at h1
  ·simp at h1
  ·rename_i g2
   split at h1
   ·simp at h1
   ·rename_i g3
    rw [if_neg g1, if_neg g2, if_neg g3]
    simp only [not_or, Decidable.not_not] at g2
    exact ⟨by omega, by simp only; omega, by simp only; omega, g2.2.2, by simp only; omega, rfl, rfl⟩
theorem lenE_bad (h : FH) (b : List UInt8) : 0 ≤ (lenE h b).1 ∧ (lenE h b).1 ≤ b.length := by
 unfold lenE
 split
 ·exact ⟨by simp only; omega, by simp only; omega⟩
 ·split
  ·exact ⟨by simp only; omega, by simp only; omega⟩
  ·split
   ·exact ⟨by simp only; omega, by simp only; omega⟩
   ·exact ⟨by simp only; omega, by simp only; omega⟩
end Go.Proofs.YtdhnfccgojgehaaDoor

namespace Go.Proofs.YtdhnfccgojgehaaDoor
open Go.RowKit

mutual
/-- How many forms there are in one. -/
def szF : Fm → Nat
 | .mk a l => if a.k = 2 ∨ a.k = 3 then 1 + szL l else 1
def szL : List Fm → Nat
 | [] => 0
 | f :: t => szF f + szL t
end
theorem szF_mk (a : FH) (l : List Fm) : szF (.mk a l) = if a.k = 2 ∨ a.k = 3 then 1 + szL l else 1 := by rw [szF]
theorem szF_pos (f : Fm) : 1 ≤ szF f := by
 cases f
 rw [szF_mk]
 split <;> omega
theorem szL_mem {l : List Fm} {f : Fm} (h : f ∈ l) : szF f ≤ szL l := by
 induction l with
 | nil => simp at h
 | cons g t ih =>
  rw [szL]
  rcases List.mem_cons.1 h with rfl | h
  ·omega
  ·have := ih h
   omega
theorem szL_drop {l : List Fm} {i : Nat} (hi : i < l.length) : szL (l.drop i) = szF l[i] + szL (l.drop (i + 1)) := by
 rw [List.drop_eq_getElem_cons hi, szL]
theorem cnt_sz (f : Fm) : ∀ m, (cntR m f ≤ m → cntR m f = szF f) ∧ (szF f ≤ m → cntR m f = szF f) := by
 induction f using RT.induct with
 | h a l ih =>
 intro m
 rw [cntR, szF_mk]
 by_cases hk : a.k = 2 ∨ a.k = 3
 ·rw [if_pos hk, if_pos hk]
  have key : ∀ (t : List Fm), (∀ f ∈ t, f ∈ l) → ∀ n, (cntL m n t ≤ m → cntL m n t = n + szL t) ∧ (n + szL t ≤ m → cntL m n t = n + szL t) := by
   intro t
   induction t with
   | nil => intro _ n; rw [cntL, szL]; exact ⟨fun _ => by omega, fun _ => by omega⟩
   | cons f t ih2 =>
    intro hf n
    rw [cntL, szL]
    have h1 := ih f (hf f (by simp)) (m - n)
    have hp := szF_pos f
    constructor
    ·intro h
     by_cases hn : n ≤ m
     ·rw [if_pos hn] at h ⊢
      have h2 := (ih2 (fun g hg => hf g (by simp [hg])) (n + cntR (m - n) f)).1 h
      have h3 : n + cntR (m - n) f ≤ m := by
       by_cases h4 : n + cntR (m - n) f ≤ m
       ·exact h4
       ·omega
      have h5 := h1.1 (by omega)
      omega
     ·rw [if_neg hn] at h
      omega
    ·intro h
     rw [if_pos (by omega), h1.2 (by omega), (ih2 (fun g hg => hf g (by simp [hg])) (n + szF f)).2 (by omega)]
     omega
  exact key l (fun _ h => h) 1
 ·rw [if_neg hk, if_neg hk]
  exact ⟨fun _ => rfl, fun _ => rfl⟩
theorem span_sz (sel : FH → Int) (hs : sel = FH.lo ∨ sel = FH.hi) (f : Fm) (h : szF f ≤ 100000) (hc : checkR f = 0) : 0 ≤ spanR sel f ∧ spanR sel f ≤ 16777218 * (szF f : Nat) := by
 have e := (cnt_sz f 100000).2 h
 have := span_bd sel hs f 100000 (by omega) (by omega) hc
 rw [e] at this
 exact this
def gB (c : Nat) : Nat := max 1 (2 * c - 1)
theorem gB_mono {c c' : Nat} (h : c ≤ c') : gB c ≤ gB c' := by unfold gB; omega
theorem own_sz {h : FH} {P : List Fm} (hc : checkR (.mk h P) = 0) (k0 : h.k = 0) : szB h.s = true := by
 rw [checkR_mk] at hc
 have h0 : ownN h.k h.s h.lo h.hi h.st P.length = 0 := Decidable.byContradiction fun hn => by
  rw [if_pos hn] at hc
  exact hn hc
 unfold ownN at h0
 rw [if_pos k0] at h0
 split at h0
 ·omega
 ·unfold szB
  simp only [Bool.or_eq_true, decide_eq_true_eq]
  omega
theorem badF_at {k : Int} {n : Nat} {l : List Fm} : ∀ {i : Nat}, badF k n i l = false → ∀ j (hj : j < l.length), badI k n (i + j) l[j] = false := by
 induction l with
 | nil => intro i _ j hj; simp at hj
 | cons f t ih =>
  intro i h j hj
  rw [badF, Bool.or_eq_false_iff] at h
  cases j with
  | zero => simpa using h.1
  | succ j =>
   have := ih h.2 j (by simpa using hj)
   rw [show i + 1 + j = i + (j + 1) by omega] at this
   simpa using this
theorem openL_shut {P : List Fm} (h : openL P = false) (hl : 0 < P.length) : openR (P[P.length - 1]'(by omega)) = false := by
 induction P with
 | nil => simp at hl
 | cons f t ih =>
  cases t with
  | nil => rw [openL] at h; simpa using h
  | cons g u =>
   rw [openL] at h
   have := ih h (by simp)
   simpa using this
/-- The parts of a right row that is not open: none of them is. -/
theorem row_shut {h : FH} {P : List Fm} (hc : checkR (.mk h P) = 0) (k3 : h.k = 3) : (∀ j (hj : j < P.length), j + 1 < P.length → openR P[j] = false) ∧ (openR (.mk h P) = false → ∀ j (hj : j < P.length), openR P[j] = false) := by
 obtain ⟨_, _, _, hch⟩ := check_ok hc
 have hb := (hch (.inr k3)).2
 have h1 : ∀ j (hj : j < P.length), j + 1 < P.length → openR P[j] = false := by
  intro j hj hj2
  have := badF_at hb j hj
  unfold badI at this
  simp only [Nat.zero_add, Bool.or_eq_false_iff, Bool.and_eq_false_imp, decide_eq_false_iff_not, decide_eq_true_eq] at this
  cases ho : openR P[j]
  ·rfl
  ·have := this.1 ho
   omega
 refine ⟨h1, fun ho j hj => ?_⟩
 rw [openR_mk, if_pos k3] at ho
 by_cases hj2 : j + 1 < P.length
 ·exact h1 j hj hj2
 ·have := openL_shut ho (by omega)
  simpa [show P.length - 1 = j by omega] using this
/-- The item of a right list. -/
theorem list_item {h : FH} {P : List Fm} (hc : checkR (.mk h P) = 0) (k2 : h.k = 2) : ∃ g, P = [g] ∧ checkR g = 0 ∧ openR g = false ∧ leastR g ≠ 0 := by
 obtain ⟨_, h1, _, hch⟩ := check_ok hc
 obtain ⟨g, rfl⟩ := List.length_eq_one_iff.1 (h1 k2)
 obtain ⟨h2, h3⟩ := hch (.inl k2)
 have := badF_at h3 0 (by simp)
 unfold badI at this
 simp [k2] at this
 exact ⟨g, rfl, h2 g (by simp), this.1, this.2⟩
theorem lenE_app {h : FH} {b : List UInt8} (hs : 0 ≤ h.s) (h1 : (lenE h b).2.1 = 0) (r : List UInt8) : lenE h (b.take (h.s.toNat + (lenE h b).2.2) ++ r) = lenE h b := by
 obtain ⟨g1, g2, g3, g4, g5, g6, g7⟩ := lenE_ok h1
 have e0 : lenE h b = (0, 0, (lenE h b).2.2) := Prod.ext g7 (Prod.ext h1 rfl)
 generalize (lenE h b).2.2 = n at *
 have hlen : (b.take (h.s.toNat + n) ++ r).length = h.s.toNat + n + r.length := by
  rw [List.length_append, List.length_take]
  omega
 have htk : (b.take (h.s.toNat + n) ++ r).take h.s.toNat = b.take h.s.toNat := by
  rw [List.take_append_of_le_length (by rw [List.length_take]; omega), List.take_take]
  congr 1
  omega
 rw [e0]
 unfold lenE
 rw [htk, ← g6, hlen, if_neg (by omega), if_neg (by omega), if_neg (by omega)]
theorem mayR_is {n lo hi st : Int} (h1 : lo ≤ n) (h2 : n ≤ hi) (h3 : Int.tmod n st = 0) : mayR n lo hi st = 0 := by
 unfold mayR
 rw [if_neg (by omega), if_neg (by omega), if_pos h3]
theorem tmod_one (n : Int) : Int.tmod n 1 = 0 := by simp
theorem alone0 (n : Int) : aloneB 0 n 0 0 = true := by unfold aloneB; simp [fld]
theorem alone_b {k : Int} (hk : k = 1 ∨ k = 4 ∨ k = 5) (b : Nat) : aloneB k 0 b 0 = true := by
 unfold aloneB
 rcases hk with rfl | rfl | rfl <;> simp [fld]
theorem alone_l {k : Int} (hk : k = 2 ∨ k = 3) (l : Nat) : aloneB k 0 0 l = true := by
 unfold aloneB
 rcases hk with rfl | rfl <;> simp [fld]

/-- What is read of bytes is told by so many of them, fits, has as many, and is written as these. -/
def GotR (f : Fm) (b : List UInt8) (x : Vt) (rest : List UInt8) (q : Nat) : Prop :=
 ∃ u, b = u ++ rest ∧ fitR f x = ((u.length : Int), 0) ∧ leastR f ≤ u.length ∧ writeR f x = u ∧ wfV x = true ∧ 1 ≤ q ∧ q ≤ szF f * gB u.length ∧ (openR f = false → ∀ r', readR f (u ++ r') = .got x r' q)

theorem u64_be {l : List UInt8} (h : l.length ≤ 8) : u64B ((be l : Nat) : Int) := by
 have h1 := be_lt l
 have h2 : 256 ^ l.length ≤ 256 ^ 8 := Nat.pow_le_pow_right (by omega) h
 have h3 : (256 : Nat) ^ 8 = 18446744073709551616 := by decide
 unfold u64B
 omega
theorem read_got (f : Fm) : szF f ≤ 100000 → checkR f = 0 → ∀ b : List UInt8, b.length ≤ 140737488351232 → ∀ x rest q, readR f b = .got x rest q → GotR f b x rest q := by
 induction f using RT.induct with
 | h h P ih =>
 intro hsz hck b hb x rest q hrd
 obtain ⟨hown, hone, h32, hch⟩ := check_ok hck
 rw [readR_mk] at hrd
 by_cases k0 : h.k = 0
 ·rw [if_pos k0] at hrd
  split at hrd
  ·simp at hrd
  rename_i hlt
  injection hrd with e1 e2 e3
  subst e1 e2 e3
  have hs := hown.k0 k0
  have hlen : (b.take h.s.toNat).length = h.s.toNat := by rw [List.length_take]; omega
  refine ⟨b.take h.s.toNat, (List.take_append_drop _ _).symm, ?_, ?_, ?_, ?_, by omega, ?_, ?_⟩
  ·rw [fitR_mk]
   simp only [k0, List.length_nil, alone0, Bool.true_eq_false, if_false, if_true]
   rw [if_neg (fun hx => ?_), hlen]
   ·congr 1
    omega
   ·have h1 := be_lt (b.take h.s.toNat)
    rw [hlen] at h1
    have h2 : (256 : Nat) ^ h.s.toNat = 2 ^ (8 * h.s.toNat) := by rw [Nat.pow_mul]
    have h3 := hx.2
    rw [h2] at h1
    have h4 : ((2 : Int) ^ (8 * h.s.toNat)) = ((2 ^ (8 * h.s.toNat) : Nat) : Int) := by simp
    omega
  ·rw [leastR, spanR_mk, if_pos k0, hlen]
   omega
  ·rw [writeR_mk, if_pos k0]
   have := beB_be (b.take h.s.toNat)
   rw [hlen] at this
   simpa using this
  ·exact (wfV_mk _ _).2 ⟨u64_be (by rw [hlen]; omega), by simp, by simp, by simp⟩
  ·have := szF_pos (.mk h P)
   have h2 : 1 ≤ gB (b.take h.s.toNat).length := by unfold gB; omega
   exact Nat.le_trans (by omega) (Nat.mul_le_mul this h2)
  ·intro _ r'
   rw [readR_mk, if_pos k0, if_neg (by rw [List.length_append, hlen]; omega), List.take_append_of_le_length (by omega), List.take_of_length_le (l := b.take h.s.toNat) (by omega), List.drop_append_of_le_length (by omega), List.drop_of_length_le (l := b.take h.s.toNat) (by omega)]
   rfl
 rw [if_neg k0] at hrd
 by_cases k1 : h.k = 1
 ·rw [if_pos k1] at hrd
  split at hrd
  ·simp at hrd
  rename_i hz
  injection hrd with e1 e2 e3
  subst e1 e2 e3
  have hz := Decidable.not_not.1 hz
  obtain ⟨g1, g2, g3, g4, g5, g6, g7⟩ := lenE_ok hz
  have happ := fun r => lenE_app (h := h) (b := b) (by have := hown.k12 (.inl k1); omega) hz r
  have hs := hown.k12 (.inl k1)
  generalize hn : (lenE h b).2.2 = n at *
  have hlen : (b.take (h.s.toNat + n)).length = h.s.toNat + n := by rw [List.length_take]; omega
  have hlen2 : ((b.drop h.s.toNat).take n).length = n := by rw [List.length_take, List.length_drop]; omega
  have hu : b.take (h.s.toNat + n) = b.take h.s.toNat ++ (b.drop h.s.toNat).take n := by rw [List.take_add]
  refine ⟨b.take (h.s.toNat + n), (List.take_append_drop _ _).symm, ?_, ?_, ?_, ?_, by omega, ?_, ?_⟩
  ·rw [fitR_mk]
   simp only [List.length_nil, alone_b (.inl k1), Bool.true_eq_false, if_false, if_neg k0, if_pos k1, hlen2, hlen, mayR_is g2 g3 g4]
   rw [w64 (by omega) (by omega)]
   congr 1
   omega
  ·rw [leastR, spanR_mk, if_neg k0, if_pos (.inl k1), hlen, w64 (by omega) (by omega)]
   omega
  ·rw [writeR_mk, if_neg k0, if_pos k1, hu]
   simp only [hlen2]
   have := beB_be (b.take h.s.toNat)
   rw [List.length_take, Nat.min_eq_left (by omega), ← g6] at this
   rw [this]
  ·exact (wfV_mk _ _).2 ⟨by unfold u64B; simp only; omega, by simp only [hlen2]; omega, by simp, by simp⟩
  ·have := szF_pos (.mk h P)
   have h2 : 1 ≤ gB (b.take (h.s.toNat + n)).length := by unfold gB; omega
   exact Nat.le_trans (by omega) (Nat.mul_le_mul this h2)
  ·intro _ r'
   rw [readR_mk, if_neg k0, if_pos k1, happ r', if_neg (by simp [hz]), hn]
   congr 1
   ·congr 2
    rw [List.drop_append_of_le_length (by omega), List.take_append_of_le_length (by rw [List.length_drop]; omega), hu, List.drop_append_of_le_length (by rw [List.length_take]; omega), List.drop_of_length_le (l := b.take h.s.toNat) (by rw [List.length_take]; omega), List.nil_append, List.take_take, Nat.min_self]
   ·rw [List.drop_append_of_le_length (by omega), List.drop_of_length_le (by omega)]
    rfl
 rw [if_neg k1] at hrd
 by_cases k4 : h.k = 4
 ·rw [if_pos k4] at hrd
  split at hrd
  ·simp at hrd
  split at hrd
  ·simp at hrd
  injection hrd with e1 e2 e3
  subst e1 e2 e3
  have hs := hown.k4 k4
  refine ⟨b, by simp, ?_, ?_, ?_, ?_, by omega, ?_, ?_⟩
  ·rw [fitR_mk]
   simp only [List.length_nil, alone_b (.inr (.inl k4)), Bool.true_eq_false, if_false, if_neg k0, if_neg k1, if_pos k4]
   rw [mayR_is (by omega) (by omega) (tmod_one _)]
  ·rw [leastR, spanR_mk, if_neg k0, if_neg (by omega), if_pos k4]
   omega
  ·rw [writeR_mk, if_neg k0, if_neg k1, if_pos (.inl k4)]
  ·exact (wfV_mk _ _).2 ⟨by unfold u64B; simp only; omega, by simp only; omega, by simp, by simp⟩
  ·have := szF_pos (.mk h P)
   have h2 : 1 ≤ gB b.length := by unfold gB; omega
   exact Nat.le_trans (by omega) (Nat.mul_le_mul this h2)
  ·intro ho
   rw [openR_mk, if_neg (by omega)] at ho
   simp [k4] at ho
 rw [if_neg k4] at hrd
 by_cases k5 : h.k = 5
 ·rw [if_pos k5] at hrd
  split at hrd
  ·simp at hrd
  rename_i hlt
  injection hrd with e1 e2 e3
  subst e1 e2 e3
  have hs := hown.k5 k5
  have hlen : (b.take h.lo.toNat).length = h.lo.toNat := by rw [List.length_take]; omega
  refine ⟨b.take h.lo.toNat, (List.take_append_drop _ _).symm, ?_, ?_, ?_, ?_, by omega, ?_, ?_⟩
  ·rw [fitR_mk]
   simp only [List.length_nil, alone_b (.inr (.inr k5)), Bool.true_eq_false, if_false, if_neg k0, if_neg k1, if_neg k4, if_pos k5, hlen]
   rw [mayR_is (by omega) (by omega) (tmod_one _)]
   congr 1
   omega
  ·rw [leastR, spanR_mk, if_neg k0, if_neg (by omega), if_neg k4, if_pos k5, hlen]
   omega
  ·rw [writeR_mk, if_neg k0, if_neg k1, if_pos (.inr k5)]
  ·exact (wfV_mk _ _).2 ⟨by unfold u64B; simp only; omega, by simp only [hlen]; omega, by simp, by simp⟩
  ·have := szF_pos (.mk h P)
   have h2 : 1 ≤ gB (b.take h.lo.toNat).length := by unfold gB; omega
   exact Nat.le_trans (by omega) (Nat.mul_le_mul this h2)
  ·intro _ r'
   rw [readR_mk, if_neg k0, if_neg k1, if_neg k4, if_pos k5, if_neg (by rw [List.length_append, hlen]; omega), List.take_append_of_le_length (by omega), List.take_of_length_le (l := b.take h.lo.toNat) (by omega), List.drop_append_of_le_length (by omega), List.drop_of_length_le (l := b.take h.lo.toNat) (by omega)]
   rfl
 rw [if_neg k5] at hrd
 have hk23 : h.k = 2 ∨ h.k = 3 := by have := hown.k; omega
 have hPc : ∀ y ∈ P, checkR y = 0 := (hch hk23).1
 rw [szF_mk, if_pos hk23] at hsz
 have hPz : ∀ y ∈ P, szF y ≤ 100000 := fun y hy => by have := szL_mem hy; omega
 by_cases k3 : h.k = 3
 ·rw [if_pos k3] at hrd
  have hshut := row_shut hck k3
  have key : ∀ (d i : Nat) (b : List UInt8) (off q0 : Nat) (acc : List Vt), P.length - i = d → i ≤ P.length → b.length ≤ 140737488351232 → readRow (P.drop i) b off q0 acc = .got x rest q →
    ∃ ys u, x = .mk ⟨0, []⟩ (acc ++ ys) ∧ ys.length = P.length - i ∧ b = u ++ rest ∧ (∀ c0 : Nat, c0 + b.length ≤ 140737488351232 → fitL (.mk h P) c0 i ys = (((c0 + u.length : Nat) : Int), 0) ∧ spanL FH.lo c0 (P.drop i) ≤ ((c0 + u.length : Nat) : Int)) ∧
     writeL (.mk h P) i ys = u ∧ (∀ y ∈ ys, wfV y = true) ∧ q0 ≤ q ∧ q ≤ q0 + szL (P.drop i) * gB u.length ∧ ((∀ j (hj : j < P.length), openR P[j] = false) → ∀ r', readRow (P.drop i) (u ++ r') off q0 acc = .got x r' q) := by
   intro d
   induction d with
   | zero =>
    intro i b off q0 acc hd hi hbl hr
    rw [readRow_end (by omega)] at hr
    injection hr with e1 e2 e3
    subst e1 e2 e3
    refine ⟨[], [], by simp, by simp; omega, by simp, fun c0 _ => ⟨by rw [fitL_nil, if_pos k3]; simp, ?_⟩, by rw [writeL], by simp, by omega, by omega, fun _ r' => by rw [readRow_end (by omega)]; simp⟩
    rw [List.drop_of_length_le (by omega), spanL]
    simp
   | succ d ihd =>
    intro i b off q0 acc hd hi hbl hr
    have hlt : i < P.length := by omega
    have hmem := List.getElem_mem hlt
    rw [readRow_drop hlt] at hr
    cases hx : readR P[i] b with
    | bad a e s => rw [hx] at hr; simp at hr
    | got y r s =>
     rw [hx] at hr
     simp only at hr
     obtain ⟨u1, hb1, f1, l1, w1, v1, q1, q2, o1⟩ := ih P[i] hmem (hPz _ hmem) (hPc _ hmem) b hbl y r s hx
     have hbr : b.length = u1.length + r.length := by rw [hb1, List.length_append]
     obtain ⟨ys, u2, hx2, hyl, hb2, hf2, hw2, hv2, hq3, hq4, ho2⟩ := ihd (i + 1) r _ _ _ (by omega) (by omega) (by omega) hr
     have hrl : r.length = u2.length + rest.length := by rw [hb2, List.length_append]
     have hsp := span_sz FH.lo (.inl rfl) P[i] (hPz _ hmem) (hPc _ hmem)
     have hl1 : spanR FH.lo P[i] ≤ u1.length := l1
     refine ⟨y :: ys, u1 ++ u2, by rw [hx2, List.append_assoc]; rfl, by rw [List.length_cons, hyl]; omega, by rw [hb1, hb2, List.append_assoc], fun c0 hc0 => ?_, ?_, ?_, by omega, ?_, ?_⟩
     ·have hjm : i % P.length = i := Nat.mod_eq_of_lt hlt
      have hg : P.getD (i % P.length) nilF = P[i] := by rw [hjm]; simp [hlt]
      obtain ⟨h1, h2⟩ := hf2 (c0 + u1.length) (by omega)
      constructor
      ·rw [fitL]
       simp only [RT.l, hg, f1, if_true]
       rw [w64 (by omega) (by omega), show (c0 : Int) + (u1.length : Int) = ((c0 + u1.length : Nat) : Int) by omega, h1, List.length_append]
       congr 2
       omega
      ·rw [List.drop_eq_getElem_cons hlt, spanL]
       rw [w64 (by omega) (by omega)]
       have hmono : ∀ (t : List Fm) (a c : Int), (∀ y ∈ t, szF y ≤ 100000 ∧ checkR y = 0) → a ≤ c → 0 ≤ a → c + 1677721800000 * t.length ≤ 9000000000000000000 → spanL FH.lo a t ≤ spanL FH.lo c t := by
        intro t
        induction t with
        | nil => intro a c _ hac _ _; rw [spanL, spanL]; exact hac
        | cons g t iht =>
         intro a c ht hac h0 hc
         have hg := span_sz FH.lo (.inl rfl) g (ht g (by simp)).1 (ht g (by simp)).2
         have hg2 := (ht g (by simp)).1
         rw [List.length_cons] at hc
         rw [spanL, spanL, w64 (by omega) (by omega), w64 (by omega) (by omega)]
         exact iht _ _ (fun y hy => ht y (by simp [hy])) (by omega) (by omega) (by omega)
       have h32' := h32 k3
       refine Int.le_trans (hmono (P.drop (i + 1)) ((c0 : Int) + spanR FH.lo P[i]) ((c0 + u1.length : Nat) : Int) (fun y hy => ⟨hPz y (List.mem_of_mem_drop hy), hPc y (List.mem_of_mem_drop hy)⟩) (by omega) (by omega) (by rw [List.length_drop]; omega)) ?_
       rw [List.length_append]
       omega
     ·rw [writeL]
      have hg : P.getD (i % P.length) nilF = P[i] := by rw [Nat.mod_eq_of_lt hlt]; simp [hlt]
      simp only [RT.l, hg, w1, hw2]
     ·intro z hz
      rcases List.mem_cons.1 hz with rfl | hz
      ·exact v1
      ·exact hv2 z hz
     ·rw [szL_drop hlt, Nat.add_mul]
      have e1 := Nat.mul_le_mul_left (szF P[i]) (gB_mono (show u1.length ≤ (u1 ++ u2).length by rw [List.length_append]; omega))
      have e2 := Nat.mul_le_mul_left (szL (P.drop (i + 1))) (gB_mono (show u2.length ≤ (u1 ++ u2).length by rw [List.length_append]; omega))
      omega
     ·intro hop r'
      rw [readRow_drop hlt, List.append_assoc, o1 (hop i hlt) (u2 ++ r')]
      simp only
      have := ho2 hop r'
      rw [show (u1 ++ (u2 ++ r')).length - (u2 ++ r').length = b.length - r.length by rw [List.length_append]; omega]
      exact this
  obtain ⟨ys, u, hx, hyl, hbu, hf, hw, hv, hq1, hq2, ho⟩ := key P.length 0 b 0 1 [] (by omega) (by omega) hb (by rw [List.drop_zero]; exact hrd)
  rw [List.nil_append] at hx
  subst hx
  obtain ⟨hf1, hf2⟩ := hf 0 (by omega)
  rw [List.drop_zero] at hf2 hq2
  refine ⟨u, hbu, ?_, ?_, ?_, ?_, by omega, ?_, ?_⟩
  ·rw [fitR_mk]
   simp only [List.length_nil, alone_l (.inr k3), Bool.true_eq_false, if_false, if_neg k0, if_neg k1, if_neg k4, if_neg k5]
   rw [if_neg (fun hh => hh.2 (by omega))]
   have := hf1
   rw [Nat.zero_add] at this
   exact this
  ·rw [leastR, spanR_mk, if_neg k0, if_neg (by omega), if_neg k4, if_neg k5]
   simpa using hf2
  ·rw [writeR_mk, if_neg k0, if_neg k1, if_neg (by omega), if_neg (by omega)]
   exact hw
  ·exact (wfV_mk _ _).2 ⟨by unfold u64B; simp only; omega, by simp, by have := h32 k3; omega, hv⟩
  ·rw [szF_mk, if_pos hk23, Nat.add_mul, Nat.one_mul]
   have h2 : 1 ≤ gB u.length := by unfold gB; omega
   omega
  ·intro hop r'
   rw [readR_mk, if_neg k0, if_neg k1, if_neg k4, if_neg k5, if_pos k3]
   have := ho (hshut.2 hop) r'
   rw [List.drop_zero] at this
   exact this
 rw [if_neg k3] at hrd
 have k2 : h.k = 2 := by omega
 split at hrd
 ·simp at hrd
 rename_i hz
 have hz := Decidable.not_not.1 hz
 obtain ⟨g1, g2, g3, g4, g5, g6, g7⟩ := lenE_ok hz
 have happ := fun r => lenE_app (h := h) (b := b) (by have := hown.k12 (.inr k2); omega) hz r
 have hs := hown.k12 (.inr k2)
 obtain ⟨g, rfl, hgc, hgo, hgl⟩ := list_item hck k2
 rw [readHd_one] at hrd
 have hgz : szF g ≤ 100000 := hPz g (by simp)
 generalize hn : (lenE h b).2.2 = n at *
 have hgd : ∀ j, [g].getD (j % [g].length) nilF = g := by intro j; simp [Nat.mod_one]
 have key : ∀ (fuel : Nat) (b : List UInt8) (off q0 : Nat) (acc : List Vt) (x : Vt) (rest : List UInt8) (q : Nat), b.length ≤ fuel → b.length ≤ 140737488351232 → iterR (readR g) fuel b off q0 acc = .got x rest q →
   ∃ ys, x = .mk ⟨0, []⟩ (acc ++ ys) ∧ rest = [] ∧ ys.length ≤ b.length ∧ (∀ (c0 j : Nat), c0 + b.length ≤ 140737488351232 → fitL (.mk h [g]) c0 j ys = (wrap64 (h.s + ((c0 + b.length : Nat) : Int)), mayR ((c0 + b.length : Nat) : Int) h.lo h.hi h.st) ∧ writeL (.mk h [g]) j ys = b) ∧ (∀ y ∈ ys, wfV y = true) ∧ q0 ≤ q ∧ q ≤ q0 + szF g * (2 * b.length) := by
  intro fuel
  induction fuel with
  | zero =>
   intro b off q0 acc x rest q hbf _ hr
   rw [iterR] at hr
   injection hr with e1 e2 e3
   subst e1 e2 e3
   have hb0 : b = [] := List.eq_nil_of_length_eq_zero (by omega)
   subst hb0
   refine ⟨[], by simp, rfl, by simp, fun c0 j _ => ⟨?_, by rw [writeL]⟩, by simp, by omega, by omega⟩
   rw [fitL_nil, if_neg k3]
   rfl
  | succ fuel ihf =>
   intro b off q0 acc x rest q hbf hbl hr
   rw [iterR] at hr
   by_cases hb0 : b.length = 0
   ·rw [if_pos hb0] at hr
    injection hr with e1 e2 e3
    subst e1 e2 e3
    have hb0 : b = [] := List.eq_nil_of_length_eq_zero (by omega)
    subst hb0
    refine ⟨[], by simp, rfl, by simp, fun c0 j _ => ⟨?_, by rw [writeL]⟩, by simp, by omega, by omega⟩
    rw [fitL_nil, if_neg k3]
    rfl
   rw [if_neg hb0] at hr
   cases hx : readR g b with
   | bad a e s => rw [hx] at hr; simp at hr
   | got y r s =>
    rw [hx] at hr
    simp only at hr
    obtain ⟨u1, hb1, f1, l1, w1, v1, q1, q2, o1⟩ := ih g (by simp) hgz hgc b hbl y r s hx
    have hbr : b.length = u1.length + r.length := by rw [hb1, List.length_append]
    have hsp := span_sz FH.lo (.inl rfl) g hgz hgc
    have hgl2 : leastR g = spanR FH.lo g := rfl
    have hu1 : 1 ≤ u1.length := by omega
    obtain ⟨ys, hx2, hr0, hyl, hf2, hv2, hq3, hq4⟩ := ihf r _ _ _ x rest q (by omega) (by omega) hr
    refine ⟨y :: ys, by rw [hx2, List.append_assoc]; rfl, hr0, by rw [List.length_cons]; omega, fun c0 j hc0 => ?_, ?_, by omega, ?_⟩
    ·obtain ⟨h1, h2⟩ := hf2 (c0 + u1.length) (j + 1) (by omega)
     constructor
     ·rw [fitL]
      simp only [RT.l, hgd, f1, if_true]
      rw [w64 (by omega) (by omega), show (c0 : Int) + (u1.length : Int) = ((c0 + u1.length : Nat) : Int) by omega, h1, show c0 + u1.length + r.length = c0 + b.length by omega]
     ·rw [writeL]
      simp only [RT.l, hgd, w1, h2]
      exact hb1.symm
    ·intro z hz
     rcases List.mem_cons.1 hz with rfl | hz
     ·exact v1
     ·exact hv2 z hz
    ·have e1 := Nat.mul_le_mul_left (szF g) (show gB u1.length ≤ 2 * u1.length by unfold gB; omega)
     have e2 : szF g * (2 * b.length) = szF g * (2 * u1.length) + szF g * (2 * r.length) := by rw [← Nat.mul_add]; congr 1; omega
     omega
 cases hit : iterR (readR g) n ((b.drop h.s.toNat).take n) h.s.toNat 1 [] with
 | bad a e s => rw [hit] at hrd; simp at hrd
 | got y r s =>
  rw [hit] at hrd
  simp only at hrd
  injection hrd with e1 e2 e3
  subst e1 e2 e3
  have hlen2 : ((b.drop h.s.toNat).take n).length = n := by rw [List.length_take, List.length_drop]; omega
  have hlen : (b.take (h.s.toNat + n)).length = h.s.toNat + n := by rw [List.length_take]; omega
  have hu : b.take (h.s.toNat + n) = b.take h.s.toNat ++ (b.drop h.s.toNat).take n := by rw [List.take_add]
  obtain ⟨ys, hx2, hr0, hyl, hf2, hv2, hq3, hq4⟩ := key n _ _ _ _ _ _ _ (by omega) (by omega) hit
  rw [List.nil_append] at hx2
  subst hx2
  obtain ⟨hf3, hw3⟩ := hf2 0 0 (by omega)
  rw [hlen2] at hf3 hyl hq4
  rw [Nat.zero_add] at hf3
  refine ⟨b.take (h.s.toNat + n), (List.take_append_drop _ _).symm, ?_, ?_, ?_, ?_, by omega, ?_, ?_⟩
  ·rw [fitR_mk]
   simp only [List.length_nil, alone_l (.inl k2), Bool.true_eq_false, if_false, if_neg k0, if_neg k1, if_neg k4, if_neg k5]
   rw [if_neg (fun hh => k3 hh.1)]
   have := hf3
   rw [mayR_is g2 g3 g4, w64 (by omega) (by omega)] at this
   rw [hlen]
   refine this.trans ?_
   congr 1
   omega
  ·rw [leastR, spanR_mk, if_neg k0, if_pos (.inr k2), hlen, w64 (by omega) (by omega)]
   omega
  ·rw [writeR_mk, if_neg k0, if_neg k1, if_neg (by omega), if_pos k2, hw3, hlen2, hu]
   have := beB_be (b.take h.s.toNat)
   rw [List.length_take, Nat.min_eq_left (by omega), ← g6] at this
   rw [this]
  ·exact (wfV_mk _ _).2 ⟨by unfold u64B; simp only; omega, by simp, by omega, hv2⟩
  ·rw [szF_mk, if_pos hk23, hlen]
   have h1 : 2 * n + 1 ≤ gB (h.s.toNat + n) := by unfold gB; omega
   have h2 := Nat.mul_le_mul_left (1 + szL [g]) h1
   rw [Nat.add_mul, Nat.one_mul] at h2
   have h3 : szL [g] = szF g := by rw [szL, szL]; omega
   have h4 : szF g * (2 * n) ≤ szF g * (2 * n + 1) := Nat.mul_le_mul_left _ (by omega)
   rw [h3] at h2 ⊢
   omega
  ·intro _ r'
   rw [readR_mk, if_neg k0, if_neg k1, if_neg k4, if_neg k5, if_neg k3, happ r', if_neg (by simp [hz]), hn, readHd_one]
   have e5 : (((b.take (h.s.toNat + n) ++ r').drop h.s.toNat).take n) = (b.drop h.s.toNat).take n := by
    rw [List.drop_append_of_le_length (by omega), List.take_append_of_le_length (by rw [List.length_drop]; omega), hu, List.drop_append_of_le_length (by rw [List.length_take]; omega), List.drop_of_length_le (l := b.take h.s.toNat) (by rw [List.length_take]; omega), List.nil_append, List.take_take, Nat.min_self]
   rw [e5, hit]
   simp only
   rw [List.drop_append_of_le_length (by omega), List.drop_of_length_le (by omega)]
   rfl
end Go.Proofs.YtdhnfccgojgehaaDoor

namespace Go.Proofs.YtdhnfccgojgehaaDoor
open Go.RowKit

def WroteR (f : Fm) (x : Vt) (n : Int) : Prop :=
 ((writeR f x).length : Int) = n ∧ (openR f = false → ∀ m, ∃ q, readR f (writeR f x ++ m) = .got x m q) ∧ ∃ q, readR f (writeR f x) = .got x [] q

theorem be_frontW (n x : Nat) (r : List UInt8) (h : x < 256 ^ n) : be ((beB n x ++ r).take n) = x := by
 rw [List.take_left' (beB_length n x), be_beB, Nat.mod_eq_of_lt h]
theorem lenE_is {h : FH} {w : List UInt8} {N : Nat} (hw : w.length = N) (hs : 0 ≤ h.s) (hN : N < 256 ^ h.s.toNat) (hm : mayR (N : Int) h.lo h.hi h.st = 0) (m : List UInt8) : lenE h (beB h.s.toNat N ++ (w ++ m)) = (0, 0, N) := by
 obtain ⟨h1, h2, h3⟩ := mayR_ok hm
 have e := be_frontW h.s.toNat N (w ++ m) hN
 unfold lenE
 rw [e, if_neg, if_neg, if_neg]
 ·simp only [List.length_append, beB_length]; omega
 ·simp only [not_or, Decidable.not_not]; exact ⟨by omega, by omega, h3⟩
 ·simp only [List.length_append, beB_length]; omega
theorem alone_is {k n : Int} {b l : Nat} (h : ¬ aloneB k n b l = false) : (fld k = 0 ∨ n = 0) ∧ (fld k = 1 ∨ b = 0) ∧ (fld k = 2 ∨ l = 0) := by
 rw [Bool.not_eq_false] at h
 unfold aloneB at h
 simpa using h

theorem write_got (f : Fm) : szF f ≤ 100000 → checkR f = 0 → ∀ x n, wfV x = true → fitR f x = (n, 0) → (writeR f x).length ≤ 140737488351232 → WroteR f x n := by
 induction f using RT.induct with
 | h h P ih =>
 intro hsz hck x n hwf hfit hbd
 obtain ⟨hown, hone, h32, hch⟩ := check_ok hck
 obtain ⟨⟨a, b⟩, l⟩ := x
 obtain ⟨hu64, hbl, hll, hwl⟩ := (wfV_mk _ _).1 hwf
 simp only at hu64 hbl hll
 rw [fitR_mk] at hfit
 by_cases hal : aloneB h.k a b.length l.length = false
 ·rw [if_pos hal] at hfit
  simp at hfit
 rw [if_neg hal] at hfit
 obtain ⟨ha0, ha1, ha2⟩ := alone_is hal
 simp only at ha0 ha1 ha2 hfit
 by_cases k0 : h.k = 0
 ·rw [if_pos k0] at hfit
  have hf : fld h.k = 0 := by rw [k0]; rfl
  obtain rfl : b = [] := List.eq_nil_of_length_eq_zero (by omega)
  obtain rfl : l = [] := List.eq_nil_of_length_eq_zero (by omega)
  have hs := hown.k0 k0
  have hsb := own_sz hck k0
  split at hfit
  ·simp at hfit
  rename_i hlt
  injection hfit with hn _
  subst hn
  have e : writeR (.mk h P) (.mk ⟨a, []⟩ []) = beB h.s.toNat a.toNat := by rw [writeR_mk, if_pos k0]
  have hA : a.toNat < 256 ^ h.s.toNat := by
   have h2 : (256 : Nat) ^ h.s.toNat = 2 ^ (8 * h.s.toNat) := by rw [Nat.pow_mul]
   have h4 : ((2 : Int) ^ (8 * h.s.toNat)) = ((2 ^ (8 * h.s.toNat) : Nat) : Int) := by simp
   unfold u64B at hu64
   by_cases h8 : h.s < 8
   ·have : ¬ (2 : Int) ^ (8 * h.s.toNat) ≤ a := fun hh => hlt ⟨h8, hh⟩
    omega
   ·have h5 : h.s.toNat = 8 := by omega
    rw [h5]
    have h3 : (256 : Nat) ^ 8 = 18446744073709551616 := by decide
    omega
  have ea : ((a.toNat : Nat) : Int) = a := by unfold u64B at hu64; omega
  have key : ∀ m, readR (.mk h P) (beB h.s.toNat a.toNat ++ m) = .got (.mk ⟨a, []⟩ []) m 1 := by
   intro m
   rw [readR_mk, if_pos k0, if_neg (by rw [List.length_append, beB_length]; omega), be_frontW _ _ _ hA, List.drop_left' (beB_length _ _), ea]
  refine ⟨by rw [e, beB_length]; omega, fun _ m => ⟨1, by rw [e]; exact key m⟩, 1, by rw [e]; have := key []; rwa [List.append_nil] at this⟩
 rw [if_neg k0] at hfit
 have hk := hown.k
 have hfn : fld h.k ≠ 0 := by
  intro hh
  unfold fld at hh
  split at hh <;> (try split at hh) <;> omega
 obtain rfl : a = 0 := ha0.resolve_left hfn
 by_cases k1 : h.k = 1
 ·rw [if_pos k1] at hfit
  have hf : fld h.k = 1 := by rw [k1]; rfl
  obtain rfl : l = [] := List.eq_nil_of_length_eq_zero (by omega)
  obtain ⟨hs1, hs2, hl1, hl2, hl3, hl4, hl5, hl6⟩ := hown.k12 (.inl k1)
  injection hfit with hn hm
  obtain ⟨m1, m2, m3⟩ := mayR_ok hm
  have hN : b.length < 256 ^ h.s.toNat := by
   have : (((256 ^ h.s.toNat : Nat)) : Int) = 256 ^ h.s.toNat := by simp
   omega
  rw [w64 (by omega) (by omega)] at hn
  have e : writeR (.mk h P) (.mk ⟨0, b⟩ []) = beB h.s.toNat b.length ++ b := by rw [writeR_mk, if_neg k0, if_pos k1]
  have key : ∀ m, readR (.mk h P) (beB h.s.toNat b.length ++ b ++ m) = .got (.mk ⟨0, b⟩ []) m 1 := by
   intro m
   rw [List.append_assoc, readR_mk, if_neg k0, if_pos k1, lenE_is rfl (by omega) hN hm, if_neg (by simp)]
   congr 1
   ·congr 2
    simp only
    rw [List.drop_left' (beB_length _ _), List.take_left' rfl]
   ·rw [← List.append_assoc, List.drop_left' (by rw [List.length_append, beB_length])]
  refine ⟨by rw [e, List.length_append, beB_length]; omega, fun _ m => ⟨1, by rw [e]; exact key m⟩, 1, by rw [e]; have := key []; rwa [List.append_nil] at this⟩
 rw [if_neg k1] at hfit
 by_cases k4 : h.k = 4
 ·rw [if_pos k4] at hfit
  have hf : fld h.k = 1 := by rw [k4]; rfl
  obtain rfl : l = [] := List.eq_nil_of_length_eq_zero (by omega)
  injection hfit with hn hm
  obtain ⟨m1, m2, m3⟩ := mayR_ok hm
  have e : writeR (.mk h P) (.mk ⟨0, b⟩ []) = b := by rw [writeR_mk, if_neg k0, if_neg k1, if_pos (.inl k4)]
  refine ⟨by rw [e]; exact hn, fun ho => ?_, 1, ?_⟩
  ·rw [openR_mk, if_neg (by omega)] at ho
   simp [k4] at ho
  ·rw [e, readR_mk, if_neg k0, if_neg k1, if_pos k4, if_neg (by omega), if_neg (by omega)]
 rw [if_neg k4] at hfit
 by_cases k5 : h.k = 5
 ·rw [if_pos k5] at hfit
  have hf : fld h.k = 1 := by rw [k5]; rfl
  obtain rfl : l = [] := List.eq_nil_of_length_eq_zero (by omega)
  injection hfit with hn hm
  obtain ⟨m1, m2, m3⟩ := mayR_ok hm
  have hl := hown.k5 k5
  have e : writeR (.mk h P) (.mk ⟨0, b⟩ []) = b := by rw [writeR_mk, if_neg k0, if_neg k1, if_pos (.inr k5)]
  have key : ∀ m, readR (.mk h P) (b ++ m) = .got (.mk ⟨0, b⟩ []) m 1 := by
   intro m
   rw [readR_mk, if_neg k0, if_neg k1, if_neg k4, if_pos k5, if_neg (by rw [List.length_append]; omega), List.take_left' (by omega), List.drop_left' (by omega)]
  refine ⟨by rw [e]; omega, fun _ m => ⟨1, by rw [e]; exact key m⟩, 1, by rw [e]; have := key []; rwa [List.append_nil] at this⟩
 rw [if_neg k5] at hfit
 have hk23 : h.k = 2 ∨ h.k = 3 := by omega
 have hf : fld h.k = 2 := by rcases hk23 with hh | hh <;> rw [hh] <;> rfl
 obtain rfl : b = [] := List.eq_nil_of_length_eq_zero (by omega)
 have hPc : ∀ y ∈ P, checkR y = 0 := (hch hk23).1
 rw [szF_mk, if_pos hk23] at hsz
 have hPz : ∀ y ∈ P, szF y ≤ 100000 := fun y hy => by have := szL_mem hy; omega
 by_cases k3 : h.k = 3
 ·by_cases hlen : l.length = P.length
  rotate_left
  ·rw [if_pos ⟨k3, hlen⟩] at hfit
   simp at hfit
  rw [if_neg (fun hh => hh.2 hlen)] at hfit
  have hshut := row_shut hck k3
  have key : ∀ (ys : List Vt) (i c0 : Nat) (n : Int), i + ys.length = P.length → (∀ y ∈ ys, wfV y = true) → c0 + (writeL (.mk h P) i ys).length ≤ 140737488351232 → fitL (.mk h P) c0 i ys = (n, 0) →
    n = ((c0 + (writeL (.mk h P) i ys).length : Nat) : Int) ∧ ∀ off q0 acc, ((∀ j (hj : j < P.length), openR P[j] = false) → ∀ m, ∃ q, readRow (P.drop i) (writeL (.mk h P) i ys ++ m) off q0 acc = .got (.mk ⟨0, []⟩ (acc ++ ys)) m q) ∧ ∃ q, readRow (P.drop i) (writeL (.mk h P) i ys) off q0 acc = .got (.mk ⟨0, []⟩ (acc ++ ys)) [] q := by
   intro ys
   induction ys with
   | nil =>
    intro i c0 n hi _ _ hft
    rw [fitL_nil, if_pos k3] at hft
    injection hft with hn _
    refine ⟨by rw [writeL, ← hn]; simp, fun off q0 acc => ⟨fun _ m => ⟨q0, ?_⟩, q0, ?_⟩⟩
    ·rw [readRow_end (by simp at hi; omega), writeL]; simp
    ·rw [readRow_end (by simp at hi; omega), writeL]; simp
   | cons y t iht =>
    intro i c0 n hi hw hb hft
    rw [List.length_cons] at hi
    have hlt : i < P.length := by omega
    have hmem := List.getElem_mem hlt
    have hg : P.getD (i % P.length) nilF = P[i] := by rw [Nat.mod_eq_of_lt hlt]; simp [hlt]
    rw [writeL] at hb ⊢
    simp only [RT.l, hg, List.length_append] at hb ⊢
    rw [fitL] at hft
    simp only [RT.l, hg] at hft
    obtain ⟨⟨k, e⟩, hke⟩ : ∃ r, fitR P[i] y = r := ⟨_, rfl⟩
    rw [hke] at hft
    simp only at hft
    by_cases he : e = 0
    rotate_left
    ·rw [if_neg he] at hft
     injection hft with _ h2
     exact absurd h2 he
    subst he
    rw [if_pos rfl] at hft
    obtain ⟨w1, w2, q1, w3⟩ := ih P[i] hmem (hPz _ hmem) (hPc _ hmem) y k (hw y (by simp)) hke (by omega)
    subst w1
    rw [w64 (by omega) (by omega), show (c0 : Int) + ((writeR P[i] y).length : Int) = ((c0 + (writeR P[i] y).length : Nat) : Int) by omega] at hft
    obtain ⟨g1, g2⟩ := iht (i + 1) (c0 + (writeR P[i] y).length) n (by omega) (fun z hz => hw z (by simp [hz])) (by omega) hft
    refine ⟨by rw [g1]; congr 1; omega, fun off q0 acc => ⟨fun hall m => ?_, ?_⟩⟩
    ·obtain ⟨q2, h2⟩ := w2 (hall i hlt) (writeL (.mk h P) (i + 1) t ++ m)
     obtain ⟨q3, h3⟩ := (g2 (off + ((writeR P[i] y ++ (writeL (.mk h P) (i + 1) t ++ m)).length - (writeL (.mk h P) (i + 1) t ++ m).length)) (q0 + q2) (acc ++ [y])).1 hall m
     refine ⟨q3, ?_⟩
     rw [readRow_drop hlt, List.append_assoc, h2]
     simp only
     rw [h3, List.append_assoc]
     rfl
    ·by_cases hlast : i + 1 < P.length
     ·obtain ⟨q2, h2⟩ := w2 (hshut.1 i hlt hlast) (writeL (.mk h P) (i + 1) t)
      obtain ⟨q3, h3⟩ := (g2 (off + ((writeR P[i] y ++ writeL (.mk h P) (i + 1) t).length - (writeL (.mk h P) (i + 1) t).length)) (q0 + q2) (acc ++ [y])).2
      refine ⟨q3, ?_⟩
      rw [readRow_drop hlt, h2]
      simp only
      rw [h3, List.append_assoc]
      rfl
     ·obtain rfl : t = [] := List.eq_nil_of_length_eq_zero (by omega)
      refine ⟨q0 + q1, ?_⟩
      rw [readRow_drop hlt, writeL, List.append_nil, w3]
      simp only
      rw [readRow_end (by omega)]
  have e : writeR (.mk h P) (.mk ⟨0, []⟩ l) = writeL (.mk h P) 0 l := by rw [writeR_mk, if_neg k0, if_neg k1, if_neg (by omega), if_neg (by omega)]
  rw [e] at hbd
  obtain ⟨g1, g2⟩ := key l 0 0 n (by omega) hwl (by omega) hfit
  obtain ⟨g3, g4⟩ := g2 0 1 []
  refine ⟨by rw [e, g1]; simp, fun ho m => ?_, ?_⟩
  ·obtain ⟨q, hq⟩ := g3 (hshut.2 ho) m
   refine ⟨q, ?_⟩
   rw [e, readR_mk, if_neg k0, if_neg k1, if_neg k4, if_neg k5, if_pos k3]
   exact hq
  ·obtain ⟨q, hq⟩ := g4
   refine ⟨q, ?_⟩
   rw [e, readR_mk, if_neg k0, if_neg k1, if_neg k4, if_neg k5, if_pos k3]
   exact hq
 rw [if_neg (fun hh => k3 hh.1)] at hfit
 have k2 : h.k = 2 := by omega
 obtain ⟨g, rfl, hgc, hgo, hgl⟩ := list_item hck k2
 have hgz := hPz g (by simp)
 obtain ⟨hs1, hs2, hl1, hl2, hl3, hl4, hl5, hl6⟩ := hown.k12 (.inr k2)
 have key : ∀ (ys : List Vt) (j c0 : Nat) (n : Int), (∀ y ∈ ys, wfV y = true) → c0 + (writeL (.mk h [g]) j ys).length ≤ 140737488351232 → fitL (.mk h [g]) c0 j ys = (n, 0) →
   n = wrap64 (h.s + ((c0 + (writeL (.mk h [g]) j ys).length : Nat) : Int)) ∧ mayR ((c0 + (writeL (.mk h [g]) j ys).length : Nat) : Int) h.lo h.hi h.st = 0 ∧
   ∀ fuel off q0 acc, (writeL (.mk h [g]) j ys).length ≤ fuel → ∃ q, iterR (readR g) fuel (writeL (.mk h [g]) j ys) off q0 acc = .got (.mk ⟨0, []⟩ (acc ++ ys)) [] q := by
  intro ys
  induction ys with
  | nil =>
   intro j c0 n _ _ hft
   rw [fitL_nil, if_neg k3] at hft
   injection hft with hn hm
   rw [writeL]
   refine ⟨hn.symm, hm, fun fuel off q0 acc _ => ⟨q0, ?_⟩⟩
   cases fuel with
   | zero => rw [iterR]; simp
   | succ fuel => rw [iterR, if_pos List.length_nil]; simp
  | cons y t iht =>
   intro j c0 n hw hb hft
   have hg : ([g] : List Fm).getD (j % ([g] : List Fm).length) nilF = g := by simp [Nat.mod_one]
   rw [writeL] at hb ⊢
   simp only [RT.l, hg, List.length_append] at hb ⊢
   rw [fitL] at hft
   simp only [RT.l, hg] at hft
   obtain ⟨⟨k, e⟩, hke⟩ : ∃ r, fitR g y = r := ⟨_, rfl⟩
   rw [hke] at hft
   simp only at hft
   by_cases he : e = 0
   rotate_left
   ·rw [if_neg he] at hft
    injection hft with _ h2
    exact absurd h2 he
   subst he
   rw [if_pos rfl] at hft
   obtain ⟨w1, w2, q1, w3⟩ := ih g (by simp) hgz hgc y k (hw y (by simp)) hke (by omega)
   have hleast : leastR g ≤ ((writeR g y).length : Int) := by
    obtain ⟨u, hu, _, hu2, hu3, _⟩ := read_got g hgz hgc (writeR g y) (by omega) y [] q1 w3
    rw [hu3]
    exact hu2
   have hsp := span_sz FH.lo (.inl rfl) g hgz hgc
   have hgl2 : leastR g = spanR FH.lo g := rfl
   subst w1
   rw [w64 (by omega) (by omega), show (c0 : Int) + ((writeR g y).length : Int) = ((c0 + (writeR g y).length : Nat) : Int) by omega] at hft
   obtain ⟨g1, g2, g3⟩ := iht (j + 1) (c0 + (writeR g y).length) n (fun z hz => hw z (by simp [hz])) (by omega) hft
   rw [Nat.add_assoc] at g1 g2
   refine ⟨g1, g2, fun fuel off q0 acc hfu => ?_⟩
   cases fuel with
   | zero => omega
   | succ fuel =>
    obtain ⟨q2, h2⟩ := w2 hgo (writeL (.mk h [g]) (j + 1) t)
    obtain ⟨q3, h3⟩ := g3 fuel (off + ((writeR g y ++ writeL (.mk h [g]) (j + 1) t).length - (writeL (.mk h [g]) (j + 1) t).length)) (q0 + q2) (acc ++ [y]) (by omega)
    refine ⟨q3, ?_⟩
    rw [iterR, if_neg (by rw [List.length_append]; omega), h2]
    simp only
    rw [h3, List.append_assoc]
    rfl
 have e : writeR (.mk h [g]) (.mk ⟨0, []⟩ l) = beB h.s.toNat (writeL (.mk h [g]) 0 l).length ++ writeL (.mk h [g]) 0 l := by rw [writeR_mk, if_neg k0, if_neg k1, if_neg (by omega), if_pos k2]
 rw [e, List.length_append, beB_length] at hbd
 obtain ⟨g1, g2, g3⟩ := key l 0 0 n hwl (by omega) hfit
 rw [Nat.zero_add] at g1 g2
 obtain ⟨m1, m2, m3⟩ := mayR_ok g2
 have hN : (writeL (.mk h [g]) 0 l).length < 256 ^ h.s.toNat := by
  have : (((256 ^ h.s.toNat : Nat)) : Int) = 256 ^ h.s.toNat := by simp
  omega
 rw [w64 (by omega) (by omega)] at g1
 obtain ⟨q, hq⟩ := g3 (writeL (.mk h [g]) 0 l).length h.s.toNat 1 [] (Nat.le_refl _)
 have keyR : ∀ m, readR (.mk h [g]) (beB h.s.toNat (writeL (.mk h [g]) 0 l).length ++ writeL (.mk h [g]) 0 l ++ m) = .got (.mk ⟨0, []⟩ l) m q := by
  intro m
  rw [List.append_assoc, readR_mk, if_neg k0, if_neg k1, if_neg k4, if_neg k5, if_neg k3, lenE_is rfl (by omega) hN g2, if_neg (by simp), readHd_one]
  simp only
  rw [List.drop_left' (beB_length _ _), List.take_left' rfl, hq]
  simp only [List.nil_append]
  rw [← List.append_assoc, List.drop_left' (by rw [List.length_append, beB_length])]
 refine ⟨by rw [e, List.length_append, beB_length]; omega, fun _ m => ⟨q, by rw [e]; exact keyR m⟩, q, by rw [e]; have := keyR []; rwa [List.append_nil] at this⟩
end Go.Proofs.YtdhnfccgojgehaaDoor

namespace Go.Proofs.YtdhnfccgojgehaaDoor
open Go.RowKit

theorem fitL_cons (h : FH) (P : List Fm) (q : Int) (j : Nat) (x : Vt) (t : List Vt) : fitL (.mk h P) q j (x :: t) =
  if (fitR (P.getD (j % P.length) nilF) x).2 = 0 then fitL (.mk h P) (wrap64 (q + (fitR (P.getD (j % P.length) nilF) x).1)) (j + 1) t
  else (0, (fitR (P.getD (j % P.length) nilF) x).2) := by
 rw [fitL]
 rfl
theorem fitL_el {h : FH} {P : List Fm} : ∀ (ys : List Vt) (j : Nat) (c0 n : Int), fitL (.mk h P) c0 j ys = (n, 0) → ∀ i (hi : i < ys.length), ∃ m, fitR (P.getD ((j + i) % P.length) nilF) ys[i] = (m, 0) := by
 intro ys
 induction ys with
 | nil => intro j c0 n _ i hi; simp at hi
 | cons y t ih =>
  intro j c0 n hf i hi
  rw [fitL_cons] at hf
  by_cases he : (fitR (P.getD (j % P.length) nilF) y).2 = 0
  rotate_left
  ·rw [if_neg he] at hf
   injection hf with _ h2
   exact absurd h2 he
  rw [if_pos he] at hf
  cases i with
  | zero => exact ⟨(fitR (P.getD (j % P.length) nilF) y).1, by rw [Nat.add_zero, List.getElem_cons_zero, ← he]⟩
  | succ i =>
   obtain ⟨m, hm⟩ := ih (j + 1) _ n hf i (by simpa using hi)
   exact ⟨m, by rw [show j + (i + 1) = j + 1 + i from by omega, List.getElem_cons_succ]; exact hm⟩
theorem fitL_len {h : FH} {P : List Fm} (k3 : h.k ≠ 3) : ∀ (ys : List Vt) (j c0 : Nat) (n : Int),
  (∀ y ∈ ys, ∀ q m, fitR (P.getD (q % P.length) nilF) y = (m, 0) → (writeR (P.getD (q % P.length) nilF) y).length ≤ 140737488351232 → ((writeR (P.getD (q % P.length) nilF) y).length : Int) = m) →
  c0 + (writeL (.mk h P) j ys).length ≤ 140737488351232 → fitL (.mk h P) c0 j ys = (n, 0) → mayR ((c0 + (writeL (.mk h P) j ys).length : Nat) : Int) h.lo h.hi h.st = 0 := by
 intro ys
 induction ys with
 | nil =>
  intro j c0 n _ _ hf
  rw [fitL_nil, if_neg k3] at hf
  injection hf with _ hm
 | cons y t ih =>
  intro j c0 n hel hb hf
  rw [writeL] at hb ⊢
  rw [fitL_cons] at hf
  simp only [RT.l, List.length_append] at hb ⊢
  obtain ⟨⟨k, e⟩, hke⟩ : ∃ r, fitR (P.getD (j % P.length) nilF) y = r := ⟨_, rfl⟩
  rw [hke] at hf
  simp only at hf
  by_cases he : e = 0
  rotate_left
  ·rw [if_neg he] at hf
   injection hf with _ h2
   exact absurd h2 he
  subst he
  rw [if_pos rfl] at hf
  have hk := hel y (by simp) j k hke (by omega)
  rw [← hk, w64 (by omega) (by omega), show (c0 : Int) + ((writeR (P.getD (j % P.length) nilF) y).length : Int) = ((c0 + (writeR (P.getD (j % P.length) nilF) y).length : Nat) : Int) by omega] at hf
  have := ih (j + 1) _ n (fun z hz => hel z (by simp [hz])) (by omega) hf
  rwa [Nat.add_assoc] at this
theorem writeL_snoc (f : Fm) : ∀ (ys : List Vt) (j : Nat) (x : Vt), writeL f j (ys ++ [x]) = writeL f j ys ++ writeR (f.l.getD ((j + ys.length) % f.l.length) nilF) x := by
 intro ys
 induction ys with
 | nil => intro j x; rw [List.nil_append, writeL, writeL, writeL]; simp
 | cons y t ih =>
  intro j x
  rw [List.cons_append, writeL, ih, writeL, List.append_assoc, List.length_cons, show j + 1 + t.length = j + (t.length + 1) from by omega]
theorem writeL_take (f : Fm) (ys : List Vt) (i : Nat) (hi : i < ys.length) : writeL f 0 (ys.take (i + 1)) = writeL f 0 (ys.take i) ++ writeR (f.l.getD (i % f.l.length) nilF) ys[i] := by
 rw [List.take_succ_eq_append_getElem hi, writeL_snoc, List.length_take, Nat.min_eq_left (by omega), Nat.zero_add]
theorem writeL_le (f : Fm) (ys : List Vt) (i : Nat) (hi : i < ys.length) : (writeL f 0 (ys.take i)).length + (writeR (f.l.getD (i % f.l.length) nilF) ys[i]).length ≤ (writeL f 0 ys).length := by
 have hap : ∀ (a b : List Vt) (j : Nat), (writeL f j a).length ≤ (writeL f j (a ++ b)).length := by
  intro a
  induction a with
  | nil => intro b j; rw [writeL]; simp
  | cons y t ih => intro b j; rw [List.cons_append, writeL, writeL, List.length_append, List.length_append]; have := ih b (j + 1); omega
 have h1 := hap (ys.take (i + 1)) (ys.drop (i + 1)) 0
 rw [List.take_append_drop, writeL_take f ys i hi, List.length_append] at h1
 exact h1

/-- What stands in a value that fits, kind by kind. -/
inductive FitK (h : FH) (P : List Fm) (a : Int) (b : List UInt8) (l : List Vt) : Prop where
 | num (s : Nat) : h.k = 0 → h.s = s → szB s = true → a.toNat < 256 ^ s → a = (a.toNat : Nat) → a.toNat < 18446744073709551616 → FitK h P a b l
 | opq (s : Nat) : h.k = 1 → h.s = s → 1 ≤ s → s ≤ 3 → b.length < 256 ^ s → FitK h P a b l
 | raw : h.k = 4 ∨ h.k = 5 → FitK h P a b l
 | list (s : Nat) : h.k = 2 → h.s = s → 1 ≤ s → s ≤ 3 → (writeL (.mk h P) 0 l).length < 256 ^ s → 0 < P.length → (∀ y ∈ P, checkR y = 0) → (∀ i (hi : i < l.length), ∃ m, fitR (P.getD (i % P.length) nilF) l[i] = (m, 0)) → FitK h P a b l
 | row : h.k = 3 → l.length = P.length → (∀ y ∈ P, checkR y = 0) → (∀ i (hi : i < l.length), ∃ m, fitR (P.getD (i % P.length) nilF) l[i] = (m, 0)) → FitK h P a b l

theorem fit_kinds {h : FH} {P : List Fm} {a : Int} {b : List UInt8} {l : List Vt} {n : Int} (hz : szF (.mk h P) ≤ 100000) (hc : checkR (.mk h P) = 0) (hw : wfV (.mk ⟨a, b⟩ l) = true) (hf : fitR (.mk h P) (.mk ⟨a, b⟩ l) = (n, 0)) (hbd : (writeR (.mk h P) (.mk ⟨a, b⟩ l)).length ≤ 140737488351232) : FitK h P a b l := by
 obtain ⟨hown, hone, h32, hch⟩ := check_ok hc
 obtain ⟨hu64, hbl, hll, hwl⟩ := (wfV_mk _ _).1 hw
 simp only at hu64 hbl hll
 rw [fitR_mk] at hf
 by_cases hal : aloneB h.k a b.length l.length = false
 ·rw [if_pos hal] at hf
  simp at hf
 rw [if_neg hal] at hf
 simp only at hf
 by_cases k0 : h.k = 0
 ·rw [if_pos k0] at hf
  have hs := hown.k0 k0
  have hsb := own_sz hc k0
  split at hf
  ·simp at hf
  rename_i hlt
  have hA : a.toNat < 256 ^ h.s.toNat := by
   have h2 : (256 : Nat) ^ h.s.toNat = 2 ^ (8 * h.s.toNat) := by rw [Nat.pow_mul]
   have h4 : ((2 : Int) ^ (8 * h.s.toNat)) = ((2 ^ (8 * h.s.toNat) : Nat) : Int) := by simp
   unfold u64B at hu64
   by_cases h8 : h.s < 8
   ·have : ¬ (2 : Int) ^ (8 * h.s.toNat) ≤ a := fun hh => hlt ⟨h8, hh⟩
    omega
   ·have h5 : h.s.toNat = 8 := by omega
    rw [h5]
    have h3 : (256 : Nat) ^ 8 = 18446744073709551616 := by decide
    omega
  have es : h.s = (h.s.toNat : Int) := by omega
  unfold u64B at hu64
  exact .num h.s.toNat k0 es (by rw [← es]; exact hsb) hA (by omega) (by omega)
 rw [if_neg k0] at hf
 by_cases k1 : h.k = 1
 ·rw [if_pos k1] at hf
  obtain ⟨hs1, hs2, hl1, hl2, hl3, hl4, hl5, hl6⟩ := hown.k12 (.inl k1)
  injection hf with hn hm
  obtain ⟨m1, m2, m3⟩ := mayR_ok hm
  have hN : b.length < 256 ^ h.s.toNat := by
   have : (((256 ^ h.s.toNat : Nat)) : Int) = 256 ^ h.s.toNat := by simp
   omega
  exact .opq h.s.toNat k1 (by omega) (by omega) (by omega) hN
 rw [if_neg k1] at hf
 have hk := hown.k
 by_cases k4 : h.k = 4
 ·exact .raw (.inl k4)
 rw [if_neg k4] at hf
 by_cases k5 : h.k = 5
 ·exact .raw (.inr k5)
 rw [if_neg k5] at hf
 have hk23 : h.k = 2 ∨ h.k = 3 := by omega
 have hPc : ∀ y ∈ P, checkR y = 0 := (hch hk23).1
 rw [szF_mk, if_pos hk23] at hz
 have hPz : ∀ y ∈ P, szF y ≤ 100000 := fun y hy => by have := szL_mem hy; omega
 by_cases k3 : h.k = 3
 ·by_cases hlen : l.length = P.length
  rotate_left
  ·rw [if_pos ⟨k3, hlen⟩] at hf
   simp at hf
  rw [if_neg (fun hh => hh.2 hlen)] at hf
  refine .row k3 hlen hPc (fun i hi => ?_)
  obtain ⟨m, hm⟩ := fitL_el l 0 0 n hf i hi
  exact ⟨m, by rwa [Nat.zero_add] at hm⟩
 rw [if_neg (fun hh => k3 hh.1)] at hf
 have k2 : h.k = 2 := by omega
 obtain ⟨g, rfl, hgc, hgo, hgl⟩ := list_item hc k2
 obtain ⟨hs1, hs2, hl1, hl2, hl3, hl4, hl5, hl6⟩ := hown.k12 (.inr k2)
 have e : writeR (.mk h [g]) (.mk ⟨a, b⟩ l) = beB h.s.toNat (writeL (.mk h [g]) 0 l).length ++ writeL (.mk h [g]) 0 l := by rw [writeR_mk, if_neg k0, if_neg k1, if_neg (by omega), if_pos k2]
 rw [e, List.length_append, beB_length] at hbd
 have hg : ∀ q, ([g] : List Fm).getD (q % ([g] : List Fm).length) nilF = g := fun q => by simp [Nat.mod_one]
 have hm := fitL_len (h := h) (P := [g]) k3 l 0 0 n (fun y hy q m hq hqb => by
  rw [hg] at hq hqb ⊢
  exact (write_got g (hPz g (by simp)) hgc y m (hwl y hy) hq hqb).1) (by omega) hf
 rw [Nat.zero_add] at hm
 obtain ⟨m1, m2, m3⟩ := mayR_ok hm
 have hN : (writeL (.mk h [g]) 0 l).length < 256 ^ h.s.toNat := by
  have : (((256 ^ h.s.toNat : Nat)) : Int) = 256 ^ h.s.toNat := by simp
  omega
 refine .list h.s.toNat k2 (by omega) (by omega) (by omega) hN (by simp) hPc (fun i hi => ?_)
 obtain ⟨m, hm⟩ := fitL_el l 0 0 n hf i hi
 exact ⟨m, by rwa [Nat.zero_add] at hm⟩
end Go.Proofs.YtdhnfccgojgehaaDoor

namespace Go.Proofs.YtdhnfccgojgehaaDoor
open Go.RowKit
set_option maxRecDepth 100000

theorem BStep.wide {ok ok' : Nat → Prop} {g most : Nat} {bs : List UInt8} {ps : List (Nat × Nat)} {w w2 : World} {e : Ending} (h : BStep (fun i => ok i ∧ i < w.heap.size) g bs most ps w e w2) (hok : ∀ i, ok i → ok' i) : BStep ok' g bs most ps w e w2 := by
 obtain ⟨h1, h2, h3⟩ := h
 exact ⟨h1, h2.mono (fun i _ hi => hi.imp (fun h => hok i h.1) id), h3.mono (fun i _ h => hok i h.1)⟩
/-- What laying a value of a form does. -/
def LayC (f : Fm) : Prop := ∀ (ok okr : Nat → Prop) (g : Nat) (bs : List UInt8) (most : Nat) (ps : List (Nat × Nat)) (x : Vt) (n : Int) (fv vv : Value) (w : World),
 checkR f = 0 → fitR f x = (n, 0) → wfV x = true → Bld w ok g bs most ps → FmR w okr fv f → VtR w okr vv x → (∀ i, okr i → i < w.heap.size ∧ ¬ ok i) →
 bs.length + (writeR f x).length ≤ most → ps.length + szF f ≤ 1000000 →
 Calls Tryd.prog 37 #[.pointer (some ⟨g, 0, none⟩), fv, vv] w (BStep ok g (bs ++ writeR f x) most ps w)

theorem FmR.here {w : World} {ok : Nat → Prop} {k s lo hi st : Int} {sv : Value} {P : List Fm} (h : FmR w ok (.agg #[.int .i64 k, .int .i64 s, .int .i64 lo, .int .i64 hi, .int .i64 st, sv]) (.mk ⟨k, s, lo, hi, st⟩ P)) : FsR w ok sv P := by
 obtain ⟨sv', e, _, h2⟩ := h
 simp [RT.a] at e
 subst e
 exact h2
theorem FsR.len {w : World} {ok : Nat → Prop} {A : Option Addr} {n c : Nat} {l : List Fm} (h : FsR w ok (.slice A n c) l) : n = l.length ∧ n ≤ c ∧ n ≤ 140737488355328 := by
 obtain ⟨A', c', e, h1, h2, _⟩ := h
 injection e with _ e2 e3
 omega

set_option maxHeartbeats 6400000 in
theorem wall_any (k s lo hi st : Int) (P : List Fm) (hC : ∀ y ∈ P, LayC y) (ok okr : Nat → Prop) (g : Nat) (bs : List UInt8) (most : Nat) (ps : List (Nat × Nat)) (l : List Vt) (A A0 : Option Addr) (c c0 : Nat) (w : World)
  (hel : ∀ i (hi : i < l.length), ∃ m, fitR (P.getD (i % P.length) nilF) l[i] = (m, 0)) (hP : 0 < l.length → 0 < P.length) (hck : ∀ y ∈ P, checkR y = 0) (hwf : ∀ y ∈ l, wfV y = true)
  (hb : Bld w ok g bs most ps) (hf : FmR w okr (.agg #[.int .i64 k, .int .i64 s, .int .i64 lo, .int .i64 hi, .int .i64 st, .slice A0 P.length c0]) (.mk ⟨k, s, lo, hi, st⟩ P)) (hl : VsR w okr (.slice A l.length c) l)
  (hr : ∀ i, okr i → i < w.heap.size ∧ ¬ ok i) (hlen : bs.length + (writeL (.mk ⟨k, s, lo, hi, st⟩ P) 0 l).length ≤ most) (hps : ∀ y ∈ P, ps.length + szF y ≤ 1000000) :
  Calls Tryd.prog 54 #[.pointer (some ⟨g, 0, none⟩), .agg #[.int .i64 k, .int .i64 s, .int .i64 lo, .int .i64 hi, .int .i64 st, .slice A0 P.length c0], .slice A l.length c] w (BStep ok g (bs ++ writeL (.mk ⟨k, s, lo, hi, st⟩ P) 0 l) most ps w) := by
 have ka : Kp (fun _ => False) w (w.alloc (.cells #[.int .i64 k, .int .i64 s, .int .i64 lo, .int .i64 hi, .int .i64 st, .slice A0 P.length c0] 24)) := (Kp.refl _ w).alloc _
 have q4 := Blk.new w 24 #[.int .i64 k, .int .i64 s, .int .i64 lo, .int .i64 hi, .int .i64 st, .slice A0 P.length c0]
 obtain ⟨hl0, hl1, hl2⟩ := hl.len
 have hb1 : Bld w (fun i => ok i ∧ i < w.heap.size) g bs most ps := hb.mono (fun i h1 h2 => ⟨h2, h1⟩)
 have hsz0 : (w.alloc (.cells #[.int .i64 k, .int .i64 s, .int .i64 lo, .int .i64 hi, .int .i64 st, .slice A0 P.length c0] 24)).heap.size = w.heap.size + 1 := World.size_alloc _ _
 obtain ⟨_, hP3, hP4⟩ := hf.here.len
 have HKA := Lib.hid ka
 have HQ4 := Lib.hid q4
 have HB := Lib.hid (hb1.kp ka (fun _ _ h => h))
 have HF := Lib.hid (fun W (hk : Kp (fun i => ok i ∧ i < w.heap.size) w W) => hf.kp hk (fun i hi h => (hr i hi).2 h.1))
 have HL := Lib.hid (fun W (hk : Kp (fun i => ok i ∧ i < w.heap.size) w W) => hl.kp hk (fun i hi h => (hr i hi).2 h.1))
 have HS := Lib.hid hsz0
 have HC := Lib.hid hC
 have HN := Lib.hid (And.intro hel (And.intro hP (And.intro hck (And.intro hwf (And.intro hr (And.intro hlen hps))))))
 clear ka q4 hb hb1 hf hl hr hlen hps hel hP hck hwf hC hsz0 hl0
 go_enter Tryd.func54, Tryd.ntmps54
 go_upto_region 1 with fail
 generalize w.alloc (.cells #[.int .i64 k, .int .i64 s, .int .i64 lo, .int .i64 hi, .int .i64 st, .slice A0 P.length c0] 24) = W0 at HKA HQ4 HB HS ⊢
 go_wp2_with fail
 go_loopw [12] (fun i wr => ∃ j : Nat, j ≤ l.length ∧ i = .int .i64 j ∧ Bld wr (fun i => (ok i ∧ i < w.heap.size) ∨ W0.heap.size ≤ i) g (bs ++ writeL (.mk ⟨k, s, lo, hi, st⟩ P) 0 (l.take j)) most ps ∧ Kp (fun i => ok i ∧ i < w.heap.size) W0 wr) (fun i _ => l.length - (intOf i).toNat)
 case atStart => exact ⟨0, Nat.zero_le _, rfl, by rw [List.take_zero, writeL, List.append_nil]; exact HB.out.mono (fun i _ h => .inl h), Kp.refl _ _⟩
 case round =>
  obtain ⟨j, hj, rfl, hbr, hkr⟩ := hrel
  have hkw := (HKA.out.mono (T := fun i => ok i ∧ i < w.heap.size) (fun _ _ h => h.elim)).then_ hkr (fun i h => .inl h)
  have HB4 := Lib.hid (HQ4.out.kp hkr (fun h => absurd h.2 (Nat.lt_irrefl _)))
  have HKR := Lib.hid hkr
  have HKW := Lib.hid hkw
  have HBR := Lib.hid hbr
  clear hkr hkw hbr
  by_cases hlt : j < l.length
  ·have hP0 : 0 < P.length := HN.out.2.1 (by omega)
   obtain ⟨q, hq, m, hm, hmemP, hstep, hle, hmod⟩ : ∃ q, ∃ hq : q < P.length, ∃ m, fitR (P[q]'hq) l[j] = (m, 0) ∧ (P[q]'hq) ∈ P ∧ writeL (.mk ⟨k, s, lo, hi, st⟩ P) 0 (l.take (j + 1)) = writeL (.mk ⟨k, s, lo, hi, st⟩ P) 0 (l.take j) ++ writeR (P[q]'hq) l[j] ∧
     (writeL (.mk ⟨k, s, lo, hi, st⟩ P) 0 (l.take j)).length + (writeR (P[q]'hq) l[j]).length ≤ (writeL (.mk ⟨k, s, lo, hi, st⟩ P) 0 l).length ∧ ((j : Int)).tmod (P.length : Int) = (q : Int) := by
    have hq : j % P.length < P.length := Nat.mod_lt _ hP0
    obtain ⟨m, hm⟩ := HN.out.1 j hlt
    have hgd : P.getD (j % P.length) nilF = P[j % P.length] := by simp [hq]
    have hstep := writeL_take (.mk ⟨k, s, lo, hi, st⟩ P) l j hlt
    have hle := writeL_le (.mk ⟨k, s, lo, hi, st⟩ P) l j hlt
    simp only [RT.l] at hstep hle
    rw [hgd] at hm hstep hle
    exact ⟨j % P.length, hq, m, hm, List.getElem_mem hq, hstep, hle, by rw [Int.tmod_eq_emod_of_nonneg (by omega)]; rfl⟩
   have hmemL : l[j] ∈ l := List.getElem_mem hlt
   obtain ⟨bo, off, A1, c1, A2, c2, rfl, hob, hvx, x0, x1, x2⟩ := (HL.out wr HKW.out).at_ hlt
   have hfs := (HF.out wr HKW.out).here
   obtain ⟨bp, offp, A4, c4, rfl, hop4, hfp, p0, p1, p2, p3, p4, p5⟩ := hfs.at_ hq
   have HFS := Lib.hid hfs
   have HLA := Lib.hid (HC.out _ hmemP)
   have HVX := Lib.hid hvx
   have HX := Lib.hid (And.intro hm (And.intro hmemP (And.intro hmemL (And.intro hstep hle))))
   have HMD := Lib.hid hmod
   have hi0 : (0 : Int) ≤ (j : Int) := by omega
   have hi1 : (j : Int) < (l.length : Int) := by omega
   have hpl : (P.length : Int) ≠ 0 := by omega
   have g5 := HB4.out.cell 5
   simp at g5
   clear hvx hm hmemP hmemL hstep hle hmod hfs
   go_upto_region 4 with fail
   have hk5 : Kp (fun _ => False) wr (wr.alloc (.cells #[.int .u64 (l[j]).a.n, .slice A1 (l[j]).a.b.length c1, .slice A2 (l[j]).l.length c2] 31)) := (Kp.refl _ wr).alloc _
   have hq8 := Blk.new wr 31 #[.int .u64 (l[j]).a.n, .slice A1 (l[j]).a.b.length c1, .slice A2 (l[j]).l.length c2]
   have hg4 := HB4.out.kp hk5 (fun h => h)
   have hfs5 := FsR.kp HFS.out hk5 (fun _ _ h => h)
   generalize wr.alloc (.cells #[.int .u64 (l[j]).a.n, .slice A1 (l[j]).a.b.length c1, .slice A2 (l[j]).l.length c2] 31) = W5 at hk5 hq8 hg4 hfs5 ⊢
   generalize wr.heap.size = b8 at hq8 ⊢
   clear x0 x1 x2 g5 p0 p1 p2 p3 p4 p5 hfp
   obtain ⟨bp', offp', A3, c3, e, hop, hfp, p0, p1, p2, p3, p4, p5⟩ := hfs5.at_ hq
   obtain ⟨rfl, rfl⟩ : bp = bp' ∧ offp = offp' := by injection e with e; injection e with e1 e2; exact ⟨e1, e2⟩
   clear e
   have g5 := hg4.cell 5
   have y0 := hq8.cell 0
   have y1 := hq8.cell 1
   have y2 := hq8.cell 2
   simp at g5 y0 y1 y2
   generalize hpq : P[q] = pq at hfp p0 p1 p2 p3 p4 p5 HLA HX
   have HK5 := Lib.hid hk5
   have HG4 := Lib.hid hg4
   have HPQ := Lib.hid hpq
   have HFP := Lib.hid hfp
   clear hk5 hg4 hq8 hpq hfs5 hfp
   have hmod := HMD.out
   have hpne : ¬ P = [] := fun h => by rw [h] at hpl; simp at hpl
   have hq0 : (0 : Int) ≤ (q : Int) := by omega
   have hq1 : (q : Int) < (P.length : Int) := by omega
   go_still_tail 11, (by kernel_rfl)
   change wpList _ _ _ _ _ W5.drew
   have hk6 := HK5.out.drew
   have hg6 := HG4.out.kp ((Kp.refl (fun _ => False) W5).drew) (fun h => h)
   have hf6 := FmR.kp HFP.out ((Kp.refl (fun _ => False) W5).drew) (fun _ _ h => h)
   have hv6 := VtR.kp HVX.out hk6 (fun _ _ h => h)
   have hb6 := Bld.kp HBR.out hk6 (fun _ _ h => h)
   clear g5 y0 y1 y2 p0 p1 p2 p3 p4 p5
   generalize W5.drew = W6 at hk6 hg6 hf6 hv6 hb6 ⊢
   obtain ⟨hm, hmemP, hmemL, hstep, hle⟩ := HX.out
   obtain ⟨_, _, hck, hwf, hr, hlen, hps⟩ := HN.out
   have hsw : w.heap.size ≤ W6.heap.size := Nat.le_trans HKW.out.size hk6.size
   have hlay := HLA.out (fun i => (ok i ∧ i < w.heap.size) ∨ W0.heap.size ≤ i) okr g _ most ps l[j] m _ _ W6 (hck _ hmemP) hm (hwf _ hmemL) hb6 hf6 hv6
    (fun i hi => ⟨Nat.lt_of_lt_of_le (hr i hi).1 hsw, fun h => by
     have := HS.out
     have := hr i hi
     rcases h with h | h
     ·exact this.2 h.1
     ·omega⟩) (by rw [List.length_append]; omega) (hps _ hmemP)
   rw [List.append_assoc, ← hstep] at hlay
   have HLY := Lib.hid hlay
   have HK6 := Lib.hid hk6
   have HG6 := Lib.hid hg6
   clear hm hmemP hmemL hstep hle hck hwf hr hlen hps hsw hlay hk6 hg6 hf6 hv6 hb6
   go_wp2_with fail
   refine HLY.out.mono ?_
   rintro e w7 ⟨rfl, hb7, hk7⟩
   have HB7 := Lib.hid hb7
   have HK7 := Lib.hid hk7
   clear hb7 hk7
   go_wp2_with fail
   go_roundw
   case rel =>
    refine ⟨j + 1, by omega, by go_num, HB7.out.mono (fun i _ h => ?_), ?_⟩
    ·rcases h with h | h
     ·exact h
     ·exact .inr (Nat.le_trans HKR.out.size (Nat.le_trans HK6.out.size h))
    ·exact (HKR.out.then_ HK6.out (fun _ h => h.elim)).then_ HK7.out (fun i h => h)
   case measure => simp [intOf]; omega
  ·have hjl : j = l.length := by omega
   subst hjl
   have HB7 := HBR.out
   rw [List.take_length] at HB7
   have HB8 := Lib.hid HB7
   clear HB7
   go_wp2_with fail
   go_ret
   exact BStep.wide (BStep.after ⟨rfl, HB8.out, HKR.out⟩ HKA.out) (fun _ h => h)
end Go.Proofs.YtdhnfccgojgehaaDoor

namespace Go.Proofs.YtdhnfccgojgehaaDoor
open Go.RowKit
set_option maxRecDepth 100000

set_option maxHeartbeats 1600000 in
/-- The closure that lays a list. -/
theorem clos2_ok (ok : Nat → Prop) (bs : List UInt8) (most : Nat) (ps : List (Nat × Nat)) (g q3 q4 q5 : Nat) (w : World) (k s lo hi st : Int) (A0 A2 : Option Addr) (p0 c0 l2 c2 : Nat)
  (hA : Calls Tryd.prog 54 #[.pointer (some ⟨g, 0, none⟩), .agg #[.int .i64 k, .int .i64 s, .int .i64 lo, .int .i64 hi, .int .i64 st, .slice A0 p0 c0], .slice A2 l2 c2] w (BStep ok g bs most ps w))
  (h3 : w.cell? ⟨q3, 0, none⟩ = some (.pointer (some ⟨g, 0, none⟩))) (h4 : Blk w q4 24 #[.int .i64 k, .int .i64 s, .int .i64 lo, .int .i64 hi, .int .i64 st, .slice A0 p0 c0]) (h5 : w.cell? ⟨q5, 2, none⟩ = some (.slice A2 l2 c2)) :
  Calls Tryd.prog 53 #[.pointer (some ⟨q3, 0, none⟩), .pointer (some ⟨q4, 0, none⟩), .pointer (some ⟨q5, 0, none⟩)] w (BStep ok g bs most ps w) := by
 have HA := Lib.hid hA
 have x0 := h4.cell 0
 have x1 := h4.cell 1
 have x2 := h4.cell 2
 have x3 := h4.cell 3
 have x4 := h4.cell 4
 have x5 := h4.cell 5
 simp at x0 x1 x2 x3 x4 x5
 clear hA h4
 go_enter Tryd.func53, Tryd.ntmps53
 go_wp2_with fail
 refine HA.out.mono ?_
 rintro e w1 ⟨rfl, hb1, hk1⟩
 have HZ := Lib.hid (And.intro hb1 hk1)
 clear hb1 hk1 x0 x1 x2 x3 x4 x5 h3 h5 HA
 go_wp2_with fail
 go_ret
 exact ⟨rfl, HZ.out.1, HZ.out.2⟩

set_option maxHeartbeats 3200000 in
theorem lay_list (ok okr : Nat → Prop) (g : Nat) (bs u : List UInt8) (most : Nat) (ps : List (Nat × Nat)) (w : World) (hb : Bld w ok g bs most ps) (s : Nat) (h1 : 1 ≤ s) (h3 : s ≤ 3) (hu : u.length < 256 ^ s) (hlen : bs.length + s + u.length ≤ most) (hps : ps.length ≤ 1000000) (hr : ∀ i, okr i → i < w.heap.size ∧ ¬ ok i) (lo hi st n : Int) (A0 A1 A2 : Option Addr) (p0 c0 l1 c1 l2 c2 : Nat)
  (hA : ∀ (ok' : Nat → Prop) (bs' : List UInt8) (ps' : List (Nat × Nat)) (W : World), Kp (fun i => ok i ∧ i < w.heap.size) w W → Bld W ok' g bs' most ps' → (∀ i, okr i → i < w.heap.size ∧ ¬ ok' i) → bs'.length + u.length ≤ most → ps'.length ≤ ps.length + 1 → Calls Tryd.prog 54 #[.pointer (some ⟨g, 0, none⟩), .agg #[.int .i64 2, .int .i64 s, .int .i64 lo, .int .i64 hi, .int .i64 st, .slice A0 p0 c0], .slice A2 l2 c2] W (BStep ok' g (bs' ++ u) most ps' W)) :
  Calls Tryd.prog 37 #[.pointer (some ⟨g, 0, none⟩), .agg #[.int .i64 2, .int .i64 s, .int .i64 lo, .int .i64 hi, .int .i64 st, .slice A0 p0 c0], .agg #[.int .u64 n, .slice A1 l1 c1, .slice A2 l2 c2]] w (BStep ok g (bs ++ (beB s u.length ++ u)) most ps w) := by
 have hb' : Bld w (fun i => ok i ∧ i < w.heap.size) g bs most ps := hb.mono (fun i h1 h2 => ⟨h2, h1⟩)
 have ka := ((((Kp.refl (fun _ => False) w).alloc (.cells #[.pointer (some ⟨g, 0, none⟩)] 68)).alloc (.cells #[.int .i64 2, .int .i64 s, .int .i64 lo, .int .i64 hi, .int .i64 st, .slice A0 p0 c0] 24)).alloc (.cells #[.int .u64 n, .slice A1 l1 c1, .slice A2 l2 c2] 31))
 have q3 := ((Blk.new w 68 #[.pointer (some ⟨g, 0, none⟩)]).alloc (.cells #[.int .i64 2, .int .i64 s, .int .i64 lo, .int .i64 hi, .int .i64 st, .slice A0 p0 c0] 24)).alloc (.cells #[.int .u64 n, .slice A1 l1 c1, .slice A2 l2 c2] 31)
 have q4 := (Blk.new (w.alloc (.cells #[.pointer (some ⟨g, 0, none⟩)] 68)) 24 #[.int .i64 2, .int .i64 s, .int .i64 lo, .int .i64 hi, .int .i64 st, .slice A0 p0 c0]).alloc (.cells #[.int .u64 n, .slice A1 l1 c1, .slice A2 l2 c2] 31)
 have q5 := Blk.new ((w.alloc (.cells #[.pointer (some ⟨g, 0, none⟩)] 68)).alloc (.cells #[.int .i64 2, .int .i64 s, .int .i64 lo, .int .i64 hi, .int .i64 st, .slice A0 p0 c0] 24)) 31 #[.int .u64 n, .slice A1 l1 c1, .slice A2 l2 c2]
 have e3 : w.heap.size ≤ w.heap.size := Nat.le_refl _
 have e4 : w.heap.size ≤ w.heap.size + 1 := by omega
 have e5 : w.heap.size ≤ w.heap.size + 1 + 1 := by omega
 simp only [World.size_alloc] at q4 q5
 have HI := Lib.hid (fun (W : World) (k3 k4 k5 : Nat) (hk : Kp (fun _ => False) w W) (j3 : Blk W k3 68 #[.pointer (some ⟨g, 0, none⟩)]) (j4 : Blk W k4 24 #[.int .i64 2, .int .i64 s, .int .i64 lo, .int .i64 hi, .int .i64 st, .slice A0 p0 c0]) (j5 : Blk W k5 31 #[.int .u64 n, .slice A1 l1 c1, .slice A2 l2 c2]) (e3 : w.heap.size ≤ k3) (e4 : w.heap.size ≤ k4) (e5 : w.heap.size ≤ k5) =>
  inside_ok (fun i => ok i ∧ i < w.heap.size) g bs u most ps s h1 h3 W (hb'.kp hk (fun _ _ h => h)) 53 #[.pointer (some ⟨k3, 0, none⟩), .pointer (some ⟨k4, 0, none⟩), .pointer (some ⟨k5, 0, none⟩)] (entersW Tryd.func53 (by kernel_rfl) rfl) hu hlen hps
   (fun w1 hk1 hb1 => clos2_ok _ _ _ _ g k3 k4 k5 w1 2 s lo hi st A0 A2 p0 c0 l2 c2
    (hA _ _ _ w1 ((hk.mono (T := fun i => ok i ∧ i < w.heap.size) (fun _ _ h => h.elim)).then_ hk1 (fun i h => .inl h)) hb1
     (fun i hi => ⟨(hr i hi).1, fun h => by
      rcases h with h | h
      ·exact (hr i hi).2 h.1
      ·have := (hr i hi).1
       have := hk.size
       omega⟩) (by simp only [List.length_append, List.length_replicate]; omega) (by simp))
    ((j3.kp hk1 (fun h => by omega)).cell 0) (j4.kp hk1 (fun h => by omega)) ((j5.kp hk1 (fun h => by omega)).cell 2)))
 have HKA := Lib.hid ka
 have HQ3 := Lib.hid q3
 have HQ4 := Lib.hid q4
 have HQ5 := Lib.hid q5
 have HE3 := Lib.hid e3
 have HE4 := Lib.hid e4
 have HE5 := Lib.hid e5
 clear ka q3 q4 q5 hb hb' hu hlen hps h1 h3 hr e3 e4 e5 hA
 go_enter Tryd.func37, Tryd.ntmps37
 go_upto_region 1 with fail
 generalize (((w.alloc (.cells #[.pointer (some ⟨g, 0, none⟩)] 68)).alloc (.cells #[.int .i64 2, .int .i64 s, .int .i64 lo, .int .i64 hi, .int .i64 st, .slice A0 p0 c0] 24)).alloc (.cells #[.int .u64 n, .slice A1 l1 c1, .slice A2 l2 c2] 31)) = W3 at HKA HQ3 HQ4 HQ5 ⊢
 have HCI := Lib.hid (HI.out W3 _ (w.heap.size + 1) (w.heap.size + 1 + 1) HKA.out HQ3.out HQ4.out HQ5.out HE3.out HE4.out HE5.out)
 have x3 := HQ3.out.cell 0
 have x40 := HQ4.out.cell 0
 have x41 := HQ4.out.cell 1
 have x42 := HQ4.out.cell 2
 have x43 := HQ4.out.cell 3
 have x44 := HQ4.out.cell 4
 have x45 := HQ4.out.cell 5
 have x50 := HQ5.out.cell 0
 have x51 := HQ5.out.cell 1
 have x52 := HQ5.out.cell 2
 simp at x3 x40 x41 x42 x43 x44 x45 x50 x51 x52
 clear HI HQ3 HQ4 HQ5 HE3 HE4 HE5
 go_wp2_with fail
 refine HCI.out.mono ?_
 rintro e w1 hs
 obtain ⟨rfl, hb1, hk1⟩ := hs.after HKA.out
 have HQ := Lib.hid (And.intro (hb1.mono (ok' := fun i => ok i ∨ w.heap.size ≤ i) (fun i _ h => h.imp (·.1) id)) (hk1.mono (T := ok) (fun _ _ h => h.1)))
 clear hb1 hk1 hs HCI
 go_wp2_with fail
 go_ret
 exact ⟨rfl, HQ.out.1, HQ.out.2⟩

set_option maxHeartbeats 3200000 in
theorem lay_row (ok okr : Nat → Prop) (g : Nat) (bs u : List UInt8) (most : Nat) (ps : List (Nat × Nat)) (w : World) (hb : Bld w ok g bs most ps) (hlen : bs.length + u.length ≤ most) (hr : ∀ i, okr i → i < w.heap.size ∧ ¬ ok i) (s lo hi st n : Int) (A0 A1 A2 : Option Addr) (p0 c0 l1 c1 l2 c2 : Nat)
  (hA : ∀ (ok' : Nat → Prop) (bs' : List UInt8) (ps' : List (Nat × Nat)) (W : World), Kp (fun i => ok i ∧ i < w.heap.size) w W → Bld W ok' g bs' most ps' → (∀ i, okr i → i < w.heap.size ∧ ¬ ok' i) → bs'.length + u.length ≤ most → ps'.length ≤ ps.length + 1 → Calls Tryd.prog 54 #[.pointer (some ⟨g, 0, none⟩), .agg #[.int .i64 3, .int .i64 s, .int .i64 lo, .int .i64 hi, .int .i64 st, .slice A0 p0 c0], .slice A2 l2 c2] W (BStep ok' g (bs' ++ u) most ps' W)) :
  Calls Tryd.prog 37 #[.pointer (some ⟨g, 0, none⟩), .agg #[.int .i64 3, .int .i64 s, .int .i64 lo, .int .i64 hi, .int .i64 st, .slice A0 p0 c0], .agg #[.int .u64 n, .slice A1 l1 c1, .slice A2 l2 c2]] w (BStep ok g (bs ++ u) most ps w) := by
 have hb' : Bld w (fun i => ok i ∧ i < w.heap.size) g bs most ps := hb.mono (fun i h1 h2 => ⟨h2, h1⟩)
 have ka := ((((Kp.refl (fun _ => False) w).alloc (.cells #[.pointer (some ⟨g, 0, none⟩)] 68)).alloc (.cells #[.int .i64 3, .int .i64 s, .int .i64 lo, .int .i64 hi, .int .i64 st, .slice A0 p0 c0] 24)).alloc (.cells #[.int .u64 n, .slice A1 l1 c1, .slice A2 l2 c2] 31))
 have q3 := ((Blk.new w 68 #[.pointer (some ⟨g, 0, none⟩)]).alloc (.cells #[.int .i64 3, .int .i64 s, .int .i64 lo, .int .i64 hi, .int .i64 st, .slice A0 p0 c0] 24)).alloc (.cells #[.int .u64 n, .slice A1 l1 c1, .slice A2 l2 c2] 31)
 have q4 := (Blk.new (w.alloc (.cells #[.pointer (some ⟨g, 0, none⟩)] 68)) 24 #[.int .i64 3, .int .i64 s, .int .i64 lo, .int .i64 hi, .int .i64 st, .slice A0 p0 c0]).alloc (.cells #[.int .u64 n, .slice A1 l1 c1, .slice A2 l2 c2] 31)
 have q5 := Blk.new ((w.alloc (.cells #[.pointer (some ⟨g, 0, none⟩)] 68)).alloc (.cells #[.int .i64 3, .int .i64 s, .int .i64 lo, .int .i64 hi, .int .i64 st, .slice A0 p0 c0] 24)) 31 #[.int .u64 n, .slice A1 l1 c1, .slice A2 l2 c2]
 have e3 : w.heap.size ≤ w.heap.size := Nat.le_refl _
 have e4 : w.heap.size ≤ w.heap.size + 1 := by omega
 have e5 : w.heap.size ≤ w.heap.size + 1 + 1 := by omega
 simp only [World.size_alloc] at q4 q5
 have HI := Lib.hid (fun (W : World) (hk : Kp (fun _ => False) w W) =>
  hA (fun i => ok i ∧ i < w.heap.size) bs ps W (hk.mono (T := fun i => ok i ∧ i < w.heap.size) (fun _ _ h => h.elim)) (hb'.kp hk (fun _ _ h => h)) (fun i hi => ⟨(hr i hi).1, fun h => (hr i hi).2 h.1⟩) hlen (by omega))
 have HKA := Lib.hid ka
 have HQ3 := Lib.hid q3
 have HQ4 := Lib.hid q4
 have HQ5 := Lib.hid q5
 have HE3 := Lib.hid e3
 have HE4 := Lib.hid e4
 have HE5 := Lib.hid e5
 clear ka q3 q4 q5 hb hb' hlen hr e3 e4 e5 hA
 go_enter Tryd.func37, Tryd.ntmps37
 go_upto_region 1 with fail
 generalize (((w.alloc (.cells #[.pointer (some ⟨g, 0, none⟩)] 68)).alloc (.cells #[.int .i64 3, .int .i64 s, .int .i64 lo, .int .i64 hi, .int .i64 st, .slice A0 p0 c0] 24)).alloc (.cells #[.int .u64 n, .slice A1 l1 c1, .slice A2 l2 c2] 31)) = W3 at HKA HQ3 HQ4 HQ5 ⊢
 have HCI := Lib.hid (HI.out W3 HKA.out)
 have x3 := HQ3.out.cell 0
 have x40 := HQ4.out.cell 0
 have x41 := HQ4.out.cell 1
 have x42 := HQ4.out.cell 2
 have x43 := HQ4.out.cell 3
 have x44 := HQ4.out.cell 4
 have x45 := HQ4.out.cell 5
 have x50 := HQ5.out.cell 0
 have x51 := HQ5.out.cell 1
 have x52 := HQ5.out.cell 2
 simp at x3 x40 x41 x42 x43 x44 x45 x50 x51 x52
 clear HI HQ3 HQ4 HQ5 HE3 HE4 HE5
 go_wp2_with fail
 refine HCI.out.mono ?_
 rintro e w1 hs
 obtain ⟨rfl, hb1, hk1⟩ := hs.after HKA.out
 have HQ := Lib.hid (And.intro (hb1.mono (ok' := fun i => ok i ∨ w.heap.size ≤ i) (fun i _ h => h.imp (·.1) id)) (hk1.mono (T := ok) (fun _ _ h => h.1)))
 clear hb1 hk1 hs HCI
 go_wp2_with fail
 go_ret
 exact ⟨rfl, HQ.out.1, HQ.out.2⟩

end Go.Proofs.YtdhnfccgojgehaaDoor

namespace Go.Proofs.YtdhnfccgojgehaaDoor
open Go.RowKit
set_option maxRecDepth 100000

theorem wlay_any (f : Fm) : szF f ≤ 100000 → LayC f := by
 induction f using RT.induct with
 | h h P ih =>
 intro hz ok okr g bs most ps x n fv vv w hc hf hw hb hfm hv hr hlen hps
 obtain ⟨k, s, lo, hi, st⟩ := h
 obtain ⟨⟨a, b⟩, l⟩ := x
 have hm2 : most ≤ 1073741824 := hb.2.2.1
 have hfk := fit_kinds hz hc hw hf (by omega)
 obtain ⟨A0, c0, rfl⟩ : ∃ A c, fv = .agg #[.int .i64 k, .int .i64 s, .int .i64 lo, .int .i64 hi, .int .i64 st, .slice A P.length c] := by
  obtain ⟨sv, e, _, A, c, e2, _⟩ := id hfm
  subst e2
  exact ⟨A, c, e⟩
 obtain ⟨A1, c1, A2, c2, rfl, hn, hb1, hb2, hbr, hl1, hl2, hvs⟩ := hv.parts
 obtain ⟨_, _, _, hwl⟩ := (wfV_mk _ _).1 hw
 have hall : (k = 2 ∨ k = 3) → 0 < P.length ∨ l = [] → (∀ y ∈ P, checkR y = 0) → (∀ i (hi : i < l.length), ∃ m, fitR (P.getD (i % P.length) nilF) l[i] = (m, 0)) →
   ∀ (ok' : Nat → Prop) (bs' : List UInt8) (ps' : List (Nat × Nat)) (W : World), Kp (fun i => ok i ∧ i < w.heap.size) w W → Bld W ok' g bs' most ps' → (∀ i, okr i → i < w.heap.size ∧ ¬ ok' i) → bs'.length + (writeL (.mk ⟨k, s, lo, hi, st⟩ P) 0 l).length ≤ most → ps'.length ≤ ps.length + 1 →
    Calls Tryd.prog 54 #[.pointer (some ⟨g, 0, none⟩), .agg #[.int .i64 k, .int .i64 s, .int .i64 lo, .int .i64 hi, .int .i64 st, .slice A0 P.length c0], .slice A2 l.length c2] W (BStep ok' g (bs' ++ writeL (.mk ⟨k, s, lo, hi, st⟩ P) 0 l) most ps' W) := by
  intro hk hP hck hel ok' bs' ps' W hkW hbW hrW hlW hpW
  rw [szF_mk, if_pos hk] at hz hps
  refine wall_any k s lo hi st P (fun y hy => ih y hy (by have := szL_mem hy; omega)) ok' okr g bs' most ps' l A2 A0 c2 c0 W hel (fun h0 => ?_) hck hwl hbW
   (hfm.kp hkW (fun i hi h => (hr i hi).2 h.1)) (hvs.kp hkW (fun i hi h => (hr i hi).2 h.1)) (fun i hi => ⟨Nat.lt_of_lt_of_le (hr i hi).1 hkW.size, (hrW i hi).2⟩) hlW (fun y hy => by have := szL_mem hy; omega)
  rcases hP with h | h
  ·exact h
  ·subst h
   simp at h0
 cases hfk with
 | num s' hk hs hsb hx hxe hx64 =>
  simp only at hk hs
  subst hk hs
  have e : writeR (.mk ⟨0, s', lo, hi, st⟩ P) (.mk ⟨a, b⟩ l) = beB s' a.toNat := by rw [writeR_mk, if_pos rfl]; simp
  rw [e] at hlen ⊢
  rw [beB_length] at hlen
  rw [hxe, Int.toNat_natCast]
  exact lay_num ok g bs most ps s' a.toNat hx64 w hb hsb hx hlen lo hi st A0 A1 A2 _ c0 _ c1 _ c2
 | opq s' hk hs h1 h3 hu =>
  simp only at hk hs
  subst hk hs
  have e : writeR (.mk ⟨1, s', lo, hi, st⟩ P) (.mk ⟨a, b⟩ l) = beB s' b.length ++ b := by rw [writeR_mk, if_neg (by simp), if_pos rfl]; simp
  rw [e] at hlen ⊢
  rw [List.length_append, beB_length] at hlen
  exact lay_opaque ok okr g bs b most ps w hb s' h1 h3 hu (by omega) (by omega) lo hi st a A0 A1 A2 _ c0 c1 _ c2 hbr (fun i hi => (hr i hi).2)
 | raw hk =>
  simp only at hk
  have e : writeR (.mk ⟨k, s, lo, hi, st⟩ P) (.mk ⟨a, b⟩ l) = b := by rw [writeR_mk, if_neg (by simp; omega), if_neg (by simp; omega), if_pos hk]
  rw [e] at hlen ⊢
  exact lay_bytes ok okr g bs b most ps w hb hlen k hk s lo hi st a A0 A1 A2 _ c0 c1 _ c2 hbr
 | list s' hk hs h1 h3 hu hP hck hel =>
  simp only at hk hs
  subst hk hs
  have e : writeR (.mk ⟨2, s', lo, hi, st⟩ P) (.mk ⟨a, b⟩ l) = beB s' (writeL (.mk ⟨2, s', lo, hi, st⟩ P) 0 l).length ++ writeL (.mk ⟨2, s', lo, hi, st⟩ P) 0 l := by rw [writeR_mk, if_neg (by simp), if_neg (by simp), if_neg (by simp), if_pos rfl]; simp
  rw [e] at hlen ⊢
  rw [List.length_append, beB_length] at hlen
  exact lay_list ok okr g bs _ most ps w hb s' h1 h3 hu (by omega) (by omega) hr lo hi st a A0 A1 A2 _ c0 _ c1 _ c2 (hall (.inl rfl) (.inl hP) hck hel)
 | row hk hlP hck hel =>
  simp only at hk
  subst hk
  have e : writeR (.mk ⟨3, s, lo, hi, st⟩ P) (.mk ⟨a, b⟩ l) = writeL (.mk ⟨3, s, lo, hi, st⟩ P) 0 l := by rw [writeR_mk, if_neg (by simp), if_neg (by simp), if_neg (by simp), if_neg (by simp)]
  rw [e] at hlen ⊢
  refine lay_row ok okr g bs _ most ps w hb hlen hr s lo hi st a A0 A1 A2 _ c0 _ c1 _ c2 (hall (.inr rfl) ?_ hck hel)
  by_cases h0 : l.length = 0
  ·exact .inr (List.eq_nil_of_length_eq_zero h0)
  ·exact .inl (by omega)
end Go.Proofs.YtdhnfccgojgehaaDoor

namespace Go.Proofs.YtdhnfccgojgehaaDoor.QP
open Go.RowKit Go.Proofs.YtdhnfccgojgehaaDoorW.PrintWords Go.Proofs.YtdhnfccgojgehaaDoorW.PrintLast Go.Proofs.YtdhnfccgojgehaaDoorW.PrintMore
attribute [local go_sem] max2_int min2_int max_two min_two max_three min_three max_four min_four   -- for this text's walks alone
set_option linter.unusedVariables false
set_option linter.unusedSimpArgs false

/-! ### value_alone: function 74 -/
def value_alone.f (a0 : Int) (a1_0 : Int) (l1_1 : List Int) (l1_2 : List (S31)) : Option (Bool) := if okI a0 = true then some (aloneB a0 a1_0 l1_1.length l1_2.length) else none
set_option maxHeartbeats 8000000 in
set_option maxRecDepth 100000 in
theorem value_alone.calls (a0 : Int) (a1_0 : Int) (A1_1 : Option Addr) (c1_1 : Nat) (l1_1 : List Int) (A1_2 : Option Addr) (c1_2 : Nat) (l1_2 : List (S31)) (r : Bool) (w : World)  (hr1_1 : Kd.C (Kd.int .u8) w A1_1 l1_1.length l1_1) (hc1_1 : l1_1.length ≤ c1_1) (hr1_2 : Kd.C k31 w A1_2 l1_2.length l1_2) (hc1_2 : l1_2.length ≤ c1_2) (h : value_alone.f a0 a1_0 l1_1 l1_2 = some r) :
  Calls Tryd.prog 74 #[.int .i64 a0, .agg #[.int .u64 a1_0, .slice A1_1 l1_1.length c1_1, .slice A1_2 l1_2.length c1_2]] w fun e w' => e = .returned (.bool r) ∧ Below w.heap.size w w' := by
 unfold value_alone.f at h
 split at h
 ·rename_i hw
  injection h with h
  subst h
  exact (alone_any a0 a1_0 (okI_wf hw) A1_1 A1_2 l1_1.length l1_2.length c1_1 c1_2 w).mono fun e w' h => ⟨h.1, h.2.below⟩
 ·cases h

end Go.Proofs.YtdhnfccgojgehaaDoor.QP

namespace Go.Proofs.YtdhnfccgojgehaaDoor.QP
open Go.RowKit Go.Proofs.YtdhnfccgojgehaaDoorW.PrintWords Go.Proofs.YtdhnfccgojgehaaDoorW.PrintLast Go.Proofs.YtdhnfccgojgehaaDoorW.PrintMore
attribute [local go_sem] max2_int min2_int max_two min_two max_three min_three max_four min_four   -- for this text's walks alone
set_option linter.unusedVariables false
set_option linter.unusedSimpArgs false

/-! ### value_may: function 75 -/
def value_may.f (a0 : Int) (a1 : Int) (a2 : Int) (a3 : Int) : Option (Int) := if a0 < a1 then (some 5) else (if a0 > a2 then (some 5) else (if a3 = 0 then (none) else (if (Int.tmod a0 a3) = 0 then (some 0) else (some 5))))
set_option maxHeartbeats 8000000 in
set_option maxRecDepth 100000 in
theorem value_may.calls (a0 : Int) (a1 : Int) (a2 : Int) (a3 : Int) (r : Int) (w : World) (h : value_may.f a0 a1 a2 a3 = some r) :
  Calls Tryd.prog 75 #[.int .i64 a0, .int .i64 a1, .int .i64 a2, .int .i64 a3] w fun e w' => e = .returned (.int .i64 r) ∧ Drawn0 w w' := by
 have H : (if a0 < a1 then (some 5) else (if a0 > a2 then (some 5) else (if a3 = 0 then (none) else (if (Int.tmod a0 a3) = 0 then (some 0) else (some 5))))) = some r := h
 clear h
 by_cases c5 : a0 < a1
 ·rw [if_pos c5] at H
  have c5b0 : decide (a0 < a1) = true := decide_eq_true c5
  clear c5
  obtain rfl := Option.some.inj H
  go_enter Tryd.func75, Tryd.ntmps75
  go_wp2
  go_ret
  exact ⟨by first | rfl | (simp; done) | (simp [*]; done), by repeat (first | exact Drawn0.refl _ | apply Drawn0.step)⟩
 ·rw [if_neg c5] at H
  have c5b0 : decide (a0 < a1) = false := decide_eq_false c5
  clear c5
  by_cases c6 : a0 > a2
  ·rw [if_pos c6] at H
   have c6b0 : decide (a2 < a0) = true := decide_eq_true c6
   clear c6
   obtain rfl := Option.some.inj H
   go_enter Tryd.func75, Tryd.ntmps75
   go_wp2
   go_ret
   exact ⟨by first | rfl | (simp; done) | (simp [*]; done), by repeat (first | exact Drawn0.refl _ | apply Drawn0.step)⟩
  ·rw [if_neg c6] at H
   have c6b0 : decide (a2 < a0) = false := decide_eq_false c6
   clear c6
   by_cases c7 : a3 = 0
   ·rw [if_pos c7] at H
    exact absurd H (by simp)
   ·rw [if_neg c7] at H
    have c7b0 : (a3 == 0) = false := beq_eq_false_iff_ne.mpr c7
    have c7b1 : (a3 != 0) = true := bne_iff_ne.mpr c7
    by_cases c8 : (Int.tmod a0 a3) = 0
    ·rw [if_pos c8] at H
     have c8b0 : ((Int.tmod a0 a3) == 0) = true := beq_iff_eq.mpr c8
     have c8b1 : ((Int.tmod a0 a3) != 0) = false := bne_eq_false_iff_eq.mpr c8
     clear c8
     obtain rfl := Option.some.inj H
     go_enter Tryd.func75, Tryd.ntmps75
     go_wp2
     go_ret
     exact ⟨by first | rfl | (simp; done) | (simp [*]; done), by repeat (first | exact Drawn0.refl _ | apply Drawn0.step)⟩
    ·rw [if_neg c8] at H
     have c8b0 : ((Int.tmod a0 a3) == 0) = false := beq_eq_false_iff_ne.mpr c8
     have c8b1 : ((Int.tmod a0 a3) != 0) = true := bne_iff_ne.mpr c8
     obtain rfl := Option.some.inj H
     go_enter Tryd.func75, Tryd.ntmps75
     go_wp2
     go_ret
     exact ⟨by first | rfl | (simp; done) | (simp [*]; done), by repeat (first | exact Drawn0.refl _ | apply Drawn0.step)⟩

end Go.Proofs.YtdhnfccgojgehaaDoor.QP
