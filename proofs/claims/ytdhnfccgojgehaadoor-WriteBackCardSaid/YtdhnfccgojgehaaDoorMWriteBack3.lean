/-
  Texts for the law WriteBack: part 3.
-/
import Derived.StillTailTactics
import Derived.Deep.CutRange
import Derived.BigQuiet
import Derived.Deep.RegionHeld3
import Derived.Deep.RegionWith
import Derived.Deep.QuietTactic
import Derived.Test.YtdhnfccgojgehaaDoorMWriteBack1
import Derived.Test.YtdhnfccgojgehaaDoorMWriteBack2

set_option linter.unusedVariables false
set_option linter.unusedSimpArgs false
namespace Go.Proofs.YtdhnfccgojgehaaDoor
open Go.RowKit

mutual
/-- How many values there are in one; no more than so many (and one) are told. -/
def cntV : Nat → Vt → Nat
 | m,.mk _ l => cntVs m 1 l
def cntVs : Nat → Nat → List Vt → Nat
 | _,n,[] => n
 | m,n,x :: t => if n ≤ m then cntVs m (n + cntV (m - n) x) t else n
end
mutual
/-- How many bytes. -/
def bytV : Nat → Vt → Nat
 | m,.mk a l => bytVs m a.b.length l
def bytVs : Nat → Nat → List Vt → Nat
 | _,n,[] => n
 | m,n,x :: t => if n ≤ m then bytVs m (n + bytV (m - n) x) t else n
end
theorem cntVs_end {l : List Vt} {k m n : Nat} (hk : ¬ (k < l.length ∧ n ≤ m)) : cntVs m n (l.drop k) = n := by
 by_cases h : k < l.length
 ·rw [List.drop_eq_getElem_cons h,cntVs,if_neg (by omega)]
 ·rw [List.drop_of_length_le (by omega),cntVs]
theorem cntVs_drop {l : List Vt} {k m n : Nat} (hk : k < l.length) : cntVs m n (l.drop k) = if n ≤ m then cntVs m (n + cntV (m - n) l[k]) (l.drop (k + 1)) else n := by
 rw [List.drop_eq_getElem_cons hk,cntVs]
theorem bytVs_end {l : List Vt} {k m n : Nat} (hk : ¬ (k < l.length ∧ n ≤ m)) : bytVs m n (l.drop k) = n := by
 by_cases h : k < l.length
 ·rw [List.drop_eq_getElem_cons h,bytVs,if_neg (by omega)]
 ·rw [List.drop_of_length_le (by omega),bytVs]
theorem bytVs_drop {l : List Vt} {k m n : Nat} (hk : k < l.length) : bytVs m n (l.drop k) = if n ≤ m then bytVs m (n + bytV (m - n) l[k]) (l.drop (k + 1)) else n := by
 rw [List.drop_eq_getElem_cons hk,bytVs]
theorem cntV_bound (x : Vt) : ∀ m,1 ≤ cntV m x ∧ cntV m x ≤ m + 1 := by
 induction x using RT.induct with
 | h a l ih =>
 intro m
 rw [cntV]
 have key : ∀ (t : List Vt),(∀ f ∈ t,∀ m,1 ≤ cntV m f ∧ cntV m f ≤ m + 1) → ∀ n,n ≤ m + 1 → n ≤ cntVs m n t ∧ cntVs m n t ≤ m + 1 := by
  intro t
  induction t with
  | nil => intro _ n hn;rw [cntVs];omega
  | cons f t ih2 =>
   intro hf n hn
   rw [cntVs]
   split
   ·have h1 := hf f (by simp) (m - n)
    have h2 := ih2 (fun g hg => hf g (by simp [hg])) (n + cntV (m - n) f) (by omega)
    omega
   ·omega
 exact key l ih 1 (by omega)
/-- A number of bytes that is told to the end. -/
theorem bytV_bound (x : Vt) : ∀ m,wfV x = true → m ≤ 100000 → bytV m x ≤ m + 140737488355328 := by
 induction x using RT.induct with
 | h a l ih =>
 intro m hw hm
 obtain ⟨_,hb,_,hws⟩ := (wfV_mk _ _).1 hw
 rw [bytV]
 have key : ∀ (t : List Vt),(∀ f ∈ t,f ∈ l) → ∀ n,n ≤ m + 140737488355328 → bytVs m n t ≤ m + 140737488355328 := by
  intro t
  induction t with
  | nil => intro _ n hn;rw [bytVs];omega
  | cons f t ih2 =>
   intro hf n hn
   rw [bytVs]
   split
   ·have h1 := ih f (hf f (by simp)) (m - n) (hws f (hf f (by simp))) (by omega)
    exact ih2 (fun g hg => hf g (by simp [hg])) (n + bytV (m - n) f) (by omega)
   ·omega
 exact key l (fun f hf => hf) _ (by omega)
theorem mayR_ok {n lo hi st : Int} (h : mayR n lo hi st = 0) : lo ≤ n ∧ n ≤ hi ∧ Int.tmod n st = 0 := by
 unfold mayR at h
 split at h
 ·omega
 ·split at h
  ·omega
  ·split at h
   ·exact ⟨by omega,by omega,by assumption⟩
   ·omega

theorem sizeR_ok {f : Fm} {x : Vt} (h : (sizeR f x).2 = 0) : deepB 8 f = false ∧ checkR f = 0 ∧ (fitR f x).2 = 0 ∧ (sizeR f x).1 = (fitR f x).1 := by
 unfold sizeR at h ⊢
 cases hd : deepB 8 f
 ·simp only [hd,Bool.false_eq_true,if_false] at h ⊢
  by_cases hc : checkR f = 0
  ·rw [if_pos hc] at h ⊢
   by_cases hz : (fitR f x).2 = 0
   ·rw [if_pos hz]
    exact ⟨trivial,hc,hz,rfl⟩
   ·rw [if_neg hz] at h
    exact absurd h hz
  ·rw [if_neg hc] at h
   exact absurd h hc
 ·rw [hd] at h
  simp at h
theorem sizeR_eq {f : Fm} {x : Vt} (hd : deepB 8 f = false) (hc : checkR f = 0) : sizeR f x = if (fitR f x).2 = 0 then ((fitR f x).1,0) else (0,(fitR f x).2) := by
 unfold sizeR
 rw [hd]
 simp [hc]
end Go.Proofs.YtdhnfccgojgehaaDoor

namespace Go.Proofs.YtdhnfccgojgehaaDoor

/-- The next n bytes, the error. -/
def nx (l : List UInt8) (n : Int) : List UInt8 × Int := if n < 0 then ([],2) else if (l.length : Int) < n then ([],4) else (l.take n.toNat,0)

theorem nx_neg {l : List UInt8} {n : Int} (h : n < 0) : nx l n = ([],2) := by rw [nx,if_pos h]
theorem nx_short {l : List UInt8} {n : Int} (h0 : 0 ≤ n) (h : (l.length : Int) < n) : nx l n = ([],4) := by rw [nx,if_neg (by omega),if_pos h]
theorem nx_ok {l : List UInt8} {n : Int} (h0 : 0 ≤ n) (h : n ≤ l.length) : nx l n = (l.take n.toNat,0) := by rw [nx,if_neg (by omega),if_neg (by omega)]
theorem nx_cases (l : List UInt8) (n : Int) : ((nx l n).2 = 0 ∧ 0 ≤ n ∧ n ≤ l.length ∧ (nx l n).1 = l.take n.toNat) ∨ ((nx l n).2 ≠ 0 ∧ (n < 0 ∨ (l.length : Int) < n) ∧ (nx l n).1 = []) := by
 rcases Int.lt_or_le n 0 with h | h
 ·rw [nx_neg h]
  exact .inr ⟨by simp,.inl h,rfl⟩
 ·rcases Int.lt_or_le (l.length : Int) n with h1 | h1
  ·rw [nx_short h h1]
   exact .inr ⟨by simp,.inr h1,rfl⟩
  ·rw [nx_ok h h1]
   exact .inl ⟨rfl,h,h1,rfl⟩
theorem nx_pre (l : List UInt8) (n : Int) : (nx l n).1 = l.take (nx l n).1.length := by
 unfold nx
 split
 ·simp
 ·split
  ·simp
  ·simp
theorem nx_len (l : List UInt8) (n : Int) : (nx l n).1.length ≤ l.length := by
 rw [nx_pre];simp;omega

theorem nx_le (l : List UInt8) (n : Int) : (nx l n).1.length ≤ n.toNat := by
 unfold nx
 split
 ·simp
 ·split
  ·simp
  ·simp;omega

def nn (l : List UInt8) (n : Int) : List UInt8 × Int := if szB n = true then nx l n else ([],2)

end Go.Proofs.YtdhnfccgojgehaaDoor

namespace Go.Proofs.YtdhnfccgojgehaaDoor
open Go.RowKit

/-- What a reading tells: where it is wrong (so many bytes on), why; or the value, and the bytes that are left; its steps. -/
inductive RdT where
 | bad (at_ : Int) (e : Int) (q : Nat)
 | got (x : Vt) (rest : List UInt8) (q : Nat)
def RdT.steps : RdT → Nat
 | .bad _ _ q => q
 | .got _ _ q => q
/-- A length: where it is wrong, why; how many. -/
def lenE (h : FH) (b : List UInt8) : Int × Int × Nat :=
 if (b.length : Int) < h.s then (b.length,4,0)
 else if (be (b.take h.s.toNat) : Int) < h.lo ∨ h.hi < (be (b.take h.s.toNat) : Int) ∨ Int.tmod (be (b.take h.s.toNat) : Int) h.st ≠ 0 then (0,5,0)
 else if b.length < h.s.toNat + be (b.take h.s.toNat) then (b.length,4,0)
 else (0,0,be (b.take h.s.toNat))
/-- Things, as long as there are bytes. -/
def iterR (f : List UInt8 → RdT) : Nat → List UInt8 → Nat → Nat → List Vt → RdT
 | 0,b,_,q,acc => .got (.mk ⟨0,[]⟩ acc) b q
 | n + 1,b,d,q,acc =>
  if b.length = 0 then .got (.mk ⟨0,[]⟩ acc) b q
  else match f b with
   | .bad a e s => .bad (d + a) e (q + s)
   | .got x r s => iterR f n r (d + (b.length - r.length)) (q + s) (acc ++ [x])
mutual
/-- Reads one. -/
def readR : Fm → List UInt8 → RdT
 | .mk h P,b =>
  if h.k = 0 then (if (b.length : Int) < h.s then .bad b.length 4 1 else .got (.mk ⟨(be (b.take h.s.toNat) : Nat),[]⟩ []) (b.drop h.s.toNat) 1)
  else if h.k = 1 then (if (lenE h b).2.1 ≠ 0 then .bad (lenE h b).1 (lenE h b).2.1 1 else .got (.mk ⟨0,(b.drop h.s.toNat).take (lenE h b).2.2⟩ []) (b.drop (h.s.toNat + (lenE h b).2.2)) 1)
  else if h.k = 4 then (if (b.length : Int) < h.lo then .bad b.length 4 1 else if h.hi < (b.length : Int) then .bad h.hi 6 1 else .got (.mk ⟨0,b⟩ []) [] 1)
  else if h.k = 5 then (if (b.length : Int) < h.lo then .bad b.length 4 1 else .got (.mk ⟨0,b.take h.lo.toNat⟩ []) (b.drop h.lo.toNat) 1)
  else if h.k = 3 then readRow P b 0 1 []
  else if (lenE h b).2.1 ≠ 0 then .bad (lenE h b).1 (lenE h b).2.1 1
  else match iterR (readHd P) (lenE h b).2.2 ((b.drop h.s.toNat).take (lenE h b).2.2) h.s.toNat 1 [] with
   | .bad a e q => .bad a e q
   | .got x _ q => .got x (b.drop (h.s.toNat + (lenE h b).2.2)) q
def readRow : List Fm → List UInt8 → Nat → Nat → List Vt → RdT
 | [],b,_,q,acc => .got (.mk ⟨0,[]⟩ acc) b q
 | g :: P,b,d,q,acc => match readR g b with
  | .bad a e s => .bad (d + a) e (q + s)
  | .got x r s => readRow P r (d + (b.length - r.length)) (q + s) (acc ++ [x])
def readHd : List Fm → List UInt8 → RdT
 | [],_ => .bad 0 0 0
 | g :: _,b => readR g b
end
theorem readR_mk (h : FH) (P : List Fm) (b : List UInt8) : readR (.mk h P) b =
  if h.k = 0 then (if (b.length : Int) < h.s then .bad b.length 4 1 else .got (.mk ⟨(be (b.take h.s.toNat) : Nat),[]⟩ []) (b.drop h.s.toNat) 1)
  else if h.k = 1 then (if (lenE h b).2.1 ≠ 0 then .bad (lenE h b).1 (lenE h b).2.1 1 else .got (.mk ⟨0,(b.drop h.s.toNat).take (lenE h b).2.2⟩ []) (b.drop (h.s.toNat + (lenE h b).2.2)) 1)
  else if h.k = 4 then (if (b.length : Int) < h.lo then .bad b.length 4 1 else if h.hi < (b.length : Int) then .bad h.hi 6 1 else .got (.mk ⟨0,b⟩ []) [] 1)
  else if h.k = 5 then (if (b.length : Int) < h.lo then .bad b.length 4 1 else .got (.mk ⟨0,b.take h.lo.toNat⟩ []) (b.drop h.lo.toNat) 1)
  else if h.k = 3 then readRow P b 0 1 []
  else if (lenE h b).2.1 ≠ 0 then .bad (lenE h b).1 (lenE h b).2.1 1
  else match iterR (readHd P) (lenE h b).2.2 ((b.drop h.s.toNat).take (lenE h b).2.2) h.s.toNat 1 [] with
   | .bad a e q => .bad a e q
   | .got x _ q => .got x (b.drop (h.s.toNat + (lenE h b).2.2)) q := by rw [readR]
theorem readRow_drop {P : List Fm} {i : Nat} (hi : i < P.length) (b : List UInt8) (d q : Nat) (acc : List Vt) : readRow (P.drop i) b d q acc = match readR P[i] b with
  | .bad a e s => .bad (d + a) e (q + s)
  | .got x r s => readRow (P.drop (i + 1)) r (d + (b.length - r.length)) (q + s) (acc ++ [x]) := by
 rw [List.drop_eq_getElem_cons hi,readRow]
theorem readRow_end {P : List Fm} {i : Nat} (hi : P.length ≤ i) (b : List UInt8) (d q : Nat) (acc : List Vt) : readRow (P.drop i) b d q acc = .got (.mk ⟨0,[]⟩ acc) b q := by
 rw [List.drop_of_length_le hi,readRow]
theorem readHd_one (g : Fm) (t : List Fm) : readHd (g :: t) = readR g := by
 funext b
 rw [readHd]
mutual
/-- The bytes of a value. -/
def writeR : Fm → Vt → List UInt8
 | f,.mk a l =>
  if f.a.k = 0 then beB f.a.s.toNat a.n.toNat
  else if f.a.k = 1 then beB f.a.s.toNat a.b.length ++ a.b
  else if f.a.k = 4 ∨ f.a.k = 5 then a.b
  else if f.a.k = 2 then beB f.a.s.toNat (writeL f 0 l).length ++ writeL f 0 l
  else writeL f 0 l
def writeL : Fm → Nat → List Vt → List UInt8
 | _,_,[] => []
 | f,j,x :: t => writeR (f.l.getD (j % f.l.length) nilF) x ++ writeL f (j + 1) t
end
theorem writeR_mk (h : FH) (P : List Fm) (a : VH) (l : List Vt) : writeR (.mk h P) (.mk a l) =
  if h.k = 0 then beB h.s.toNat a.n.toNat
  else if h.k = 1 then beB h.s.toNat a.b.length ++ a.b
  else if h.k = 4 ∨ h.k = 5 then a.b
  else if h.k = 2 then beB h.s.toNat (writeL (.mk h P) 0 l).length ++ writeL (.mk h P) 0 l
  else writeL (.mk h P) 0 l := by rw [writeR];rfl
theorem lenE_ok {h : FH} {b : List UInt8} (h1 : (lenE h b).2.1 = 0) : h.s ≤ b.length ∧ h.lo ≤ ((lenE h b).2.2 : Int) ∧ ((lenE h b).2.2 : Int) ≤ h.hi ∧ Int.tmod ((lenE h b).2.2 : Int) h.st = 0 ∧ h.s.toNat + (lenE h b).2.2 ≤ b.length ∧ (lenE h b).2.2 = be (b.take h.s.toNat) ∧ (lenE h b).1 = 0 := by
 unfold lenE at h1 ⊢
 split at h1
 ·simp at h1
 ·rename_i g1
  split at h1
  ·simp at h1
  ·rename_i g2
   split at h1
   ·simp at h1
   ·rename_i g3
    rw [if_neg g1,if_neg g2,if_neg g3]
    simp only [not_or,Decidable.not_not] at g2
    exact ⟨by omega,by simp only;omega,by simp only;omega,g2.2.2,by simp only;omega,rfl,rfl⟩
end Go.Proofs.YtdhnfccgojgehaaDoor

namespace Go.Proofs.YtdhnfccgojgehaaDoor
open Go.RowKit

mutual
/-- How many forms there are in one. -/
def szF : Fm → Nat
 | .mk a l => if a.k = 2 ∨ a.k = 3 then 1 + szL l else 1
def szL : List Fm → Nat
 | [] => 0
 | f :: t => szF f + szL t
end
theorem szF_mk (a : FH) (l : List Fm) : szF (.mk a l) = if a.k = 2 ∨ a.k = 3 then 1 + szL l else 1 := by rw [szF]
theorem szF_pos (f : Fm) : 1 ≤ szF f := by
 cases f
 rw [szF_mk]
 split <;> omega
theorem szL_mem {l : List Fm} {f : Fm} (h : f ∈ l) : szF f ≤ szL l := by
 induction l with
 | nil => simp at h
 | cons g t ih =>
  rw [szL]
  rcases List.mem_cons.1 h with rfl | h
  ·omega
  ·have := ih h
   omega
theorem szL_drop {l : List Fm} {i : Nat} (hi : i < l.length) : szL (l.drop i) = szF l[i] + szL (l.drop (i + 1)) := by
 rw [List.drop_eq_getElem_cons hi,szL]
theorem cnt_sz (f : Fm) : ∀ m,(cntR m f ≤ m → cntR m f = szF f) ∧ (szF f ≤ m → cntR m f = szF f) := by
 induction f using RT.induct with
 | h a l ih =>
 intro m
 rw [cntR,szF_mk]
 by_cases hk : a.k = 2 ∨ a.k = 3
 ·rw [if_pos hk,if_pos hk]
  have key : ∀ (t : List Fm),(∀ f ∈ t,f ∈ l) → ∀ n,(cntL m n t ≤ m → cntL m n t = n + szL t) ∧ (n + szL t ≤ m → cntL m n t = n + szL t) := by
   intro t
   induction t with
   | nil => intro _ n;rw [cntL,szL];exact ⟨fun _ => by omega,fun _ => by omega⟩
   | cons f t ih2 =>
    intro hf n
    rw [cntL,szL]
    have h1 := ih f (hf f (by simp)) (m - n)
    have hp := szF_pos f
    constructor
    ·intro h
     by_cases hn : n ≤ m
     ·rw [if_pos hn] at h ⊢
      have h2 := (ih2 (fun g hg => hf g (by simp [hg])) (n + cntR (m - n) f)).1 h
      have h3 : n + cntR (m - n) f ≤ m := by
       by_cases h4 : n + cntR (m - n) f ≤ m
       ·exact h4
       ·omega
      have h5 := h1.1 (by omega)
      omega
     ·rw [if_neg hn] at h
      omega
    ·intro h
     rw [if_pos (by omega),h1.2 (by omega),(ih2 (fun g hg => hf g (by simp [hg])) (n + szF f)).2 (by omega)]
     omega
  exact key l (fun _ h => h) 1
 ·rw [if_neg hk,if_neg hk]
  exact ⟨fun _ => rfl,fun _ => rfl⟩
theorem span_sz (sel : FH → Int) (hs : sel = FH.lo ∨ sel = FH.hi) (f : Fm) (h : szF f ≤ 100000) (hc : checkR f = 0) : 0 ≤ spanR sel f ∧ spanR sel f ≤ 16777218 * (szF f : Nat) := by
 have e := (cnt_sz f 100000).2 h
 have := span_bd sel hs f 100000 (by omega) (by omega) hc
 rw [e] at this
 exact this
def gB (c : Nat) : Nat := max 1 (2 * c - 1)
theorem gB_mono {c c' : Nat} (h : c ≤ c') : gB c ≤ gB c' := by unfold gB;omega
theorem own_sz {h : FH} {P : List Fm} (hc : checkR (.mk h P) = 0) (k0 : h.k = 0) : szB h.s = true := by
 rw [checkR_mk] at hc
 have h0 : ownN h.k h.s h.lo h.hi h.st P.length = 0 := Decidable.byContradiction fun hn => by
  rw [if_pos hn] at hc
  exact hn hc
 unfold ownN at h0
 rw [if_pos k0] at h0
 split at h0
 ·omega
 ·unfold szB
  simp only [Bool.or_eq_true,decide_eq_true_eq]
  omega
theorem badF_at {k : Int} {n : Nat} {l : List Fm} : ∀ {i : Nat},badF k n i l = false → ∀ j (hj : j < l.length),badI k n (i + j) l[j] = false := by
 induction l with
 | nil => intro i _ j hj;simp at hj
 | cons f t ih =>
  intro i h j hj
  rw [badF,Bool.or_eq_false_iff] at h
  cases j with
  | zero => simpa using h.1
  | succ j =>
   have := ih h.2 j (by simpa using hj)
   rw [show i + 1 + j = i + (j + 1) by omega] at this
   simpa using this
theorem openL_shut {P : List Fm} (h : openL P = false) (hl : 0 < P.length) : openR (P[P.length - 1]'(by omega)) = false := by
 induction P with
 | nil => simp at hl
 | cons f t ih =>
  cases t with
  | nil => rw [openL] at h;simpa using h
  | cons g u =>
   rw [openL] at h
   have := ih h (by simp)
   simpa using this
/-- The parts of a right row that is not open: none of them is. -/
theorem row_shut {h : FH} {P : List Fm} (hc : checkR (.mk h P) = 0) (k3 : h.k = 3) : (∀ j (hj : j < P.length),j + 1 < P.length → openR P[j] = false) ∧ (openR (.mk h P) = false → ∀ j (hj : j < P.length),openR P[j] = false) := by
 obtain ⟨_,_,_,hch⟩ := check_ok hc
 have hb := (hch (.inr k3)).2
 have h1 : ∀ j (hj : j < P.length),j + 1 < P.length → openR P[j] = false := by
  intro j hj hj2
  have := badF_at hb j hj
  unfold badI at this
  simp only [Nat.zero_add,Bool.or_eq_false_iff,Bool.and_eq_false_imp,decide_eq_false_iff_not,decide_eq_true_eq] at this
  cases ho : openR P[j]
  ·rfl
  ·have := this.1 ho
   omega
 refine ⟨h1,fun ho j hj => ?_⟩
 rw [openR_mk,if_pos k3] at ho
 by_cases hj2 : j + 1 < P.length
 ·exact h1 j hj hj2
 ·have := openL_shut ho (by omega)
  simpa [show P.length - 1 = j by omega] using this
/-- The item of a right list. -/
theorem list_item {h : FH} {P : List Fm} (hc : checkR (.mk h P) = 0) (k2 : h.k = 2) : ∃ g,P = [g] ∧ checkR g = 0 ∧ openR g = false ∧ leastR g ≠ 0 := by
 obtain ⟨_,h1,_,hch⟩ := check_ok hc
 obtain ⟨g,rfl⟩ := List.length_eq_one_iff.1 (h1 k2)
 obtain ⟨h2,h3⟩ := hch (.inl k2)
 have := badF_at h3 0 (by simp)
 unfold badI at this
 simp [k2] at this
 exact ⟨g,rfl,h2 g (by simp),this.1,this.2⟩
theorem lenE_app {h : FH} {b : List UInt8} (hs : 0 ≤ h.s) (h1 : (lenE h b).2.1 = 0) (r : List UInt8) : lenE h (b.take (h.s.toNat + (lenE h b).2.2) ++ r) = lenE h b := by
 obtain ⟨g1,g2,g3,g4,g5,g6,g7⟩ := lenE_ok h1
 have e0 : lenE h b = (0,0,(lenE h b).2.2) := Prod.ext g7 (Prod.ext h1 rfl)
 generalize (lenE h b).2.2 = n at *
 have hlen : (b.take (h.s.toNat + n) ++ r).length = h.s.toNat + n + r.length := by
  rw [List.length_append,List.length_take]
  omega
 have htk : (b.take (h.s.toNat + n) ++ r).take h.s.toNat = b.take h.s.toNat := by
  rw [List.take_append_of_le_length (by rw [List.length_take];omega),List.take_take]
  congr 1
  omega
 rw [e0]
 unfold lenE
 rw [htk,← g6,hlen,if_neg (by omega),if_neg (by omega),if_neg (by omega)]
theorem mayR_is {n lo hi st : Int} (h1 : lo ≤ n) (h2 : n ≤ hi) (h3 : Int.tmod n st = 0) : mayR n lo hi st = 0 := by
 unfold mayR
 rw [if_neg (by omega),if_neg (by omega),if_pos h3]
theorem tmod_one (n : Int) : Int.tmod n 1 = 0 := by simp
theorem alone0 (n : Int) : aloneB 0 n 0 0 = true := by unfold aloneB;simp [fld]
theorem alone_b {k : Int} (hk : k = 1 ∨ k = 4 ∨ k = 5) (b : Nat) : aloneB k 0 b 0 = true := by
 unfold aloneB
 rcases hk with rfl | rfl | rfl <;> simp [fld]
theorem alone_l {k : Int} (hk : k = 2 ∨ k = 3) (l : Nat) : aloneB k 0 0 l = true := by
 unfold aloneB
 rcases hk with rfl | rfl <;> simp [fld]

/-- What is read of bytes is told by so many of them, fits, has as many, and is written as these. -/
def GotR (f : Fm) (b : List UInt8) (x : Vt) (rest : List UInt8) (q : Nat) : Prop :=
 ∃ u,b = u ++ rest ∧ fitR f x = ((u.length : Int),0) ∧ leastR f ≤ u.length ∧ writeR f x = u ∧ wfV x = true ∧ 1 ≤ q ∧ q ≤ szF f * gB u.length ∧ (openR f = false → ∀ r',readR f (u ++ r') = .got x r' q)

theorem u64_be {l : List UInt8} (h : l.length ≤ 8) : u64B ((be l : Nat) : Int) := by
 have h1 := be_lt l
 have h2 : 256 ^ l.length ≤ 256 ^ 8 := Nat.pow_le_pow_right (by omega) h
 have h3 : (256 : Nat) ^ 8 = 18446744073709551616 := by decide
 unfold u64B
 omega
theorem read_got (f : Fm) : szF f ≤ 100000 → checkR f = 0 → ∀ b : List UInt8,b.length ≤ 140737488351232 → ∀ x rest q,readR f b = .got x rest q → GotR f b x rest q := by
 induction f using RT.induct with
 | h h P ih =>
 intro hsz hck b hb x rest q hrd
 obtain ⟨hown,hone,h32,hch⟩ := check_ok hck
 rw [readR_mk] at hrd
 by_cases k0 : h.k = 0
 ·rw [if_pos k0] at hrd
  split at hrd
  ·simp at hrd
  rename_i hlt
  injection hrd with e1 e2 e3
  subst e1 e2 e3
  have hs := hown.k0 k0
  have hlen : (b.take h.s.toNat).length = h.s.toNat := by rw [List.length_take];omega
  refine ⟨b.take h.s.toNat,(List.take_append_drop _ _).symm,?_,?_,?_,?_,by omega,?_,?_⟩
  ·rw [fitR_mk]
   simp only [k0,List.length_nil,alone0,Bool.true_eq_false,if_false,if_true]
   rw [if_neg (fun hx => ?_),hlen]
   ·congr 1
    omega
   ·have h1 := be_lt (b.take h.s.toNat)
    rw [hlen] at h1
    have h2 : (256 : Nat) ^ h.s.toNat = 2 ^ (8 * h.s.toNat) := by rw [Nat.pow_mul]
    have h3 := hx.2
    rw [h2] at h1
    have h4 : ((2 : Int) ^ (8 * h.s.toNat)) = ((2 ^ (8 * h.s.toNat) : Nat) : Int) := by simp
    omega
  ·rw [leastR,spanR_mk,if_pos k0,hlen]
   omega
  ·rw [writeR_mk,if_pos k0]
   have := beB_be (b.take h.s.toNat)
   rw [hlen] at this
   simpa using this
  ·exact (wfV_mk _ _).2 ⟨u64_be (by rw [hlen];omega),by simp,by simp,by simp⟩
  ·have := szF_pos (.mk h P)
   have h2 : 1 ≤ gB (b.take h.s.toNat).length := by unfold gB;omega
   exact Nat.le_trans (by omega) (Nat.mul_le_mul this h2)
  ·intro _ r'
   rw [readR_mk,if_pos k0,if_neg (by rw [List.length_append,hlen];omega),List.take_append_of_le_length (by omega),List.take_of_length_le (l := b.take h.s.toNat) (by omega),List.drop_append_of_le_length (by omega),List.drop_of_length_le (l := b.take h.s.toNat) (by omega)]
   rfl
 rw [if_neg k0] at hrd
 by_cases k1 : h.k = 1
 ·rw [if_pos k1] at hrd
  split at hrd
  ·simp at hrd
  rename_i hz
  injection hrd with e1 e2 e3
  subst e1 e2 e3
  have hz := Decidable.not_not.1 hz
  obtain ⟨g1,g2,g3,g4,g5,g6,g7⟩ := lenE_ok hz
  have happ := fun r => lenE_app (h := h) (b := b) (by have := hown.k12 (.inl k1);omega) hz r
  have hs := hown.k12 (.inl k1)
  generalize hn : (lenE h b).2.2 = n at *
  have hlen : (b.take (h.s.toNat + n)).length = h.s.toNat + n := by rw [List.length_take];omega
  have hlen2 : ((b.drop h.s.toNat).take n).length = n := by rw [List.length_take,List.length_drop];omega
  have hu : b.take (h.s.toNat + n) = b.take h.s.toNat ++ (b.drop h.s.toNat).take n := by rw [List.take_add]
  refine ⟨b.take (h.s.toNat + n),(List.take_append_drop _ _).symm,?_,?_,?_,?_,by omega,?_,?_⟩
  ·rw [fitR_mk]
   simp only [List.length_nil,alone_b (.inl k1),Bool.true_eq_false,if_false,if_neg k0,if_pos k1,hlen2,hlen,mayR_is g2 g3 g4]
   rw [w64 (by omega) (by omega)]
   congr 1
   omega
  ·rw [leastR,spanR_mk,if_neg k0,if_pos (.inl k1),hlen,w64 (by omega) (by omega)]
   omega
  ·rw [writeR_mk,if_neg k0,if_pos k1,hu]
   simp only [hlen2]
   have := beB_be (b.take h.s.toNat)
   rw [List.length_take,Nat.min_eq_left (by omega),← g6] at this
   rw [this]
  ·exact (wfV_mk _ _).2 ⟨by unfold u64B;simp only;omega,by simp only [hlen2];omega,by simp,by simp⟩
  ·have := szF_pos (.mk h P)
   have h2 : 1 ≤ gB (b.take (h.s.toNat + n)).length := by unfold gB;omega
   exact Nat.le_trans (by omega) (Nat.mul_le_mul this h2)
  ·intro _ r'
   rw [readR_mk,if_neg k0,if_pos k1,happ r',if_neg (by simp [hz]),hn]
   congr 1
   ·congr 2
    rw [List.drop_append_of_le_length (by omega),List.take_append_of_le_length (by rw [List.length_drop];omega),hu,List.drop_append_of_le_length (by rw [List.length_take];omega),List.drop_of_length_le (l := b.take h.s.toNat) (by rw [List.length_take];omega),List.nil_append,List.take_take,Nat.min_self]
   ·rw [List.drop_append_of_le_length (by omega),List.drop_of_length_le (by omega)]
    rfl
 rw [if_neg k1] at hrd
 by_cases k4 : h.k = 4
 ·rw [if_pos k4] at hrd
  split at hrd
  ·simp at hrd
  split at hrd
  ·simp at hrd
  injection hrd with e1 e2 e3
  subst e1 e2 e3
  have hs := hown.k4 k4
  refine ⟨b,by simp,?_,?_,?_,?_,by omega,?_,?_⟩
  ·rw [fitR_mk]
   simp only [List.length_nil,alone_b (.inr (.inl k4)),Bool.true_eq_false,if_false,if_neg k0,if_neg k1,if_pos k4]
   rw [mayR_is (by omega) (by omega) (tmod_one _)]
  ·rw [leastR,spanR_mk,if_neg k0,if_neg (by omega),if_pos k4]
   omega
  ·rw [writeR_mk,if_neg k0,if_neg k1,if_pos (.inl k4)]
  ·exact (wfV_mk _ _).2 ⟨by unfold u64B;simp only;omega,by simp only;omega,by simp,by simp⟩
  ·have := szF_pos (.mk h P)
   have h2 : 1 ≤ gB b.length := by unfold gB;omega
   exact Nat.le_trans (by omega) (Nat.mul_le_mul this h2)
  ·intro ho
   rw [openR_mk,if_neg (by omega)] at ho
   simp [k4] at ho
 rw [if_neg k4] at hrd
 by_cases k5 : h.k = 5
 ·rw [if_pos k5] at hrd
  split at hrd
  ·simp at hrd
  rename_i hlt
  injection hrd with e1 e2 e3
  subst e1 e2 e3
  have hs := hown.k5 k5
  have hlen : (b.take h.lo.toNat).length = h.lo.toNat := by rw [List.length_take];omega
  refine ⟨b.take h.lo.toNat,(List.take_append_drop _ _).symm,?_,?_,?_,?_,by omega,?_,?_⟩
  ·rw [fitR_mk]
   simp only [List.length_nil,alone_b (.inr (.inr k5)),Bool.true_eq_false,if_false,if_neg k0,if_neg k1,if_neg k4,if_pos k5,hlen]
   rw [mayR_is (by omega) (by omega) (tmod_one _)]
   congr 1
   omega
  ·rw [leastR,spanR_mk,if_neg k0,if_neg (by omega),if_neg k4,if_pos k5,hlen]
   omega
  ·rw [writeR_mk,if_neg k0,if_neg k1,if_pos (.inr k5)]
  ·exact (wfV_mk _ _).2 ⟨by unfold u64B;simp only;omega,by simp only [hlen];omega,by simp,by simp⟩
  ·have := szF_pos (.mk h P)
   have h2 : 1 ≤ gB (b.take h.lo.toNat).length := by unfold gB;omega
   exact Nat.le_trans (by omega) (Nat.mul_le_mul this h2)
  ·intro _ r'
   rw [readR_mk,if_neg k0,if_neg k1,if_neg k4,if_pos k5,if_neg (by rw [List.length_append,hlen];omega),List.take_append_of_le_length (by omega),List.take_of_length_le (l := b.take h.lo.toNat) (by omega),List.drop_append_of_le_length (by omega),List.drop_of_length_le (l := b.take h.lo.toNat) (by omega)]
   rfl
 rw [if_neg k5] at hrd
 have hk23 : h.k = 2 ∨ h.k = 3 := by have := hown.k;omega
 have hPc : ∀ y ∈ P,checkR y = 0 := (hch hk23).1
 rw [szF_mk,if_pos hk23] at hsz
 have hPz : ∀ y ∈ P,szF y ≤ 100000 := fun y hy => by have := szL_mem hy;omega
 by_cases k3 : h.k = 3
 ·rw [if_pos k3] at hrd
  have hshut := row_shut hck k3
  have key : ∀ (d i : Nat) (b : List UInt8) (off q0 : Nat) (acc : List Vt),P.length - i = d → i ≤ P.length → b.length ≤ 140737488351232 → readRow (P.drop i) b off q0 acc = .got x rest q →
    ∃ ys u,x = .mk ⟨0,[]⟩ (acc ++ ys) ∧ ys.length = P.length - i ∧ b = u ++ rest ∧ (∀ c0 : Nat,c0 + b.length ≤ 140737488351232 → fitL (.mk h P) c0 i ys = (((c0 + u.length : Nat) : Int),0) ∧ spanL FH.lo c0 (P.drop i) ≤ ((c0 + u.length : Nat) : Int)) ∧
     writeL (.mk h P) i ys = u ∧ (∀ y ∈ ys,wfV y = true) ∧ q0 ≤ q ∧ q ≤ q0 + szL (P.drop i) * gB u.length ∧ ((∀ j (hj : j < P.length),openR P[j] = false) → ∀ r',readRow (P.drop i) (u ++ r') off q0 acc = .got x r' q) := by
   intro d
   induction d with
   | zero =>
    intro i b off q0 acc hd hi hbl hr
    rw [readRow_end (by omega)] at hr
    injection hr with e1 e2 e3
    subst e1 e2 e3
    refine ⟨[],[],by simp,by simp;omega,by simp,fun c0 _ => ⟨by rw [fitL_nil,if_pos k3];simp,?_⟩,by rw [writeL],by simp,by omega,by omega,fun _ r' => by rw [readRow_end (by omega)];simp⟩
    rw [List.drop_of_length_le (by omega),spanL]
    simp
   | succ d ihd =>
    intro i b off q0 acc hd hi hbl hr
    have hlt : i < P.length := by omega
    have hmem := List.getElem_mem hlt
    rw [readRow_drop hlt] at hr
    cases hx : readR P[i] b with
    | bad a e s => rw [hx] at hr;simp at hr
    | got y r s =>
     rw [hx] at hr
     simp only at hr
     obtain ⟨u1,hb1,f1,l1,w1,v1,q1,q2,o1⟩ := ih P[i] hmem (hPz _ hmem) (hPc _ hmem) b hbl y r s hx
     have hbr : b.length = u1.length + r.length := by rw [hb1,List.length_append]
     obtain ⟨ys,u2,hx2,hyl,hb2,hf2,hw2,hv2,hq3,hq4,ho2⟩ := ihd (i + 1) r _ _ _ (by omega) (by omega) (by omega) hr
     have hrl : r.length = u2.length + rest.length := by rw [hb2,List.length_append]
     have hsp := span_sz FH.lo (.inl rfl) P[i] (hPz _ hmem) (hPc _ hmem)
     have hl1 : spanR FH.lo P[i] ≤ u1.length := l1
     refine ⟨y :: ys,u1 ++ u2,by rw [hx2,List.append_assoc];rfl,by rw [List.length_cons,hyl];omega,by rw [hb1,hb2,List.append_assoc],fun c0 hc0 => ?_,?_,?_,by omega,?_,?_⟩
     ·have hjm : i % P.length = i := Nat.mod_eq_of_lt hlt
      have hg : P.getD (i % P.length) nilF = P[i] := by rw [hjm];simp [hlt]
      obtain ⟨h1,h2⟩ := hf2 (c0 + u1.length) (by omega)
      constructor
      ·rw [fitL]
       simp only [RT.l,hg,f1,if_true]
       rw [w64 (by omega) (by omega),show (c0 : Int) + (u1.length : Int) = ((c0 + u1.length : Nat) : Int) by omega,h1,List.length_append]
       congr 2
       omega
      ·rw [List.drop_eq_getElem_cons hlt,spanL]
       rw [w64 (by omega) (by omega)]
       have hmono : ∀ (t : List Fm) (a c : Int),(∀ y ∈ t,szF y ≤ 100000 ∧ checkR y = 0) → a ≤ c → 0 ≤ a → c + 1677721800000 * t.length ≤ 9000000000000000000 → spanL FH.lo a t ≤ spanL FH.lo c t := by
        intro t
        induction t with
        | nil => intro a c _ hac _ _;rw [spanL,spanL];exact hac
        | cons g t iht =>
         intro a c ht hac h0 hc
         have hg := span_sz FH.lo (.inl rfl) g (ht g (by simp)).1 (ht g (by simp)).2
         have hg2 := (ht g (by simp)).1
         rw [List.length_cons] at hc
         rw [spanL,spanL,w64 (by omega) (by omega),w64 (by omega) (by omega)]
         exact iht _ _ (fun y hy => ht y (by simp [hy])) (by omega) (by omega) (by omega)
       have h32' := h32 k3
       refine Int.le_trans (hmono (P.drop (i + 1)) ((c0 : Int) + spanR FH.lo P[i]) ((c0 + u1.length : Nat) : Int) (fun y hy => ⟨hPz y (List.mem_of_mem_drop hy),hPc y (List.mem_of_mem_drop hy)⟩) (by omega) (by omega) (by rw [List.length_drop];omega)) ?_
       rw [List.length_append]
       omega
     ·rw [writeL]
      have hg : P.getD (i % P.length) nilF = P[i] := by rw [Nat.mod_eq_of_lt hlt];simp [hlt]
      simp only [RT.l,hg,w1,hw2]
     ·intro z hz
      rcases List.mem_cons.1 hz with rfl | hz
      ·exact v1
      ·exact hv2 z hz
     ·rw [szL_drop hlt,Nat.add_mul]
      have e1 := Nat.mul_le_mul_left (szF P[i]) (gB_mono (show u1.length ≤ (u1 ++ u2).length by rw [List.length_append];omega))
      have e2 := Nat.mul_le_mul_left (szL (P.drop (i + 1))) (gB_mono (show u2.length ≤ (u1 ++ u2).length by rw [List.length_append];omega))
      omega
     ·intro hop r'
      rw [readRow_drop hlt,List.append_assoc,o1 (hop i hlt) (u2 ++ r')]
      simp only
      have := ho2 hop r'
      rw [show (u1 ++ (u2 ++ r')).length - (u2 ++ r').length = b.length - r.length by rw [List.length_append];omega]
      exact this
  obtain ⟨ys,u,hx,hyl,hbu,hf,hw,hv,hq1,hq2,ho⟩ := key P.length 0 b 0 1 [] (by omega) (by omega) hb (by rw [List.drop_zero];exact hrd)
  rw [List.nil_append] at hx
  subst hx
  obtain ⟨hf1,hf2⟩ := hf 0 (by omega)
  rw [List.drop_zero] at hf2 hq2
  refine ⟨u,hbu,?_,?_,?_,?_,by omega,?_,?_⟩
  ·rw [fitR_mk]
   simp only [List.length_nil,alone_l (.inr k3),Bool.true_eq_false,if_false,if_neg k0,if_neg k1,if_neg k4,if_neg k5]
   rw [if_neg (fun hh => hh.2 (by omega))]
   have := hf1
   rw [Nat.zero_add] at this
   exact this
  ·rw [leastR,spanR_mk,if_neg k0,if_neg (by omega),if_neg k4,if_neg k5]
   simpa using hf2
  ·rw [writeR_mk,if_neg k0,if_neg k1,if_neg (by omega),if_neg (by omega)]
   exact hw
  ·exact (wfV_mk _ _).2 ⟨by unfold u64B;simp only;omega,by simp,by have := h32 k3;omega,hv⟩
  ·rw [szF_mk,if_pos hk23,Nat.add_mul,Nat.one_mul]
   have h2 : 1 ≤ gB u.length := by unfold gB;omega
   omega
  ·intro hop r'
   rw [readR_mk,if_neg k0,if_neg k1,if_neg k4,if_neg k5,if_pos k3]
   have := ho (hshut.2 hop) r'
   rw [List.drop_zero] at this
   exact this
 rw [if_neg k3] at hrd
 have k2 : h.k = 2 := by omega
 split at hrd
 ·simp at hrd
 rename_i hz
 have hz := Decidable.not_not.1 hz
 obtain ⟨g1,g2,g3,g4,g5,g6,g7⟩ := lenE_ok hz
 have happ := fun r => lenE_app (h := h) (b := b) (by have := hown.k12 (.inr k2);omega) hz r
 have hs := hown.k12 (.inr k2)
 obtain ⟨g,rfl,hgc,hgo,hgl⟩ := list_item hck k2
 rw [readHd_one] at hrd
 have hgz : szF g ≤ 100000 := hPz g (by simp)
 generalize hn : (lenE h b).2.2 = n at *
 have hgd : ∀ j,[g].getD (j % [g].length) nilF = g := by intro j;simp [Nat.mod_one]
 have key : ∀ (fuel : Nat) (b : List UInt8) (off q0 : Nat) (acc : List Vt) (x : Vt) (rest : List UInt8) (q : Nat),b.length ≤ fuel → b.length ≤ 140737488351232 → iterR (readR g) fuel b off q0 acc = .got x rest q →
   ∃ ys,x = .mk ⟨0,[]⟩ (acc ++ ys) ∧ rest = [] ∧ ys.length ≤ b.length ∧ (∀ (c0 j : Nat),c0 + b.length ≤ 140737488351232 → fitL (.mk h [g]) c0 j ys = (wrap64 (h.s + ((c0 + b.length : Nat) : Int)),mayR ((c0 + b.length : Nat) : Int) h.lo h.hi h.st) ∧ writeL (.mk h [g]) j ys = b) ∧ (∀ y ∈ ys,wfV y = true) ∧ q0 ≤ q ∧ q ≤ q0 + szF g * (2 * b.length) := by
  intro fuel
  induction fuel with
  | zero =>
   intro b off q0 acc x rest q hbf _ hr
   rw [iterR] at hr
   injection hr with e1 e2 e3
   subst e1 e2 e3
   have hb0 : b = [] := List.eq_nil_of_length_eq_zero (by omega)
   subst hb0
   refine ⟨[],by simp,rfl,by simp,fun c0 j _ => ⟨?_,by rw [writeL]⟩,by simp,by omega,by omega⟩
   rw [fitL_nil,if_neg k3]
   rfl
  | succ fuel ihf =>
   intro b off q0 acc x rest q hbf hbl hr
   rw [iterR] at hr
   by_cases hb0 : b.length = 0
   ·rw [if_pos hb0] at hr
    injection hr with e1 e2 e3
    subst e1 e2 e3
    have hb0 : b = [] := List.eq_nil_of_length_eq_zero (by omega)
    subst hb0
    refine ⟨[],by simp,rfl,by simp,fun c0 j _ => ⟨?_,by rw [writeL]⟩,by simp,by omega,by omega⟩
    rw [fitL_nil,if_neg k3]
    rfl
   rw [if_neg hb0] at hr
   cases hx : readR g b with
   | bad a e s => rw [hx] at hr;simp at hr
   | got y r s =>
    rw [hx] at hr
    simp only at hr
    obtain ⟨u1,hb1,f1,l1,w1,v1,q1,q2,o1⟩ := ih g (by simp) hgz hgc b hbl y r s hx
    have hbr : b.length = u1.length + r.length := by rw [hb1,List.length_append]
    have hsp := span_sz FH.lo (.inl rfl) g hgz hgc
    have hgl2 : leastR g = spanR FH.lo g := rfl
    have hu1 : 1 ≤ u1.length := by omega
    obtain ⟨ys,hx2,hr0,hyl,hf2,hv2,hq3,hq4⟩ := ihf r _ _ _ x rest q (by omega) (by omega) hr
    refine ⟨y :: ys,by rw [hx2,List.append_assoc];rfl,hr0,by rw [List.length_cons];omega,fun c0 j hc0 => ?_,?_,by omega,?_⟩
    ·obtain ⟨h1,h2⟩ := hf2 (c0 + u1.length) (j + 1) (by omega)
     constructor
     ·rw [fitL]
      simp only [RT.l,hgd,f1,if_true]
      rw [w64 (by omega) (by omega),show (c0 : Int) + (u1.length : Int) = ((c0 + u1.length : Nat) : Int) by omega,h1,show c0 + u1.length + r.length = c0 + b.length by omega]
     ·rw [writeL]
      simp only [RT.l,hgd,w1,h2]
      exact hb1.symm
    ·intro z hz
     rcases List.mem_cons.1 hz with rfl | hz
     ·exact v1
     ·exact hv2 z hz
    ·have e1 := Nat.mul_le_mul_left (szF g) (show gB u1.length ≤ 2 * u1.length by unfold gB;omega)
     have e2 : szF g * (2 * b.length) = szF g * (2 * u1.length) + szF g * (2 * r.length) := by rw [← Nat.mul_add];congr 1;omega
     omega
 cases hit : iterR (readR g) n ((b.drop h.s.toNat).take n) h.s.toNat 1 [] with
 | bad a e s => rw [hit] at hrd;simp at hrd
 | got y r s =>
  rw [hit] at hrd
  simp only at hrd
  injection hrd with e1 e2 e3
  subst e1 e2 e3
  have hlen2 : ((b.drop h.s.toNat).take n).length = n := by rw [List.length_take,List.length_drop];omega
  have hlen : (b.take (h.s.toNat + n)).length = h.s.toNat + n := by rw [List.length_take];omega
  have hu : b.take (h.s.toNat + n) = b.take h.s.toNat ++ (b.drop h.s.toNat).take n := by rw [List.take_add]
  obtain ⟨ys,hx2,hr0,hyl,hf2,hv2,hq3,hq4⟩ := key n _ _ _ _ _ _ _ (by omega) (by omega) hit
  rw [List.nil_append] at hx2
  subst hx2
  obtain ⟨hf3,hw3⟩ := hf2 0 0 (by omega)
  rw [hlen2] at hf3 hyl hq4
  rw [Nat.zero_add] at hf3
  refine ⟨b.take (h.s.toNat + n),(List.take_append_drop _ _).symm,?_,?_,?_,?_,by omega,?_,?_⟩
  ·rw [fitR_mk]
   simp only [List.length_nil,alone_l (.inl k2),Bool.true_eq_false,if_false,if_neg k0,if_neg k1,if_neg k4,if_neg k5]
   rw [if_neg (fun hh => k3 hh.1)]
   have := hf3
   rw [mayR_is g2 g3 g4,w64 (by omega) (by omega)] at this
   rw [hlen]
   refine this.trans ?_
   congr 1
   omega
  ·rw [leastR,spanR_mk,if_neg k0,if_pos (.inr k2),hlen,w64 (by omega) (by omega)]
   omega
  ·rw [writeR_mk,if_neg k0,if_neg k1,if_neg (by omega),if_pos k2,hw3,hlen2,hu]
   have := beB_be (b.take h.s.toNat)
   rw [List.length_take,Nat.min_eq_left (by omega),← g6] at this
   rw [this]
  ·exact (wfV_mk _ _).2 ⟨by unfold u64B;simp only;omega,by simp,by omega,hv2⟩
  ·rw [szF_mk,if_pos hk23,hlen]
   have h1 : 2 * n + 1 ≤ gB (h.s.toNat + n) := by unfold gB;omega
   have h2 := Nat.mul_le_mul_left (1 + szL [g]) h1
   rw [Nat.add_mul,Nat.one_mul] at h2
   have h3 : szL [g] = szF g := by rw [szL,szL];omega
   have h4 : szF g * (2 * n) ≤ szF g * (2 * n + 1) := Nat.mul_le_mul_left _ (by omega)
   rw [h3] at h2 ⊢
   omega
  ·intro _ r'
   rw [readR_mk,if_neg k0,if_neg k1,if_neg k4,if_neg k5,if_neg k3,happ r',if_neg (by simp [hz]),hn,readHd_one]
   have e5 : (((b.take (h.s.toNat + n) ++ r').drop h.s.toNat).take n) = (b.drop h.s.toNat).take n := by
    rw [List.drop_append_of_le_length (by omega),List.take_append_of_le_length (by rw [List.length_drop];omega),hu,List.drop_append_of_le_length (by rw [List.length_take];omega),List.drop_of_length_le (l := b.take h.s.toNat) (by rw [List.length_take];omega),List.nil_append,List.take_take,Nat.min_self]
   rw [e5,hit]
   simp only
   rw [List.drop_append_of_le_length (by omega),List.drop_of_length_le (by omega)]
   rfl
end Go.Proofs.YtdhnfccgojgehaaDoor

namespace Go.Proofs.YtdhnfccgojgehaaDoor
open Go.RowKit

def WroteR (f : Fm) (x : Vt) (n : Int) : Prop :=
 ((writeR f x).length : Int) = n ∧ (openR f = false → ∀ m,∃ q,readR f (writeR f x ++ m) = .got x m q) ∧ ∃ q,readR f (writeR f x) = .got x [] q

theorem be_frontW (n x : Nat) (r : List UInt8) (h : x < 256 ^ n) : be ((beB n x ++ r).take n) = x := by
 rw [List.take_left' (beB_length n x),be_beB,Nat.mod_eq_of_lt h]
theorem lenE_is {h : FH} {w : List UInt8} {N : Nat} (hw : w.length = N) (hs : 0 ≤ h.s) (hN : N < 256 ^ h.s.toNat) (hm : mayR (N : Int) h.lo h.hi h.st = 0) (m : List UInt8) : lenE h (beB h.s.toNat N ++ (w ++ m)) = (0,0,N) := by
 obtain ⟨h1,h2,h3⟩ := mayR_ok hm
 have e := be_frontW h.s.toNat N (w ++ m) hN
 unfold lenE
 rw [e,if_neg,if_neg,if_neg]
 ·simp only [List.length_append,beB_length];omega
 ·simp only [not_or,Decidable.not_not];exact ⟨by omega,by omega,h3⟩
 ·simp only [List.length_append,beB_length];omega
theorem alone_is {k n : Int} {b l : Nat} (h : ¬ aloneB k n b l = false) : (fld k = 0 ∨ n = 0) ∧ (fld k = 1 ∨ b = 0) ∧ (fld k = 2 ∨ l = 0) := by
 rw [Bool.not_eq_false] at h
 unfold aloneB at h
 simpa using h

theorem write_got (f : Fm) : szF f ≤ 100000 → checkR f = 0 → ∀ x n,wfV x = true → fitR f x = (n,0) → (writeR f x).length ≤ 140737488351232 → WroteR f x n := by
 induction f using RT.induct with
 | h h P ih =>
 intro hsz hck x n hwf hfit hbd
 obtain ⟨hown,hone,h32,hch⟩ := check_ok hck
 obtain ⟨⟨a,b⟩,l⟩ := x
 obtain ⟨hu64,hbl,hll,hwl⟩ := (wfV_mk _ _).1 hwf
 simp only at hu64 hbl hll
 rw [fitR_mk] at hfit
 by_cases hal : aloneB h.k a b.length l.length = false
 ·rw [if_pos hal] at hfit
  simp at hfit
 rw [if_neg hal] at hfit
 obtain ⟨ha0,ha1,ha2⟩ := alone_is hal
 simp only at ha0 ha1 ha2 hfit
 by_cases k0 : h.k = 0
 ·rw [if_pos k0] at hfit
  have hf : fld h.k = 0 := by rw [k0];rfl
  obtain rfl : b = [] := List.eq_nil_of_length_eq_zero (by omega)
  obtain rfl : l = [] := List.eq_nil_of_length_eq_zero (by omega)
  have hs := hown.k0 k0
  have hsb := own_sz hck k0
  split at hfit
  ·simp at hfit
  rename_i hlt
  injection hfit with hn _
  subst hn
  have e : writeR (.mk h P) (.mk ⟨a,[]⟩ []) = beB h.s.toNat a.toNat := by rw [writeR_mk,if_pos k0]
  have hA : a.toNat < 256 ^ h.s.toNat := by
   have h2 : (256 : Nat) ^ h.s.toNat = 2 ^ (8 * h.s.toNat) := by rw [Nat.pow_mul]
   have h4 : ((2 : Int) ^ (8 * h.s.toNat)) = ((2 ^ (8 * h.s.toNat) : Nat) : Int) := by simp
   unfold u64B at hu64
   by_cases h8 : h.s < 8
   ·have : ¬ (2 : Int) ^ (8 * h.s.toNat) ≤ a := fun hh => hlt ⟨h8,hh⟩
    omega
   ·have h5 : h.s.toNat = 8 := by omega
    rw [h5]
    have h3 : (256 : Nat) ^ 8 = 18446744073709551616 := by decide
    omega
  have ea : ((a.toNat : Nat) : Int) = a := by unfold u64B at hu64;omega
  have key : ∀ m,readR (.mk h P) (beB h.s.toNat a.toNat ++ m) = .got (.mk ⟨a,[]⟩ []) m 1 := by
   intro m
   rw [readR_mk,if_pos k0,if_neg (by rw [List.length_append,beB_length];omega),be_frontW _ _ _ hA,List.drop_left' (beB_length _ _),ea]
  refine ⟨by rw [e,beB_length];omega,fun _ m => ⟨1,by rw [e];exact key m⟩,1,by rw [e];have := key [];rwa [List.append_nil] at this⟩
 rw [if_neg k0] at hfit
 have hk := hown.k
 have hfn : fld h.k ≠ 0 := by
  intro hh
  unfold fld at hh
  split at hh <;> (try split at hh) <;> omega
 obtain rfl : a = 0 := ha0.resolve_left hfn
 by_cases k1 : h.k = 1
 ·rw [if_pos k1] at hfit
  have hf : fld h.k = 1 := by rw [k1];rfl
  obtain rfl : l = [] := List.eq_nil_of_length_eq_zero (by omega)
  obtain ⟨hs1,hs2,hl1,hl2,hl3,hl4,hl5,hl6⟩ := hown.k12 (.inl k1)
  injection hfit with hn hm
  obtain ⟨m1,m2,m3⟩ := mayR_ok hm
  have hN : b.length < 256 ^ h.s.toNat := by
   have : (((256 ^ h.s.toNat : Nat)) : Int) = 256 ^ h.s.toNat := by simp
   omega
  rw [w64 (by omega) (by omega)] at hn
  have e : writeR (.mk h P) (.mk ⟨0,b⟩ []) = beB h.s.toNat b.length ++ b := by rw [writeR_mk,if_neg k0,if_pos k1]
  have key : ∀ m,readR (.mk h P) (beB h.s.toNat b.length ++ b ++ m) = .got (.mk ⟨0,b⟩ []) m 1 := by
   intro m
   rw [List.append_assoc,readR_mk,if_neg k0,if_pos k1,lenE_is rfl (by omega) hN hm,if_neg (by simp)]
   congr 1
   ·congr 2
    simp only
    rw [List.drop_left' (beB_length _ _),List.take_left' rfl]
   ·rw [← List.append_assoc,List.drop_left' (by rw [List.length_append,beB_length])]
  refine ⟨by rw [e,List.length_append,beB_length];omega,fun _ m => ⟨1,by rw [e];exact key m⟩,1,by rw [e];have := key [];rwa [List.append_nil] at this⟩
 rw [if_neg k1] at hfit
 by_cases k4 : h.k = 4
 ·rw [if_pos k4] at hfit
  have hf : fld h.k = 1 := by rw [k4];rfl
  obtain rfl : l = [] := List.eq_nil_of_length_eq_zero (by omega)
  injection hfit with hn hm
  obtain ⟨m1,m2,m3⟩ := mayR_ok hm
  have e : writeR (.mk h P) (.mk ⟨0,b⟩ []) = b := by rw [writeR_mk,if_neg k0,if_neg k1,if_pos (.inl k4)]
  refine ⟨by rw [e];exact hn,fun ho => ?_,1,?_⟩
  ·rw [openR_mk,if_neg (by omega)] at ho
   simp [k4] at ho
  ·rw [e,readR_mk,if_neg k0,if_neg k1,if_pos k4,if_neg (by omega),if_neg (by omega)]
 rw [if_neg k4] at hfit
 by_cases k5 : h.k = 5
 ·rw [if_pos k5] at hfit
  have hf : fld h.k = 1 := by rw [k5];rfl
  obtain rfl : l = [] := List.eq_nil_of_length_eq_zero (by omega)
  injection hfit with hn hm
  obtain ⟨m1,m2,m3⟩ := mayR_ok hm
  have hl := hown.k5 k5
  have e : writeR (.mk h P) (.mk ⟨0,b⟩ []) = b := by rw [writeR_mk,if_neg k0,if_neg k1,if_pos (.inr k5)]
  have key : ∀ m,readR (.mk h P) (b ++ m) = .got (.mk ⟨0,b⟩ []) m 1 := by
   intro m
   rw [readR_mk,if_neg k0,if_neg k1,if_neg k4,if_pos k5,if_neg (by rw [List.length_append];omega),List.take_left' (by omega),List.drop_left' (by omega)]
  refine ⟨by rw [e];omega,fun _ m => ⟨1,by rw [e];exact key m⟩,1,by rw [e];have := key [];rwa [List.append_nil] at this⟩
 rw [if_neg k5] at hfit
 have hk23 : h.k = 2 ∨ h.k = 3 := by omega
 have hf : fld h.k = 2 := by rcases hk23 with hh | hh <;> rw [hh] <;> rfl
 obtain rfl : b = [] := List.eq_nil_of_length_eq_zero (by omega)
 have hPc : ∀ y ∈ P,checkR y = 0 := (hch hk23).1
 rw [szF_mk,if_pos hk23] at hsz
 have hPz : ∀ y ∈ P,szF y ≤ 100000 := fun y hy => by have := szL_mem hy;omega
 by_cases k3 : h.k = 3
 ·by_cases hlen : l.length = P.length
  rotate_left
  ·rw [if_pos ⟨k3,hlen⟩] at hfit
   simp at hfit
  rw [if_neg (fun hh => hh.2 hlen)] at hfit
  have hshut := row_shut hck k3
  have key : ∀ (ys : List Vt) (i c0 : Nat) (n : Int),i + ys.length = P.length → (∀ y ∈ ys,wfV y = true) → c0 + (writeL (.mk h P) i ys).length ≤ 140737488351232 → fitL (.mk h P) c0 i ys = (n,0) →
    n = ((c0 + (writeL (.mk h P) i ys).length : Nat) : Int) ∧ ∀ off q0 acc,((∀ j (hj : j < P.length),openR P[j] = false) → ∀ m,∃ q,readRow (P.drop i) (writeL (.mk h P) i ys ++ m) off q0 acc = .got (.mk ⟨0,[]⟩ (acc ++ ys)) m q) ∧ ∃ q,readRow (P.drop i) (writeL (.mk h P) i ys) off q0 acc = .got (.mk ⟨0,[]⟩ (acc ++ ys)) [] q := by
   intro ys
   induction ys with
   | nil =>
    intro i c0 n hi _ _ hft
    rw [fitL_nil,if_pos k3] at hft
    injection hft with hn _
    refine ⟨by rw [writeL,← hn];simp,fun off q0 acc => ⟨fun _ m => ⟨q0,?_⟩,q0,?_⟩⟩
    ·rw [readRow_end (by simp at hi;omega),writeL];simp
    ·rw [readRow_end (by simp at hi;omega),writeL];simp
   | cons y t iht =>
    intro i c0 n hi hw hb hft
    rw [List.length_cons] at hi
    have hlt : i < P.length := by omega
    have hmem := List.getElem_mem hlt
    have hg : P.getD (i % P.length) nilF = P[i] := by rw [Nat.mod_eq_of_lt hlt];simp [hlt]
    rw [writeL] at hb ⊢
    simp only [RT.l,hg,List.length_append] at hb ⊢
    rw [fitL] at hft
    simp only [RT.l,hg] at hft
    obtain ⟨⟨k,e⟩,hke⟩ : ∃ r,fitR P[i] y = r := ⟨_,rfl⟩
    rw [hke] at hft
    simp only at hft
    by_cases he : e = 0
    rotate_left
    ·rw [if_neg he] at hft
     injection hft with _ h2
     exact absurd h2 he
    subst he
    rw [if_pos rfl] at hft
    obtain ⟨w1,w2,q1,w3⟩ := ih P[i] hmem (hPz _ hmem) (hPc _ hmem) y k (hw y (by simp)) hke (by omega)
    subst w1
    rw [w64 (by omega) (by omega),show (c0 : Int) + ((writeR P[i] y).length : Int) = ((c0 + (writeR P[i] y).length : Nat) : Int) by omega] at hft
    obtain ⟨g1,g2⟩ := iht (i + 1) (c0 + (writeR P[i] y).length) n (by omega) (fun z hz => hw z (by simp [hz])) (by omega) hft
    refine ⟨by rw [g1];congr 1;omega,fun off q0 acc => ⟨fun hall m => ?_,?_⟩⟩
    ·obtain ⟨q2,h2⟩ := w2 (hall i hlt) (writeL (.mk h P) (i + 1) t ++ m)
     obtain ⟨q3,h3⟩ := (g2 (off + ((writeR P[i] y ++ (writeL (.mk h P) (i + 1) t ++ m)).length - (writeL (.mk h P) (i + 1) t ++ m).length)) (q0 + q2) (acc ++ [y])).1 hall m
     refine ⟨q3,?_⟩
     rw [readRow_drop hlt,List.append_assoc,h2]
     simp only
     rw [h3,List.append_assoc]
     rfl
    ·by_cases hlast : i + 1 < P.length
     ·obtain ⟨q2,h2⟩ := w2 (hshut.1 i hlt hlast) (writeL (.mk h P) (i + 1) t)
      obtain ⟨q3,h3⟩ := (g2 (off + ((writeR P[i] y ++ writeL (.mk h P) (i + 1) t).length - (writeL (.mk h P) (i + 1) t).length)) (q0 + q2) (acc ++ [y])).2
      refine ⟨q3,?_⟩
      rw [readRow_drop hlt,h2]
      simp only
      rw [h3,List.append_assoc]
      rfl
     ·obtain rfl : t = [] := List.eq_nil_of_length_eq_zero (by omega)
      refine ⟨q0 + q1,?_⟩
      rw [readRow_drop hlt,writeL,List.append_nil,w3]
      simp only
      rw [readRow_end (by omega)]
  have e : writeR (.mk h P) (.mk ⟨0,[]⟩ l) = writeL (.mk h P) 0 l := by rw [writeR_mk,if_neg k0,if_neg k1,if_neg (by omega),if_neg (by omega)]
  rw [e] at hbd
  obtain ⟨g1,g2⟩ := key l 0 0 n (by omega) hwl (by omega) hfit
  obtain ⟨g3,g4⟩ := g2 0 1 []
  refine ⟨by rw [e,g1];simp,fun ho m => ?_,?_⟩
  ·obtain ⟨q,hq⟩ := g3 (hshut.2 ho) m
   refine ⟨q,?_⟩
   rw [e,readR_mk,if_neg k0,if_neg k1,if_neg k4,if_neg k5,if_pos k3]
   exact hq
  ·obtain ⟨q,hq⟩ := g4
   refine ⟨q,?_⟩
   rw [e,readR_mk,if_neg k0,if_neg k1,if_neg k4,if_neg k5,if_pos k3]
   exact hq
 rw [if_neg (fun hh => k3 hh.1)] at hfit
 have k2 : h.k = 2 := by omega
 obtain ⟨g,rfl,hgc,hgo,hgl⟩ := list_item hck k2
 have hgz := hPz g (by simp)
 obtain ⟨hs1,hs2,hl1,hl2,hl3,hl4,hl5,hl6⟩ := hown.k12 (.inr k2)
 have key : ∀ (ys : List Vt) (j c0 : Nat) (n : Int),(∀ y ∈ ys,wfV y = true) → c0 + (writeL (.mk h [g]) j ys).length ≤ 140737488351232 → fitL (.mk h [g]) c0 j ys = (n,0) →
   n = wrap64 (h.s + ((c0 + (writeL (.mk h [g]) j ys).length : Nat) : Int)) ∧ mayR ((c0 + (writeL (.mk h [g]) j ys).length : Nat) : Int) h.lo h.hi h.st = 0 ∧
   ∀ fuel off q0 acc,(writeL (.mk h [g]) j ys).length ≤ fuel → ∃ q,iterR (readR g) fuel (writeL (.mk h [g]) j ys) off q0 acc = .got (.mk ⟨0,[]⟩ (acc ++ ys)) [] q := by
  intro ys
  induction ys with
  | nil =>
   intro j c0 n _ _ hft
   rw [fitL_nil,if_neg k3] at hft
   injection hft with hn hm
   rw [writeL]
   refine ⟨hn.symm,hm,fun fuel off q0 acc _ => ⟨q0,?_⟩⟩
   cases fuel with
   | zero => rw [iterR];simp
   | succ fuel => rw [iterR,if_pos List.length_nil];simp
  | cons y t iht =>
   intro j c0 n hw hb hft
   have hg : ([g] : List Fm).getD (j % ([g] : List Fm).length) nilF = g := by simp [Nat.mod_one]
   rw [writeL] at hb ⊢
   simp only [RT.l,hg,List.length_append] at hb ⊢
   rw [fitL] at hft
   simp only [RT.l,hg] at hft
   obtain ⟨⟨k,e⟩,hke⟩ : ∃ r,fitR g y = r := ⟨_,rfl⟩
   rw [hke] at hft
   simp only at hft
   by_cases he : e = 0
   rotate_left
   ·rw [if_neg he] at hft
    injection hft with _ h2
    exact absurd h2 he
   subst he
   rw [if_pos rfl] at hft
   obtain ⟨w1,w2,q1,w3⟩ := ih g (by simp) hgz hgc y k (hw y (by simp)) hke (by omega)
   have hleast : leastR g ≤ ((writeR g y).length : Int) := by
    obtain ⟨u,hu,_,hu2,hu3,_⟩ := read_got g hgz hgc (writeR g y) (by omega) y [] q1 w3
    rw [hu3]
    exact hu2
   have hsp := span_sz FH.lo (.inl rfl) g hgz hgc
   have hgl2 : leastR g = spanR FH.lo g := rfl
   subst w1
   rw [w64 (by omega) (by omega),show (c0 : Int) + ((writeR g y).length : Int) = ((c0 + (writeR g y).length : Nat) : Int) by omega] at hft
   obtain ⟨g1,g2,g3⟩ := iht (j + 1) (c0 + (writeR g y).length) n (fun z hz => hw z (by simp [hz])) (by omega) hft
   rw [Nat.add_assoc] at g1 g2
   refine ⟨g1,g2,fun fuel off q0 acc hfu => ?_⟩
   cases fuel with
   | zero => omega
   | succ fuel =>
    obtain ⟨q2,h2⟩ := w2 hgo (writeL (.mk h [g]) (j + 1) t)
    obtain ⟨q3,h3⟩ := g3 fuel (off + ((writeR g y ++ writeL (.mk h [g]) (j + 1) t).length - (writeL (.mk h [g]) (j + 1) t).length)) (q0 + q2) (acc ++ [y]) (by omega)
    refine ⟨q3,?_⟩
    rw [iterR,if_neg (by rw [List.length_append];omega),h2]
    simp only
    rw [h3,List.append_assoc]
    rfl
 have e : writeR (.mk h [g]) (.mk ⟨0,[]⟩ l) = beB h.s.toNat (writeL (.mk h [g]) 0 l).length ++ writeL (.mk h [g]) 0 l := by rw [writeR_mk,if_neg k0,if_neg k1,if_neg (by omega),if_pos k2]
 rw [e,List.length_append,beB_length] at hbd
 obtain ⟨g1,g2,g3⟩ := key l 0 0 n hwl (by omega) hfit
 rw [Nat.zero_add] at g1 g2
 obtain ⟨m1,m2,m3⟩ := mayR_ok g2
 have hN : (writeL (.mk h [g]) 0 l).length < 256 ^ h.s.toNat := by
  have : (((256 ^ h.s.toNat : Nat)) : Int) = 256 ^ h.s.toNat := by simp
  omega
 rw [w64 (by omega) (by omega)] at g1
 obtain ⟨q,hq⟩ := g3 (writeL (.mk h [g]) 0 l).length h.s.toNat 1 [] (Nat.le_refl _)
 have keyR : ∀ m,readR (.mk h [g]) (beB h.s.toNat (writeL (.mk h [g]) 0 l).length ++ writeL (.mk h [g]) 0 l ++ m) = .got (.mk ⟨0,[]⟩ l) m q := by
  intro m
  rw [List.append_assoc,readR_mk,if_neg k0,if_neg k1,if_neg k4,if_neg k5,if_neg k3,lenE_is rfl (by omega) hN g2,if_neg (by simp),readHd_one]
  simp only
  rw [List.drop_left' (beB_length _ _),List.take_left' rfl,hq]
  simp only [List.nil_append]
  rw [← List.append_assoc,List.drop_left' (by rw [List.length_append,beB_length])]
 refine ⟨by rw [e,List.length_append,beB_length];omega,fun _ m => ⟨q,by rw [e];exact keyR m⟩,q,by rw [e];have := keyR [];rwa [List.append_nil] at this⟩
end Go.Proofs.YtdhnfccgojgehaaDoor

namespace Go.Proofs.YtdhnfccgojgehaaDoor
open Go.RowKit

theorem fitL_cons (h : FH) (P : List Fm) (q : Int) (j : Nat) (x : Vt) (t : List Vt) : fitL (.mk h P) q j (x :: t) =
  if (fitR (P.getD (j % P.length) nilF) x).2 = 0 then fitL (.mk h P) (wrap64 (q + (fitR (P.getD (j % P.length) nilF) x).1)) (j + 1) t
  else (0,(fitR (P.getD (j % P.length) nilF) x).2) := by
 rw [fitL]
 rfl
theorem fitL_el {h : FH} {P : List Fm} : ∀ (ys : List Vt) (j : Nat) (c0 n : Int),fitL (.mk h P) c0 j ys = (n,0) → ∀ i (hi : i < ys.length),∃ m,fitR (P.getD ((j + i) % P.length) nilF) ys[i] = (m,0) := by
 intro ys
 induction ys with
 | nil => intro j c0 n _ i hi;simp at hi
 | cons y t ih =>
  intro j c0 n hf i hi
  rw [fitL_cons] at hf
  by_cases he : (fitR (P.getD (j % P.length) nilF) y).2 = 0
  rotate_left
  ·rw [if_neg he] at hf
   injection hf with _ h2
   exact absurd h2 he
  rw [if_pos he] at hf
  cases i with
  | zero => exact ⟨(fitR (P.getD (j % P.length) nilF) y).1,by rw [Nat.add_zero,List.getElem_cons_zero,← he]⟩
  | succ i =>
   obtain ⟨m,hm⟩ := ih (j + 1) _ n hf i (by simpa using hi)
   exact ⟨m,by rw [show j + (i + 1) = j + 1 + i from by omega,List.getElem_cons_succ];exact hm⟩
theorem fitL_len {h : FH} {P : List Fm} (k3 : h.k ≠ 3) : ∀ (ys : List Vt) (j c0 : Nat) (n : Int),
  (∀ y ∈ ys,∀ q m,fitR (P.getD (q % P.length) nilF) y = (m,0) → (writeR (P.getD (q % P.length) nilF) y).length ≤ 140737488351232 → ((writeR (P.getD (q % P.length) nilF) y).length : Int) = m) →
  c0 + (writeL (.mk h P) j ys).length ≤ 140737488351232 → fitL (.mk h P) c0 j ys = (n,0) → mayR ((c0 + (writeL (.mk h P) j ys).length : Nat) : Int) h.lo h.hi h.st = 0 := by
 intro ys
 induction ys with
 | nil =>
  intro j c0 n _ _ hf
  rw [fitL_nil,if_neg k3] at hf
  injection hf with _ hm
 | cons y t ih =>
  intro j c0 n hel hb hf
  rw [writeL] at hb ⊢
  rw [fitL_cons] at hf
  simp only [RT.l,List.length_append] at hb ⊢
  obtain ⟨⟨k,e⟩,hke⟩ : ∃ r,fitR (P.getD (j % P.length) nilF) y = r := ⟨_,rfl⟩
  rw [hke] at hf
  simp only at hf
  by_cases he : e = 0
  rotate_left
  ·rw [if_neg he] at hf
   injection hf with _ h2
   exact absurd h2 he
  subst he
  rw [if_pos rfl] at hf
  have hk := hel y (by simp) j k hke (by omega)
  rw [← hk,w64 (by omega) (by omega),show (c0 : Int) + ((writeR (P.getD (j % P.length) nilF) y).length : Int) = ((c0 + (writeR (P.getD (j % P.length) nilF) y).length : Nat) : Int) by omega] at hf
  have := ih (j + 1) _ n (fun z hz => hel z (by simp [hz])) (by omega) hf
  rwa [Nat.add_assoc] at this
theorem writeL_snoc (f : Fm) : ∀ (ys : List Vt) (j : Nat) (x : Vt),writeL f j (ys ++ [x]) = writeL f j ys ++ writeR (f.l.getD ((j + ys.length) % f.l.length) nilF) x := by
 intro ys
 induction ys with
 | nil => intro j x;rw [List.nil_append,writeL,writeL,writeL];simp
 | cons y t ih =>
  intro j x
  rw [List.cons_append,writeL,ih,writeL,List.append_assoc,List.length_cons,show j + 1 + t.length = j + (t.length + 1) from by omega]
theorem writeL_take (f : Fm) (ys : List Vt) (i : Nat) (hi : i < ys.length) : writeL f 0 (ys.take (i + 1)) = writeL f 0 (ys.take i) ++ writeR (f.l.getD (i % f.l.length) nilF) ys[i] := by
 rw [List.take_succ_eq_append_getElem hi,writeL_snoc,List.length_take,Nat.min_eq_left (by omega),Nat.zero_add]
theorem writeL_le (f : Fm) (ys : List Vt) (i : Nat) (hi : i < ys.length) : (writeL f 0 (ys.take i)).length + (writeR (f.l.getD (i % f.l.length) nilF) ys[i]).length ≤ (writeL f 0 ys).length := by
 have hap : ∀ (a b : List Vt) (j : Nat),(writeL f j a).length ≤ (writeL f j (a ++ b)).length := by
  intro a
  induction a with
  | nil => intro b j;rw [writeL];simp
  | cons y t ih => intro b j;rw [List.cons_append,writeL,writeL,List.length_append,List.length_append];have := ih b (j + 1);omega
 have h1 := hap (ys.take (i + 1)) (ys.drop (i + 1)) 0
 rw [List.take_append_drop,writeL_take f ys i hi,List.length_append] at h1
 exact h1

/-- What stands in a value that fits, kind by kind. -/
inductive FitK (h : FH) (P : List Fm) (a : Int) (b : List UInt8) (l : List Vt) : Prop where
 | num (s : Nat) : h.k = 0 → h.s = s → szB s = true → a.toNat < 256 ^ s → a = (a.toNat : Nat) → a.toNat < 18446744073709551616 → FitK h P a b l
 | opq (s : Nat) : h.k = 1 → h.s = s → 1 ≤ s → s ≤ 3 → b.length < 256 ^ s → FitK h P a b l
 | raw : h.k = 4 ∨ h.k = 5 → FitK h P a b l
 | list (s : Nat) : h.k = 2 → h.s = s → 1 ≤ s → s ≤ 3 → (writeL (.mk h P) 0 l).length < 256 ^ s → 0 < P.length → (∀ y ∈ P,checkR y = 0) → (∀ i (hi : i < l.length),∃ m,fitR (P.getD (i % P.length) nilF) l[i] = (m,0)) → FitK h P a b l
 | row : h.k = 3 → l.length = P.length → (∀ y ∈ P,checkR y = 0) → (∀ i (hi : i < l.length),∃ m,fitR (P.getD (i % P.length) nilF) l[i] = (m,0)) → FitK h P a b l

theorem fit_kinds {h : FH} {P : List Fm} {a : Int} {b : List UInt8} {l : List Vt} {n : Int} (hz : szF (.mk h P) ≤ 100000) (hc : checkR (.mk h P) = 0) (hw : wfV (.mk ⟨a,b⟩ l) = true) (hf : fitR (.mk h P) (.mk ⟨a,b⟩ l) = (n,0)) (hbd : (writeR (.mk h P) (.mk ⟨a,b⟩ l)).length ≤ 140737488351232) : FitK h P a b l := by
 obtain ⟨hown,hone,h32,hch⟩ := check_ok hc
 obtain ⟨hu64,hbl,hll,hwl⟩ := (wfV_mk _ _).1 hw
 simp only at hu64 hbl hll
 rw [fitR_mk] at hf
 by_cases hal : aloneB h.k a b.length l.length = false
 ·rw [if_pos hal] at hf
  simp at hf
 rw [if_neg hal] at hf
 simp only at hf
 by_cases k0 : h.k = 0
 ·rw [if_pos k0] at hf
  have hs := hown.k0 k0
  have hsb := own_sz hc k0
  split at hf
  ·simp at hf
  rename_i hlt
  have hA : a.toNat < 256 ^ h.s.toNat := by
   have h2 : (256 : Nat) ^ h.s.toNat = 2 ^ (8 * h.s.toNat) := by rw [Nat.pow_mul]
   have h4 : ((2 : Int) ^ (8 * h.s.toNat)) = ((2 ^ (8 * h.s.toNat) : Nat) : Int) := by simp
   unfold u64B at hu64
   by_cases h8 : h.s < 8
   ·have : ¬ (2 : Int) ^ (8 * h.s.toNat) ≤ a := fun hh => hlt ⟨h8,hh⟩
    omega
   ·have h5 : h.s.toNat = 8 := by omega
    rw [h5]
    have h3 : (256 : Nat) ^ 8 = 18446744073709551616 := by decide
    omega
  have es : h.s = (h.s.toNat : Int) := by omega
  unfold u64B at hu64
  exact .num h.s.toNat k0 es (by rw [← es];exact hsb) hA (by omega) (by omega)
 rw [if_neg k0] at hf
 by_cases k1 : h.k = 1
 ·rw [if_pos k1] at hf
  obtain ⟨hs1,hs2,hl1,hl2,hl3,hl4,hl5,hl6⟩ := hown.k12 (.inl k1)
  injection hf with hn hm
  obtain ⟨m1,m2,m3⟩ := mayR_ok hm
  have hN : b.length < 256 ^ h.s.toNat := by
   have : (((256 ^ h.s.toNat : Nat)) : Int) = 256 ^ h.s.toNat := by simp
   omega
  exact .opq h.s.toNat k1 (by omega) (by omega) (by omega) hN
 rw [if_neg k1] at hf
 have hk := hown.k
 by_cases k4 : h.k = 4
 ·exact .raw (.inl k4)
 rw [if_neg k4] at hf
 by_cases k5 : h.k = 5
 ·exact .raw (.inr k5)
 rw [if_neg k5] at hf
 have hk23 : h.k = 2 ∨ h.k = 3 := by omega
 have hPc : ∀ y ∈ P,checkR y = 0 := (hch hk23).1
 rw [szF_mk,if_pos hk23] at hz
 have hPz : ∀ y ∈ P,szF y ≤ 100000 := fun y hy => by have := szL_mem hy;omega
 by_cases k3 : h.k = 3
 ·by_cases hlen : l.length = P.length
  rotate_left
  ·rw [if_pos ⟨k3,hlen⟩] at hf
   simp at hf
  rw [if_neg (fun hh => hh.2 hlen)] at hf
  refine .row k3 hlen hPc (fun i hi => ?_)
  obtain ⟨m,hm⟩ := fitL_el l 0 0 n hf i hi
  exact ⟨m,by rwa [Nat.zero_add] at hm⟩
 rw [if_neg (fun hh => k3 hh.1)] at hf
 have k2 : h.k = 2 := by omega
 obtain ⟨g,rfl,hgc,hgo,hgl⟩ := list_item hc k2
 obtain ⟨hs1,hs2,hl1,hl2,hl3,hl4,hl5,hl6⟩ := hown.k12 (.inr k2)
 have e : writeR (.mk h [g]) (.mk ⟨a,b⟩ l) = beB h.s.toNat (writeL (.mk h [g]) 0 l).length ++ writeL (.mk h [g]) 0 l := by rw [writeR_mk,if_neg k0,if_neg k1,if_neg (by omega),if_pos k2]
 rw [e,List.length_append,beB_length] at hbd
 have hg : ∀ q,([g] : List Fm).getD (q % ([g] : List Fm).length) nilF = g := fun q => by simp [Nat.mod_one]
 have hm := fitL_len (h := h) (P := [g]) k3 l 0 0 n (fun y hy q m hq hqb => by
  rw [hg] at hq hqb ⊢
  exact (write_got g (hPz g (by simp)) hgc y m (hwl y hy) hq hqb).1) (by omega) hf
 rw [Nat.zero_add] at hm
 obtain ⟨m1,m2,m3⟩ := mayR_ok hm
 have hN : (writeL (.mk h [g]) 0 l).length < 256 ^ h.s.toNat := by
  have : (((256 ^ h.s.toNat : Nat)) : Int) = 256 ^ h.s.toNat := by simp
  omega
 refine .list h.s.toNat k2 (by omega) (by omega) (by omega) hN (by simp) hPc (fun i hi => ?_)
 obtain ⟨m,hm⟩ := fitL_el l 0 0 n hf i hi
 exact ⟨m,by rwa [Nat.zero_add] at hm⟩
end Go.Proofs.YtdhnfccgojgehaaDoor

namespace Go.Proofs.YtdhnfccgojgehaaDoor
open Go.RowKit
set_option maxRecDepth 100000

theorem BStep.wide {ok ok' : Nat → Prop} {g most : Nat} {bs : List UInt8} {ps : List (Nat × Nat)} {w w2 : World} {e : Ending} (h : BStep (fun i => ok i ∧ i < w.heap.size) g bs most ps w e w2) (hok : ∀ i,ok i → ok' i) : BStep ok' g bs most ps w e w2 := by
 obtain ⟨h1,h2,h3⟩ := h
 exact ⟨h1,h2.mono (fun i _ hi => hi.imp (fun h => hok i h.1) id),h3.mono (fun i _ h => hok i h.1)⟩
/-- What laying a value of a form does. -/
def LayC (f : Fm) : Prop := ∀ (ok okr : Nat → Prop) (g : Nat) (bs : List UInt8) (most : Nat) (ps : List (Nat × Nat)) (x : Vt) (n : Int) (fv vv : Value) (w : World),
 checkR f = 0 → fitR f x = (n,0) → wfV x = true → Bld w ok g bs most ps → FmR w okr fv f → VtR w okr vv x → (∀ i,okr i → i < w.heap.size ∧ ¬ ok i) →
 bs.length + (writeR f x).length ≤ most → ps.length + szF f ≤ 1000000 →
 Calls Tryd.prog 37 #[.pointer (some ⟨g,0,none⟩),fv,vv] w (BStep ok g (bs ++ writeR f x) most ps w)

theorem FmR.here {w : World} {ok : Nat → Prop} {k s lo hi st : Int} {sv : Value} {P : List Fm} (h : FmR w ok (.agg #[.int .i64 k,.int .i64 s,.int .i64 lo,.int .i64 hi,.int .i64 st,sv]) (.mk ⟨k,s,lo,hi,st⟩ P)) : FsR w ok sv P := by
 obtain ⟨sv',e,_,h2⟩ := h
 simp [RT.a] at e
 subst e
 exact h2
theorem FsR.len {w : World} {ok : Nat → Prop} {A : Option Addr} {n c : Nat} {l : List Fm} (h : FsR w ok (.slice A n c) l) : n = l.length ∧ n ≤ c ∧ n ≤ 140737488355328 := by
 obtain ⟨A',c',e,h1,h2,_⟩ := h
 injection e with _ e2 e3
 omega

set_option maxHeartbeats 6400000 in
theorem wall_any (k s lo hi st : Int) (P : List Fm) (hC : ∀ y ∈ P,LayC y) (ok okr : Nat → Prop) (g : Nat) (bs : List UInt8) (most : Nat) (ps : List (Nat × Nat)) (l : List Vt) (A A0 : Option Addr) (c c0 : Nat) (w : World)
  (hel : ∀ i (hi : i < l.length),∃ m,fitR (P.getD (i % P.length) nilF) l[i] = (m,0)) (hP : 0 < l.length → 0 < P.length) (hck : ∀ y ∈ P,checkR y = 0) (hwf : ∀ y ∈ l,wfV y = true)
  (hb : Bld w ok g bs most ps) (hf : FmR w okr (.agg #[.int .i64 k,.int .i64 s,.int .i64 lo,.int .i64 hi,.int .i64 st,.slice A0 P.length c0]) (.mk ⟨k,s,lo,hi,st⟩ P)) (hl : VsR w okr (.slice A l.length c) l)
  (hr : ∀ i,okr i → i < w.heap.size ∧ ¬ ok i) (hlen : bs.length + (writeL (.mk ⟨k,s,lo,hi,st⟩ P) 0 l).length ≤ most) (hps : ∀ y ∈ P,ps.length + szF y ≤ 1000000) :
  Calls Tryd.prog 54 #[.pointer (some ⟨g,0,none⟩),.agg #[.int .i64 k,.int .i64 s,.int .i64 lo,.int .i64 hi,.int .i64 st,.slice A0 P.length c0],.slice A l.length c] w (BStep ok g (bs ++ writeL (.mk ⟨k,s,lo,hi,st⟩ P) 0 l) most ps w) := by
 have ka : Kp (fun _ => False) w (w.alloc (.cells #[.int .i64 k,.int .i64 s,.int .i64 lo,.int .i64 hi,.int .i64 st,.slice A0 P.length c0] 24)) := (Kp.refl _ w).alloc _
 have q4 := Blk.new w 24 #[.int .i64 k,.int .i64 s,.int .i64 lo,.int .i64 hi,.int .i64 st,.slice A0 P.length c0]
 obtain ⟨hl0,hl1,hl2⟩ := hl.len
 have hb1 : Bld w (fun i => ok i ∧ i < w.heap.size) g bs most ps := hb.mono (fun i h1 h2 => ⟨h2,h1⟩)
 have hsz0 : (w.alloc (.cells #[.int .i64 k,.int .i64 s,.int .i64 lo,.int .i64 hi,.int .i64 st,.slice A0 P.length c0] 24)).heap.size = w.heap.size + 1 := World.size_alloc _ _
 obtain ⟨_,hP3,hP4⟩ := hf.here.len
 have HKA := Lib.hid ka
 have HQ4 := Lib.hid q4
 have HB := Lib.hid (hb1.kp ka (fun _ _ h => h))
 have HF := Lib.hid (fun W (hk : Kp (fun i => ok i ∧ i < w.heap.size) w W) => hf.kp hk (fun i hi h => (hr i hi).2 h.1))
 have HL := Lib.hid (fun W (hk : Kp (fun i => ok i ∧ i < w.heap.size) w W) => hl.kp hk (fun i hi h => (hr i hi).2 h.1))
 have HS := Lib.hid hsz0
 have HC := Lib.hid hC
 have HN := Lib.hid (And.intro hel (And.intro hP (And.intro hck (And.intro hwf (And.intro hr (And.intro hlen hps))))))
 clear ka q4 hb hb1 hf hl hr hlen hps hel hP hck hwf hC hsz0 hl0
 go_enter Tryd.func54,Tryd.ntmps54
 go_upto_region 1 with fail
 generalize w.alloc (.cells #[.int .i64 k,.int .i64 s,.int .i64 lo,.int .i64 hi,.int .i64 st,.slice A0 P.length c0] 24) = W0 at HKA HQ4 HB HS ⊢
 go_wp2_with fail
 go_loopw [12] (fun i wr => ∃ j : Nat,j ≤ l.length ∧ i = .int .i64 j ∧ Bld wr (fun i => (ok i ∧ i < w.heap.size) ∨ W0.heap.size ≤ i) g (bs ++ writeL (.mk ⟨k,s,lo,hi,st⟩ P) 0 (l.take j)) most ps ∧ Kp (fun i => ok i ∧ i < w.heap.size) W0 wr) (fun i _ => l.length - (intOf i).toNat)
 case atStart => exact ⟨0,Nat.zero_le _,rfl,by rw [List.take_zero,writeL,List.append_nil];exact HB.out.mono (fun i _ h => .inl h),Kp.refl _ _⟩
 case round =>
  obtain ⟨j,hj,rfl,hbr,hkr⟩ := hrel
  have hkw := (HKA.out.mono (T := fun i => ok i ∧ i < w.heap.size) (fun _ _ h => h.elim)).then_ hkr (fun i h => .inl h)
  have HB4 := Lib.hid (HQ4.out.kp hkr (fun h => absurd h.2 (Nat.lt_irrefl _)))
  have HKR := Lib.hid hkr
  have HKW := Lib.hid hkw
  have HBR := Lib.hid hbr
  clear hkr hkw hbr
  by_cases hlt : j < l.length
  ·have hP0 : 0 < P.length := HN.out.2.1 (by omega)
   obtain ⟨q,hq,m,hm,hmemP,hstep,hle,hmod⟩ : ∃ q,∃ hq : q < P.length,∃ m,fitR (P[q]'hq) l[j] = (m,0) ∧ (P[q]'hq) ∈ P ∧ writeL (.mk ⟨k,s,lo,hi,st⟩ P) 0 (l.take (j + 1)) = writeL (.mk ⟨k,s,lo,hi,st⟩ P) 0 (l.take j) ++ writeR (P[q]'hq) l[j] ∧
     (writeL (.mk ⟨k,s,lo,hi,st⟩ P) 0 (l.take j)).length + (writeR (P[q]'hq) l[j]).length ≤ (writeL (.mk ⟨k,s,lo,hi,st⟩ P) 0 l).length ∧ ((j : Int)).tmod (P.length : Int) = (q : Int) := by
    have hq : j % P.length < P.length := Nat.mod_lt _ hP0
    obtain ⟨m,hm⟩ := HN.out.1 j hlt
    have hgd : P.getD (j % P.length) nilF = P[j % P.length] := by simp [hq]
    have hstep := writeL_take (.mk ⟨k,s,lo,hi,st⟩ P) l j hlt
    have hle := writeL_le (.mk ⟨k,s,lo,hi,st⟩ P) l j hlt
    simp only [RT.l] at hstep hle
    rw [hgd] at hm hstep hle
    exact ⟨j % P.length,hq,m,hm,List.getElem_mem hq,hstep,hle,by rw [Int.tmod_eq_emod_of_nonneg (by omega)];rfl⟩
   have hmemL : l[j] ∈ l := List.getElem_mem hlt
   obtain ⟨bo,off,A1,c1,A2,c2,rfl,hob,hvx,x0,x1,x2⟩ := (HL.out wr HKW.out).at_ hlt
   have hfs := (HF.out wr HKW.out).here
   obtain ⟨bp,offp,A4,c4,rfl,hop4,hfp,p0,p1,p2,p3,p4,p5⟩ := hfs.at_ hq
   have HFS := Lib.hid hfs
   have HLA := Lib.hid (HC.out _ hmemP)
   have HVX := Lib.hid hvx
   have HX := Lib.hid (And.intro hm (And.intro hmemP (And.intro hmemL (And.intro hstep hle))))
   have HMD := Lib.hid hmod
   have hi0 : (0 : Int) ≤ (j : Int) := by omega
   have hi1 : (j : Int) < (l.length : Int) := by omega
   have hpl : (P.length : Int) ≠ 0 := by omega
   have g5 := HB4.out.cell 5
   simp at g5
   clear hvx hm hmemP hmemL hstep hle hmod hfs
   go_upto_region 4 with fail
   have hk5 : Kp (fun _ => False) wr (wr.alloc (.cells #[.int .u64 (l[j]).a.n,.slice A1 (l[j]).a.b.length c1,.slice A2 (l[j]).l.length c2] 31)) := (Kp.refl _ wr).alloc _
   have hq8 := Blk.new wr 31 #[.int .u64 (l[j]).a.n,.slice A1 (l[j]).a.b.length c1,.slice A2 (l[j]).l.length c2]
   have hg4 := HB4.out.kp hk5 (fun h => h)
   have hfs5 := FsR.kp HFS.out hk5 (fun _ _ h => h)
   generalize wr.alloc (.cells #[.int .u64 (l[j]).a.n,.slice A1 (l[j]).a.b.length c1,.slice A2 (l[j]).l.length c2] 31) = W5 at hk5 hq8 hg4 hfs5 ⊢
   generalize wr.heap.size = b8 at hq8 ⊢
   clear x0 x1 x2 g5 p0 p1 p2 p3 p4 p5 hfp
   obtain ⟨bp',offp',A3,c3,e,hop,hfp,p0,p1,p2,p3,p4,p5⟩ := hfs5.at_ hq
   obtain ⟨rfl,rfl⟩ : bp = bp' ∧ offp = offp' := by injection e with e;injection e with e1 e2;exact ⟨e1,e2⟩
   clear e
   have g5 := hg4.cell 5
   have y0 := hq8.cell 0
   have y1 := hq8.cell 1
   have y2 := hq8.cell 2
   simp at g5 y0 y1 y2
   generalize hpq : P[q] = pq at hfp p0 p1 p2 p3 p4 p5 HLA HX
   have HK5 := Lib.hid hk5
   have HG4 := Lib.hid hg4
   have HPQ := Lib.hid hpq
   have HFP := Lib.hid hfp
   clear hk5 hg4 hq8 hpq hfs5 hfp
   have hmod := HMD.out
   have hpne : ¬ P = [] := fun h => by rw [h] at hpl;simp at hpl
   have hq0 : (0 : Int) ≤ (q : Int) := by omega
   have hq1 : (q : Int) < (P.length : Int) := by omega
   go_still_tail 11,(by kernel_rfl)
   change wpList _ _ _ _ _ W5.drew
   have hk6 := HK5.out.drew
   have hg6 := HG4.out.kp ((Kp.refl (fun _ => False) W5).drew) (fun h => h)
   have hf6 := FmR.kp HFP.out ((Kp.refl (fun _ => False) W5).drew) (fun _ _ h => h)
   have hv6 := VtR.kp HVX.out hk6 (fun _ _ h => h)
   have hb6 := Bld.kp HBR.out hk6 (fun _ _ h => h)
   clear g5 y0 y1 y2 p0 p1 p2 p3 p4 p5
   generalize W5.drew = W6 at hk6 hg6 hf6 hv6 hb6 ⊢
   obtain ⟨hm,hmemP,hmemL,hstep,hle⟩ := HX.out
   obtain ⟨_,_,hck,hwf,hr,hlen,hps⟩ := HN.out
   have hsw : w.heap.size ≤ W6.heap.size := Nat.le_trans HKW.out.size hk6.size
   have hlay := HLA.out (fun i => (ok i ∧ i < w.heap.size) ∨ W0.heap.size ≤ i) okr g _ most ps l[j] m _ _ W6 (hck _ hmemP) hm (hwf _ hmemL) hb6 hf6 hv6
    (fun i hi => ⟨Nat.lt_of_lt_of_le (hr i hi).1 hsw,fun h => by
     have := HS.out
     have := hr i hi
     rcases h with h | h
     ·exact this.2 h.1
     ·omega⟩) (by rw [List.length_append];omega) (hps _ hmemP)
   rw [List.append_assoc,← hstep] at hlay
   have HLY := Lib.hid hlay
   have HK6 := Lib.hid hk6
   have HG6 := Lib.hid hg6
   clear hm hmemP hmemL hstep hle hck hwf hr hlen hps hsw hlay hk6 hg6 hf6 hv6 hb6
   go_wp2_with fail
   refine HLY.out.mono ?_
   rintro e w7 ⟨rfl,hb7,hk7⟩
   have HB7 := Lib.hid hb7
   have HK7 := Lib.hid hk7
   clear hb7 hk7
   go_wp2_with fail
   go_roundw
   case rel =>
    refine ⟨j + 1,by omega,by go_num,HB7.out.mono (fun i _ h => ?_),?_⟩
    ·rcases h with h | h
     ·exact h
     ·exact .inr (Nat.le_trans HKR.out.size (Nat.le_trans HK6.out.size h))
    ·exact (HKR.out.then_ HK6.out (fun _ h => h.elim)).then_ HK7.out (fun i h => h)
   case measure => simp [intOf];omega
  ·have hjl : j = l.length := by omega
   subst hjl
   have HB7 := HBR.out
   rw [List.take_length] at HB7
   have HB8 := Lib.hid HB7
   clear HB7
   go_wp2_with fail
   go_ret
   exact BStep.wide (BStep.after ⟨rfl,HB8.out,HKR.out⟩ HKA.out) (fun _ h => h)
end Go.Proofs.YtdhnfccgojgehaaDoor

namespace Go.Proofs.YtdhnfccgojgehaaDoor
open Go.RowKit
set_option maxRecDepth 100000

set_option maxHeartbeats 1600000 in
/-- The closure that lays a list. -/
theorem clos2_ok (ok : Nat → Prop) (bs : List UInt8) (most : Nat) (ps : List (Nat × Nat)) (g q3 q4 q5 : Nat) (w : World) (k s lo hi st : Int) (A0 A2 : Option Addr) (p0 c0 l2 c2 : Nat)
  (hA : Calls Tryd.prog 54 #[.pointer (some ⟨g,0,none⟩),.agg #[.int .i64 k,.int .i64 s,.int .i64 lo,.int .i64 hi,.int .i64 st,.slice A0 p0 c0],.slice A2 l2 c2] w (BStep ok g bs most ps w))
  (h3 : w.cell? ⟨q3,0,none⟩ = some (.pointer (some ⟨g,0,none⟩))) (h4 : Blk w q4 24 #[.int .i64 k,.int .i64 s,.int .i64 lo,.int .i64 hi,.int .i64 st,.slice A0 p0 c0]) (h5 : w.cell? ⟨q5,2,none⟩ = some (.slice A2 l2 c2)) :
  Calls Tryd.prog 53 #[.pointer (some ⟨q3,0,none⟩),.pointer (some ⟨q4,0,none⟩),.pointer (some ⟨q5,0,none⟩)] w (BStep ok g bs most ps w) := by
 have HA := Lib.hid hA
 have x0 := h4.cell 0
 have x1 := h4.cell 1
 have x2 := h4.cell 2
 have x3 := h4.cell 3
 have x4 := h4.cell 4
 have x5 := h4.cell 5
 simp at x0 x1 x2 x3 x4 x5
 clear hA h4
 go_enter Tryd.func53,Tryd.ntmps53
 go_wp2_with fail
 refine HA.out.mono ?_
 rintro e w1 ⟨rfl,hb1,hk1⟩
 have HZ := Lib.hid (And.intro hb1 hk1)
 clear hb1 hk1 x0 x1 x2 x3 x4 x5 h3 h5 HA
 go_wp2_with fail
 go_ret
 exact ⟨rfl,HZ.out.1,HZ.out.2⟩

set_option maxHeartbeats 3200000 in
theorem lay_list (ok okr : Nat → Prop) (g : Nat) (bs u : List UInt8) (most : Nat) (ps : List (Nat × Nat)) (w : World) (hb : Bld w ok g bs most ps) (s : Nat) (h1 : 1 ≤ s) (h3 : s ≤ 3) (hu : u.length < 256 ^ s) (hlen : bs.length + s + u.length ≤ most) (hps : ps.length ≤ 1000000) (hr : ∀ i,okr i → i < w.heap.size ∧ ¬ ok i) (lo hi st n : Int) (A0 A1 A2 : Option Addr) (p0 c0 l1 c1 l2 c2 : Nat)
  (hA : ∀ (ok' : Nat → Prop) (bs' : List UInt8) (ps' : List (Nat × Nat)) (W : World),Kp (fun i => ok i ∧ i < w.heap.size) w W → Bld W ok' g bs' most ps' → (∀ i,okr i → i < w.heap.size ∧ ¬ ok' i) → bs'.length + u.length ≤ most → ps'.length ≤ ps.length + 1 → Calls Tryd.prog 54 #[.pointer (some ⟨g,0,none⟩),.agg #[.int .i64 2,.int .i64 s,.int .i64 lo,.int .i64 hi,.int .i64 st,.slice A0 p0 c0],.slice A2 l2 c2] W (BStep ok' g (bs' ++ u) most ps' W)) :
  Calls Tryd.prog 37 #[.pointer (some ⟨g,0,none⟩),.agg #[.int .i64 2,.int .i64 s,.int .i64 lo,.int .i64 hi,.int .i64 st,.slice A0 p0 c0],.agg #[.int .u64 n,.slice A1 l1 c1,.slice A2 l2 c2]] w (BStep ok g (bs ++ (beB s u.length ++ u)) most ps w) := by
 have hb' : Bld w (fun i => ok i ∧ i < w.heap.size) g bs most ps := hb.mono (fun i h1 h2 => ⟨h2,h1⟩)
 have ka := ((((Kp.refl (fun _ => False) w).alloc (.cells #[.pointer (some ⟨g,0,none⟩)] 68)).alloc (.cells #[.int .i64 2,.int .i64 s,.int .i64 lo,.int .i64 hi,.int .i64 st,.slice A0 p0 c0] 24)).alloc (.cells #[.int .u64 n,.slice A1 l1 c1,.slice A2 l2 c2] 31))
 have q3 := ((Blk.new w 68 #[.pointer (some ⟨g,0,none⟩)]).alloc (.cells #[.int .i64 2,.int .i64 s,.int .i64 lo,.int .i64 hi,.int .i64 st,.slice A0 p0 c0] 24)).alloc (.cells #[.int .u64 n,.slice A1 l1 c1,.slice A2 l2 c2] 31)
 have q4 := (Blk.new (w.alloc (.cells #[.pointer (some ⟨g,0,none⟩)] 68)) 24 #[.int .i64 2,.int .i64 s,.int .i64 lo,.int .i64 hi,.int .i64 st,.slice A0 p0 c0]).alloc (.cells #[.int .u64 n,.slice A1 l1 c1,.slice A2 l2 c2] 31)
 have q5 := Blk.new ((w.alloc (.cells #[.pointer (some ⟨g,0,none⟩)] 68)).alloc (.cells #[.int .i64 2,.int .i64 s,.int .i64 lo,.int .i64 hi,.int .i64 st,.slice A0 p0 c0] 24)) 31 #[.int .u64 n,.slice A1 l1 c1,.slice A2 l2 c2]
 have e3 : w.heap.size ≤ w.heap.size := Nat.le_refl _
 have e4 : w.heap.size ≤ w.heap.size + 1 := by omega
 have e5 : w.heap.size ≤ w.heap.size + 1 + 1 := by omega
 simp only [World.size_alloc] at q4 q5
 have HI := Lib.hid (fun (W : World) (k3 k4 k5 : Nat) (hk : Kp (fun _ => False) w W) (j3 : Blk W k3 68 #[.pointer (some ⟨g,0,none⟩)]) (j4 : Blk W k4 24 #[.int .i64 2,.int .i64 s,.int .i64 lo,.int .i64 hi,.int .i64 st,.slice A0 p0 c0]) (j5 : Blk W k5 31 #[.int .u64 n,.slice A1 l1 c1,.slice A2 l2 c2]) (e3 : w.heap.size ≤ k3) (e4 : w.heap.size ≤ k4) (e5 : w.heap.size ≤ k5) =>
  inside_ok (fun i => ok i ∧ i < w.heap.size) g bs u most ps s h1 h3 W (hb'.kp hk (fun _ _ h => h)) 53 #[.pointer (some ⟨k3,0,none⟩),.pointer (some ⟨k4,0,none⟩),.pointer (some ⟨k5,0,none⟩)] (entersW Tryd.func53 (by kernel_rfl) rfl) hu hlen hps
   (fun w1 hk1 hb1 => clos2_ok _ _ _ _ g k3 k4 k5 w1 2 s lo hi st A0 A2 p0 c0 l2 c2
    (hA _ _ _ w1 ((hk.mono (T := fun i => ok i ∧ i < w.heap.size) (fun _ _ h => h.elim)).then_ hk1 (fun i h => .inl h)) hb1
     (fun i hi => ⟨(hr i hi).1,fun h => by
      rcases h with h | h
      ·exact (hr i hi).2 h.1
      ·have := (hr i hi).1
       have := hk.size
       omega⟩) (by simp only [List.length_append,List.length_replicate];omega) (by simp))
    ((j3.kp hk1 (fun h => by omega)).cell 0) (j4.kp hk1 (fun h => by omega)) ((j5.kp hk1 (fun h => by omega)).cell 2)))
 have HKA := Lib.hid ka
 have HQ3 := Lib.hid q3
 have HQ4 := Lib.hid q4
 have HQ5 := Lib.hid q5
 have HE3 := Lib.hid e3
 have HE4 := Lib.hid e4
 have HE5 := Lib.hid e5
 clear ka q3 q4 q5 hb hb' hu hlen hps h1 h3 hr e3 e4 e5 hA
 go_enter Tryd.func37,Tryd.ntmps37
 go_upto_region 1 with fail
 generalize (((w.alloc (.cells #[.pointer (some ⟨g,0,none⟩)] 68)).alloc (.cells #[.int .i64 2,.int .i64 s,.int .i64 lo,.int .i64 hi,.int .i64 st,.slice A0 p0 c0] 24)).alloc (.cells #[.int .u64 n,.slice A1 l1 c1,.slice A2 l2 c2] 31)) = W3 at HKA HQ3 HQ4 HQ5 ⊢
 have HCI := Lib.hid (HI.out W3 _ (w.heap.size + 1) (w.heap.size + 1 + 1) HKA.out HQ3.out HQ4.out HQ5.out HE3.out HE4.out HE5.out)
 have x3 := HQ3.out.cell 0
 have x40 := HQ4.out.cell 0
 have x41 := HQ4.out.cell 1
 have x42 := HQ4.out.cell 2
 have x43 := HQ4.out.cell 3
 have x44 := HQ4.out.cell 4
 have x45 := HQ4.out.cell 5
 have x50 := HQ5.out.cell 0
 have x51 := HQ5.out.cell 1
 have x52 := HQ5.out.cell 2
 simp at x3 x40 x41 x42 x43 x44 x45 x50 x51 x52
 clear HI HQ3 HQ4 HQ5 HE3 HE4 HE5
 go_wp2_with fail
 refine HCI.out.mono ?_
 rintro e w1 hs
 obtain ⟨rfl,hb1,hk1⟩ := hs.after HKA.out
 have HQ := Lib.hid (And.intro (hb1.mono (ok' := fun i => ok i ∨ w.heap.size ≤ i) (fun i _ h => h.imp (·.1) id)) (hk1.mono (T := ok) (fun _ _ h => h.1)))
 clear hb1 hk1 hs HCI
 go_wp2_with fail
 go_ret
 exact ⟨rfl,HQ.out.1,HQ.out.2⟩

set_option maxHeartbeats 3200000 in
theorem lay_row (ok okr : Nat → Prop) (g : Nat) (bs u : List UInt8) (most : Nat) (ps : List (Nat × Nat)) (w : World) (hb : Bld w ok g bs most ps) (hlen : bs.length + u.length ≤ most) (hr : ∀ i,okr i → i < w.heap.size ∧ ¬ ok i) (s lo hi st n : Int) (A0 A1 A2 : Option Addr) (p0 c0 l1 c1 l2 c2 : Nat)
  (hA : ∀ (ok' : Nat → Prop) (bs' : List UInt8) (ps' : List (Nat × Nat)) (W : World),Kp (fun i => ok i ∧ i < w.heap.size) w W → Bld W ok' g bs' most ps' → (∀ i,okr i → i < w.heap.size ∧ ¬ ok' i) → bs'.length + u.length ≤ most → ps'.length ≤ ps.length + 1 → Calls Tryd.prog 54 #[.pointer (some ⟨g,0,none⟩),.agg #[.int .i64 3,.int .i64 s,.int .i64 lo,.int .i64 hi,.int .i64 st,.slice A0 p0 c0],.slice A2 l2 c2] W (BStep ok' g (bs' ++ u) most ps' W)) :
  Calls Tryd.prog 37 #[.pointer (some ⟨g,0,none⟩),.agg #[.int .i64 3,.int .i64 s,.int .i64 lo,.int .i64 hi,.int .i64 st,.slice A0 p0 c0],.agg #[.int .u64 n,.slice A1 l1 c1,.slice A2 l2 c2]] w (BStep ok g (bs ++ u) most ps w) := by
 have hb' : Bld w (fun i => ok i ∧ i < w.heap.size) g bs most ps := hb.mono (fun i h1 h2 => ⟨h2,h1⟩)
 have ka := ((((Kp.refl (fun _ => False) w).alloc (.cells #[.pointer (some ⟨g,0,none⟩)] 68)).alloc (.cells #[.int .i64 3,.int .i64 s,.int .i64 lo,.int .i64 hi,.int .i64 st,.slice A0 p0 c0] 24)).alloc (.cells #[.int .u64 n,.slice A1 l1 c1,.slice A2 l2 c2] 31))
 have q3 := ((Blk.new w 68 #[.pointer (some ⟨g,0,none⟩)]).alloc (.cells #[.int .i64 3,.int .i64 s,.int .i64 lo,.int .i64 hi,.int .i64 st,.slice A0 p0 c0] 24)).alloc (.cells #[.int .u64 n,.slice A1 l1 c1,.slice A2 l2 c2] 31)
 have q4 := (Blk.new (w.alloc (.cells #[.pointer (some ⟨g,0,none⟩)] 68)) 24 #[.int .i64 3,.int .i64 s,.int .i64 lo,.int .i64 hi,.int .i64 st,.slice A0 p0 c0]).alloc (.cells #[.int .u64 n,.slice A1 l1 c1,.slice A2 l2 c2] 31)
 have q5 := Blk.new ((w.alloc (.cells #[.pointer (some ⟨g,0,none⟩)] 68)).alloc (.cells #[.int .i64 3,.int .i64 s,.int .i64 lo,.int .i64 hi,.int .i64 st,.slice A0 p0 c0] 24)) 31 #[.int .u64 n,.slice A1 l1 c1,.slice A2 l2 c2]
 have e3 : w.heap.size ≤ w.heap.size := Nat.le_refl _
 have e4 : w.heap.size ≤ w.heap.size + 1 := by omega
 have e5 : w.heap.size ≤ w.heap.size + 1 + 1 := by omega
 simp only [World.size_alloc] at q4 q5
 have HI := Lib.hid (fun (W : World) (hk : Kp (fun _ => False) w W) =>
  hA (fun i => ok i ∧ i < w.heap.size) bs ps W (hk.mono (T := fun i => ok i ∧ i < w.heap.size) (fun _ _ h => h.elim)) (hb'.kp hk (fun _ _ h => h)) (fun i hi => ⟨(hr i hi).1,fun h => (hr i hi).2 h.1⟩) hlen (by omega))
 have HKA := Lib.hid ka
 have HQ3 := Lib.hid q3
 have HQ4 := Lib.hid q4
 have HQ5 := Lib.hid q5
 have HE3 := Lib.hid e3
 have HE4 := Lib.hid e4
 have HE5 := Lib.hid e5
 clear ka q3 q4 q5 hb hb' hlen hr e3 e4 e5 hA
 go_enter Tryd.func37,Tryd.ntmps37
 go_upto_region 1 with fail
 generalize (((w.alloc (.cells #[.pointer (some ⟨g,0,none⟩)] 68)).alloc (.cells #[.int .i64 3,.int .i64 s,.int .i64 lo,.int .i64 hi,.int .i64 st,.slice A0 p0 c0] 24)).alloc (.cells #[.int .u64 n,.slice A1 l1 c1,.slice A2 l2 c2] 31)) = W3 at HKA HQ3 HQ4 HQ5 ⊢
 have HCI := Lib.hid (HI.out W3 HKA.out)
 have x3 := HQ3.out.cell 0
 have x40 := HQ4.out.cell 0
 have x41 := HQ4.out.cell 1
 have x42 := HQ4.out.cell 2
 have x43 := HQ4.out.cell 3
 have x44 := HQ4.out.cell 4
 have x45 := HQ4.out.cell 5
 have x50 := HQ5.out.cell 0
 have x51 := HQ5.out.cell 1
 have x52 := HQ5.out.cell 2
 simp at x3 x40 x41 x42 x43 x44 x45 x50 x51 x52
 clear HI HQ3 HQ4 HQ5 HE3 HE4 HE5
 go_wp2_with fail
 refine HCI.out.mono ?_
 rintro e w1 hs
 obtain ⟨rfl,hb1,hk1⟩ := hs.after HKA.out
 have HQ := Lib.hid (And.intro (hb1.mono (ok' := fun i => ok i ∨ w.heap.size ≤ i) (fun i _ h => h.imp (·.1) id)) (hk1.mono (T := ok) (fun _ _ h => h.1)))
 clear hb1 hk1 hs HCI
 go_wp2_with fail
 go_ret
 exact ⟨rfl,HQ.out.1,HQ.out.2⟩

end Go.Proofs.YtdhnfccgojgehaaDoor

namespace Go.Proofs.YtdhnfccgojgehaaDoor
open Go.RowKit
set_option maxRecDepth 100000

theorem wlay_any (f : Fm) : szF f ≤ 100000 → LayC f := by
 induction f using RT.induct with
 | h h P ih =>
 intro hz ok okr g bs most ps x n fv vv w hc hf hw hb hfm hv hr hlen hps
 obtain ⟨k,s,lo,hi,st⟩ := h
 obtain ⟨⟨a,b⟩,l⟩ := x
 have hm2 : most ≤ 1073741824 := hb.2.2.1
 have hfk := fit_kinds hz hc hw hf (by omega)
 obtain ⟨A0,c0,rfl⟩ : ∃ A c,fv = .agg #[.int .i64 k,.int .i64 s,.int .i64 lo,.int .i64 hi,.int .i64 st,.slice A P.length c] := by
  obtain ⟨sv,e,_,A,c,e2,_⟩ := id hfm
  subst e2
  exact ⟨A,c,e⟩
 obtain ⟨A1,c1,A2,c2,rfl,hn,hb1,hb2,hbr,hl1,hl2,hvs⟩ := hv.parts
 obtain ⟨_,_,_,hwl⟩ := (wfV_mk _ _).1 hw
 have hall : (k = 2 ∨ k = 3) → 0 < P.length ∨ l = [] → (∀ y ∈ P,checkR y = 0) → (∀ i (hi : i < l.length),∃ m,fitR (P.getD (i % P.length) nilF) l[i] = (m,0)) →
   ∀ (ok' : Nat → Prop) (bs' : List UInt8) (ps' : List (Nat × Nat)) (W : World),Kp (fun i => ok i ∧ i < w.heap.size) w W → Bld W ok' g bs' most ps' → (∀ i,okr i → i < w.heap.size ∧ ¬ ok' i) → bs'.length + (writeL (.mk ⟨k,s,lo,hi,st⟩ P) 0 l).length ≤ most → ps'.length ≤ ps.length + 1 →
    Calls Tryd.prog 54 #[.pointer (some ⟨g,0,none⟩),.agg #[.int .i64 k,.int .i64 s,.int .i64 lo,.int .i64 hi,.int .i64 st,.slice A0 P.length c0],.slice A2 l.length c2] W (BStep ok' g (bs' ++ writeL (.mk ⟨k,s,lo,hi,st⟩ P) 0 l) most ps' W) := by
  intro hk hP hck hel ok' bs' ps' W hkW hbW hrW hlW hpW
  rw [szF_mk,if_pos hk] at hz hps
  refine wall_any k s lo hi st P (fun y hy => ih y hy (by have := szL_mem hy;omega)) ok' okr g bs' most ps' l A2 A0 c2 c0 W hel (fun h0 => ?_) hck hwl hbW
   (hfm.kp hkW (fun i hi h => (hr i hi).2 h.1)) (hvs.kp hkW (fun i hi h => (hr i hi).2 h.1)) (fun i hi => ⟨Nat.lt_of_lt_of_le (hr i hi).1 hkW.size,(hrW i hi).2⟩) hlW (fun y hy => by have := szL_mem hy;omega)
  rcases hP with h | h
  ·exact h
  ·subst h
   simp at h0
 cases hfk with
 | num s' hk hs hsb hx hxe hx64 =>
  simp only at hk hs
  subst hk hs
  have e : writeR (.mk ⟨0,s',lo,hi,st⟩ P) (.mk ⟨a,b⟩ l) = beB s' a.toNat := by rw [writeR_mk,if_pos rfl];simp
  rw [e] at hlen ⊢
  rw [beB_length] at hlen
  rw [hxe,Int.toNat_natCast]
  exact lay_num ok g bs most ps s' a.toNat hx64 w hb hsb hx hlen lo hi st A0 A1 A2 _ c0 _ c1 _ c2
 | opq s' hk hs h1 h3 hu =>
  simp only at hk hs
  subst hk hs
  have e : writeR (.mk ⟨1,s',lo,hi,st⟩ P) (.mk ⟨a,b⟩ l) = beB s' b.length ++ b := by rw [writeR_mk,if_neg (by simp),if_pos rfl];simp
  rw [e] at hlen ⊢
  rw [List.length_append,beB_length] at hlen
  exact lay_opaque ok okr g bs b most ps w hb s' h1 h3 hu (by omega) (by omega) lo hi st a A0 A1 A2 _ c0 c1 _ c2 hbr (fun i hi => (hr i hi).2)
 | raw hk =>
  simp only at hk
  have e : writeR (.mk ⟨k,s,lo,hi,st⟩ P) (.mk ⟨a,b⟩ l) = b := by rw [writeR_mk,if_neg (by simp;omega),if_neg (by simp;omega),if_pos hk]
  rw [e] at hlen ⊢
  exact lay_bytes ok okr g bs b most ps w hb hlen k hk s lo hi st a A0 A1 A2 _ c0 c1 _ c2 hbr
 | list s' hk hs h1 h3 hu hP hck hel =>
  simp only at hk hs
  subst hk hs
  have e : writeR (.mk ⟨2,s',lo,hi,st⟩ P) (.mk ⟨a,b⟩ l) = beB s' (writeL (.mk ⟨2,s',lo,hi,st⟩ P) 0 l).length ++ writeL (.mk ⟨2,s',lo,hi,st⟩ P) 0 l := by rw [writeR_mk,if_neg (by simp),if_neg (by simp),if_neg (by simp),if_pos rfl];simp
  rw [e] at hlen ⊢
  rw [List.length_append,beB_length] at hlen
  exact lay_list ok okr g bs _ most ps w hb s' h1 h3 hu (by omega) (by omega) hr lo hi st a A0 A1 A2 _ c0 _ c1 _ c2 (hall (.inl rfl) (.inl hP) hck hel)
 | row hk hlP hck hel =>
  simp only at hk
  subst hk
  have e : writeR (.mk ⟨3,s,lo,hi,st⟩ P) (.mk ⟨a,b⟩ l) = writeL (.mk ⟨3,s,lo,hi,st⟩ P) 0 l := by rw [writeR_mk,if_neg (by simp),if_neg (by simp),if_neg (by simp),if_neg (by simp)]
  rw [e] at hlen ⊢
  refine lay_row ok okr g bs _ most ps w hb hlen hr s lo hi st a A0 A1 A2 _ c0 _ c1 _ c2 (hall (.inr rfl) ?_ hck hel)
  by_cases h0 : l.length = 0
  ·exact .inr (List.eq_nil_of_length_eq_zero h0)
  ·exact .inl (by omega)
end Go.Proofs.YtdhnfccgojgehaaDoor

namespace Go.Proofs.YtdhnfccgojgehaaDoor
open Go.RowKit
set_option maxRecDepth 100000

theorem i64_wf6 {k : Int} (h : i64B k) : (Lit.int .i64 k).wf = true := by
 unfold i64B at h
 simp [Lit.wf,IntKind.min,IntKind.max,IntKind.signed,IntKind.bits]
 omega
theorem FmR.form6 {w : World} {ok : Nat → Prop} {v : Value} {k s lo hi st : Int} {P : List Fm} (h : FmR w ok v (.mk ⟨k,s,lo,hi,st⟩ P)) : ∃ A c,v = .agg #[.int .i64 k,.int .i64 s,.int .i64 lo,.int .i64 hi,.int .i64 st,.slice A P.length c] := by
 obtain ⟨sv,e,_,A,c,e2,_⟩ := h
 subst e2
 exact ⟨A,c,e⟩
theorem FmR.here6 {w : World} {ok : Nat → Prop} {k s lo hi st : Int} {sv : Value} {P : List Fm} (h : FmR w ok (.agg #[.int .i64 k,.int .i64 s,.int .i64 lo,.int .i64 hi,.int .i64 st,sv]) (.mk ⟨k,s,lo,hi,st⟩ P)) : FsR w ok sv P := by
 obtain ⟨sv',e,_,h2⟩ := h
 simp [RT.a] at e
 subst e
 exact h2
theorem fitL_step (h : FH) (P : List Fm) (q : Int) (l : List Vt) (j : Nat) (hj : j < l.length) (p : Nat) (hp : p < P.length) (hpe : j % P.length = p) : fitL (.mk h P) q j (l.drop j) =
  if (fitR P[p] l[j]).2 = 0 then fitL (.mk h P) (wrap64 (q + (fitR P[p] l[j]).1)) (j + 1) (l.drop (j + 1)) else (0,(fitR P[p] l[j]).2) := by
 rw [fitL_drop h P q l j hj]
 have e : P.getD (j % P.length) nilF = P[p] := by subst hpe;simp [hp]
 simp only [e]

theorem vmay_any (n lo hi st : Int) (hst : st ≠ 0) (w : World) : Calls Tryd.prog 75 #[.int .i64 n,.int .i64 lo,.int .i64 hi,.int .i64 st] w fun e w' => e = .returned (.int .i64 (mayR n lo hi st)) ∧ w' = w := by
 unfold mayR
 by_cases h1 : n < lo
 ·rw [if_pos h1]
  go_enter Tryd.func75,Tryd.ntmps75
  go_wp2_with fail
  go_ret
  exact ⟨rfl,rfl⟩
 by_cases h2 : hi < n
 ·rw [if_neg h1,if_pos h2]
  go_enter Tryd.func75,Tryd.ntmps75
  go_wp2_with fail
  go_ret
  exact ⟨rfl,rfl⟩
 obtain ⟨t,ht⟩ : ∃ t,Int.tmod n st = t := ⟨_,rfl⟩
 rw [if_neg h1,if_neg h2,ht]
 by_cases h3 : t = 0
 ·subst h3
  go_enter Tryd.func75,Tryd.ntmps75
  go_wp2_with fail
  go_ret
  exact ⟨rfl,rfl⟩
 ·have h4 : (t != 0) = true := by simpa using h3
  rw [if_neg h3]
  go_enter Tryd.func75,Tryd.ntmps75
  go_wp2_with fail
  go_ret
  exact ⟨rfl,rfl⟩

theorem FmR.wf_k {w : World} {ok : Nat → Prop} {v : Value} {h : FH} {P : List Fm} (hf : FmR w ok v (.mk h P)) : i64B h.k := by
 obtain ⟨_,_,h1,_⟩ := hf
 exact h1.k
set_option maxHeartbeats 3200000 in
theorem vfit_not (ok : Nat → Prop) (k s lo hi st : Int) (P : List Fm) (a : Int) (b : List UInt8) (l : List Vt) (A0 A1 A2 : Option Addr) (c0 c1 c2 : Nat) (w : World) (hf : FmR w ok (.agg #[.int .i64 k,.int .i64 s,.int .i64 lo,.int .i64 hi,.int .i64 st,.slice A0 P.length c0]) (.mk ⟨k,s,lo,hi,st⟩ P)) (hal : aloneB k a b.length l.length = false) :
  Calls Tryd.prog 62 #[.agg #[.int .i64 k,.int .i64 s,.int .i64 lo,.int .i64 hi,.int .i64 st,.slice A0 P.length c0],.agg #[.int .u64 a,.slice A1 b.length c1,.slice A2 l.length c2]] w fun e w' => e = .returned (.tuple #[.int .i64 0,.int .i64 15]) ∧ Kp (fun _ => False) w w' := by
 have hkw : (Lit.int .i64 k).wf = true := i64_wf6 hf.wf_k
 have ka : Kp (fun _ => False) w ((w.alloc (.cells #[.int .i64 k,.int .i64 s,.int .i64 lo,.int .i64 hi,.int .i64 st,.slice A0 P.length c0] 24)).alloc (.cells #[.int .u64 a,.slice A1 b.length c1,.slice A2 l.length c2] 31)) := ((Kp.refl _ w).alloc _).alloc _
 have q2 := (Blk.new w 24 #[.int .i64 k,.int .i64 s,.int .i64 lo,.int .i64 hi,.int .i64 st,.slice A0 P.length c0]).alloc (.cells #[.int .u64 a,.slice A1 b.length c1,.slice A2 l.length c2] 31)
 have q3 := Blk.new (w.alloc (.cells #[.int .i64 k,.int .i64 s,.int .i64 lo,.int .i64 hi,.int .i64 st,.slice A0 P.length c0] 24)) 31 #[.int .u64 a,.slice A1 b.length c1,.slice A2 l.length c2]
 simp only [World.size_alloc] at q3
 have HKA := Lib.hid ka
 have HQ2 := Lib.hid q2
 have HQ3 := Lib.hid q3
 have HAL := Lib.hid (fun W => alone_any k a hkw A1 A2 b.length l.length c1 c2 W)
 rw [hal] at HAL
 clear ka q2 q3 hkw hal hf
 go_enter Tryd.func62,Tryd.ntmps62
 go_upto_region 1 with fail
 generalize (w.alloc (.cells #[.int .i64 k,.int .i64 s,.int .i64 lo,.int .i64 hi,.int .i64 st,.slice A0 P.length c0] 24)).alloc (.cells #[.int .u64 a,.slice A1 b.length c1,.slice A2 l.length c2] 31) = W0 at HKA HQ2 HQ3 ⊢
 have x0 := HQ2.out.cell 0
 have x1 := HQ2.out.cell 1
 have x2 := HQ2.out.cell 2
 have x3 := HQ2.out.cell 3
 have x4 := HQ2.out.cell 4
 have x5 := HQ2.out.cell 5
 have y0 := HQ3.out.cell 0
 have y1 := HQ3.out.cell 1
 have y2 := HQ3.out.cell 2
 simp at x0 x1 x2 x3 x4 x5 y0 y1 y2
 go_wp2_with fail
 refine (HAL.out W0).mono ?_
 rintro e w1 ⟨rfl,hk1⟩
 have HK1 := Lib.hid (HKA.out.then_ hk1 (fun _ h => h.elim))
 have q2 := HQ2.out.kp hk1 (fun h => h)
 have q3 := HQ3.out.kp hk1 (fun h => h)
 clear x0 x1 x2 x3 x4 x5 y0 y1 y2 hk1 HAL HKA HQ2 HQ3
 have HQ2 := Lib.hid q2
 have HQ3 := Lib.hid q3
 clear q2 q3
 have x0 := HQ2.out.cell 0
 have x1 := HQ2.out.cell 1
 have x2 := HQ2.out.cell 2
 have x3 := HQ2.out.cell 3
 have x4 := HQ2.out.cell 4
 have x5 := HQ2.out.cell 5
 have y0 := HQ3.out.cell 0
 have y1 := HQ3.out.cell 1
 have y2 := HQ3.out.cell 2
 simp at x0 x1 x2 x3 x4 x5 y0 y1 y2
 go_wp2_with fail
 go_ret2
 exact ⟨rfl,HK1.out⟩

set_option maxHeartbeats 6400000 in
theorem vfit_numx (ok : Nat → Prop) (s lo hi st : Int) (P : List Fm) (a : Int) (b : List UInt8) (l : List Vt) (A0 A1 A2 : Option Addr) (c0 c1 c2 : Nat) (w : World) (hf : FmR w ok (.agg #[.int .i64 0,.int .i64 s,.int .i64 lo,.int .i64 hi,.int .i64 st,.slice A0 P.length c0]) (.mk ⟨0,s,lo,hi,st⟩ P)) (hal : aloneB 0 a b.length l.length = true) (hs : 0 ≤ s) (hs8 : s < 8) (hd : (a / 2 ^ (8 * s).toNat != 0) = true) :
  Calls Tryd.prog 62 #[.agg #[.int .i64 0,.int .i64 s,.int .i64 lo,.int .i64 hi,.int .i64 st,.slice A0 P.length c0],.agg #[.int .u64 a,.slice A1 b.length c1,.slice A2 l.length c2]] w fun e w' => e = .returned (.tuple #[.int .i64 0,.int .i64 3]) ∧ Kp (fun _ => False) w w' := by
 have hkw : (Lit.int .i64 0).wf = true := i64_wf6 hf.wf_k
 have ka : Kp (fun _ => False) w ((w.alloc (.cells #[.int .i64 0,.int .i64 s,.int .i64 lo,.int .i64 hi,.int .i64 st,.slice A0 P.length c0] 24)).alloc (.cells #[.int .u64 a,.slice A1 b.length c1,.slice A2 l.length c2] 31)) := ((Kp.refl _ w).alloc _).alloc _
 have q2 := (Blk.new w 24 #[.int .i64 0,.int .i64 s,.int .i64 lo,.int .i64 hi,.int .i64 st,.slice A0 P.length c0]).alloc (.cells #[.int .u64 a,.slice A1 b.length c1,.slice A2 l.length c2] 31)
 have q3 := Blk.new (w.alloc (.cells #[.int .i64 0,.int .i64 s,.int .i64 lo,.int .i64 hi,.int .i64 st,.slice A0 P.length c0] 24)) 31 #[.int .u64 a,.slice A1 b.length c1,.slice A2 l.length c2]
 simp only [World.size_alloc] at q3
 have HKA := Lib.hid ka
 have HQ2 := Lib.hid q2
 have HQ3 := Lib.hid q3
 have HAL := Lib.hid (fun W => alone_any 0 a hkw A1 A2 b.length l.length c1 c2 W)
 rw [hal] at HAL
 clear ka q2 q3 hkw hal hf
 go_enter Tryd.func62,Tryd.ntmps62
 go_upto_region 1 with fail
 generalize (w.alloc (.cells #[.int .i64 0,.int .i64 s,.int .i64 lo,.int .i64 hi,.int .i64 st,.slice A0 P.length c0] 24)).alloc (.cells #[.int .u64 a,.slice A1 b.length c1,.slice A2 l.length c2] 31) = W0 at HKA HQ2 HQ3 ⊢
 have x0 := HQ2.out.cell 0
 have x1 := HQ2.out.cell 1
 have x2 := HQ2.out.cell 2
 have x3 := HQ2.out.cell 3
 have x4 := HQ2.out.cell 4
 have x5 := HQ2.out.cell 5
 have y0 := HQ3.out.cell 0
 have y1 := HQ3.out.cell 1
 have y2 := HQ3.out.cell 2
 simp at x0 x1 x2 x3 x4 x5 y0 y1 y2
 go_wp2_with fail
 refine (HAL.out W0).mono ?_
 rintro e w1 ⟨rfl,hk1⟩
 have HK1 := Lib.hid (HKA.out.then_ hk1 (fun _ h => h.elim))
 have q2 := HQ2.out.kp hk1 (fun h => h)
 have q3 := HQ3.out.kp hk1 (fun h => h)
 clear x0 x1 x2 x3 x4 x5 y0 y1 y2 hk1 HAL HKA HQ2 HQ3
 have HQ2 := Lib.hid q2
 have HQ3 := Lib.hid q3
 clear q2 q3
 have x0 := HQ2.out.cell 0
 have x1 := HQ2.out.cell 1
 have x2 := HQ2.out.cell 2
 have x3 := HQ2.out.cell 3
 have x4 := HQ2.out.cell 4
 have x5 := HQ2.out.cell 5
 have y0 := HQ3.out.cell 0
 have y1 := HQ3.out.cell 1
 have y2 := HQ3.out.cell 2
 simp at x0 x1 x2 x3 x4 x5 y0 y1 y2
 go_wp2_with fail
 go_ret2
 exact ⟨rfl,HK1.out⟩

set_option maxHeartbeats 6400000 in
theorem vfit_num (ok : Nat → Prop) (s lo hi st : Int) (P : List Fm) (a : Int) (b : List UInt8) (l : List Vt) (A0 A1 A2 : Option Addr) (c0 c1 c2 : Nat) (w : World) (hf : FmR w ok (.agg #[.int .i64 0,.int .i64 s,.int .i64 lo,.int .i64 hi,.int .i64 st,.slice A0 P.length c0]) (.mk ⟨0,s,lo,hi,st⟩ P)) (hal : aloneB 0 a b.length l.length = true) (hs : 0 ≤ s) (hs8 : s < 8) (hd : (a / 2 ^ (8 * s).toNat != 0) = false) :
  Calls Tryd.prog 62 #[.agg #[.int .i64 0,.int .i64 s,.int .i64 lo,.int .i64 hi,.int .i64 st,.slice A0 P.length c0],.agg #[.int .u64 a,.slice A1 b.length c1,.slice A2 l.length c2]] w fun e w' => e = .returned (.tuple #[.int .i64 s,.int .i64 0]) ∧ Kp (fun _ => False) w w' := by
 have hkw : (Lit.int .i64 0).wf = true := i64_wf6 hf.wf_k
 have ka : Kp (fun _ => False) w ((w.alloc (.cells #[.int .i64 0,.int .i64 s,.int .i64 lo,.int .i64 hi,.int .i64 st,.slice A0 P.length c0] 24)).alloc (.cells #[.int .u64 a,.slice A1 b.length c1,.slice A2 l.length c2] 31)) := ((Kp.refl _ w).alloc _).alloc _
 have q2 := (Blk.new w 24 #[.int .i64 0,.int .i64 s,.int .i64 lo,.int .i64 hi,.int .i64 st,.slice A0 P.length c0]).alloc (.cells #[.int .u64 a,.slice A1 b.length c1,.slice A2 l.length c2] 31)
 have q3 := Blk.new (w.alloc (.cells #[.int .i64 0,.int .i64 s,.int .i64 lo,.int .i64 hi,.int .i64 st,.slice A0 P.length c0] 24)) 31 #[.int .u64 a,.slice A1 b.length c1,.slice A2 l.length c2]
 simp only [World.size_alloc] at q3
 have HKA := Lib.hid ka
 have HQ2 := Lib.hid q2
 have HQ3 := Lib.hid q3
 have HAL := Lib.hid (fun W => alone_any 0 a hkw A1 A2 b.length l.length c1 c2 W)
 rw [hal] at HAL
 clear ka q2 q3 hkw hal hf
 go_enter Tryd.func62,Tryd.ntmps62
 go_upto_region 1 with fail
 generalize (w.alloc (.cells #[.int .i64 0,.int .i64 s,.int .i64 lo,.int .i64 hi,.int .i64 st,.slice A0 P.length c0] 24)).alloc (.cells #[.int .u64 a,.slice A1 b.length c1,.slice A2 l.length c2] 31) = W0 at HKA HQ2 HQ3 ⊢
 have x0 := HQ2.out.cell 0
 have x1 := HQ2.out.cell 1
 have x2 := HQ2.out.cell 2
 have x3 := HQ2.out.cell 3
 have x4 := HQ2.out.cell 4
 have x5 := HQ2.out.cell 5
 have y0 := HQ3.out.cell 0
 have y1 := HQ3.out.cell 1
 have y2 := HQ3.out.cell 2
 simp at x0 x1 x2 x3 x4 x5 y0 y1 y2
 go_wp2_with fail
 refine (HAL.out W0).mono ?_
 rintro e w1 ⟨rfl,hk1⟩
 have HK1 := Lib.hid (HKA.out.then_ hk1 (fun _ h => h.elim))
 have q2 := HQ2.out.kp hk1 (fun h => h)
 have q3 := HQ3.out.kp hk1 (fun h => h)
 clear x0 x1 x2 x3 x4 x5 y0 y1 y2 hk1 HAL HKA HQ2 HQ3
 have HQ2 := Lib.hid q2
 have HQ3 := Lib.hid q3
 clear q2 q3
 have x0 := HQ2.out.cell 0
 have x1 := HQ2.out.cell 1
 have x2 := HQ2.out.cell 2
 have x3 := HQ2.out.cell 3
 have x4 := HQ2.out.cell 4
 have x5 := HQ2.out.cell 5
 have y0 := HQ3.out.cell 0
 have y1 := HQ3.out.cell 1
 have y2 := HQ3.out.cell 2
 simp at x0 x1 x2 x3 x4 x5 y0 y1 y2
 go_wp2_with fail
 go_ret2
 exact ⟨rfl,HK1.out⟩

set_option maxHeartbeats 3200000 in
theorem vfit_n8 (ok : Nat → Prop) (lo hi st : Int) (P : List Fm) (a : Int) (b : List UInt8) (l : List Vt) (A0 A1 A2 : Option Addr) (c0 c1 c2 : Nat) (w : World) (hf : FmR w ok (.agg #[.int .i64 0,.int .i64 8,.int .i64 lo,.int .i64 hi,.int .i64 st,.slice A0 P.length c0]) (.mk ⟨0,8,lo,hi,st⟩ P)) (hal : aloneB 0 a b.length l.length = true) :
  Calls Tryd.prog 62 #[.agg #[.int .i64 0,.int .i64 8,.int .i64 lo,.int .i64 hi,.int .i64 st,.slice A0 P.length c0],.agg #[.int .u64 a,.slice A1 b.length c1,.slice A2 l.length c2]] w fun e w' => e = .returned (.tuple #[.int .i64 8,.int .i64 0]) ∧ Kp (fun _ => False) w w' := by
 have hkw : (Lit.int .i64 0).wf = true := i64_wf6 hf.wf_k
 have ka : Kp (fun _ => False) w ((w.alloc (.cells #[.int .i64 0,.int .i64 8,.int .i64 lo,.int .i64 hi,.int .i64 st,.slice A0 P.length c0] 24)).alloc (.cells #[.int .u64 a,.slice A1 b.length c1,.slice A2 l.length c2] 31)) := ((Kp.refl _ w).alloc _).alloc _
 have q2 := (Blk.new w 24 #[.int .i64 0,.int .i64 8,.int .i64 lo,.int .i64 hi,.int .i64 st,.slice A0 P.length c0]).alloc (.cells #[.int .u64 a,.slice A1 b.length c1,.slice A2 l.length c2] 31)
 have q3 := Blk.new (w.alloc (.cells #[.int .i64 0,.int .i64 8,.int .i64 lo,.int .i64 hi,.int .i64 st,.slice A0 P.length c0] 24)) 31 #[.int .u64 a,.slice A1 b.length c1,.slice A2 l.length c2]
 simp only [World.size_alloc] at q3
 have HKA := Lib.hid ka
 have HQ2 := Lib.hid q2
 have HQ3 := Lib.hid q3
 have HAL := Lib.hid (fun W => alone_any 0 a hkw A1 A2 b.length l.length c1 c2 W)
 rw [hal] at HAL
 clear ka q2 q3 hkw hal hf
 go_enter Tryd.func62,Tryd.ntmps62
 go_upto_region 1 with fail
 generalize (w.alloc (.cells #[.int .i64 0,.int .i64 8,.int .i64 lo,.int .i64 hi,.int .i64 st,.slice A0 P.length c0] 24)).alloc (.cells #[.int .u64 a,.slice A1 b.length c1,.slice A2 l.length c2] 31) = W0 at HKA HQ2 HQ3 ⊢
 have x0 := HQ2.out.cell 0
 have x1 := HQ2.out.cell 1
 have x2 := HQ2.out.cell 2
 have x3 := HQ2.out.cell 3
 have x4 := HQ2.out.cell 4
 have x5 := HQ2.out.cell 5
 have y0 := HQ3.out.cell 0
 have y1 := HQ3.out.cell 1
 have y2 := HQ3.out.cell 2
 simp at x0 x1 x2 x3 x4 x5 y0 y1 y2
 go_wp2_with fail
 refine (HAL.out W0).mono ?_
 rintro e w1 ⟨rfl,hk1⟩
 have HK1 := Lib.hid (HKA.out.then_ hk1 (fun _ h => h.elim))
 have q2 := HQ2.out.kp hk1 (fun h => h)
 have q3 := HQ3.out.kp hk1 (fun h => h)
 clear x0 x1 x2 x3 x4 x5 y0 y1 y2 hk1 HAL HKA HQ2 HQ3
 have HQ2 := Lib.hid q2
 have HQ3 := Lib.hid q3
 clear q2 q3
 have x0 := HQ2.out.cell 0
 have x1 := HQ2.out.cell 1
 have x2 := HQ2.out.cell 2
 have x3 := HQ2.out.cell 3
 have x4 := HQ2.out.cell 4
 have x5 := HQ2.out.cell 5
 have y0 := HQ3.out.cell 0
 have y1 := HQ3.out.cell 1
 have y2 := HQ3.out.cell 2
 simp at x0 x1 x2 x3 x4 x5 y0 y1 y2
 go_wp2_with fail
 go_ret2
 exact ⟨rfl,HK1.out⟩

set_option maxHeartbeats 3200000 in
theorem vfit_opq (ok : Nat → Prop) (s lo hi st : Int) (P : List Fm) (a : Int) (b : List UInt8) (l : List Vt) (A0 A1 A2 : Option Addr) (c0 c1 c2 : Nat) (w : World) (hf : FmR w ok (.agg #[.int .i64 1,.int .i64 s,.int .i64 lo,.int .i64 hi,.int .i64 st,.slice A0 P.length c0]) (.mk ⟨1,s,lo,hi,st⟩ P)) (hal : aloneB 1 a b.length l.length = true) (hst : st ≠ 0) :
  Calls Tryd.prog 62 #[.agg #[.int .i64 1,.int .i64 s,.int .i64 lo,.int .i64 hi,.int .i64 st,.slice A0 P.length c0],.agg #[.int .u64 a,.slice A1 b.length c1,.slice A2 l.length c2]] w fun e w' => e = .returned (.tuple #[.int .i64 (wrap64 (s + (b.length : Int))),.int .i64 (mayR b.length lo hi st)]) ∧ Kp (fun _ => False) w w' := by
 have HM := Lib.hid (fun W => vmay_any b.length lo hi st hst W)
 have hkw : (Lit.int .i64 1).wf = true := i64_wf6 hf.wf_k
 have ka : Kp (fun _ => False) w ((w.alloc (.cells #[.int .i64 1,.int .i64 s,.int .i64 lo,.int .i64 hi,.int .i64 st,.slice A0 P.length c0] 24)).alloc (.cells #[.int .u64 a,.slice A1 b.length c1,.slice A2 l.length c2] 31)) := ((Kp.refl _ w).alloc _).alloc _
 have q2 := (Blk.new w 24 #[.int .i64 1,.int .i64 s,.int .i64 lo,.int .i64 hi,.int .i64 st,.slice A0 P.length c0]).alloc (.cells #[.int .u64 a,.slice A1 b.length c1,.slice A2 l.length c2] 31)
 have q3 := Blk.new (w.alloc (.cells #[.int .i64 1,.int .i64 s,.int .i64 lo,.int .i64 hi,.int .i64 st,.slice A0 P.length c0] 24)) 31 #[.int .u64 a,.slice A1 b.length c1,.slice A2 l.length c2]
 simp only [World.size_alloc] at q3
 have HKA := Lib.hid ka
 have HQ2 := Lib.hid q2
 have HQ3 := Lib.hid q3
 have HAL := Lib.hid (fun W => alone_any 1 a hkw A1 A2 b.length l.length c1 c2 W)
 rw [hal] at HAL
 clear ka q2 q3 hkw hal hf
 generalize mayR b.length lo hi st = r2 at HM ⊢
 go_enter Tryd.func62,Tryd.ntmps62
 go_upto_region 1 with fail
 generalize (w.alloc (.cells #[.int .i64 1,.int .i64 s,.int .i64 lo,.int .i64 hi,.int .i64 st,.slice A0 P.length c0] 24)).alloc (.cells #[.int .u64 a,.slice A1 b.length c1,.slice A2 l.length c2] 31) = W0 at HKA HQ2 HQ3 ⊢
 have x0 := HQ2.out.cell 0
 have x1 := HQ2.out.cell 1
 have x2 := HQ2.out.cell 2
 have x3 := HQ2.out.cell 3
 have x4 := HQ2.out.cell 4
 have x5 := HQ2.out.cell 5
 have y0 := HQ3.out.cell 0
 have y1 := HQ3.out.cell 1
 have y2 := HQ3.out.cell 2
 simp at x0 x1 x2 x3 x4 x5 y0 y1 y2
 go_wp2_with fail
 refine (HAL.out W0).mono ?_
 rintro e w1 ⟨rfl,hk1⟩
 have HK1 := Lib.hid (HKA.out.then_ hk1 (fun _ h => h.elim))
 have q2 := HQ2.out.kp hk1 (fun h => h)
 have q3 := HQ3.out.kp hk1 (fun h => h)
 clear x0 x1 x2 x3 x4 x5 y0 y1 y2 hk1 HAL HKA HQ2 HQ3
 have HQ2 := Lib.hid q2
 have HQ3 := Lib.hid q3
 clear q2 q3
 have x0 := HQ2.out.cell 0
 have x1 := HQ2.out.cell 1
 have x2 := HQ2.out.cell 2
 have x3 := HQ2.out.cell 3
 have x4 := HQ2.out.cell 4
 have x5 := HQ2.out.cell 5
 have y0 := HQ3.out.cell 0
 have y1 := HQ3.out.cell 1
 have y2 := HQ3.out.cell 2
 simp at x0 x1 x2 x3 x4 x5 y0 y1 y2
 go_upto_region 9 with fail
 go_quiet ((go_at_call 75;exact Calls.quiet_of_same (HM.out _)))
 have HK2 := Lib.hid (HK1.out.drewN nq)
 clear HK1
 go_wp2_with fail
 go_ret2
 exact ⟨rfl,HK2.out⟩

set_option maxHeartbeats 3200000 in
theorem vfit_rest (ok : Nat → Prop) (s lo hi st : Int) (P : List Fm) (a : Int) (b : List UInt8) (l : List Vt) (A0 A1 A2 : Option Addr) (c0 c1 c2 : Nat) (w : World) (hf : FmR w ok (.agg #[.int .i64 4,.int .i64 s,.int .i64 lo,.int .i64 hi,.int .i64 st,.slice A0 P.length c0]) (.mk ⟨4,s,lo,hi,st⟩ P)) (hal : aloneB 4 a b.length l.length = true) :
  Calls Tryd.prog 62 #[.agg #[.int .i64 4,.int .i64 s,.int .i64 lo,.int .i64 hi,.int .i64 st,.slice A0 P.length c0],.agg #[.int .u64 a,.slice A1 b.length c1,.slice A2 l.length c2]] w fun e w' => e = .returned (.tuple #[.int .i64 (b.length : Int),.int .i64 (mayR b.length lo hi 1)]) ∧ Kp (fun _ => False) w w' := by
 have HM := Lib.hid (fun W => vmay_any b.length lo hi 1 (by decide) W)
 have hkw : (Lit.int .i64 4).wf = true := i64_wf6 hf.wf_k
 have ka : Kp (fun _ => False) w ((w.alloc (.cells #[.int .i64 4,.int .i64 s,.int .i64 lo,.int .i64 hi,.int .i64 st,.slice A0 P.length c0] 24)).alloc (.cells #[.int .u64 a,.slice A1 b.length c1,.slice A2 l.length c2] 31)) := ((Kp.refl _ w).alloc _).alloc _
 have q2 := (Blk.new w 24 #[.int .i64 4,.int .i64 s,.int .i64 lo,.int .i64 hi,.int .i64 st,.slice A0 P.length c0]).alloc (.cells #[.int .u64 a,.slice A1 b.length c1,.slice A2 l.length c2] 31)
 have q3 := Blk.new (w.alloc (.cells #[.int .i64 4,.int .i64 s,.int .i64 lo,.int .i64 hi,.int .i64 st,.slice A0 P.length c0] 24)) 31 #[.int .u64 a,.slice A1 b.length c1,.slice A2 l.length c2]
 simp only [World.size_alloc] at q3
 have HKA := Lib.hid ka
 have HQ2 := Lib.hid q2
 have HQ3 := Lib.hid q3
 have HAL := Lib.hid (fun W => alone_any 4 a hkw A1 A2 b.length l.length c1 c2 W)
 rw [hal] at HAL
 clear ka q2 q3 hkw hal hf
 generalize mayR b.length lo hi 1 = r2 at HM ⊢
 go_enter Tryd.func62,Tryd.ntmps62
 go_upto_region 1 with fail
 generalize (w.alloc (.cells #[.int .i64 4,.int .i64 s,.int .i64 lo,.int .i64 hi,.int .i64 st,.slice A0 P.length c0] 24)).alloc (.cells #[.int .u64 a,.slice A1 b.length c1,.slice A2 l.length c2] 31) = W0 at HKA HQ2 HQ3 ⊢
 have x0 := HQ2.out.cell 0
 have x1 := HQ2.out.cell 1
 have x2 := HQ2.out.cell 2
 have x3 := HQ2.out.cell 3
 have x4 := HQ2.out.cell 4
 have x5 := HQ2.out.cell 5
 have y0 := HQ3.out.cell 0
 have y1 := HQ3.out.cell 1
 have y2 := HQ3.out.cell 2
 simp at x0 x1 x2 x3 x4 x5 y0 y1 y2
 go_wp2_with fail
 refine (HAL.out W0).mono ?_
 rintro e w1 ⟨rfl,hk1⟩
 have HK1 := Lib.hid (HKA.out.then_ hk1 (fun _ h => h.elim))
 have q2 := HQ2.out.kp hk1 (fun h => h)
 have q3 := HQ3.out.kp hk1 (fun h => h)
 clear x0 x1 x2 x3 x4 x5 y0 y1 y2 hk1 HAL HKA HQ2 HQ3
 have HQ2 := Lib.hid q2
 have HQ3 := Lib.hid q3
 clear q2 q3
 have x0 := HQ2.out.cell 0
 have x1 := HQ2.out.cell 1
 have x2 := HQ2.out.cell 2
 have x3 := HQ2.out.cell 3
 have x4 := HQ2.out.cell 4
 have x5 := HQ2.out.cell 5
 have y0 := HQ3.out.cell 0
 have y1 := HQ3.out.cell 1
 have y2 := HQ3.out.cell 2
 simp at x0 x1 x2 x3 x4 x5 y0 y1 y2
 go_upto_region 11 with fail
 go_quiet ((go_at_call 75;exact Calls.quiet_of_same (HM.out _)))
 have HK2 := Lib.hid (HK1.out.drewN nq)
 clear HK1
 go_wp2_with fail
 go_ret2
 exact ⟨rfl,HK2.out⟩

set_option maxHeartbeats 3200000 in
theorem vfit_fixed (ok : Nat → Prop) (s lo hi st : Int) (P : List Fm) (a : Int) (b : List UInt8) (l : List Vt) (A0 A1 A2 : Option Addr) (c0 c1 c2 : Nat) (w : World) (hf : FmR w ok (.agg #[.int .i64 5,.int .i64 s,.int .i64 lo,.int .i64 hi,.int .i64 st,.slice A0 P.length c0]) (.mk ⟨5,s,lo,hi,st⟩ P)) (hal : aloneB 5 a b.length l.length = true) :
  Calls Tryd.prog 62 #[.agg #[.int .i64 5,.int .i64 s,.int .i64 lo,.int .i64 hi,.int .i64 st,.slice A0 P.length c0],.agg #[.int .u64 a,.slice A1 b.length c1,.slice A2 l.length c2]] w fun e w' => e = .returned (.tuple #[.int .i64 lo,.int .i64 (mayR b.length lo lo 1)]) ∧ Kp (fun _ => False) w w' := by
 have HM := Lib.hid (fun W => vmay_any b.length lo lo 1 (by decide) W)
 have hkw : (Lit.int .i64 5).wf = true := i64_wf6 hf.wf_k
 have ka : Kp (fun _ => False) w ((w.alloc (.cells #[.int .i64 5,.int .i64 s,.int .i64 lo,.int .i64 hi,.int .i64 st,.slice A0 P.length c0] 24)).alloc (.cells #[.int .u64 a,.slice A1 b.length c1,.slice A2 l.length c2] 31)) := ((Kp.refl _ w).alloc _).alloc _
 have q2 := (Blk.new w 24 #[.int .i64 5,.int .i64 s,.int .i64 lo,.int .i64 hi,.int .i64 st,.slice A0 P.length c0]).alloc (.cells #[.int .u64 a,.slice A1 b.length c1,.slice A2 l.length c2] 31)
 have q3 := Blk.new (w.alloc (.cells #[.int .i64 5,.int .i64 s,.int .i64 lo,.int .i64 hi,.int .i64 st,.slice A0 P.length c0] 24)) 31 #[.int .u64 a,.slice A1 b.length c1,.slice A2 l.length c2]
 simp only [World.size_alloc] at q3
 have HKA := Lib.hid ka
 have HQ2 := Lib.hid q2
 have HQ3 := Lib.hid q3
 have HAL := Lib.hid (fun W => alone_any 5 a hkw A1 A2 b.length l.length c1 c2 W)
 rw [hal] at HAL
 clear ka q2 q3 hkw hal hf
 generalize mayR b.length lo lo 1 = r2 at HM ⊢
 go_enter Tryd.func62,Tryd.ntmps62
 go_upto_region 1 with fail
 generalize (w.alloc (.cells #[.int .i64 5,.int .i64 s,.int .i64 lo,.int .i64 hi,.int .i64 st,.slice A0 P.length c0] 24)).alloc (.cells #[.int .u64 a,.slice A1 b.length c1,.slice A2 l.length c2] 31) = W0 at HKA HQ2 HQ3 ⊢
 have x0 := HQ2.out.cell 0
 have x1 := HQ2.out.cell 1
 have x2 := HQ2.out.cell 2
 have x3 := HQ2.out.cell 3
 have x4 := HQ2.out.cell 4
 have x5 := HQ2.out.cell 5
 have y0 := HQ3.out.cell 0
 have y1 := HQ3.out.cell 1
 have y2 := HQ3.out.cell 2
 simp at x0 x1 x2 x3 x4 x5 y0 y1 y2
 go_wp2_with fail
 refine (HAL.out W0).mono ?_
 rintro e w1 ⟨rfl,hk1⟩
 have HK1 := Lib.hid (HKA.out.then_ hk1 (fun _ h => h.elim))
 have q2 := HQ2.out.kp hk1 (fun h => h)
 have q3 := HQ3.out.kp hk1 (fun h => h)
 clear x0 x1 x2 x3 x4 x5 y0 y1 y2 hk1 HAL HKA HQ2 HQ3
 have HQ2 := Lib.hid q2
 have HQ3 := Lib.hid q3
 clear q2 q3
 have x0 := HQ2.out.cell 0
 have x1 := HQ2.out.cell 1
 have x2 := HQ2.out.cell 2
 have x3 := HQ2.out.cell 3
 have x4 := HQ2.out.cell 4
 have x5 := HQ2.out.cell 5
 have y0 := HQ3.out.cell 0
 have y1 := HQ3.out.cell 1
 have y2 := HQ3.out.cell 2
 simp at x0 x1 x2 x3 x4 x5 y0 y1 y2
 go_upto_region 13 with fail
 go_quiet ((go_at_call 75;exact Calls.quiet_of_same (HM.out _)))
 have HK2 := Lib.hid (HK1.out.drewN nq)
 clear HK1
 go_wp2_with fail
 go_ret2
 exact ⟨rfl,HK2.out⟩

/-- What fitting tells of a form. -/
def FitC (f : Fm) : Prop := ∀ (ok ok2 : Nat → Prop) (x : Vt) (fv vv : Value) (w : World),FmR w ok fv f → VtR w ok2 vv x →
 Calls Tryd.prog 62 #[fv,vv] w fun e w' => e = .returned (.tuple #[.int .i64 (fitR f x).1,.int .i64 (fitR f x).2]) ∧ Kp (fun _ => False) w w'

set_option maxHeartbeats 3200000 in
theorem vfit_len (ok : Nat → Prop) (s lo hi st : Int) (P : List Fm) (a : Int) (b : List UInt8) (l : List Vt) (A0 A1 A2 : Option Addr) (c0 c1 c2 : Nat) (w : World) (hf : FmR w ok (.agg #[.int .i64 3,.int .i64 s,.int .i64 lo,.int .i64 hi,.int .i64 st,.slice A0 P.length c0]) (.mk ⟨3,s,lo,hi,st⟩ P)) (hal : aloneB 3 a b.length l.length = true) (hne : l.length ≠ P.length) :
  Calls Tryd.prog 62 #[.agg #[.int .i64 3,.int .i64 s,.int .i64 lo,.int .i64 hi,.int .i64 st,.slice A0 P.length c0],.agg #[.int .u64 a,.slice A1 b.length c1,.slice A2 l.length c2]] w fun e w' => e = .returned (.tuple #[.int .i64 0,.int .i64 15]) ∧ Kp (fun _ => False) w w' := by
 have hd : ((l.length : Int) != (P.length : Int)) = true := by simp;omega
 have hkw : (Lit.int .i64 3).wf = true := i64_wf6 hf.wf_k
 have ka : Kp (fun _ => False) w ((w.alloc (.cells #[.int .i64 3,.int .i64 s,.int .i64 lo,.int .i64 hi,.int .i64 st,.slice A0 P.length c0] 24)).alloc (.cells #[.int .u64 a,.slice A1 b.length c1,.slice A2 l.length c2] 31)) := ((Kp.refl _ w).alloc _).alloc _
 have q2 := (Blk.new w 24 #[.int .i64 3,.int .i64 s,.int .i64 lo,.int .i64 hi,.int .i64 st,.slice A0 P.length c0]).alloc (.cells #[.int .u64 a,.slice A1 b.length c1,.slice A2 l.length c2] 31)
 have q3 := Blk.new (w.alloc (.cells #[.int .i64 3,.int .i64 s,.int .i64 lo,.int .i64 hi,.int .i64 st,.slice A0 P.length c0] 24)) 31 #[.int .u64 a,.slice A1 b.length c1,.slice A2 l.length c2]
 simp only [World.size_alloc] at q3
 have HKA := Lib.hid ka
 have HQ2 := Lib.hid q2
 have HQ3 := Lib.hid q3
 have HAL := Lib.hid (fun W => alone_any 3 a hkw A1 A2 b.length l.length c1 c2 W)
 rw [hal] at HAL
 clear ka q2 q3 hkw hal hf
 clear hne
 go_enter Tryd.func62,Tryd.ntmps62
 go_upto_region 1 with fail
 generalize (w.alloc (.cells #[.int .i64 3,.int .i64 s,.int .i64 lo,.int .i64 hi,.int .i64 st,.slice A0 P.length c0] 24)).alloc (.cells #[.int .u64 a,.slice A1 b.length c1,.slice A2 l.length c2] 31) = W0 at HKA HQ2 HQ3 ⊢
 have x0 := HQ2.out.cell 0
 have x1 := HQ2.out.cell 1
 have x2 := HQ2.out.cell 2
 have x3 := HQ2.out.cell 3
 have x4 := HQ2.out.cell 4
 have x5 := HQ2.out.cell 5
 have y0 := HQ3.out.cell 0
 have y1 := HQ3.out.cell 1
 have y2 := HQ3.out.cell 2
 simp at x0 x1 x2 x3 x4 x5 y0 y1 y2
 go_wp2_with fail
 refine (HAL.out W0).mono ?_
 rintro e w1 ⟨rfl,hk1⟩
 have HK1 := Lib.hid (HKA.out.then_ hk1 (fun _ h => h.elim))
 have q2 := HQ2.out.kp hk1 (fun h => h)
 have q3 := HQ3.out.kp hk1 (fun h => h)
 clear x0 x1 x2 x3 x4 x5 y0 y1 y2 hk1 HAL HKA HQ2 HQ3
 have HQ2 := Lib.hid q2
 have HQ3 := Lib.hid q3
 clear q2 q3
 have x0 := HQ2.out.cell 0
 have x1 := HQ2.out.cell 1
 have x2 := HQ2.out.cell 2
 have x3 := HQ2.out.cell 3
 have x4 := HQ2.out.cell 4
 have x5 := HQ2.out.cell 5
 have y0 := HQ3.out.cell 0
 have y1 := HQ3.out.cell 1
 have y2 := HQ3.out.cell 2
 simp at x0 x1 x2 x3 x4 x5 y0 y1 y2
 go_wp2_with fail
 go_ret2
 exact ⟨rfl,HK1.out⟩

set_option maxHeartbeats 6400000 in
theorem vfit_all2 (ok : Nat → Prop) (s lo hi st : Int) (P : List Fm) (a : Int) (b : List UInt8) (l : List Vt) (A0 A1 A2 : Option Addr) (c0 c1 c2 : Nat) (w : World) (hf : FmR w ok (.agg #[.int .i64 2,.int .i64 s,.int .i64 lo,.int .i64 hi,.int .i64 st,.slice A0 P.length c0]) (.mk ⟨2,s,lo,hi,st⟩ P)) (ok2 : Nat → Prop) (hv : VtR w ok2 (.agg #[.int .u64 a,.slice A1 b.length c1,.slice A2 l.length c2]) (.mk ⟨a,b⟩ l)) (hal : aloneB 2 a b.length l.length = true) (hst : st ≠ 0) (hC : ∀ y ∈ P,FitC y) (hP : 0 < l.length → 0 < P.length) :
  Calls Tryd.prog 62 #[.agg #[.int .i64 2,.int .i64 s,.int .i64 lo,.int .i64 hi,.int .i64 st,.slice A0 P.length c0],.agg #[.int .u64 a,.slice A1 b.length c1,.slice A2 l.length c2]] w fun e w' => e = .returned (.tuple #[.int .i64 (fitL (.mk ⟨2,s,lo,hi,st⟩ P) 0 0 l).1,.int .i64 (fitL (.mk ⟨2,s,lo,hi,st⟩ P) 0 0 l).2]) ∧ Kp (fun _ => False) w w' := by
 have hl : VsR w ok2 (.slice A2 l.length c2) l := by
  obtain ⟨A1',c1',A2',c2',e,_,_,_,_,_,_,h⟩ := hv.parts
  simp at e
  obtain ⟨_,rfl,rfl⟩ := e
  exact h
 obtain ⟨hl0,hl1,hl2⟩ := hl.len
 have hfs := hf.here6
 have HL := Lib.hid (fun W (hk : Kp (fun _ => False) w W) => hl.kp hk (fun _ _ h => h))
 have HF := Lib.hid (fun W (hk : Kp (fun _ => False) w W) => hfs.kp hk (fun _ _ h => h))
 have HC := Lib.hid hC
 have HP := Lib.hid hP
 have hkw : (Lit.int .i64 2).wf = true := i64_wf6 hf.wf_k
 have ka : Kp (fun _ => False) w ((w.alloc (.cells #[.int .i64 2,.int .i64 s,.int .i64 lo,.int .i64 hi,.int .i64 st,.slice A0 P.length c0] 24)).alloc (.cells #[.int .u64 a,.slice A1 b.length c1,.slice A2 l.length c2] 31)) := ((Kp.refl _ w).alloc _).alloc _
 have q2 := (Blk.new w 24 #[.int .i64 2,.int .i64 s,.int .i64 lo,.int .i64 hi,.int .i64 st,.slice A0 P.length c0]).alloc (.cells #[.int .u64 a,.slice A1 b.length c1,.slice A2 l.length c2] 31)
 have q3 := Blk.new (w.alloc (.cells #[.int .i64 2,.int .i64 s,.int .i64 lo,.int .i64 hi,.int .i64 st,.slice A0 P.length c0] 24)) 31 #[.int .u64 a,.slice A1 b.length c1,.slice A2 l.length c2]
 simp only [World.size_alloc] at q3
 have HKA := Lib.hid ka
 have HQ2 := Lib.hid q2
 have HQ3 := Lib.hid q3
 have HAL := Lib.hid (fun W => alone_any 2 a hkw A1 A2 b.length l.length c1 c2 W)
 rw [hal] at HAL
 clear ka q2 q3 hkw hal hf hl hl0 hv hfs hC hP
 obtain ⟨r,hr⟩ : ∃ r,fitL (.mk ⟨2,s,lo,hi,st⟩ P) 0 0 l = r := ⟨_,rfl⟩
 have HR := Lib.hid hr
 rw [hr]
 clear hr
 go_enter Tryd.func62,Tryd.ntmps62
 go_upto_region 1 with fail
 generalize (w.alloc (.cells #[.int .i64 2,.int .i64 s,.int .i64 lo,.int .i64 hi,.int .i64 st,.slice A0 P.length c0] 24)).alloc (.cells #[.int .u64 a,.slice A1 b.length c1,.slice A2 l.length c2] 31) = W0 at HKA HQ2 HQ3 ⊢
 have x0 := HQ2.out.cell 0
 have x1 := HQ2.out.cell 1
 have x2 := HQ2.out.cell 2
 have x3 := HQ2.out.cell 3
 have x4 := HQ2.out.cell 4
 have x5 := HQ2.out.cell 5
 have y0 := HQ3.out.cell 0
 have y1 := HQ3.out.cell 1
 have y2 := HQ3.out.cell 2
 simp at x0 x1 x2 x3 x4 x5 y0 y1 y2
 go_wp2_with fail
 refine (HAL.out W0).mono ?_
 rintro e w1 ⟨rfl,hk1⟩
 have HK1 := Lib.hid (HKA.out.then_ hk1 (fun _ h => h.elim))
 have q2 := HQ2.out.kp hk1 (fun h => h)
 have q3 := HQ3.out.kp hk1 (fun h => h)
 clear x0 x1 x2 x3 x4 x5 y0 y1 y2 hk1 HAL HKA HQ2 HQ3
 have HQ2 := Lib.hid q2
 have HQ3 := Lib.hid q3
 clear q2 q3
 have x0 := HQ2.out.cell 0
 have x1 := HQ2.out.cell 1
 have x2 := HQ2.out.cell 2
 have x3 := HQ2.out.cell 3
 have x4 := HQ2.out.cell 4
 have x5 := HQ2.out.cell 5
 have y0 := HQ3.out.cell 0
 have y1 := HQ3.out.cell 1
 have y2 := HQ3.out.cell 2
 simp at x0 x1 x2 x3 x4 x5 y0 y1 y2
 go_upto_region 18 with fail
 go_loopw [6,92] (fun qv i wr => ∃ (j : Nat) (q : Int),j ≤ l.length ∧ i = .int .i64 j ∧ qv = .int .i64 q ∧ r = fitL (.mk ⟨2,s,lo,hi,st⟩ P) q j (l.drop j) ∧ Kp (fun _ => False) w1 wr) (fun _ i _ => l.length - (intOf i).toNat)
 case atStart => exact ⟨0,0,Nat.zero_le _,rfl,rfl,HR.out.symm,Kp.refl _ _⟩
 case round =>
  obtain ⟨j,q,hj,rfl,rfl,he,hkr⟩ := hrel
  have HE := Lib.hid he
  have HKR := Lib.hid hkr
  have HKW := Lib.hid (HK1.out.then_ hkr (fun _ h => h.elim))
  have q2 := HQ2.out.kp hkr (fun h => h)
  have q3 := HQ3.out.kp hkr (fun h => h)
  have HQ4 := Lib.hid q2
  have HQ5 := Lib.hid q3
  clear he hkr q2 q3 x0 x1 x2 x3 x4 x5 y0 y1 y2
  by_cases hlt : j < l.length
  ·have hP0 : 0 < P.length := HP.out (by omega)
   obtain ⟨p,hp,hpe⟩ : ∃ p,p < P.length ∧ j % P.length = p := ⟨_,Nat.mod_lt _ hP0,rfl⟩
   have hstep := fitL_step ⟨2,s,lo,hi,st⟩ P q l j hlt p hp hpe
   have hmod : ((j : Int)).tmod (P.length : Int) = (p : Int) := by rw [Int.tmod_eq_emod_of_nonneg (by omega),← hpe];rfl
   obtain ⟨bo,off,A3,c3,A4,c4,rfl,hob,hvx,x0,x1,x2⟩ := (HL.out wr HKW.out).at_ hlt
   have hmem : P[p] ∈ P := List.getElem_mem hp
   have HLC := Lib.hid (HC.out _ hmem)
   have HS := Lib.hid (show r = if (fitR P[p] l[j]).2 = 0 then fitL (.mk ⟨2,s,lo,hi,st⟩ P) (wrap64 (q + (fitR P[p] l[j]).1)) (j + 1) (l.drop (j + 1)) else (0,(fitR P[p] l[j]).2) from HE.out.trans hstep)
   have HVX := Lib.hid hvx
   have hi0 : (0 : Int) ≤ (j : Int) := by omega
   have hi1 : (j : Int) < (l.length : Int) := by omega
   clear hvx hmem hstep hpe HE
   go_upto_region 20 with fail
   have hk5 : Kp (fun _ => False) wr (wr.alloc (.cells #[.int .u64 (l[j]).a.n,.slice A3 (l[j]).a.b.length c3,.slice A4 (l[j]).l.length c4] 31)) := (Kp.refl _ wr).alloc _
   have hq8 := Blk.new wr 31 #[.int .u64 (l[j]).a.n,.slice A3 (l[j]).a.b.length c3,.slice A4 (l[j]).l.length c4]
   have hv5 := VtR.kp HVX.out hk5 (fun _ _ h => h)
   generalize wr.alloc (.cells #[.int .u64 (l[j]).a.n,.slice A3 (l[j]).a.b.length c3,.slice A4 (l[j]).l.length c4] 31) = W5 at hk5 hq8 hv5 ⊢
   generalize wr.heap.size = b8 at hq8 ⊢
   have HK5 := Lib.hid (HKR.out.then_ hk5 (fun _ h => h.elim))
   have HQ6 := Lib.hid (HQ4.out.kp hk5 (fun h => h))
   have HQ7 := Lib.hid (HQ5.out.kp hk5 (fun h => h))
   have HV5 := Lib.hid hv5
   have hkw := HKW.out.then_ hk5 (fun _ h => h.elim)
   clear x0 x1 x2 hk5 hv5 HVX HKR HKW HQ4 HQ5
   obtain ⟨bp,offp,A5,c5,rfl,hop,hfp,p0,p1,p2,p3,p4,p5⟩ := (HF.out W5 hkw).at_ hp
   have HFP := Lib.hid hfp
   have g5 := HQ6.out.cell 5
   have y0 := hq8.cell 0
   have y1 := hq8.cell 1
   have y2 := hq8.cell 2
   simp at g5 y0 y1 y2
   generalize hpq : P[p] = pq at hfp HFP p0 p1 p2 p3 p4 p5 HLC HS
   clear hfp hkw hq8 hpq
   have hpne : ¬ P = [] := fun h => by rw [h] at hP0;simp at hP0
   have hpl : (P.length : Int) ≠ 0 := by omega
   have hq0 : (0 : Int) ≤ (p : Int) := by omega
   have hq1 : (p : Int) < (P.length : Int) := by omega
   have HCE := Lib.hid (fun W (hk : Kp (fun _ => False) W5 W) => show (fun w' : World => w'.cell? ⟨w.heap.size,5,none⟩ = some (.slice (some ⟨bp,offp,none⟩) P.length c0) ∧ w'.cell? ⟨b8,0,none⟩ = some (.int .u64 (l[j]).a.n) ∧ w'.cell? ⟨b8,1,none⟩ = some (.slice A3 (l[j]).a.b.length c3) ∧ w'.cell? ⟨b8,2,none⟩ = some (.slice A4 (l[j]).l.length c4) ∧
    w'.cell? ⟨bp,offp + p * 6,none⟩ = some (.int .i64 pq.a.k) ∧ w'.cell? ⟨bp,offp + p * 6 + 1,none⟩ = some (.int .i64 pq.a.s) ∧ w'.cell? ⟨bp,offp + p * 6 + 2,none⟩ = some (.int .i64 pq.a.lo) ∧ w'.cell? ⟨bp,offp + p * 6 + 3,none⟩ = some (.int .i64 pq.a.hi) ∧ w'.cell? ⟨bp,offp + p * 6 + 4,none⟩ = some (.int .i64 pq.a.st) ∧ w'.cell? ⟨bp,offp + p * 6 + 5,none⟩ = some (.slice A5 pq.l.length c5)) W from
    ⟨hk.cell g5 (fun h => h),hk.cell y0 (fun h => h),hk.cell y1 (fun h => h),hk.cell y2 (fun h => h),hk.cell p0 (fun h => h),hk.cell p1 (fun h => h),hk.cell p2 (fun h => h),hk.cell p3 (fun h => h),hk.cell p4 (fun h => h),hk.cell p5 (fun h => h)⟩)
   have HLD := Lib.hid (fun W (hk : Kp (fun _ => False) W5 W) => HLC.out _ _ l[j] _ _ W (FmR.kp HFP.out hk (fun _ _ h => h)) (VtR.kp HV5.out hk (fun _ _ h => h)))
   have HKZ := Lib.hid (Kp.refl (fun _ => False) W5)
   clear g5 y0 y1 y2 p0 p1 p2 p3 p4 p5 HFP HV5 HLC
   obtain ⟨⟨kv,ev⟩,hke⟩ : ∃ r,fitR pq l[j] = r := ⟨_,rfl⟩
   rw [hke] at HLD HS
   clear hke
   go_cut [9,10] (fun c d wx => c = .int .i64 kv ∧ d = .int .i64 ev ∧ Kp (fun _ => False) W5 wx)
   case first =>
    go_region_held3 (fun w' => w'.cell? ⟨w.heap.size,5,none⟩ = some (.slice (some ⟨bp,offp,none⟩) P.length c0) ∧ w'.cell? ⟨b8,0,none⟩ = some (.int .u64 (l[j]).a.n) ∧ w'.cell? ⟨b8,1,none⟩ = some (.slice A3 (l[j]).a.b.length c3) ∧ w'.cell? ⟨b8,2,none⟩ = some (.slice A4 (l[j]).l.length c4) ∧
     w'.cell? ⟨bp,offp + p * 6,none⟩ = some (.int .i64 pq.a.k) ∧ w'.cell? ⟨bp,offp + p * 6 + 1,none⟩ = some (.int .i64 pq.a.s) ∧ w'.cell? ⟨bp,offp + p * 6 + 2,none⟩ = some (.int .i64 pq.a.lo) ∧ w'.cell? ⟨bp,offp + p * 6 + 3,none⟩ = some (.int .i64 pq.a.hi) ∧ w'.cell? ⟨bp,offp + p * 6 + 4,none⟩ = some (.int .i64 pq.a.st) ∧ w'.cell? ⟨bp,offp + p * 6 + 5,none⟩ = some (.slice A5 pq.l.length c5)) (first | exact HCE.out _ HKZ.out | exact HCE.out _ HKZ.out.drew) (first | (go_at_call 62;refine (HLD.out _ (by first | exact HKZ.out | exact HKZ.out.drew)).mono ?_;rintro e w5 ⟨rfl,hk5⟩;have hq := Kp.then_ (a := W5) (S := fun _ => False) (by first | exact HKZ.out | exact HKZ.out.drew) hk5 (fun _ h => h.elim);clear HKZ;have HKZ := Lib.hid hq;clear hq hk5))
    go_wp2_with fail
    go_meet
    exact ⟨rfl,rfl,HKZ.out⟩
   case rest =>
   obtain ⟨rfl,rfl,hkc⟩ := hcut
   have HK7 := Lib.hid (HK5.out.then_ hkc (fun _ h => h.elim))
   clear hkc HCE HLD HKZ hpne hmod HQ6 HQ7
   by_cases hev : ev = 0
   ·subst hev
    have HS2 := Lib.hid (show r = fitL (.mk ⟨2,s,lo,hi,st⟩ P) (wrap64 (q + kv)) (j + 1) (l.drop (j + 1)) from by have := HS.out;rwa [if_pos rfl] at this)
    clear HS
    go_wp2_with fail
    go_roundw
    case rel => exact ⟨j + 1,_,by omega,by go_num,rfl,HS2.out,HK7.out⟩
    case measure => simp [intOf];omega
   ·have t0 : (ev != 0) = true := by simpa using hev
    have hS := HS.out
    simp only [if_neg hev] at hS
    subst hS
    have HK8 := Lib.hid (HK1.out.then_ HK7.out (fun _ h => h.elim))
    clear HS HR HK7
    go_wp2_with fail
    go_ret2
    exact ⟨rfl,HK8.out⟩
  ·obtain rfl : j = l.length := by omega
   have hE := HE.out
   rw [List.drop_length,fitL_nil] at hE
   simp at hE
   subst hE
   have x0 := HQ4.out.cell 0
   have x1 := HQ4.out.cell 1
   have x2 := HQ4.out.cell 2
   have x3 := HQ4.out.cell 3
   have x4 := HQ4.out.cell 4
   simp at x0 x1 x2 x3 x4
   clear HE HR
   have HM := Lib.hid (fun W => vmay_any q lo hi st hst W)
   go_upto_region 27 with fail
   go_quiet ((go_at_call 75;exact Calls.quiet_of_same (HM.out _)))
   have HK2 := Lib.hid (HKW.out.drewN nq)
   go_wp2_with fail
   go_ret2
   exact ⟨rfl,HK2.out⟩

set_option maxHeartbeats 6400000 in
theorem vfit_all3 (ok : Nat → Prop) (s lo hi st : Int) (P : List Fm) (a : Int) (b : List UInt8) (l : List Vt) (A0 A1 A2 : Option Addr) (c0 c1 c2 : Nat) (w : World) (hf : FmR w ok (.agg #[.int .i64 3,.int .i64 s,.int .i64 lo,.int .i64 hi,.int .i64 st,.slice A0 P.length c0]) (.mk ⟨3,s,lo,hi,st⟩ P)) (ok2 : Nat → Prop) (hv : VtR w ok2 (.agg #[.int .u64 a,.slice A1 b.length c1,.slice A2 l.length c2]) (.mk ⟨a,b⟩ l)) (hal : aloneB 3 a b.length l.length = true) (hlen : l.length = P.length) (hC : ∀ y ∈ P,FitC y) (hP : 0 < l.length → 0 < P.length) :
  Calls Tryd.prog 62 #[.agg #[.int .i64 3,.int .i64 s,.int .i64 lo,.int .i64 hi,.int .i64 st,.slice A0 P.length c0],.agg #[.int .u64 a,.slice A1 b.length c1,.slice A2 l.length c2]] w fun e w' => e = .returned (.tuple #[.int .i64 (fitL (.mk ⟨3,s,lo,hi,st⟩ P) 0 0 l).1,.int .i64 (fitL (.mk ⟨3,s,lo,hi,st⟩ P) 0 0 l).2]) ∧ Kp (fun _ => False) w w' := by
 have hd : ((l.length : Int) != (P.length : Int)) = false := by simp;omega
 have hl : VsR w ok2 (.slice A2 l.length c2) l := by
  obtain ⟨A1',c1',A2',c2',e,_,_,_,_,_,_,h⟩ := hv.parts
  simp at e
  obtain ⟨_,rfl,rfl⟩ := e
  exact h
 obtain ⟨hl0,hl1,hl2⟩ := hl.len
 have hfs := hf.here6
 have HL := Lib.hid (fun W (hk : Kp (fun _ => False) w W) => hl.kp hk (fun _ _ h => h))
 have HF := Lib.hid (fun W (hk : Kp (fun _ => False) w W) => hfs.kp hk (fun _ _ h => h))
 have HC := Lib.hid hC
 have HP := Lib.hid hP
 have hkw : (Lit.int .i64 3).wf = true := i64_wf6 hf.wf_k
 have ka : Kp (fun _ => False) w ((w.alloc (.cells #[.int .i64 3,.int .i64 s,.int .i64 lo,.int .i64 hi,.int .i64 st,.slice A0 P.length c0] 24)).alloc (.cells #[.int .u64 a,.slice A1 b.length c1,.slice A2 l.length c2] 31)) := ((Kp.refl _ w).alloc _).alloc _
 have q2 := (Blk.new w 24 #[.int .i64 3,.int .i64 s,.int .i64 lo,.int .i64 hi,.int .i64 st,.slice A0 P.length c0]).alloc (.cells #[.int .u64 a,.slice A1 b.length c1,.slice A2 l.length c2] 31)
 have q3 := Blk.new (w.alloc (.cells #[.int .i64 3,.int .i64 s,.int .i64 lo,.int .i64 hi,.int .i64 st,.slice A0 P.length c0] 24)) 31 #[.int .u64 a,.slice A1 b.length c1,.slice A2 l.length c2]
 simp only [World.size_alloc] at q3
 have HKA := Lib.hid ka
 have HQ2 := Lib.hid q2
 have HQ3 := Lib.hid q3
 have HAL := Lib.hid (fun W => alone_any 3 a hkw A1 A2 b.length l.length c1 c2 W)
 rw [hal] at HAL
 clear ka q2 q3 hkw hal hf hl hl0 hv hfs hC hP
 clear hlen
 obtain ⟨r,hr⟩ : ∃ r,fitL (.mk ⟨3,s,lo,hi,st⟩ P) 0 0 l = r := ⟨_,rfl⟩
 have HR := Lib.hid hr
 rw [hr]
 clear hr
 go_enter Tryd.func62,Tryd.ntmps62
 go_upto_region 1 with fail
 generalize (w.alloc (.cells #[.int .i64 3,.int .i64 s,.int .i64 lo,.int .i64 hi,.int .i64 st,.slice A0 P.length c0] 24)).alloc (.cells #[.int .u64 a,.slice A1 b.length c1,.slice A2 l.length c2] 31) = W0 at HKA HQ2 HQ3 ⊢
 have x0 := HQ2.out.cell 0
 have x1 := HQ2.out.cell 1
 have x2 := HQ2.out.cell 2
 have x3 := HQ2.out.cell 3
 have x4 := HQ2.out.cell 4
 have x5 := HQ2.out.cell 5
 have y0 := HQ3.out.cell 0
 have y1 := HQ3.out.cell 1
 have y2 := HQ3.out.cell 2
 simp at x0 x1 x2 x3 x4 x5 y0 y1 y2
 go_wp2_with fail
 refine (HAL.out W0).mono ?_
 rintro e w1 ⟨rfl,hk1⟩
 have HK1 := Lib.hid (HKA.out.then_ hk1 (fun _ h => h.elim))
 have q2 := HQ2.out.kp hk1 (fun h => h)
 have q3 := HQ3.out.kp hk1 (fun h => h)
 clear x0 x1 x2 x3 x4 x5 y0 y1 y2 hk1 HAL HKA HQ2 HQ3
 have HQ2 := Lib.hid q2
 have HQ3 := Lib.hid q3
 clear q2 q3
 have x0 := HQ2.out.cell 0
 have x1 := HQ2.out.cell 1
 have x2 := HQ2.out.cell 2
 have x3 := HQ2.out.cell 3
 have x4 := HQ2.out.cell 4
 have x5 := HQ2.out.cell 5
 have y0 := HQ3.out.cell 0
 have y1 := HQ3.out.cell 1
 have y2 := HQ3.out.cell 2
 simp at x0 x1 x2 x3 x4 x5 y0 y1 y2
 go_upto_region 18 with fail
 go_loopw [6,92] (fun qv i wr => ∃ (j : Nat) (q : Int),j ≤ l.length ∧ i = .int .i64 j ∧ qv = .int .i64 q ∧ r = fitL (.mk ⟨3,s,lo,hi,st⟩ P) q j (l.drop j) ∧ Kp (fun _ => False) w1 wr) (fun _ i _ => l.length - (intOf i).toNat)
 case atStart => exact ⟨0,0,Nat.zero_le _,rfl,rfl,HR.out.symm,Kp.refl _ _⟩
 case round =>
  obtain ⟨j,q,hj,rfl,rfl,he,hkr⟩ := hrel
  have HE := Lib.hid he
  have HKR := Lib.hid hkr
  have HKW := Lib.hid (HK1.out.then_ hkr (fun _ h => h.elim))
  have q2 := HQ2.out.kp hkr (fun h => h)
  have q3 := HQ3.out.kp hkr (fun h => h)
  have HQ4 := Lib.hid q2
  have HQ5 := Lib.hid q3
  clear he hkr q2 q3 x0 x1 x2 x3 x4 x5 y0 y1 y2
  by_cases hlt : j < l.length
  ·have hP0 : 0 < P.length := HP.out (by omega)
   obtain ⟨p,hp,hpe⟩ : ∃ p,p < P.length ∧ j % P.length = p := ⟨_,Nat.mod_lt _ hP0,rfl⟩
   have hstep := fitL_step ⟨3,s,lo,hi,st⟩ P q l j hlt p hp hpe
   have hmod : ((j : Int)).tmod (P.length : Int) = (p : Int) := by rw [Int.tmod_eq_emod_of_nonneg (by omega),← hpe];rfl
   obtain ⟨bo,off,A3,c3,A4,c4,rfl,hob,hvx,x0,x1,x2⟩ := (HL.out wr HKW.out).at_ hlt
   have hmem : P[p] ∈ P := List.getElem_mem hp
   have HLC := Lib.hid (HC.out _ hmem)
   have HS := Lib.hid (show r = if (fitR P[p] l[j]).2 = 0 then fitL (.mk ⟨3,s,lo,hi,st⟩ P) (wrap64 (q + (fitR P[p] l[j]).1)) (j + 1) (l.drop (j + 1)) else (0,(fitR P[p] l[j]).2) from HE.out.trans hstep)
   have HVX := Lib.hid hvx
   have hi0 : (0 : Int) ≤ (j : Int) := by omega
   have hi1 : (j : Int) < (l.length : Int) := by omega
   clear hvx hmem hstep hpe HE
   go_upto_region 20 with fail
   have hk5 : Kp (fun _ => False) wr (wr.alloc (.cells #[.int .u64 (l[j]).a.n,.slice A3 (l[j]).a.b.length c3,.slice A4 (l[j]).l.length c4] 31)) := (Kp.refl _ wr).alloc _
   have hq8 := Blk.new wr 31 #[.int .u64 (l[j]).a.n,.slice A3 (l[j]).a.b.length c3,.slice A4 (l[j]).l.length c4]
   have hv5 := VtR.kp HVX.out hk5 (fun _ _ h => h)
   generalize wr.alloc (.cells #[.int .u64 (l[j]).a.n,.slice A3 (l[j]).a.b.length c3,.slice A4 (l[j]).l.length c4] 31) = W5 at hk5 hq8 hv5 ⊢
   generalize wr.heap.size = b8 at hq8 ⊢
   have HK5 := Lib.hid (HKR.out.then_ hk5 (fun _ h => h.elim))
   have HQ6 := Lib.hid (HQ4.out.kp hk5 (fun h => h))
   have HQ7 := Lib.hid (HQ5.out.kp hk5 (fun h => h))
   have HV5 := Lib.hid hv5
   have hkw := HKW.out.then_ hk5 (fun _ h => h.elim)
   clear x0 x1 x2 hk5 hv5 HVX HKR HKW HQ4 HQ5
   obtain ⟨bp,offp,A5,c5,rfl,hop,hfp,p0,p1,p2,p3,p4,p5⟩ := (HF.out W5 hkw).at_ hp
   have HFP := Lib.hid hfp
   have g5 := HQ6.out.cell 5
   have y0 := hq8.cell 0
   have y1 := hq8.cell 1
   have y2 := hq8.cell 2
   simp at g5 y0 y1 y2
   generalize hpq : P[p] = pq at hfp HFP p0 p1 p2 p3 p4 p5 HLC HS
   clear hfp hkw hq8 hpq
   have hpne : ¬ P = [] := fun h => by rw [h] at hP0;simp at hP0
   have hpl : (P.length : Int) ≠ 0 := by omega
   have hq0 : (0 : Int) ≤ (p : Int) := by omega
   have hq1 : (p : Int) < (P.length : Int) := by omega
   have HCE := Lib.hid (fun W (hk : Kp (fun _ => False) W5 W) => show (fun w' : World => w'.cell? ⟨w.heap.size,5,none⟩ = some (.slice (some ⟨bp,offp,none⟩) P.length c0) ∧ w'.cell? ⟨b8,0,none⟩ = some (.int .u64 (l[j]).a.n) ∧ w'.cell? ⟨b8,1,none⟩ = some (.slice A3 (l[j]).a.b.length c3) ∧ w'.cell? ⟨b8,2,none⟩ = some (.slice A4 (l[j]).l.length c4) ∧
    w'.cell? ⟨bp,offp + p * 6,none⟩ = some (.int .i64 pq.a.k) ∧ w'.cell? ⟨bp,offp + p * 6 + 1,none⟩ = some (.int .i64 pq.a.s) ∧ w'.cell? ⟨bp,offp + p * 6 + 2,none⟩ = some (.int .i64 pq.a.lo) ∧ w'.cell? ⟨bp,offp + p * 6 + 3,none⟩ = some (.int .i64 pq.a.hi) ∧ w'.cell? ⟨bp,offp + p * 6 + 4,none⟩ = some (.int .i64 pq.a.st) ∧ w'.cell? ⟨bp,offp + p * 6 + 5,none⟩ = some (.slice A5 pq.l.length c5)) W from
    ⟨hk.cell g5 (fun h => h),hk.cell y0 (fun h => h),hk.cell y1 (fun h => h),hk.cell y2 (fun h => h),hk.cell p0 (fun h => h),hk.cell p1 (fun h => h),hk.cell p2 (fun h => h),hk.cell p3 (fun h => h),hk.cell p4 (fun h => h),hk.cell p5 (fun h => h)⟩)
   have HLD := Lib.hid (fun W (hk : Kp (fun _ => False) W5 W) => HLC.out _ _ l[j] _ _ W (FmR.kp HFP.out hk (fun _ _ h => h)) (VtR.kp HV5.out hk (fun _ _ h => h)))
   have HKZ := Lib.hid (Kp.refl (fun _ => False) W5)
   clear g5 y0 y1 y2 p0 p1 p2 p3 p4 p5 HFP HV5 HLC
   obtain ⟨⟨kv,ev⟩,hke⟩ : ∃ r,fitR pq l[j] = r := ⟨_,rfl⟩
   rw [hke] at HLD HS
   clear hke
   go_cut [9,10] (fun c d wx => c = .int .i64 kv ∧ d = .int .i64 ev ∧ Kp (fun _ => False) W5 wx)
   case first =>
    go_region_held3 (fun w' => w'.cell? ⟨w.heap.size,5,none⟩ = some (.slice (some ⟨bp,offp,none⟩) P.length c0) ∧ w'.cell? ⟨b8,0,none⟩ = some (.int .u64 (l[j]).a.n) ∧ w'.cell? ⟨b8,1,none⟩ = some (.slice A3 (l[j]).a.b.length c3) ∧ w'.cell? ⟨b8,2,none⟩ = some (.slice A4 (l[j]).l.length c4) ∧
     w'.cell? ⟨bp,offp + p * 6,none⟩ = some (.int .i64 pq.a.k) ∧ w'.cell? ⟨bp,offp + p * 6 + 1,none⟩ = some (.int .i64 pq.a.s) ∧ w'.cell? ⟨bp,offp + p * 6 + 2,none⟩ = some (.int .i64 pq.a.lo) ∧ w'.cell? ⟨bp,offp + p * 6 + 3,none⟩ = some (.int .i64 pq.a.hi) ∧ w'.cell? ⟨bp,offp + p * 6 + 4,none⟩ = some (.int .i64 pq.a.st) ∧ w'.cell? ⟨bp,offp + p * 6 + 5,none⟩ = some (.slice A5 pq.l.length c5)) (first | exact HCE.out _ HKZ.out | exact HCE.out _ HKZ.out.drew) (first | (go_at_call 62;refine (HLD.out _ (by first | exact HKZ.out | exact HKZ.out.drew)).mono ?_;rintro e w5 ⟨rfl,hk5⟩;have hq := Kp.then_ (a := W5) (S := fun _ => False) (by first | exact HKZ.out | exact HKZ.out.drew) hk5 (fun _ h => h.elim);clear HKZ;have HKZ := Lib.hid hq;clear hq hk5))
    go_wp2_with fail
    go_meet
    exact ⟨rfl,rfl,HKZ.out⟩
   case rest =>
   obtain ⟨rfl,rfl,hkc⟩ := hcut
   have HK7 := Lib.hid (HK5.out.then_ hkc (fun _ h => h.elim))
   clear hkc HCE HLD HKZ hpne hmod HQ6 HQ7
   by_cases hev : ev = 0
   ·subst hev
    have HS2 := Lib.hid (show r = fitL (.mk ⟨3,s,lo,hi,st⟩ P) (wrap64 (q + kv)) (j + 1) (l.drop (j + 1)) from by have := HS.out;rwa [if_pos rfl] at this)
    clear HS
    go_wp2_with fail
    go_roundw
    case rel => exact ⟨j + 1,_,by omega,by go_num,rfl,HS2.out,HK7.out⟩
    case measure => simp [intOf];omega
   ·have t0 : (ev != 0) = true := by simpa using hev
    have hS := HS.out
    simp only [if_neg hev] at hS
    subst hS
    have HK8 := Lib.hid (HK1.out.then_ HK7.out (fun _ h => h.elim))
    clear HS HR HK7
    go_wp2_with fail
    go_ret2
    exact ⟨rfl,HK8.out⟩
  ·obtain rfl : j = l.length := by omega
   have hE := HE.out
   rw [List.drop_length,fitL_nil] at hE
   simp at hE
   subst hE
   have x0 := HQ4.out.cell 0
   have x1 := HQ4.out.cell 1
   have x2 := HQ4.out.cell 2
   have x3 := HQ4.out.cell 3
   have x4 := HQ4.out.cell 4
   simp at x0 x1 x2 x3 x4
   clear HE HR
   go_wp2_with fail
   go_ret2
   exact ⟨rfl,HKW.out⟩

end Go.Proofs.YtdhnfccgojgehaaDoor

namespace Go.Proofs.YtdhnfccgojgehaaDoor
open Go.RowKit
set_option maxRecDepth 100000

theorem vfit_any (f : Fm) : checkR f = 0 → FitC f := by
 induction f using RT.induct with
 | h h P ih =>
 intro hc ok ok2 x fv vv w hf hv
 obtain ⟨hown,hone,h32,hch⟩ := check_ok hc
 obtain ⟨k,s,lo,hi,st⟩ := h
 obtain ⟨⟨a,b⟩,l⟩ := x
 obtain ⟨A0,c0,rfl⟩ := hf.form6
 obtain ⟨A1,c1,A2,c2,rfl,hu,_,_,_,_,_,_⟩ := hv.parts
 unfold u64B at hu
 rw [fitR_mk]
 simp only
 by_cases hal : aloneB k a b.length l.length = false
 ·rw [if_pos hal]
  exact vfit_not ok k s lo hi st P a b l A0 A1 A2 c0 c1 c2 w hf hal
 rw [if_neg hal]
 rw [Bool.not_eq_false] at hal
 by_cases k0 : k = 0
 ·rw [if_pos k0]
  subst k0
  have hs := hown.k0 rfl
  simp only at hs
  by_cases hr : s < 8 ∧ (2 : Int) ^ (8 * s.toNat) ≤ a
  ·rw [if_pos hr]
   have e : (8 * s).toNat = 8 * s.toNat := by omega
   have hp : (0 : Int) < 2 ^ (8 * s.toNat) := Int.pow_pos (by decide)
   have hd : (a / 2 ^ (8 * s).toNat != 0) = true := by
    rw [e]
    have := (Int.le_ediv_iff_mul_le hp).2 (show (1 : Int) * 2 ^ (8 * s.toNat) ≤ a by rw [Int.one_mul];exact hr.2)
    simp
    omega
   exact vfit_numx ok s lo hi st P a b l A0 A1 A2 c0 c1 c2 w hf hal (by omega) hr.1 hd
  ·rw [if_neg hr]
   by_cases h8 : s < 8
   ·have e : (8 * s).toNat = 8 * s.toNat := by omega
    have hd : (a / 2 ^ (8 * s).toNat != 0) = false := by
     rw [e]
     have := Int.ediv_eq_zero_of_lt (b := (2 : Int) ^ (8 * s.toNat)) hu.1 (by
      have : ¬ (2 : Int) ^ (8 * s.toNat) ≤ a := fun hh => hr ⟨h8,hh⟩
      omega)
     simp [this]
    exact vfit_num ok s lo hi st P a b l A0 A1 A2 c0 c1 c2 w hf hal (by omega) h8 hd
   ·have : s = 8 := by omega
    subst this
    exact vfit_n8 ok lo hi st P a b l A0 A1 A2 c0 c1 c2 w hf hal
 rw [if_neg k0]
 by_cases k1 : k = 1
 ·rw [if_pos k1]
  obtain ⟨hs1,hs2,hl1,hl2,hl3,hl4,hl5,hl6⟩ := hown.k12 (.inl k1)
  subst k1
  exact vfit_opq ok s lo hi st P a b l A0 A1 A2 c0 c1 c2 w hf hal (by simp only at hl5;omega)
 rw [if_neg k1]
 have hk := hown.k
 simp only at hk
 by_cases k4 : k = 4
 ·rw [if_pos k4]
  subst k4
  exact vfit_rest ok s lo hi st P a b l A0 A1 A2 c0 c1 c2 w hf hal
 rw [if_neg k4]
 by_cases k5 : k = 5
 ·rw [if_pos k5]
  subst k5
  exact vfit_fixed ok s lo hi st P a b l A0 A1 A2 c0 c1 c2 w hf hal
 rw [if_neg k5]
 have hk23 : k = 2 ∨ k = 3 := by omega
 have hC : ∀ y ∈ P,FitC y := fun y hy => ih y hy ((hch hk23).1 y hy)
 by_cases k3 : k = 3
 ·subst k3
  by_cases hlen : l.length = P.length
  ·rw [if_neg (fun hh => hh.2 hlen)]
   exact vfit_all3 ok s lo hi st P a b l A0 A1 A2 c0 c1 c2 w hf ok2 hv hal hlen hC (fun h => by omega)
  ·rw [if_pos ⟨rfl,hlen⟩]
   exact vfit_len ok s lo hi st P a b l A0 A1 A2 c0 c1 c2 w hf hal hlen
 ·have k2 : k = 2 := by omega
  rw [if_neg (fun hh => k3 hh.1)]
  obtain ⟨hs1,hs2,hl1,hl2,hl3,hl4,hl5,hl6⟩ := hown.k12 (.inr k2)
  subst k2
  have := hone rfl
  exact vfit_all2 ok s lo hi st P a b l A0 A1 A2 c0 c1 c2 w hf ok2 hv hal (by simp only at hl5;omega) hC (fun _ => by omega)

set_option maxHeartbeats 3200000 in
theorem vsize6_any (ok ok2 : Nat → Prop) (f : Fm) (x : Vt) (fv vv : Value) (w : World) (hokl : ∀ i,ok i → i < w.heap.size) (hf : FmR w ok fv f) (hv : VtR w ok2 vv x) : Calls Tryd.prog 48 #[fv,vv] w fun e w' => e = .returned (.tuple #[.int .i64 (sizeR f x).1,.int .i64 (sizeR f x).2]) ∧ Kp (fun _ => False) w w' := by
 have HCK := Lib.hid (fun W (hk : Kp (fun _ => False) w W) => check_any ok f fv W (fun i hi => Nat.lt_of_lt_of_le (hokl i hi) hk.size) (hf.kp hk (fun _ _ h => h)))
 have HFI := Lib.hid (fun (h : checkR f = 0) W (hk : Kp (fun _ => False) w W) => vfit_any f h ok ok2 x fv vv W (hf.kp hk (fun _ _ h => h)) (hv.kp hk (fun _ _ h => h)))
 obtain ⟨cr,hcr⟩ : ∃ c,(if deepB 8 f then 14 else checkR f) = c := ⟨_,rfl⟩
 obtain ⟨⟨n,e⟩,hne⟩ : ∃ r,fitR f x = r := ⟨_,rfl⟩
 have hsz : sizeR f x = if cr = 0 then (if e = 0 then (n,0) else (0,e)) else (0,cr) := by
  unfold sizeR
  rw [hcr,hne]
 have hc0 : cr = 0 → checkR f = 0 := by
  intro h
  rw [h] at hcr
  split at hcr
  ·simp at hcr
  ·exact hcr
 rw [hcr] at HCK
 rw [hne] at HFI
 rw [hsz]
 have HC0 := Lib.hid hc0
 obtain ⟨⟨k,s,lo,hi,st⟩,P⟩ := f
 obtain ⟨⟨a,b⟩,l⟩ := x
 obtain ⟨A0,c0,rfl⟩ := hf.form6
 obtain ⟨A1,c1,A2,c2,rfl,_,_,_,_,_,_,_⟩ := hv.parts
 have ka : Kp (fun _ => False) w ((w.alloc (.cells #[.int .i64 k,.int .i64 s,.int .i64 lo,.int .i64 hi,.int .i64 st,.slice A0 P.length c0] 24)).alloc (.cells #[.int .u64 a,.slice A1 b.length c1,.slice A2 l.length c2] 31)) := ((Kp.refl _ w).alloc _).alloc _
 have q2 := (Blk.new w 24 #[.int .i64 k,.int .i64 s,.int .i64 lo,.int .i64 hi,.int .i64 st,.slice A0 P.length c0]).alloc (.cells #[.int .u64 a,.slice A1 b.length c1,.slice A2 l.length c2] 31)
 have q3 := Blk.new (w.alloc (.cells #[.int .i64 k,.int .i64 s,.int .i64 lo,.int .i64 hi,.int .i64 st,.slice A0 P.length c0] 24)) 31 #[.int .u64 a,.slice A1 b.length c1,.slice A2 l.length c2]
 simp only [World.size_alloc] at q3
 have HKA := Lib.hid ka
 have HQ2 := Lib.hid q2
 have HQ3 := Lib.hid q3
 clear ka q2 q3 hf hv hcr hne hsz hc0 hokl
 by_cases hcz : cr = 0
 rotate_left
 ·have t0 : (cr != 0) = true := by simpa using hcz
  rw [if_neg hcz]
  clear hcz
  go_enter Tryd.func48,Tryd.ntmps48
  go_wp2_with fail
  refine (HCK.out _ HKA.out).mono ?_
  rintro en w1 ⟨rfl,hk1⟩
  have HK1 := Lib.hid (HKA.out.then_ hk1 (fun _ h => h.elim))
  clear hk1
  go_wp2_with fail
  go_ret2
  exact ⟨rfl,HK1.out⟩
 subst hcz
 rw [if_pos rfl]
 have HF := Lib.hid (HFI.out (HC0.out rfl))
 clear HFI HC0
 by_cases hez : e = 0
 ·subst hez
  rw [if_pos rfl]
  go_enter Tryd.func48,Tryd.ntmps48
  go_wp2_with fail
  refine (HCK.out _ HKA.out).mono ?_
  rintro en w1 ⟨rfl,hk1⟩
  have HK1 := Lib.hid (HKA.out.then_ hk1 (fun _ h => h.elim))
  have q2 := HQ2.out.kp hk1 (fun h => h)
  have q3 := HQ3.out.kp hk1 (fun h => h)
  have x0 := q2.cell 0
  have x1 := q2.cell 1
  have x2 := q2.cell 2
  have x3 := q2.cell 3
  have x4 := q2.cell 4
  have x5 := q2.cell 5
  have y0 := q3.cell 0
  have y1 := q3.cell 1
  have y2 := q3.cell 2
  simp at x0 x1 x2 x3 x4 x5 y0 y1 y2
  clear hk1 q2 q3 HQ2 HQ3
  go_wp2_with fail
  refine (HF.out _ HK1.out).mono ?_
  rintro en w2 ⟨rfl,hk2⟩
  have HK2 := Lib.hid (HK1.out.then_ hk2 (fun _ h => h.elim))
  clear hk2 x0 x1 x2 x3 x4 x5 y0 y1 y2
  go_wp2_with fail
  go_ret2
  exact ⟨rfl,HK2.out⟩
 ·have t0 : (e != 0) = true := by simpa using hez
  rw [if_neg hez]
  clear hez
  go_enter Tryd.func48,Tryd.ntmps48
  go_wp2_with fail
  refine (HCK.out _ HKA.out).mono ?_
  rintro en w1 ⟨rfl,hk1⟩
  have HK1 := Lib.hid (HKA.out.then_ hk1 (fun _ h => h.elim))
  have q2 := HQ2.out.kp hk1 (fun h => h)
  have q3 := HQ3.out.kp hk1 (fun h => h)
  have x0 := q2.cell 0
  have x1 := q2.cell 1
  have x2 := q2.cell 2
  have x3 := q2.cell 3
  have x4 := q2.cell 4
  have x5 := q2.cell 5
  have y0 := q3.cell 0
  have y1 := q3.cell 1
  have y2 := q3.cell 2
  simp at x0 x1 x2 x3 x4 x5 y0 y1 y2
  clear hk1 q2 q3 HQ2 HQ3
  go_wp2_with fail
  refine (HF.out _ HK1.out).mono ?_
  rintro en w2 ⟨rfl,hk2⟩
  have HK2 := Lib.hid (HK1.out.then_ hk2 (fun _ h => h.elim))
  clear hk2 x0 x1 x2 x3 x4 x5 y0 y1 y2
  go_wp2_with fail
  go_ret2
  exact ⟨rfl,HK2.out⟩

set_option maxHeartbeats 3200000 in
theorem vfits_any (ok ok2 : Nat → Prop) (f : Fm) (x : Vt) (v u : Value) (w : World) (hokl : ∀ i,ok i → i < w.heap.size) (hf : FmR w ok v f) (hv : VtR w ok2 u x) : Calls Tryd.prog 35 #[v,u] w fun e w' => e = .returned (.int .i64 (sizeR f x).2) ∧ Kp (fun _ => False) w w' := by
 have HSZ := Lib.hid (fun W (hk : Kp (fun _ => False) w W) => vsize6_any ok ok2 f x v u W (fun i hi => Nat.lt_of_lt_of_le (hokl i hi) hk.size) (hf.kp hk (fun _ _ h => h)) (hv.kp hk (fun _ _ h => h)))
 obtain ⟨⟨n,e⟩,hne⟩ : ∃ r,sizeR f x = r := ⟨_,rfl⟩
 rw [hne] at HSZ ⊢
 obtain ⟨⟨k,s,lo,hi,st⟩,P⟩ := f
 obtain ⟨⟨a,b⟩,l⟩ := x
 obtain ⟨A0,c0,rfl⟩ := hf.form6
 obtain ⟨A1,c1,A2,c2,rfl,_,_,_,_,_,_,_⟩ := hv.parts
 have HKA := Lib.hid (show Kp (fun _ => False) w ((w.alloc (.cells #[.int .i64 k,.int .i64 s,.int .i64 lo,.int .i64 hi,.int .i64 st,.slice A0 P.length c0] 24)).alloc (.cells #[.int .u64 a,.slice A1 b.length c1,.slice A2 l.length c2] 31)) from ((Kp.refl _ w).alloc _).alloc _)
 clear hf hv hne hokl
 go_enter Tryd.func35,Tryd.ntmps35
 go_wp2_with fail
 refine (HSZ.out _ HKA.out).mono ?_
 rintro en w1 ⟨rfl,hk1⟩
 have HK1 := Lib.hid (HKA.out.then_ hk1 (fun _ h => h.elim))
 clear hk1
 go_wp2_with fail
 go_ret
 exact ⟨rfl,HK1.out⟩
end Go.Proofs.YtdhnfccgojgehaaDoor

namespace Go.Proofs.YtdhnfccgojgehaaDoor
open Go.RowKit
set_option maxRecDepth 100000

theorem FmR.form_ {w : World} {ok : Nat → Prop} {v : Value} {k s lo hi st : Int} {P : List Fm} (h : FmR w ok v (.mk ⟨k,s,lo,hi,st⟩ P)) : ∃ A c,v = .agg #[.int .i64 k,.int .i64 s,.int .i64 lo,.int .i64 hi,.int .i64 st,.slice A P.length c] := by
 obtain ⟨sv,e,_,A,c,e2,_⟩ := h
 subst e2
 exact ⟨A,c,e⟩

set_option maxHeartbeats 3200000 in
/-- What does not fit is not written. -/
theorem wwrite_bad (ok ok2 : Nat → Prop) (f : Fm) (x : Vt) (fv vv : Value) (w : World) (hokl : ∀ i,ok i → i < w.heap.size) (hf : FmR w ok fv f) (hv : VtR w ok2 vv x) (n e : Int) (he : sizeR f x = (n,e)) (hne : e ≠ 0) :
  Calls Tryd.prog 26 #[fv,vv] w fun en w' => en = .returned (.tuple #[.slice none 0 0,.int .i64 e]) ∧ Kp (fun _ => False) w w' := by
 obtain ⟨⟨k,s,lo,hi,st⟩,P⟩ := f
 obtain ⟨⟨a,b⟩,l⟩ := x
 obtain ⟨A0,c0,rfl⟩ := hf.form_
 obtain ⟨A1,c1,A2,c2,rfl,_,_,_,_,_,_,_⟩ := hv.parts
 have ka := ((Kp.refl (fun _ => False) w).alloc (.cells #[.int .i64 k,.int .i64 s,.int .i64 lo,.int .i64 hi,.int .i64 st,.slice A0 P.length c0] 24)).alloc (.cells #[.int .u64 a,.slice A1 b.length c1,.slice A2 l.length c2] 31)
 have HF := Lib.hid (fun W (hk : Kp (fun _ => False) w W) => vfits_any ok ok2 _ _ _ _ W (fun i hi => Nat.lt_of_lt_of_le (hokl i hi) hk.size) (hf.kp hk (fun _ _ h => h)) (hv.kp hk (fun _ _ h => h)))
 rw [he] at HF
 have HKA := Lib.hid ka
 have hne' : (e != 0) = true := by simpa using hne
 clear ka hf hv he hne hokl
 go_enter Tryd.func26,Tryd.ntmps26
 go_wp2_with fail
 refine (HF.out _ HKA.out).mono ?_
 rintro en w1 ⟨rfl,hk1⟩
 have HK1 := Lib.hid (HKA.out.then_ hk1 (fun _ h => h.elim))
 clear hk1 HKA HF
 go_wp2_with fail
 go_ret2
 exact ⟨rfl,HK1.out⟩

set_option maxHeartbeats 3200000 in
/-- What fits is written. -/
theorem wwrite_ok (f : Fm) (x : Vt) (fv vv : Value) (w : World) (hz : szF f ≤ 100000) (hf : FmR w (· < w.heap.size) fv f) (hv : VtR w (· < w.heap.size) vv x) (n : Int) (he : sizeR f x = (n,0)) (hw : wfV x = true) (hbd : (writeR f x).length ≤ 1073741824) :
  Calls Tryd.prog 26 #[fv,vv] w fun en w' => ∃ A c,en = .returned (.tuple #[.slice A (writeR f x).length c,.int .i64 0]) ∧ BR w' (fun i => w.heap.size ≤ i) (.slice A (writeR f x).length c) (writeR f x) ∧ Kp (fun _ => False) w w' := by
 obtain ⟨hd,hck,hft,hfn⟩ := sizeR_ok (f := f) (x := x) (by rw [he])
 have hfit : fitR f x = (n,0) := by
  rw [he] at hfn
  exact Prod.ext hfn.symm hft
 have HLY := Lib.hid (fun (W : World) (g : Nat) (hg : w.heap.size ≤ g) (hk : Kp (fun _ => False) w W) (hb : Bld W (· = g) g [] 1073741824 []) => wlay_any f hz (· = g) (· < w.heap.size) g [] 1073741824 [] x n fv vv W hck hfit hw hb (hf.kp hk (fun _ _ h => h)) (hv.kp hk (fun _ _ h => h))
  (fun i hi => ⟨Nat.lt_of_lt_of_le hi hk.size,fun h => by subst h;exact absurd hi (Nat.not_lt.2 hg)⟩) (by simpa using hbd) (by simp;omega))
 obtain ⟨u,hu⟩ : ∃ u,writeR f x = u := ⟨_,rfl⟩
 rw [hu] at HLY hbd ⊢
 have HF := Lib.hid (fun W (hk : Kp (fun _ => False) w W) => vfits_any (· < w.heap.size) (· < w.heap.size) f x fv vv W (fun i hi => Nat.lt_of_lt_of_le hi hk.size) (hf.kp hk (fun _ _ h => h)) (hv.kp hk (fun _ _ h => h)))
 rw [he] at HF
 obtain ⟨⟨k,s,lo,hi,st⟩,P⟩ := f
 obtain ⟨⟨a,b⟩,l⟩ := x
 obtain ⟨A0,c0,rfl⟩ := hf.form_
 obtain ⟨A1,c1,A2,c2,rfl,_,_,_,_,_,_,_⟩ := hv.parts
 have ka := ((Kp.refl (fun _ => False) w).alloc (.cells #[.int .i64 k,.int .i64 s,.int .i64 lo,.int .i64 hi,.int .i64 st,.slice A0 P.length c0] 24)).alloc (.cells #[.int .u64 a,.slice A1 b.length c1,.slice A2 l.length c2] 31)
 have q2 := (Blk.new w 24 #[.int .i64 k,.int .i64 s,.int .i64 lo,.int .i64 hi,.int .i64 st,.slice A0 P.length c0]).alloc (.cells #[.int .u64 a,.slice A1 b.length c1,.slice A2 l.length c2] 31)
 have q3 := Blk.new (w.alloc (.cells #[.int .i64 k,.int .i64 s,.int .i64 lo,.int .i64 hi,.int .i64 st,.slice A0 P.length c0] 24)) 31 #[.int .u64 a,.slice A1 b.length c1,.slice A2 l.length c2]
 simp only [World.size_alloc] at q3
 have HKA := Lib.hid ka
 have HQ2 := Lib.hid q2
 have HQ3 := Lib.hid q3
 have HBD := Lib.hid hbd
 clear ka q2 q3 hf hv he hbd hd hck hft hfn hfit hw hz hu
 go_enter Tryd.func26,Tryd.ntmps26
 go_upto_region 1 with fail
 generalize (w.alloc (.cells #[.int .i64 k,.int .i64 s,.int .i64 lo,.int .i64 hi,.int .i64 st,.slice A0 P.length c0] 24)).alloc (.cells #[.int .u64 a,.slice A1 b.length c1,.slice A2 l.length c2] 31) = W1 at HKA HQ2 HQ3 ⊢
 have x0 := HQ2.out.cell 0
 have x1 := HQ2.out.cell 1
 have x2 := HQ2.out.cell 2
 have x3 := HQ2.out.cell 3
 have x4 := HQ2.out.cell 4
 have x5 := HQ2.out.cell 5
 have y0 := HQ3.out.cell 0
 have y1 := HQ3.out.cell 1
 have y2 := HQ3.out.cell 2
 simp at x0 x1 x2 x3 x4 x5 y0 y1 y2
 have HFI := Lib.hid (HF.out _ HKA.out)
 clear HF
 go_wp2_with fail
 refine HFI.out.mono ?_
 rintro en w1 ⟨rfl,hk1⟩
 have HK1 := Lib.hid (HKA.out.then_ hk1 (fun _ h => h.elim))
 have HP2 := Lib.hid (HQ2.out.kp hk1 (fun h => h))
 have HP3 := Lib.hid (HQ3.out.kp hk1 (fun h => h))
 have HNW := Lib.hid (bnew_ok 1073741824 (Nat.le_refl _) w1)
 clear hk1 HFI HQ2 HQ3 HKA x0 x1 x2 x3 x4 x5 y0 y1 y2
 go_wp2_with fail
 refine HNW.out.mono ?_
 rintro en w2 ⟨g,rfl,hg,hb2,hk2⟩
 have hg' : w.heap.size ≤ g := Nat.le_trans HK1.out.size hg
 have hkw := HK1.out.then_ hk2 (fun _ h => h.elim)
 have HL := Lib.hid (HLY.out w2 g hg' hkw hb2)
 have HK2 := Lib.hid hkw
 have HP4 := Lib.hid (HP2.out.kp hk2 (fun h => h))
 have HP5 := Lib.hid (HP3.out.kp hk2 (fun h => h))
 have HG := Lib.hid hg'
 clear hg hb2 hk2 hg' hkw HNW HP2 HP3 HLY
 have x0 := HP4.out.cell 0
 have x1 := HP4.out.cell 1
 have x2 := HP4.out.cell 2
 have x3 := HP4.out.cell 3
 have x4 := HP4.out.cell 4
 have x5 := HP4.out.cell 5
 have y0 := HP5.out.cell 0
 have y1 := HP5.out.cell 1
 have y2 := HP5.out.cell 2
 simp at x0 x1 x2 x3 x4 x5 y0 y1 y2
 go_wp2_with fail
 refine HL.out.mono ?_
 rintro en w3 ⟨rfl,hb3,hk3⟩
 have hkw := HK2.out.then_ hk3 (fun i (h : i = g) => .inr (h ▸ HG.out))
 have HD := Lib.hid (bdone_any _ g _ 1073741824 w3 hb3)
 have HK3 := Lib.hid hkw
 clear hb3 hk3 hkw HL HP4 HP5 x0 x1 x2 x3 x4 x5 y0 y1 y2 HK2 HK1
 go_wp2_with fail
 refine HD.out.mono ?_
 rintro en w4 ⟨A,c,rfl,hc4,hr4,_,hk4⟩
 simp only [List.nil_append] at hr4 hc4 ⊢
 have HR := Lib.hid (hr4.mono (fun i hi => Nat.le_trans HK3.out.size hi))
 have HK4 := Lib.hid (HK3.out.then_ hk4 (fun _ h => h.elim))
 clear hr4 hk4 HD HK3
 obtain ⟨m,hm⟩ : ∃ m,u.length = m := ⟨_,rfl⟩
 have HM := Lib.hid hm
 rw [hm] at HR hc4
 rw [hm]
 clear hm
 go_wp2_with fail
 go_ret2
 obtain rfl := HM.out
 exact ⟨_,_,rfl,HR.out,HK4.out⟩
end Go.Proofs.YtdhnfccgojgehaaDoor

namespace Go.Proofs.YtdhnfccgojgehaaDoor
open Go.RowKit
set_option maxRecDepth 100000

theorem tr_form {W : World} {ok : Nat → Prop} (a : FH) (ha : a.ok) (P : List Fm) (A : Option Addr) (n c : Nat) (hn : n = P.length) (hc : n ≤ c) (hP : n ≤ 140737488355328) (ht : TL FHd 6 W ok P A) : TR FHd 6 W ok (.mk a P) [.int .i64 a.k,.int .i64 a.s,.int .i64 a.lo,.int .i64 a.hi,.int .i64 a.st,.slice A n c] := by
 subst hn
 exact (TR_def _ _ _ _ _ _).2 ⟨[.int .i64 a.k,.int .i64 a.s,.int .i64 a.lo,.int .i64 a.hi,.int .i64 a.st],A,c,rfl,rfl,⟨rfl,ha⟩,hc,hP,ht⟩
theorem tr_value {W : World} {ok : Nat → Prop} (x : Int) (hx : u64B x) (P : List Vt) (A : Option Addr) (n c : Nat) (hn : n = P.length) (hc : n ≤ c) (hP : n ≤ 140737488355328) (ht : TL VHd 3 W ok P A) : TR VHd 3 W ok (.mk ⟨x,[]⟩ P) [.int .u64 x,.slice none 0 0,.slice A n c] := by
 subst hn
 exact (TR_def _ _ _ _ _ _).2 ⟨[.int .u64 x,.slice none 0 0],A,c,rfl,rfl,⟨_,rfl,hx,BR.nil,Nat.zero_le _⟩,hc,hP,ht⟩
theorem tl_none {α : Type} {H : Head α} {m : Nat} {W : World} {ok : Nat → Prop} {A : Option Addr} : TL H m W ok [] A := fun h => absurd h (Nat.lt_irrefl 0)
/-- One, two things in a block. -/
theorem tl_one {α : Type} {H : Head α} {W : World} {ok : Nat → Prop} {g m : Nat} {t : TypeId} {cs : Array Value} (hb : Blk W g t cs) (hok : ok g) (x : RT α) (l : List Value) (hx : TR H m W ok x l) (he : cs.toList = l) : TL H m W ok [x] (some ⟨g,0,none⟩) := by
 refine fun _ => ⟨g,0,rfl,hok,?_⟩
 rw [TRs,TRs]
 refine ⟨⟨_,hx,fun j u hu => ?_⟩,trivial⟩
 rw [hb.cell,Nat.zero_add,← Array.getElem?_toList,he]
 exact hu
theorem tl_two {α : Type} {H : Head α} {W : World} {ok : Nat → Prop} {g m : Nat} {t : TypeId} {cs : Array Value} (hb : Blk W g t cs) (hok : ok g) (x y : RT α) (l k : List Value) (hx : TR H m W ok x l) (hy : TR H m W ok y k) (hm : l.length = m) (he : cs.toList = l ++ k) : TL H m W ok [x,y] (some ⟨g,0,none⟩) := by
 refine fun _ => ⟨g,0,rfl,hok,?_⟩
 rw [TRs,TRs,TRs]
 refine ⟨⟨_,hx,fun j u hu => ?_⟩,⟨_,hy,fun j u hu => ?_⟩,trivial⟩
 ·rw [hb.cell,Nat.zero_add,← Array.getElem?_toList,he]
  rw [List.getElem?_append_left (by rcases Nat.lt_or_ge j l.length with h | h;exact h;rw [List.getElem?_eq_none h] at hu;cases hu)]
  exact hu
 ·rw [hb.cell,Nat.zero_add,← Array.getElem?_toList,he,List.getElem?_append_right (by omega),show m + j - l.length = j from by omega]
  exact hu

def fB : Fm := .mk ⟨3,0,0,0,0⟩ [.mk ⟨0,2,0,0,0⟩ [],.mk ⟨2,1,0,9,1⟩ [.mk ⟨0,1,0,0,0⟩ []]]
def xB : Vt := .mk ⟨0,[]⟩ [.mk ⟨258,[]⟩ [],.mk ⟨0,[]⟩ [.mk ⟨5,[]⟩ [],.mk ⟨6,[]⟩ []]]
theorem sB : sizeR fB xB = (5,0) := by kernel_rfl
theorem wB : writeR fB xB = [1,2,2,5,6] := by kernel_rfl
theorem i64_small (i : Int) (h1 : -100 ≤ i) (h2 : i ≤ 1000) : i64B i := by unfold i64B;omega
theorem u64_small (i : Int) (h1 : 0 ≤ i) (h2 : i ≤ 1000) : u64B i := by unfold u64B;omega
theorem fh_small (k s lo hi st : Int) (h : ∀ i ∈ [k,s,lo,hi,st], -100 ≤ i ∧ i ≤ 1000) : FH.ok ⟨k,s,lo,hi,st⟩ := by
 have : ∀ i ∈ [k,s,lo,hi,st],i64B i := fun i hi => i64_small i (h i hi).1 (h i hi).2
 exact ⟨this _ (by simp),this _ (by simp),this _ (by simp),this _ (by simp),this _ (by simp)⟩
theorem fB_R {W : World} {g1 g2 : Nat} (h1 : Blk W g1 24 #[.int .i64 0,.int .i64 1,.int .i64 0,.int .i64 0,.int .i64 0,.slice none 0 0])
  (h2 : Blk W g2 24 #[.int .i64 0,.int .i64 2,.int .i64 0,.int .i64 0,.int .i64 0,.slice none 0 0,.int .i64 2,.int .i64 1,.int .i64 0,.int .i64 9,.int .i64 1,.slice (some ⟨g1,0,none⟩) 1 1]) :
  FmR W (· < W.heap.size) (.agg #[.int .i64 3,.int .i64 0,.int .i64 0,.int .i64 0,.int .i64 0,.slice (some ⟨g2,0,none⟩) 2 2]) fB := by
 have t0 := tr_form (W := W) (ok := (· < W.heap.size)) ⟨0,1,0,0,0⟩ (fh_small _ _ _ _ _ (by simp)) [] none 0 0 rfl (Nat.le_refl _) (by simp) tl_none
 have t1 := tl_one h1 h1.lt _ _ t0 rfl
 have t2 := tr_form (W := W) (ok := (· < W.heap.size)) ⟨0,2,0,0,0⟩ (fh_small _ _ _ _ _ (by simp)) [] none 0 0 rfl (Nat.le_refl _) (by simp) tl_none
 have t3 := tr_form ⟨2,1,0,9,1⟩ (fh_small _ _ _ _ _ (by simp)) _ _ 1 1 rfl (Nat.le_refl _) (by simp) t1
 have t4 := tl_two h2 h2.lt _ _ _ _ t2 t3 rfl rfl
 exact (FmR.of_tr (tr_form ⟨3,0,0,0,0⟩ (fh_small _ _ _ _ _ (by simp)) _ _ 2 2 rfl (Nat.le_refl _) (by simp) t4)).1
theorem xB_R {W : World} {g1 g2 : Nat} (h1 : Blk W g1 31 #[.int .u64 5,.slice none 0 0,.slice none 0 0,.int .u64 6,.slice none 0 0,.slice none 0 0])
  (h2 : Blk W g2 31 #[.int .u64 258,.slice none 0 0,.slice none 0 0,.int .u64 0,.slice none 0 0,.slice (some ⟨g1,0,none⟩) 2 2]) :
  VtR W (· < W.heap.size) (.agg #[.int .u64 0,.slice none 0 0,.slice (some ⟨g2,0,none⟩) 2 2]) xB := by
 have h0 : ∀ x : Int,0 ≤ x → x ≤ 1000 → TR VHd 3 W (· < W.heap.size) (.mk ⟨x,[]⟩ []) [.int .u64 x,.slice none 0 0,.slice none 0 0] := fun x h1 h2 => tr_value x (u64_small x h1 h2) [] none 0 0 rfl (Nat.le_refl _) (by simp) tl_none
 have t1 := tl_two h1 h1.lt _ _ _ _ (h0 5 (by decide) (by decide)) (h0 6 (by decide) (by decide)) rfl rfl
 have t3 := tr_value 0 (u64_small 0 (by decide) (by decide)) _ _ 2 2 rfl (Nat.le_refl _) (by simp) t1
 have t4 := tl_two h2 h2.lt _ _ _ _ (h0 258 (by decide) (by decide)) t3 rfl rfl
 exact (VtR.of_tr (tr_value 0 (u64_small 0 (by decide) (by decide)) _ _ 2 2 rfl (Nat.le_refl _) (by simp) t4)).1

set_option maxHeartbeats 3200000 in
theorem alive07_any (w : World) : Calls Tryd.prog 24 #[] w fun e w' => e = .returned (.bool true) ∧ Kp (fun _ => False) w w' := by
 have ka := ((((((Kp.refl (fun _ => False) w).alloc (.cells #[.int .i64 0,.int .i64 1,.int .i64 0,.int .i64 0,.int .i64 0,.slice none 0 0] 24)).alloc (.cells #[.int .i64 0,.int .i64 2,.int .i64 0,.int .i64 0,.int .i64 0,.slice none 0 0,.int .i64 2,.int .i64 1,.int .i64 0,.int .i64 9,.int .i64 1,.slice (some ⟨w.heap.size,0,none⟩) 1 1] 24)).alloc (.cells #[.int .i64 3,.int .i64 0,.int .i64 0,.int .i64 0,.int .i64 0,.slice (some ⟨w.heap.size + 1,0,none⟩) 2 2] 24)).alloc (.cells #[.int .u64 5,.slice none 0 0,.slice none 0 0,.int .u64 6,.slice none 0 0,.slice none 0 0] 31)).alloc (.cells #[.int .u64 258,.slice none 0 0,.slice none 0 0,.int .u64 0,.slice none 0 0,.slice (some ⟨w.heap.size + 1 + 1 + 1,0,none⟩) 2 2] 31))
 have q1 := (((((Blk.new w 24 #[.int .i64 0,.int .i64 1,.int .i64 0,.int .i64 0,.int .i64 0,.slice none 0 0]).alloc (.cells #[.int .i64 0,.int .i64 2,.int .i64 0,.int .i64 0,.int .i64 0,.slice none 0 0,.int .i64 2,.int .i64 1,.int .i64 0,.int .i64 9,.int .i64 1,.slice (some ⟨w.heap.size,0,none⟩) 1 1] 24)).alloc (.cells #[.int .i64 3,.int .i64 0,.int .i64 0,.int .i64 0,.int .i64 0,.slice (some ⟨w.heap.size + 1,0,none⟩) 2 2] 24)).alloc (.cells #[.int .u64 5,.slice none 0 0,.slice none 0 0,.int .u64 6,.slice none 0 0,.slice none 0 0] 31)).alloc (.cells #[.int .u64 258,.slice none 0 0,.slice none 0 0,.int .u64 0,.slice none 0 0,.slice (some ⟨w.heap.size + 1 + 1 + 1,0,none⟩) 2 2] 31))
 have q2 := ((((Blk.new (w.alloc (.cells #[.int .i64 0,.int .i64 1,.int .i64 0,.int .i64 0,.int .i64 0,.slice none 0 0] 24)) 24 #[.int .i64 0,.int .i64 2,.int .i64 0,.int .i64 0,.int .i64 0,.slice none 0 0,.int .i64 2,.int .i64 1,.int .i64 0,.int .i64 9,.int .i64 1,.slice (some ⟨w.heap.size,0,none⟩) 1 1]).alloc (.cells #[.int .i64 3,.int .i64 0,.int .i64 0,.int .i64 0,.int .i64 0,.slice (some ⟨w.heap.size + 1,0,none⟩) 2 2] 24)).alloc (.cells #[.int .u64 5,.slice none 0 0,.slice none 0 0,.int .u64 6,.slice none 0 0,.slice none 0 0] 31)).alloc (.cells #[.int .u64 258,.slice none 0 0,.slice none 0 0,.int .u64 0,.slice none 0 0,.slice (some ⟨w.heap.size + 1 + 1 + 1,0,none⟩) 2 2] 31))
 have q4 := ((Blk.new (((w.alloc (.cells #[.int .i64 0,.int .i64 1,.int .i64 0,.int .i64 0,.int .i64 0,.slice none 0 0] 24)).alloc (.cells #[.int .i64 0,.int .i64 2,.int .i64 0,.int .i64 0,.int .i64 0,.slice none 0 0,.int .i64 2,.int .i64 1,.int .i64 0,.int .i64 9,.int .i64 1,.slice (some ⟨w.heap.size,0,none⟩) 1 1] 24)).alloc (.cells #[.int .i64 3,.int .i64 0,.int .i64 0,.int .i64 0,.int .i64 0,.slice (some ⟨w.heap.size + 1,0,none⟩) 2 2] 24)) 31 #[.int .u64 5,.slice none 0 0,.slice none 0 0,.int .u64 6,.slice none 0 0,.slice none 0 0]).alloc (.cells #[.int .u64 258,.slice none 0 0,.slice none 0 0,.int .u64 0,.slice none 0 0,.slice (some ⟨w.heap.size + 1 + 1 + 1,0,none⟩) 2 2] 31))
 have q5 := (Blk.new ((((w.alloc (.cells #[.int .i64 0,.int .i64 1,.int .i64 0,.int .i64 0,.int .i64 0,.slice none 0 0] 24)).alloc (.cells #[.int .i64 0,.int .i64 2,.int .i64 0,.int .i64 0,.int .i64 0,.slice none 0 0,.int .i64 2,.int .i64 1,.int .i64 0,.int .i64 9,.int .i64 1,.slice (some ⟨w.heap.size,0,none⟩) 1 1] 24)).alloc (.cells #[.int .i64 3,.int .i64 0,.int .i64 0,.int .i64 0,.int .i64 0,.slice (some ⟨w.heap.size + 1,0,none⟩) 2 2] 24)).alloc (.cells #[.int .u64 5,.slice none 0 0,.slice none 0 0,.int .u64 6,.slice none 0 0,.slice none 0 0] 31)) 31 #[.int .u64 258,.slice none 0 0,.slice none 0 0,.int .u64 0,.slice none 0 0,.slice (some ⟨w.heap.size + 1 + 1 + 1,0,none⟩) 2 2])
 simp only [World.size_alloc] at q1 q2 q4 q5
 have HK := Lib.hid ka
 have HQ1 := Lib.hid q1
 have HQ2 := Lib.hid q2
 have HQ4 := Lib.hid q4
 have HQ5 := Lib.hid q5
 clear ka q1 q2 q4 q5
 go_enter Tryd.func24,Tryd.ntmps24
 go_wp2_with fail
 generalize (((((w.alloc (.cells #[.int .i64 0,.int .i64 1,.int .i64 0,.int .i64 0,.int .i64 0,.slice none 0 0] 24)).alloc (.cells #[.int .i64 0,.int .i64 2,.int .i64 0,.int .i64 0,.int .i64 0,.slice none 0 0,.int .i64 2,.int .i64 1,.int .i64 0,.int .i64 9,.int .i64 1,.slice (some ⟨w.heap.size,0,none⟩) 1 1] 24)).alloc (.cells #[.int .i64 3,.int .i64 0,.int .i64 0,.int .i64 0,.int .i64 0,.slice (some ⟨w.heap.size + 1,0,none⟩) 2 2] 24)).alloc (.cells #[.int .u64 5,.slice none 0 0,.slice none 0 0,.int .u64 6,.slice none 0 0,.slice none 0 0] 31)).alloc (.cells #[.int .u64 258,.slice none 0 0,.slice none 0 0,.int .u64 0,.slice none 0 0,.slice (some ⟨w.heap.size + 1 + 1 + 1,0,none⟩) 2 2] 31)) = W5 at HK HQ1 HQ2 HQ4 HQ5 ⊢
 have hc := wwrite_ok fB xB _ _ W5 (by decide) (fB_R HQ1.out HQ2.out) (xB_R HQ4.out HQ5.out) 5 sB (by decide) (by rw [wB];decide)
 rw [wB] at hc
 have HC := Lib.hid hc
 clear hc HQ1 HQ2 HQ4 HQ5
 refine HC.out.mono ?_
 rintro e w1 ⟨A,c,rfl,hbr,hk1⟩
 have hbr5 : BR w1 (fun i => W5.heap.size ≤ i) (.slice A 5 c) [1,2,2,5,6] := hbr
 have hstr := run_str (P := Tryd.prog) (src := 25) (dst := 9) (e := 5) Tryd.underlying25 Tryd.underlying5 Tryd.underlying9 hbr5
 have hse : (str [1,2,2,5,6]).toList = [1,2,2,5,6] := by simp [str]
 have HK1 := Lib.hid (HK.out.then_ hk1 (fun _ h => h.elim))
 clear hbr hbr5 hk1 HC HK
 go_wp2_with fail
 go_ret
 exact ⟨rfl,HK1.out⟩
end Go.Proofs.YtdhnfccgojgehaaDoor

namespace Go.Proofs.YtdhnfccgojgehaaDoor
open Go.RowKit YtdhnfccgojgehaaDoorW.PrintWords

end Go.Proofs.YtdhnfccgojgehaaDoor

namespace Go.Proofs.YtdhnfccgojgehaaDoor.QP
open Go.RowKit Go.Proofs.YtdhnfccgojgehaaDoorW.PrintWords Go.Proofs.YtdhnfccgojgehaaDoorW.PrintLast Go.Proofs.YtdhnfccgojgehaaDoorW.PrintMore
attribute [local go_sem] max2_int min2_int max_two min_two max_three min_three max_four min_four   -- for this text's walks alone
set_option linter.unusedVariables false
set_option linter.unusedSimpArgs false

/-! ### passepartoutref05_Count: function 33 -/
mutual
def passepartoutref05_Count.l0 : Nat → Int → Int → Int → Int → List Int → List (S31) → Option (Int)
 | 0,_,_,_,_,_,_ => none
 | k + 1,x1,x5,x6,x159000,x159001,x159002 => if x6 < (x159002.length : Int) then (if x5 ≤ x1 then (if 0 ≤ x6 then ((passepartoutref05_Count.f k ((rd_T31 x159002 x6).f0) ((rd_T31 x159002 x6).f1) ((rd_T31 x159002 x6).f2) (wrap64 (x1 - x5))).bind fun t160 => (passepartoutref05_Count.l0 k x1 (wrap64 (x5 + t160)) (wrap64 (x6 + 1)) x159000 x159001 x159002)) else (none)) else (some x5)) else (some x5)
def passepartoutref05_Count.f : Nat → Int → List Int → List (S31) → Int → Option (Int)
 | 0,_,_,_,_ => none
 | k + 1,a0_0,l0_1,l0_2,a1 => passepartoutref05_Count.l0 k a1 1 0 a0_0 l0_1 l0_2
end
theorem passepartoutref05_Count.mono_l : ∀ k,(∀ y0 y1 y2 y3,LeO (passepartoutref05_Count.f k y0 y1 y2 y3) (passepartoutref05_Count.f (k + 1) y0 y1 y2 y3)) ∧ (∀ y0 y1 y2 y3 y4 y5,LeO (passepartoutref05_Count.l0 k y0 y1 y2 y3 y4 y5) (passepartoutref05_Count.l0 (k + 1) y0 y1 y2 y3 y4 y5))
 | 0 => ⟨fun _ _ _ _ r h => by simp [passepartoutref05_Count.f] at h,fun _ _ _ _ _ _ r h => by simp [passepartoutref05_Count.l0] at h⟩
 | k + 1 => by
  obtain ⟨ih0,ih1⟩ := passepartoutref05_Count.mono_l k
  refine ⟨?_,?_⟩
  ·intro y0 y1 y2 y3
   unfold passepartoutref05_Count.f
   repeat' first
   | (with_reducible exact ih0 _ _ _ _)
   | (with_reducible exact ih1 _ _ _ _ _ _)
   | (with_reducible exact LeO.refl _)
   | (with_reducible exact LeO.none _)
   | (with_reducible refine LeO.ite ?_ ?_)
   | (with_reducible refine LeO.bind ?_ (fun _ => ?_))
   | exact ih0 _ _ _ _
   | exact ih1 _ _ _ _ _ _
   | exact LeO.none _
   | refine LeO.ite ?_ ?_
   | refine LeO.bind ?_ (fun _ => ?_)
  ·intro y0 y1 y2 y3 y4 y5
   unfold passepartoutref05_Count.l0
   repeat' first
   | (with_reducible exact ih0 _ _ _ _)
   | (with_reducible exact ih1 _ _ _ _ _ _)
   | (with_reducible exact LeO.refl _)
   | (with_reducible exact LeO.none _)
   | (with_reducible refine LeO.ite ?_ ?_)
   | (with_reducible refine LeO.bind ?_ (fun _ => ?_))
   | exact ih0 _ _ _ _
   | exact ih1 _ _ _ _ _ _
   | exact LeO.none _
   | refine LeO.ite ?_ ?_
   | refine LeO.bind ?_ (fun _ => ?_)
theorem passepartoutref05_Count.mono : ∀ a0 a1 a2 a3 k,LeO (passepartoutref05_Count.f k a0 a1 a2 a3) (passepartoutref05_Count.f (k + 1) a0 a1 a2 a3) := by
 intro a0 a1 a2 a3 k
 obtain ⟨ih0,ih1⟩ := passepartoutref05_Count.mono_l k
 exact ih0 a0 a1 a2 a3
set_option maxHeartbeats 8000000 in
set_option maxRecDepth 100000 in
theorem passepartoutref05_Count.calls (k : Nat) : ∀ (a0_0 : Int) (A0_1 : Option Addr) (c0_1 : Nat) (l0_1 : List Int) (A0_2 : Option Addr) (c0_2 : Nat) (l0_2 : List (S31)) (a1 : Int) (r : Int) (w : World) (hr0_1 : Kd.C (Kd.int .u8) w A0_1 l0_1.length l0_1) (hc0_1 : l0_1.length ≤ c0_1) (hr0_2 : Kd.C k31 w A0_2 l0_2.length l0_2) (hc0_2 : l0_2.length ≤ c0_2) (h : passepartoutref05_Count.f k a0_0 l0_1 l0_2 a1 = some r),
  Calls Tryd.prog 33 #[.agg #[.int .u64 a0_0,.slice A0_1 l0_1.length c0_1,.slice A0_2 l0_2.length c0_2],.int .i64 a1] w fun e w' => e = .returned (.int .i64 r) ∧ Below w.heap.size w w' := by
 induction k using Nat.strongRecOn with
 | _ k ih =>
 intro a0_0 A0_1 c0_1 l0_1 A0_2 c0_2 l0_2 a1 r w hr0_1 hc0_1 hr0_2 hc0_2 h
 cases k with
 | zero => exact absurd h (by simp [passepartoutref05_Count.f])
 | succ k =>
 simp only [passepartoutref05_Count.f] at h
 have hu31 := Tryd.underlying31
 have HR0_1 := Aside0.mk hr0_1
 have HC0_1 := Aside0.mk hc0_1
 clear hr0_1 hc0_1
 have HR0_2 := Aside0.mk hr0_2
 have HC0_2 := Aside0.mk hc0_2
 clear hr0_2 hc0_2
 have HB := Aside0.mk (Below.refl w.heap.size w)
 have H : (passepartoutref05_Count.l0 k a1 1 0 a0_0 l0_1 l0_2) = some r := h
 clear h
 have H' := Aside0.mk H
 clear H
 go_enter Tryd.func33,Tryd.ntmps33
 go_wp2_with (first | ((with_reducible refine gate_dst (N := 2) rfl ?_);refine box_event ?hg (N := 2) ?hd (cs := #[.int .u64 a0_0,.slice A0_1 l0_1.length c0_1,.slice A0_2 l0_2.length c0_2]) (t := 31) ?hr ?_;(case hd => rfl);(case hg => rfl);(case hr => first | (go_simp;done) | (go_simp;rfl));intro gb158 hg w3 hbox hb;have n0_ := Aside0.mk (below_step (by repeat (first | (with_reducible first | exact HB.out | apply below_alloc | apply pw_below_drewN | apply below_drew1) | exact HB.out)) hb);have n1_ := Aside0.mk (hbox);have n2_ := Aside0.mk ((by rw [hg];exact (below_size (by repeat (first | (with_reducible first | exact HB.out | apply below_alloc | apply pw_below_drewN | apply below_drew1) | exact HB.out))) : w.heap.size ≤ gb158));have n3_ := Aside0.mk ((by rw [hg];exact (below_size (by repeat (first | (with_reducible first | exact HB.out | apply below_alloc | apply pw_below_drewN | apply below_drew1) | exact HB.out))) : w.heap.size ≤ gb158));clear HB;have HB := n0_;have BK158 := n1_;have GW158 := n2_;have GE158 := n3_;clear n0_ n1_ n2_ n3_;clear hb hbox hg))
 go_loopg [5,6] k (fun kq v5 v6 w' => ∃ (x5_1 : Int) (x6_1 : Int),v5 = .int .i64 x5_1 ∧ v6 = .int .i64 x6_1 ∧ Aside0 (passepartoutref05_Count.l0 kq a1 x5_1 x6_1 a0_0 l0_1 l0_2 = some r) ∧ Aside0 (kq ≤ k) ∧ Aside0 (w'.heap[gb158]? = some (.cells #[.int .u64 a0_0,(.slice A0_1 l0_1.length c0_1),(.slice A0_2 l0_2.length c0_2)] 31 (0,0))) ∧ Aside0 (Below w.heap.size w w'))
 case atStart => exact ⟨(1),(0),(by first | rfl | (simp;done) | (simp [*];done)),(by first | rfl | (simp;done) | (simp [*];done)),H',⟨Nat.le_refl _⟩,⟨by (with_reducible repeat (first | refine blk_drewN ?_ _ | refine blk_drew ?_ | refine blk_alloc ?_ _));exact BK158.out⟩,⟨by repeat (first | (with_reducible first | exact HB.out | apply below_alloc | apply pw_below_drewN | apply below_drew1 | refine below_set ?_ GE158.out) | exact HB.out)⟩⟩
 case round =>
  clear H'
  try clear p2
  try clear c3
  obtain ⟨x5_1,x6_1,rfl,rfl,HA,HK1,BK158,HB⟩ := hrel
  cases gk with
  | zero => exact absurd HA.out (by simp [passepartoutref05_Count.l0])
  | succ k1 =>
   have H := HA.out
   clear HA
   simp only [passepartoutref05_Count.l0] at H
   by_cases c4 : x6_1 < (l0_2.length : Int)
   ·rw [if_pos c4] at H
    have c4b0 : decide (x6_1 < (l0_2.length : Int)) = true := decide_eq_true c4
    clear c4
    by_cases c5 : x5_1 ≤ a1
    ·rw [if_pos c5] at H
     have c5b0 : decide (x5_1 ≤ a1) = true := decide_eq_true c5
     clear c5
     by_cases c6 : 0 ≤ x6_1
     ·rw [if_pos c6] at H
      have c6b0 : decide (0 ≤ x6_1) = true := decide_eq_true c6
      clear c6
      replace H := Option.bind_eq_some_iff.mp H
      obtain ⟨t160,A70,H⟩ := H
      replace H : (passepartoutref05_Count.l0 k1 a1 (wrap64 (x5_1 + t160)) (wrap64 (x6_1 + 1)) a0_0 l0_1 l0_2) = some r := H
      have A7 := Aside0.mk A70
      clear A70
      have H' := Aside0.mk H
      clear H
      have hcz8_0 : wr.cell? ⟨gb158,0,none⟩ = some (.int .u64 a0_0) := (blk_cell BK158.out 0).trans rfl
      have hcz8_1 : wr.cell? ⟨gb158,1,none⟩ = some (.slice A0_1 l0_1.length c0_1) := (blk_cell BK158.out 1).trans rfl
      have hcz8_2 : wr.cell? ⟨gb158,2,none⟩ = some (.slice A0_2 l0_2.length c0_2) := (blk_cell BK158.out 2).trans rfl
      have hfz8_0 := blk_frozen BK158.out 0
      have hfz8_1 := blk_frozen BK158.out 1
      have hfz8_2 := blk_frozen BK158.out 2
      have p159 : 0 ≤ (x6_1 : Int) := of_decide_eq_true (by first | (with_reducible assumption) | assumption)
      have q159 : x6_1 < (l0_2.length : Int) := of_decide_eq_true (by first | (with_reducible assumption) | assumption)
      obtain ⟨ad159,A159_1,c159_1,A159_2,c159_2,e159,hx159_0,hx159_1,hx159_2,hl159_1,hi159_1,hl159_2,hi159_2⟩ := at_T31 HR0_2.out x6_1 p159 q159
      cases e159
      replace hx159_0 := (HB.out.cell (World.block_lt_of_cell? w _ hx159_0)).trans hx159_0
      replace hx159_1 := (HB.out.cell (World.block_lt_of_cell? w _ hx159_1)).trans hx159_1
      replace hx159_2 := (HB.out.cell (World.block_lt_of_cell? w _ hx159_2)).trans hx159_2
      have HR159_1 := Aside0.mk hi159_1
      have HC159_1 := Aside0.mk hl159_1
      clear hi159_1 hl159_1
      have HR159_2 := Aside0.mk hi159_2
      have HC159_2 := Aside0.mk hl159_2
      clear hi159_2 hl159_2
      replace p159 := eq_true p159
      replace q159 := eq_true q159
      go_wp2_with (first | ((with_reducible refine gate_callee (f := 33) rfl ?_);refine goesL_ (some 28) rfl rfl Tryd.func33 (by kernel_rfl) rfl #[.agg #[.int .u64 ((rd_T31 l0_2 x6_1).f0),.slice A159_1 ((rd_T31 l0_2 x6_1).f1).length c159_1,.slice A159_2 ((rd_T31 l0_2 x6_1).f2).length c159_2],.int .i64 (wrap64 (a1 - x5_1))] rfl (by (try simp only [List.map_toArray,List.map_cons,List.map_nil]);first | done | rfl | (simp only [List.length_drop,List.length_take];rfl)) ?_;(with_reducible refine (ih k1 (by have := HK1.out;omega) ((rd_T31 l0_2 x6_1).f0) _ _ ((rd_T31 l0_2 x6_1).f1) _ _ ((rd_T31 l0_2 x6_1).f2) (wrap64 (a1 - x5_1)) t160 _ ?side1 ?side2 ?side3 ?side4 A7.out).mono ?_);(case side1 => repeat (first | exact (Kd.C_below HR159_1.out HB.out) | (with_reducible refine Kd.C_alloc ?_ _) | (with_reducible refine Kd.C_drewN ?_ _) | (with_reducible refine Kd.C_drew ?_)));(case side2 => exact HC159_1.out);(case side3 => repeat (first | exact (Kd.C_below HR159_2.out HB.out) | (with_reducible refine Kd.C_alloc ?_ _) | (with_reducible refine Kd.C_drewN ?_ _) | (with_reducible refine Kd.C_drew ?_)));(case side4 => exact HC159_2.out);rintro e w9 ⟨rfl,hb⟩;refine ⟨_,rfl,?_⟩;have n0_ := Aside0.mk (blk_below (g := gb158) (o := .cells #[.int .u64 a0_0,.slice A0_1 l0_1.length c0_1,.slice (some ad159) l0_2.length c0_2] 31 (0,0)) (by (with_reducible repeat (first | refine blk_drewN ?_ _ | refine blk_drew ?_ | refine blk_alloc ?_ _));exact BK158.out) hb);have n1_ := Aside0.mk (below_step (by repeat (first | (with_reducible first | exact HB.out | apply below_alloc | apply pw_below_drewN | apply below_drew1 | refine below_set ?_ GE158.out) | exact HB.out)) hb);clear BK158;clear HB;have BK158 := n0_;have HB := n1_;clear n0_ n1_;(try clear hb);(try clear hb2);(try clear hk);(try clear hi)))
      go_roundg k1
      case measure => have := HK1.out;omega
      case rel => exact ⟨(wrap64 (x5_1 + t160)),(wrap64 (x6_1 + 1)),(by first | rfl | (simp;done) | (simp [*];done)),(by first | rfl | (simp;done) | (simp [*];done)),H',⟨by have := HK1.out;omega⟩,⟨by (with_reducible repeat (first | refine blk_drewN ?_ _ | refine blk_drew ?_ | refine blk_alloc ?_ _));exact BK158.out⟩,⟨by repeat (first | (with_reducible first | exact HB.out | apply below_alloc | apply pw_below_drewN | apply below_drew1 | refine below_set ?_ GE158.out) | exact HB.out)⟩⟩
     ·rw [if_neg c6] at H
      exact absurd H (by simp)
    ·rw [if_neg c5] at H
     have c5b0 : decide (x5_1 ≤ a1) = false := decide_eq_false c5
     clear c5
     obtain rfl := Option.some.inj H
     have hcz10_0 : wr.cell? ⟨gb158,0,none⟩ = some (.int .u64 a0_0) := (blk_cell BK158.out 0).trans rfl
     have hcz10_1 : wr.cell? ⟨gb158,1,none⟩ = some (.slice A0_1 l0_1.length c0_1) := (blk_cell BK158.out 1).trans rfl
     have hcz10_2 : wr.cell? ⟨gb158,2,none⟩ = some (.slice A0_2 l0_2.length c0_2) := (blk_cell BK158.out 2).trans rfl
     have hfz10_0 := blk_frozen BK158.out 0
     have hfz10_1 := blk_frozen BK158.out 1
     have hfz10_2 := blk_frozen BK158.out 2
     go_wp2
     go_ret
     exact ⟨by first | rfl | (simp [errW_none,errW_some] <;> rfl) | (simp [*,errW_none,errW_some] <;> rfl),by repeat (first | (with_reducible first | exact HB.out | apply below_alloc | apply pw_below_drewN | apply below_drew1 | refine below_set ?_ GE158.out) | exact HB.out)⟩
   ·rw [if_neg c4] at H
    have c4b0 : decide (x6_1 < (l0_2.length : Int)) = false := decide_eq_false c4
    clear c4
    obtain rfl := Option.some.inj H
    have hcz11_0 : wr.cell? ⟨gb158,0,none⟩ = some (.int .u64 a0_0) := (blk_cell BK158.out 0).trans rfl
    have hcz11_1 : wr.cell? ⟨gb158,1,none⟩ = some (.slice A0_1 l0_1.length c0_1) := (blk_cell BK158.out 1).trans rfl
    have hcz11_2 : wr.cell? ⟨gb158,2,none⟩ = some (.slice A0_2 l0_2.length c0_2) := (blk_cell BK158.out 2).trans rfl
    have hfz11_0 := blk_frozen BK158.out 0
    have hfz11_1 := blk_frozen BK158.out 1
    have hfz11_2 := blk_frozen BK158.out 2
    go_wp2
    go_ret
    exact ⟨by first | rfl | (simp [errW_none,errW_some] <;> rfl) | (simp [*,errW_none,errW_some] <;> rfl),by repeat (first | (with_reducible first | exact HB.out | apply below_alloc | apply pw_below_drewN | apply below_drew1 | refine below_set ?_ GE158.out) | exact HB.out)⟩

end Go.Proofs.YtdhnfccgojgehaaDoor.QP

namespace Go.Proofs.YtdhnfccgojgehaaDoor.QP
open Go.RowKit Go.Proofs.YtdhnfccgojgehaaDoorW.PrintWords Go.Proofs.YtdhnfccgojgehaaDoorW.PrintLast Go.Proofs.YtdhnfccgojgehaaDoorW.PrintMore
attribute [local go_sem] max2_int min2_int max_two min_two max_three min_three max_four min_four   -- for this text's walks alone
set_option linter.unusedVariables false
set_option linter.unusedSimpArgs false

/-! ### passepartoutref05_Bytes: function 34 -/
mutual
def passepartoutref05_Bytes.l0 : Nat → Int → Int → Int → Int → List Int → List (S31) → Option (Int)
 | 0,_,_,_,_,_,_ => none
 | k + 1,x1,x5,x6,x162000,x162001,x162002 => if x6 < (x162002.length : Int) then (if x5 ≤ x1 then (if 0 ≤ x6 then ((passepartoutref05_Bytes.f k ((rd_T31 x162002 x6).f0) ((rd_T31 x162002 x6).f1) ((rd_T31 x162002 x6).f2) (wrap64 (x1 - x5))).bind fun t163 => (passepartoutref05_Bytes.l0 k x1 (wrap64 (x5 + t163)) (wrap64 (x6 + 1)) x162000 x162001 x162002)) else (none)) else (some x5)) else (some x5)
def passepartoutref05_Bytes.f : Nat → Int → List Int → List (S31) → Int → Option (Int)
 | 0,_,_,_,_ => none
 | k + 1,a0_0,l0_1,l0_2,a1 => passepartoutref05_Bytes.l0 k a1 (l0_1.length : Int) 0 a0_0 l0_1 l0_2
end
theorem passepartoutref05_Bytes.mono_l : ∀ k,(∀ y0 y1 y2 y3,LeO (passepartoutref05_Bytes.f k y0 y1 y2 y3) (passepartoutref05_Bytes.f (k + 1) y0 y1 y2 y3)) ∧ (∀ y0 y1 y2 y3 y4 y5,LeO (passepartoutref05_Bytes.l0 k y0 y1 y2 y3 y4 y5) (passepartoutref05_Bytes.l0 (k + 1) y0 y1 y2 y3 y4 y5))
 | 0 => ⟨fun _ _ _ _ r h => by simp [passepartoutref05_Bytes.f] at h,fun _ _ _ _ _ _ r h => by simp [passepartoutref05_Bytes.l0] at h⟩
 | k + 1 => by
  obtain ⟨ih0,ih1⟩ := passepartoutref05_Bytes.mono_l k
  refine ⟨?_,?_⟩
  ·intro y0 y1 y2 y3
   unfold passepartoutref05_Bytes.f
   repeat' first
   | (with_reducible exact ih0 _ _ _ _)
   | (with_reducible exact ih1 _ _ _ _ _ _)
   | (with_reducible exact LeO.refl _)
   | (with_reducible exact LeO.none _)
   | (with_reducible refine LeO.ite ?_ ?_)
   | (with_reducible refine LeO.bind ?_ (fun _ => ?_))
   | exact ih0 _ _ _ _
   | exact ih1 _ _ _ _ _ _
   | exact LeO.none _
   | refine LeO.ite ?_ ?_
   | refine LeO.bind ?_ (fun _ => ?_)
  ·intro y0 y1 y2 y3 y4 y5
   unfold passepartoutref05_Bytes.l0
   repeat' first
   | (with_reducible exact ih0 _ _ _ _)
   | (with_reducible exact ih1 _ _ _ _ _ _)
   | (with_reducible exact LeO.refl _)
   | (with_reducible exact LeO.none _)
   | (with_reducible refine LeO.ite ?_ ?_)
   | (with_reducible refine LeO.bind ?_ (fun _ => ?_))
   | exact ih0 _ _ _ _
   | exact ih1 _ _ _ _ _ _
   | exact LeO.none _
   | refine LeO.ite ?_ ?_
   | refine LeO.bind ?_ (fun _ => ?_)
theorem passepartoutref05_Bytes.mono : ∀ a0 a1 a2 a3 k,LeO (passepartoutref05_Bytes.f k a0 a1 a2 a3) (passepartoutref05_Bytes.f (k + 1) a0 a1 a2 a3) := by
 intro a0 a1 a2 a3 k
 obtain ⟨ih0,ih1⟩ := passepartoutref05_Bytes.mono_l k
 exact ih0 a0 a1 a2 a3
set_option maxHeartbeats 8000000 in
set_option maxRecDepth 100000 in
theorem passepartoutref05_Bytes.calls (k : Nat) : ∀ (a0_0 : Int) (A0_1 : Option Addr) (c0_1 : Nat) (l0_1 : List Int) (A0_2 : Option Addr) (c0_2 : Nat) (l0_2 : List (S31)) (a1 : Int) (r : Int) (w : World) (hr0_1 : Kd.C (Kd.int .u8) w A0_1 l0_1.length l0_1) (hc0_1 : l0_1.length ≤ c0_1) (hr0_2 : Kd.C k31 w A0_2 l0_2.length l0_2) (hc0_2 : l0_2.length ≤ c0_2) (h : passepartoutref05_Bytes.f k a0_0 l0_1 l0_2 a1 = some r),
  Calls Tryd.prog 34 #[.agg #[.int .u64 a0_0,.slice A0_1 l0_1.length c0_1,.slice A0_2 l0_2.length c0_2],.int .i64 a1] w fun e w' => e = .returned (.int .i64 r) ∧ Below w.heap.size w w' := by
 induction k using Nat.strongRecOn with
 | _ k ih =>
 intro a0_0 A0_1 c0_1 l0_1 A0_2 c0_2 l0_2 a1 r w hr0_1 hc0_1 hr0_2 hc0_2 h
 cases k with
 | zero => exact absurd h (by simp [passepartoutref05_Bytes.f])
 | succ k =>
 simp only [passepartoutref05_Bytes.f] at h
 have hu31 := Tryd.underlying31
 have HR0_1 := Aside0.mk hr0_1
 have HC0_1 := Aside0.mk hc0_1
 clear hr0_1 hc0_1
 have HR0_2 := Aside0.mk hr0_2
 have HC0_2 := Aside0.mk hc0_2
 clear hr0_2 hc0_2
 have HB := Aside0.mk (Below.refl w.heap.size w)
 have H : (passepartoutref05_Bytes.l0 k a1 (l0_1.length : Int) 0 a0_0 l0_1 l0_2) = some r := h
 clear h
 have H' := Aside0.mk H
 clear H
 go_enter Tryd.func34,Tryd.ntmps34
 go_wp2_with (first | ((with_reducible refine gate_dst (N := 2) rfl ?_);refine box_event ?hg (N := 2) ?hd (cs := #[.int .u64 a0_0,.slice A0_1 l0_1.length c0_1,.slice A0_2 l0_2.length c0_2]) (t := 31) ?hr ?_;(case hd => rfl);(case hg => rfl);(case hr => first | (go_simp;done) | (go_simp;rfl));intro gb161 hg w3 hbox hb;have n0_ := Aside0.mk (below_step (by repeat (first | (with_reducible first | exact HB.out | apply below_alloc | apply pw_below_drewN | apply below_drew1) | exact HB.out)) hb);have n1_ := Aside0.mk (hbox);have n2_ := Aside0.mk ((by rw [hg];exact (below_size (by repeat (first | (with_reducible first | exact HB.out | apply below_alloc | apply pw_below_drewN | apply below_drew1) | exact HB.out))) : w.heap.size ≤ gb161));have n3_ := Aside0.mk ((by rw [hg];exact (below_size (by repeat (first | (with_reducible first | exact HB.out | apply below_alloc | apply pw_below_drewN | apply below_drew1) | exact HB.out))) : w.heap.size ≤ gb161));clear HB;have HB := n0_;have BK161 := n1_;have GW161 := n2_;have GE161 := n3_;clear n0_ n1_ n2_ n3_;clear hb hbox hg;have hcz4_0 : w3.cell? ⟨gb161,0,none⟩ = some (.int .u64 a0_0) := (blk_cell BK161.out 0).trans rfl;have hcz4_1 : w3.cell? ⟨gb161,1,none⟩ = some (.slice A0_1 l0_1.length c0_1) := (blk_cell BK161.out 1).trans rfl;have hcz4_2 : w3.cell? ⟨gb161,2,none⟩ = some (.slice A0_2 l0_2.length c0_2) := (blk_cell BK161.out 2).trans rfl;have hfz4_0 := blk_frozen BK161.out 0;have hfz4_1 := blk_frozen BK161.out 1;have hfz4_2 := blk_frozen BK161.out 2))
 go_loopg [5,6] k (fun kq v5 v6 w' => ∃ (x5_1 : Int) (x6_1 : Int),v5 = .int .i64 x5_1 ∧ v6 = .int .i64 x6_1 ∧ Aside0 (passepartoutref05_Bytes.l0 kq a1 x5_1 x6_1 a0_0 l0_1 l0_2 = some r) ∧ Aside0 (kq ≤ k) ∧ Aside0 (w'.heap[gb161]? = some (.cells #[.int .u64 a0_0,(.slice A0_1 l0_1.length c0_1),(.slice A0_2 l0_2.length c0_2)] 31 (0,0))) ∧ Aside0 (Below w.heap.size w w'))
 case atStart => exact ⟨((l0_1.length : Int)),(0),(by first | rfl | (simp;done) | (simp [*];done)),(by first | rfl | (simp;done) | (simp [*];done)),H',⟨Nat.le_refl _⟩,⟨by (with_reducible repeat (first | refine blk_drewN ?_ _ | refine blk_drew ?_ | refine blk_alloc ?_ _));exact BK161.out⟩,⟨by repeat (first | (with_reducible first | exact HB.out | apply below_alloc | apply pw_below_drewN | apply below_drew1 | refine below_set ?_ GE161.out) | exact HB.out)⟩⟩
 case round =>
  clear H'
  try clear p2
  try clear c3
  try clear hcz4_0
  try clear hcz4_1
  try clear hcz4_2
  try clear hfz4_0
  try clear hfz4_1
  try clear hfz4_2
  obtain ⟨x5_1,x6_1,rfl,rfl,HA,HK1,BK161,HB⟩ := hrel
  cases gk with
  | zero => exact absurd HA.out (by simp [passepartoutref05_Bytes.l0])
  | succ k1 =>
   have H := HA.out
   clear HA
   simp only [passepartoutref05_Bytes.l0] at H
   by_cases c5 : x6_1 < (l0_2.length : Int)
   ·rw [if_pos c5] at H
    have c5b0 : decide (x6_1 < (l0_2.length : Int)) = true := decide_eq_true c5
    clear c5
    by_cases c6 : x5_1 ≤ a1
    ·rw [if_pos c6] at H
     have c6b0 : decide (x5_1 ≤ a1) = true := decide_eq_true c6
     clear c6
     by_cases c7 : 0 ≤ x6_1
     ·rw [if_pos c7] at H
      have c7b0 : decide (0 ≤ x6_1) = true := decide_eq_true c7
      clear c7
      replace H := Option.bind_eq_some_iff.mp H
      obtain ⟨t163,A80,H⟩ := H
      replace H : (passepartoutref05_Bytes.l0 k1 a1 (wrap64 (x5_1 + t163)) (wrap64 (x6_1 + 1)) a0_0 l0_1 l0_2) = some r := H
      have A8 := Aside0.mk A80
      clear A80
      have H' := Aside0.mk H
      clear H
      have hcz9_0 : wr.cell? ⟨gb161,0,none⟩ = some (.int .u64 a0_0) := (blk_cell BK161.out 0).trans rfl
      have hcz9_1 : wr.cell? ⟨gb161,1,none⟩ = some (.slice A0_1 l0_1.length c0_1) := (blk_cell BK161.out 1).trans rfl
      have hcz9_2 : wr.cell? ⟨gb161,2,none⟩ = some (.slice A0_2 l0_2.length c0_2) := (blk_cell BK161.out 2).trans rfl
      have hfz9_0 := blk_frozen BK161.out 0
      have hfz9_1 := blk_frozen BK161.out 1
      have hfz9_2 := blk_frozen BK161.out 2
      have p162 : 0 ≤ (x6_1 : Int) := of_decide_eq_true (by first | (with_reducible assumption) | assumption)
      have q162 : x6_1 < (l0_2.length : Int) := of_decide_eq_true (by first | (with_reducible assumption) | assumption)
      obtain ⟨ad162,A162_1,c162_1,A162_2,c162_2,e162,hx162_0,hx162_1,hx162_2,hl162_1,hi162_1,hl162_2,hi162_2⟩ := at_T31 HR0_2.out x6_1 p162 q162
      cases e162
      replace hx162_0 := (HB.out.cell (World.block_lt_of_cell? w _ hx162_0)).trans hx162_0
      replace hx162_1 := (HB.out.cell (World.block_lt_of_cell? w _ hx162_1)).trans hx162_1
      replace hx162_2 := (HB.out.cell (World.block_lt_of_cell? w _ hx162_2)).trans hx162_2
      have HR162_1 := Aside0.mk hi162_1
      have HC162_1 := Aside0.mk hl162_1
      clear hi162_1 hl162_1
      have HR162_2 := Aside0.mk hi162_2
      have HC162_2 := Aside0.mk hl162_2
      clear hi162_2 hl162_2
      replace p162 := eq_true p162
      replace q162 := eq_true q162
      go_wp2_with (first | ((with_reducible refine gate_callee (f := 34) rfl ?_);refine goesL_ (some 31) rfl rfl Tryd.func34 (by kernel_rfl) rfl #[.agg #[.int .u64 ((rd_T31 l0_2 x6_1).f0),.slice A162_1 ((rd_T31 l0_2 x6_1).f1).length c162_1,.slice A162_2 ((rd_T31 l0_2 x6_1).f2).length c162_2],.int .i64 (wrap64 (a1 - x5_1))] rfl (by (try simp only [List.map_toArray,List.map_cons,List.map_nil]);first | done | rfl | (simp only [List.length_drop,List.length_take];rfl)) ?_;(with_reducible refine (ih k1 (by have := HK1.out;omega) ((rd_T31 l0_2 x6_1).f0) _ _ ((rd_T31 l0_2 x6_1).f1) _ _ ((rd_T31 l0_2 x6_1).f2) (wrap64 (a1 - x5_1)) t163 _ ?side1 ?side2 ?side3 ?side4 A8.out).mono ?_);(case side1 => repeat (first | exact (Kd.C_below HR162_1.out HB.out) | (with_reducible refine Kd.C_alloc ?_ _) | (with_reducible refine Kd.C_drewN ?_ _) | (with_reducible refine Kd.C_drew ?_)));(case side2 => exact HC162_1.out);(case side3 => repeat (first | exact (Kd.C_below HR162_2.out HB.out) | (with_reducible refine Kd.C_alloc ?_ _) | (with_reducible refine Kd.C_drewN ?_ _) | (with_reducible refine Kd.C_drew ?_)));(case side4 => exact HC162_2.out);rintro e w10 ⟨rfl,hb⟩;refine ⟨_,rfl,?_⟩;have n0_ := Aside0.mk (blk_below (g := gb161) (o := .cells #[.int .u64 a0_0,.slice A0_1 l0_1.length c0_1,.slice (some ad162) l0_2.length c0_2] 31 (0,0)) (by (with_reducible repeat (first | refine blk_drewN ?_ _ | refine blk_drew ?_ | refine blk_alloc ?_ _));exact BK161.out) hb);have n1_ := Aside0.mk (below_step (by repeat (first | (with_reducible first | exact HB.out | apply below_alloc | apply pw_below_drewN | apply below_drew1 | refine below_set ?_ GE161.out) | exact HB.out)) hb);clear BK161;clear HB;have BK161 := n0_;have HB := n1_;clear n0_ n1_;(try clear hb);(try clear hb2);(try clear hk);(try clear hi)))
      go_roundg k1
      case measure => have := HK1.out;omega
      case rel => exact ⟨(wrap64 (x5_1 + t163)),(wrap64 (x6_1 + 1)),(by first | rfl | (simp;done) | (simp [*];done)),(by first | rfl | (simp;done) | (simp [*];done)),H',⟨by have := HK1.out;omega⟩,⟨by (with_reducible repeat (first | refine blk_drewN ?_ _ | refine blk_drew ?_ | refine blk_alloc ?_ _));exact BK161.out⟩,⟨by repeat (first | (with_reducible first | exact HB.out | apply below_alloc | apply pw_below_drewN | apply below_drew1 | refine below_set ?_ GE161.out) | exact HB.out)⟩⟩
     ·rw [if_neg c7] at H
      exact absurd H (by simp)
    ·rw [if_neg c6] at H
     have c6b0 : decide (x5_1 ≤ a1) = false := decide_eq_false c6
     clear c6
     obtain rfl := Option.some.inj H
     have hcz11_0 : wr.cell? ⟨gb161,0,none⟩ = some (.int .u64 a0_0) := (blk_cell BK161.out 0).trans rfl
     have hcz11_1 : wr.cell? ⟨gb161,1,none⟩ = some (.slice A0_1 l0_1.length c0_1) := (blk_cell BK161.out 1).trans rfl
     have hcz11_2 : wr.cell? ⟨gb161,2,none⟩ = some (.slice A0_2 l0_2.length c0_2) := (blk_cell BK161.out 2).trans rfl
     have hfz11_0 := blk_frozen BK161.out 0
     have hfz11_1 := blk_frozen BK161.out 1
     have hfz11_2 := blk_frozen BK161.out 2
     go_wp2
     go_ret
     exact ⟨by first | rfl | (simp [errW_none,errW_some] <;> rfl) | (simp [*,errW_none,errW_some] <;> rfl),by repeat (first | (with_reducible first | exact HB.out | apply below_alloc | apply pw_below_drewN | apply below_drew1 | refine below_set ?_ GE161.out) | exact HB.out)⟩
   ·rw [if_neg c5] at H
    have c5b0 : decide (x6_1 < (l0_2.length : Int)) = false := decide_eq_false c5
    clear c5
    obtain rfl := Option.some.inj H
    have hcz12_0 : wr.cell? ⟨gb161,0,none⟩ = some (.int .u64 a0_0) := (blk_cell BK161.out 0).trans rfl
    have hcz12_1 : wr.cell? ⟨gb161,1,none⟩ = some (.slice A0_1 l0_1.length c0_1) := (blk_cell BK161.out 1).trans rfl
    have hcz12_2 : wr.cell? ⟨gb161,2,none⟩ = some (.slice A0_2 l0_2.length c0_2) := (blk_cell BK161.out 2).trans rfl
    have hfz12_0 := blk_frozen BK161.out 0
    have hfz12_1 := blk_frozen BK161.out 1
    have hfz12_2 := blk_frozen BK161.out 2
    go_wp2
    go_ret
    exact ⟨by first | rfl | (simp [errW_none,errW_some] <;> rfl) | (simp [*,errW_none,errW_some] <;> rfl),by repeat (first | (with_reducible first | exact HB.out | apply below_alloc | apply pw_below_drewN | apply below_drew1 | refine below_set ?_ GE161.out) | exact HB.out)⟩

end Go.Proofs.YtdhnfccgojgehaaDoor.QP

namespace Go.Proofs.YtdhnfccgojgehaaDoor.QP
open Go.RowKit Go.Proofs.YtdhnfccgojgehaaDoorW.PrintWords Go.Proofs.YtdhnfccgojgehaaDoorW.PrintLast Go.Proofs.YtdhnfccgojgehaaDoorW.PrintMore
attribute [local go_sem] max2_int min2_int max_two min_two max_three min_three max_four min_four   -- for this text's walks alone
set_option linter.unusedVariables false
set_option linter.unusedSimpArgs false

/-! ### passepartoutlaw05_Great: function 25 -/
def passepartoutlaw05_Great.l0 : Nat → List (S31) → Int → Int → Option (Int)
 | 0,_,_,_ => none
 | k + 1,x10,x11,x12 => if x12 < x11 then (if 0 ≤ x12 then (if x12 < (x10.length : Int) then ((passepartoutref05_Count.f k ((rd_T31 x10 x12).f0) ((rd_T31 x10 x12).f1) ((rd_T31 x10 x12).f2) 2000).bind fun t168 => (if t168 > 2000 then (some 1) else ((passepartoutref05_Bytes.f k ((rd_T31 x10 x12).f0) ((rd_T31 x10 x12).f1) ((rd_T31 x10 x12).f2) 20000).bind fun t169 => (if t169 > 20000 then (some 1) else (passepartoutlaw05_Great.l0 k x10 x11 (wrap64 (x12 + 1))))))) else (none)) else (none)) else (some 0)
def passepartoutlaw05_Great.f (k : Nat) (a0_0 : Int) (a0_1 : Int) (a0_2 : Int) (a0_3 : Int) (a0_4 : Int) (l0_5 : List (S24)) (l1 : List (S31)) : Option (Int) := (passepartoutref04_Count.f k a0_0 a0_1 a0_2 a0_3 a0_4 l0_5 500).bind fun t165 => (if t165 > 500 then (some 1) else (passepartoutlaw05_Great.l0 k l1 (l1.length : Int) 0))
theorem passepartoutlaw05_Great.mono_l : ∀ k,(∀ y0 y1 y2,LeO (passepartoutlaw05_Great.l0 k y0 y1 y2) (passepartoutlaw05_Great.l0 (k + 1) y0 y1 y2))
 | 0 => fun _ _ _ r h => by simp [passepartoutlaw05_Great.l0] at h
 | k + 1 => by
  have ih0 := passepartoutlaw05_Great.mono_l k
  ·intro y0 y1 y2
   unfold passepartoutlaw05_Great.l0
   repeat' first
   | (with_reducible exact ih0 _ _ _)
   | (with_reducible exact passepartoutref04_Count.mono _ _ _ _ _ _ _ _)
   | (with_reducible exact passepartoutref05_Bytes.mono _ _ _ _ _)
   | (with_reducible exact passepartoutref05_Count.mono _ _ _ _ _)
   | (with_reducible exact LeO.refl _)
   | (with_reducible exact LeO.none _)
   | (with_reducible refine LeO.ite ?_ ?_)
   | (with_reducible refine LeO.bind ?_ (fun _ => ?_))
   | exact ih0 _ _ _
   | exact passepartoutref04_Count.mono _ _ _ _ _ _ _ _
   | exact passepartoutref05_Bytes.mono _ _ _ _ _
   | exact passepartoutref05_Count.mono _ _ _ _ _
   | exact LeO.none _
   | refine LeO.ite ?_ ?_
   | refine LeO.bind ?_ (fun _ => ?_)
theorem passepartoutlaw05_Great.mono : ∀ a0 a1 a2 a3 a4 a5 a6 k,LeO (passepartoutlaw05_Great.f k a0 a1 a2 a3 a4 a5 a6) (passepartoutlaw05_Great.f (k + 1) a0 a1 a2 a3 a4 a5 a6) := by
 intro a0 a1 a2 a3 a4 a5 a6 k
 have ih0 := passepartoutlaw05_Great.mono_l k
 unfold passepartoutlaw05_Great.f
 repeat' first
   | (with_reducible exact ih0 _ _ _)
   | (with_reducible exact passepartoutref04_Count.mono _ _ _ _ _ _ _ _)
   | (with_reducible exact passepartoutref05_Bytes.mono _ _ _ _ _)
   | (with_reducible exact passepartoutref05_Count.mono _ _ _ _ _)
   | (with_reducible exact LeO.refl _)
   | (with_reducible exact LeO.none _)
   | (with_reducible refine LeO.ite ?_ ?_)
   | (with_reducible refine LeO.bind ?_ (fun _ => ?_))
   | exact ih0 _ _ _
   | exact passepartoutref04_Count.mono _ _ _ _ _ _ _ _
   | exact passepartoutref05_Bytes.mono _ _ _ _ _
   | exact passepartoutref05_Count.mono _ _ _ _ _
   | exact LeO.none _
   | refine LeO.ite ?_ ?_
   | refine LeO.bind ?_ (fun _ => ?_)
set_option maxHeartbeats 8000000 in
set_option maxRecDepth 100000 in
theorem passepartoutlaw05_Great.calls (k : Nat) (a0_0 : Int) (a0_1 : Int) (a0_2 : Int) (a0_3 : Int) (a0_4 : Int) (A0_5 : Option Addr) (c0_5 : Nat) (l0_5 : List (S24)) (A1 : Option Addr) (c1 : Nat) (l1 : List (S31)) (r : Int) (w : World) (hr0_5 : Kd.C k24 w A0_5 l0_5.length l0_5) (hc0_5 : l0_5.length ≤ c0_5) (hr1 : Kd.C k31 w A1 l1.length l1) (hc1 : l1.length ≤ c1) (h : passepartoutlaw05_Great.f k a0_0 a0_1 a0_2 a0_3 a0_4 l0_5 l1 = some r) :
  Calls Tryd.prog 25 #[.agg #[.int .i64 a0_0,.int .i64 a0_1,.int .i64 a0_2,.int .i64 a0_3,.int .i64 a0_4,.slice A0_5 l0_5.length c0_5],.slice A1 l1.length c1] w fun e w' => e = .returned (.int .i64 r) ∧ Below w.heap.size w w' := by
 have hu24 := Tryd.underlying24
 have hu31 := Tryd.underlying31
 have HR0_5 := Aside0.mk hr0_5
 have HC0_5 := Aside0.mk hc0_5
 clear hr0_5 hc0_5
 have HR1 := Aside0.mk hr1
 have HC1 := Aside0.mk hc1
 clear hr1 hc1
 have HB := Aside0.mk (Below.refl w.heap.size w)
 have H : ((passepartoutref04_Count.f k a0_0 a0_1 a0_2 a0_3 a0_4 l0_5 500).bind fun t165 => (if t165 > 500 then (some 1) else (passepartoutlaw05_Great.l0 k l1 (l1.length : Int) 0))) = some r := h
 clear h
 replace H := Option.bind_eq_some_iff.mp H
 obtain ⟨t165,A30,H⟩ := H
 replace H : (if t165 > 500 then (some 1) else (passepartoutlaw05_Great.l0 k l1 (l1.length : Int) 0)) = some r := H
 have A3 := Aside0.mk A30
 clear A30
 by_cases c4 : t165 > 500
 ·rw [if_pos c4] at H
  have c4b0 : decide (500 < t165) = true := decide_eq_true c4
  clear c4
  obtain rfl := Option.some.inj H
  go_enter Tryd.func25,Tryd.ntmps25
  go_wp2_with (first | ((with_reducible refine gate_dst (N := 2) rfl ?_);refine box_event ?hg (N := 2) ?hd (cs := #[.int .i64 a0_0,.int .i64 a0_1,.int .i64 a0_2,.int .i64 a0_3,.int .i64 a0_4,.slice A0_5 l0_5.length c0_5]) (t := 24) ?hr ?_;(case hd => rfl);(case hg => rfl);(case hr => first | (go_simp;done) | (go_simp;rfl));intro gb164 hg w5 hbox hb;have n0_ := Aside0.mk (below_step (by repeat (first | (with_reducible first | exact HB.out | apply below_alloc | apply pw_below_drewN | apply below_drew1) | exact HB.out)) hb);have n1_ := Aside0.mk (hbox);have n2_ := Aside0.mk ((by rw [hg];exact (below_size (by repeat (first | (with_reducible first | exact HB.out | apply below_alloc | apply pw_below_drewN | apply below_drew1) | exact HB.out))) : w.heap.size ≤ gb164));have n3_ := Aside0.mk ((by rw [hg];exact (below_size (by repeat (first | (with_reducible first | exact HB.out | apply below_alloc | apply pw_below_drewN | apply below_drew1) | exact HB.out))) : w.heap.size ≤ gb164));clear HB;have HB := n0_;have BK164 := n1_;have GW164 := n2_;have GE164 := n3_;clear n0_ n1_ n2_ n3_;clear hb hbox hg;have hcz6_0 : w5.cell? ⟨gb164,0,none⟩ = some (.int .i64 a0_0) := (blk_cell BK164.out 0).trans rfl;have hcz6_1 : w5.cell? ⟨gb164,1,none⟩ = some (.int .i64 a0_1) := (blk_cell BK164.out 1).trans rfl;have hcz6_2 : w5.cell? ⟨gb164,2,none⟩ = some (.int .i64 a0_2) := (blk_cell BK164.out 2).trans rfl;have hcz6_3 : w5.cell? ⟨gb164,3,none⟩ = some (.int .i64 a0_3) := (blk_cell BK164.out 3).trans rfl;have hcz6_4 : w5.cell? ⟨gb164,4,none⟩ = some (.int .i64 a0_4) := (blk_cell BK164.out 4).trans rfl;have hcz6_5 : w5.cell? ⟨gb164,5,none⟩ = some (.slice A0_5 l0_5.length c0_5) := (blk_cell BK164.out 5).trans rfl;have hfz6_0 := blk_frozen BK164.out 0;have hfz6_1 := blk_frozen BK164.out 1;have hfz6_2 := blk_frozen BK164.out 2;have hfz6_3 := blk_frozen BK164.out 3;have hfz6_4 := blk_frozen BK164.out 4;have hfz6_5 := blk_frozen BK164.out 5) | ((with_reducible refine gate_callee (f := 22) rfl ?_);refine goesL_ (some 8) rfl rfl Tryd.func22 (by kernel_rfl) rfl #[.agg #[.int .i64 a0_0,.int .i64 a0_1,.int .i64 a0_2,.int .i64 a0_3,.int .i64 a0_4,.slice A0_5 l0_5.length c0_5],.int .i64 500] rfl (by (try simp only [List.map_toArray,List.map_cons,List.map_nil]);first | done | rfl | (simp only [List.length_drop,List.length_take];rfl)) ?_;(with_reducible refine (passepartoutref04_Count.calls k a0_0 a0_1 a0_2 a0_3 a0_4 _ _ l0_5 500 t165 _ ?side1 ?side2 A3.out).mono ?_);(case side1 => repeat (first | exact (Kd.C_below HR0_5.out HB.out) | (with_reducible refine Kd.C_alloc ?_ _) | (with_reducible refine Kd.C_drewN ?_ _) | (with_reducible refine Kd.C_drew ?_)));(case side2 => exact HC0_5.out);rintro e w7 ⟨rfl,hb⟩;refine ⟨_,rfl,?_⟩;have n0_ := Aside0.mk (blk_below (g := gb164) (o := .cells #[.int .i64 a0_0,.int .i64 a0_1,.int .i64 a0_2,.int .i64 a0_3,.int .i64 a0_4,.slice A0_5 l0_5.length c0_5] 24 (0,0)) (by (with_reducible repeat (first | refine blk_drewN ?_ _ | refine blk_drew ?_ | refine blk_alloc ?_ _));exact BK164.out) hb);have n1_ := Aside0.mk (below_step (by repeat (first | (with_reducible first | exact HB.out | apply below_alloc | apply pw_below_drewN | apply below_drew1 | refine below_set ?_ GE164.out) | exact HB.out)) hb);clear BK164;clear HB;have BK164 := n0_;have HB := n1_;clear n0_ n1_;(try clear hb);(try clear hb2);(try clear hk);(try clear hi)))
  go_ret
  exact ⟨by first | rfl | (simp [errW_none,errW_some] <;> rfl) | (simp [*,errW_none,errW_some] <;> rfl),by repeat (first | (with_reducible first | exact HB.out | apply below_alloc | apply pw_below_drewN | apply below_drew1 | refine below_set ?_ GE164.out) | exact HB.out)⟩
 ·rw [if_neg c4] at H
  have c4b0 : decide (500 < t165) = false := decide_eq_false c4
  clear c4
  have H' := Aside0.mk H
  clear H
  go_enter Tryd.func25,Tryd.ntmps25
  go_wp2_with (first | ((with_reducible refine gate_dst (N := 2) rfl ?_);refine box_event ?hg (N := 2) ?hd (cs := #[.int .i64 a0_0,.int .i64 a0_1,.int .i64 a0_2,.int .i64 a0_3,.int .i64 a0_4,.slice A0_5 l0_5.length c0_5]) (t := 24) ?hr ?_;(case hd => rfl);(case hg => rfl);(case hr => first | (go_simp;done) | (go_simp;rfl));intro gb164 hg w8 hbox hb;have n0_ := Aside0.mk (below_step (by repeat (first | (with_reducible first | exact HB.out | apply below_alloc | apply pw_below_drewN | apply below_drew1) | exact HB.out)) hb);have n1_ := Aside0.mk (hbox);have n2_ := Aside0.mk ((by rw [hg];exact (below_size (by repeat (first | (with_reducible first | exact HB.out | apply below_alloc | apply pw_below_drewN | apply below_drew1) | exact HB.out))) : w.heap.size ≤ gb164));have n3_ := Aside0.mk ((by rw [hg];exact (below_size (by repeat (first | (with_reducible first | exact HB.out | apply below_alloc | apply pw_below_drewN | apply below_drew1) | exact HB.out))) : w.heap.size ≤ gb164));clear HB;have HB := n0_;have BK164 := n1_;have GW164 := n2_;have GE164 := n3_;clear n0_ n1_ n2_ n3_;clear hb hbox hg;have hcz9_0 : w8.cell? ⟨gb164,0,none⟩ = some (.int .i64 a0_0) := (blk_cell BK164.out 0).trans rfl;have hcz9_1 : w8.cell? ⟨gb164,1,none⟩ = some (.int .i64 a0_1) := (blk_cell BK164.out 1).trans rfl;have hcz9_2 : w8.cell? ⟨gb164,2,none⟩ = some (.int .i64 a0_2) := (blk_cell BK164.out 2).trans rfl;have hcz9_3 : w8.cell? ⟨gb164,3,none⟩ = some (.int .i64 a0_3) := (blk_cell BK164.out 3).trans rfl;have hcz9_4 : w8.cell? ⟨gb164,4,none⟩ = some (.int .i64 a0_4) := (blk_cell BK164.out 4).trans rfl;have hcz9_5 : w8.cell? ⟨gb164,5,none⟩ = some (.slice A0_5 l0_5.length c0_5) := (blk_cell BK164.out 5).trans rfl;have hfz9_0 := blk_frozen BK164.out 0;have hfz9_1 := blk_frozen BK164.out 1;have hfz9_2 := blk_frozen BK164.out 2;have hfz9_3 := blk_frozen BK164.out 3;have hfz9_4 := blk_frozen BK164.out 4;have hfz9_5 := blk_frozen BK164.out 5) | ((with_reducible refine gate_callee (f := 22) rfl ?_);refine goesL_ (some 8) rfl rfl Tryd.func22 (by kernel_rfl) rfl #[.agg #[.int .i64 a0_0,.int .i64 a0_1,.int .i64 a0_2,.int .i64 a0_3,.int .i64 a0_4,.slice A0_5 l0_5.length c0_5],.int .i64 500] rfl (by (try simp only [List.map_toArray,List.map_cons,List.map_nil]);first | done | rfl | (simp only [List.length_drop,List.length_take];rfl)) ?_;(with_reducible refine (passepartoutref04_Count.calls k a0_0 a0_1 a0_2 a0_3 a0_4 _ _ l0_5 500 t165 _ ?side1 ?side2 A3.out).mono ?_);(case side1 => repeat (first | exact (Kd.C_below HR0_5.out HB.out) | (with_reducible refine Kd.C_alloc ?_ _) | (with_reducible refine Kd.C_drewN ?_ _) | (with_reducible refine Kd.C_drew ?_)));(case side2 => exact HC0_5.out);rintro e w10 ⟨rfl,hb⟩;refine ⟨_,rfl,?_⟩;have n0_ := Aside0.mk (blk_below (g := gb164) (o := .cells #[.int .i64 a0_0,.int .i64 a0_1,.int .i64 a0_2,.int .i64 a0_3,.int .i64 a0_4,.slice A0_5 l0_5.length c0_5] 24 (0,0)) (by (with_reducible repeat (first | refine blk_drewN ?_ _ | refine blk_drew ?_ | refine blk_alloc ?_ _));exact BK164.out) hb);have n1_ := Aside0.mk (below_step (by repeat (first | (with_reducible first | exact HB.out | apply below_alloc | apply pw_below_drewN | apply below_drew1 | refine below_set ?_ GE164.out) | exact HB.out)) hb);clear BK164;clear HB;have BK164 := n0_;have HB := n1_;clear n0_ n1_;(try clear hb);(try clear hb2);(try clear hk);(try clear hi)))
  go_loopg [12] k (fun kq v12 w' => ∃ (x12_1 : Int),v12 = .int .i64 x12_1 ∧ Aside0 (passepartoutlaw05_Great.l0 kq l1 (l1.length : Int) x12_1 = some r) ∧ Aside0 (kq ≤ k) ∧ Aside0 (w'.heap[gb164]? = some (.cells #[.int .i64 a0_0,.int .i64 a0_1,.int .i64 a0_2,.int .i64 a0_3,.int .i64 a0_4,(.slice A0_5 l0_5.length c0_5)] 24 (0,0))) ∧ Aside0 (Below w.heap.size w w'))
  case atStart => exact ⟨(0),(by first | rfl | (simp;done) | (simp [*];done)),H',⟨Nat.le_refl _⟩,⟨by (with_reducible repeat (first | refine blk_drewN ?_ _ | refine blk_drew ?_ | refine blk_alloc ?_ _));exact BK164.out⟩,⟨by repeat (first | (with_reducible first | exact HB.out | apply below_alloc | apply pw_below_drewN | apply below_drew1 | refine below_set ?_ GE164.out) | exact HB.out)⟩⟩
  case round =>
   clear H'
   try clear c1
   try clear c2
   try clear p2
   try clear c4
   try clear c4b0
   try clear hcz6_0
   try clear hcz6_1
   try clear hcz6_2
   try clear hcz6_3
   try clear hcz6_4
   try clear hcz6_5
   try clear hcz9_0
   try clear hcz9_1
   try clear hcz9_2
   try clear hcz9_3
   try clear hcz9_4
   try clear hcz9_5
   try clear hfz6_0
   try clear hfz6_1
   try clear hfz6_2
   try clear hfz6_3
   try clear hfz6_4
   try clear hfz6_5
   try clear hfz9_0
   try clear hfz9_1
   try clear hfz9_2
   try clear hfz9_3
   try clear hfz9_4
   try clear hfz9_5
   obtain ⟨x12_1,rfl,HA,HK1,BK164,HB⟩ := hrel
   cases gk with
   | zero => exact absurd HA.out (by simp [passepartoutlaw05_Great.l0])
   | succ k1 =>
    have H := HA.out
    clear HA
    simp only [passepartoutlaw05_Great.l0] at H
    by_cases c11 : x12_1 < (l1.length : Int)
    ·rw [if_pos c11] at H
     have c11b0 : decide (x12_1 < (l1.length : Int)) = true := decide_eq_true c11
     clear c11
     by_cases c12 : 0 ≤ x12_1
     ·rw [if_pos c12] at H
      have c12b0 : decide (0 ≤ x12_1) = true := decide_eq_true c12
      clear c12
      by_cases c13 : x12_1 < (l1.length : Int)
      ·rw [if_pos c13] at H
       have c13b0 : decide (x12_1 < (l1.length : Int)) = true := decide_eq_true c13
       clear c13
       replace H := Option.bind_eq_some_iff.mp H
       obtain ⟨t168,A140,H⟩ := H
       replace H : (if t168 > 2000 then (some 1) else ((passepartoutref05_Bytes.f k1 ((rd_T31 l1 x12_1).f0) ((rd_T31 l1 x12_1).f1) ((rd_T31 l1 x12_1).f2) 20000).bind fun t169 => (if t169 > 20000 then (some 1) else (passepartoutlaw05_Great.l0 k1 l1 (l1.length : Int) (wrap64 (x12_1 + 1)))))) = some r := H
       have A14 := Aside0.mk A140
       clear A140
       by_cases c15 : t168 > 2000
       ·rw [if_pos c15] at H
        have c15b0 : decide (2000 < t168) = true := decide_eq_true c15
        clear c15
        obtain rfl := Option.some.inj H
        have p166 : 0 ≤ (x12_1 : Int) := of_decide_eq_true (by first | (with_reducible assumption) | assumption)
        have q166 : x12_1 < (l1.length : Int) := of_decide_eq_true (by first | (with_reducible assumption) | assumption)
        obtain ⟨ad166,A166_1,c166_1,A166_2,c166_2,e166,hx166_0,hx166_1,hx166_2,hl166_1,hi166_1,hl166_2,hi166_2⟩ := at_T31 HR1.out x12_1 p166 q166
        cases e166
        replace hx166_0 := (HB.out.cell (World.block_lt_of_cell? w _ hx166_0)).trans hx166_0
        replace hx166_1 := (HB.out.cell (World.block_lt_of_cell? w _ hx166_1)).trans hx166_1
        replace hx166_2 := (HB.out.cell (World.block_lt_of_cell? w _ hx166_2)).trans hx166_2
        have HR166_1 := Aside0.mk hi166_1
        have HC166_1 := Aside0.mk hl166_1
        clear hi166_1 hl166_1
        have HR166_2 := Aside0.mk hi166_2
        have HC166_2 := Aside0.mk hl166_2
        clear hi166_2 hl166_2
        replace p166 := eq_true p166
        replace q166 := eq_true q166
        go_wp2_with (first | ((with_reducible refine gate_dst (N := 6) rfl ?_);refine box_event ?hg (N := 6) ?hd (cs := #[.int .u64 0,.slice none 0 0,.slice none 0 0]) (t := 31) ?hr ?_;(case hd => rfl);(case hg => rfl);(case hr => first | (go_simp;done) | (go_simp;rfl));intro gb167 hg w16 hbox hb;have n0_ := Aside0.mk (blk_below (g := gb164) (o := .cells #[.int .i64 a0_0,.int .i64 a0_1,.int .i64 a0_2,.int .i64 a0_3,.int .i64 a0_4,.slice A0_5 l0_5.length c0_5] 24 (0,0)) (by (with_reducible repeat (first | refine blk_drewN ?_ _ | refine blk_drew ?_ | refine blk_alloc ?_ _));exact BK164.out) hb);have n1_ := Aside0.mk (below_step (by repeat (first | (with_reducible first | exact HB.out | apply below_alloc | apply pw_below_drewN | apply below_drew1 | refine below_set ?_ GE164.out) | exact HB.out)) hb);have n2_ := Aside0.mk (hbox);have n3_ := Aside0.mk ((by rw [hg];exact (below_size (by repeat (first | (with_reducible first | exact HB.out | apply below_alloc | apply pw_below_drewN | apply below_drew1 | refine below_set ?_ GE164.out) | exact HB.out))) : w.heap.size ≤ gb167));have n4_ := Aside0.mk ((by rw [hg];exact (below_size (by repeat (first | (with_reducible first | exact HB.out | apply below_alloc | apply pw_below_drewN | apply below_drew1 | refine below_set ?_ GE164.out) | exact HB.out))) : w.heap.size ≤ gb167));have n5_ := Aside0.mk ((by rw [hg];exact Nat.ne_of_lt (blk_lt (g := gb164) (o := .cells #[.int .i64 a0_0,.int .i64 a0_1,.int .i64 a0_2,.int .i64 a0_3,.int .i64 a0_4,.slice A0_5 l0_5.length c0_5] 24 (0,0)) (by (with_reducible repeat (first | refine blk_drewN ?_ _ | refine blk_drew ?_ | refine blk_alloc ?_ _));exact BK164.out)) : gb164 ≠ gb167));have n6_ := Aside0.mk ((by rw [hg];exact Nat.ne_of_gt (blk_lt (g := gb164) (o := .cells #[.int .i64 a0_0,.int .i64 a0_1,.int .i64 a0_2,.int .i64 a0_3,.int .i64 a0_4,.slice A0_5 l0_5.length c0_5] 24 (0,0)) (by (with_reducible repeat (first | refine blk_drewN ?_ _ | refine blk_drew ?_ | refine blk_alloc ?_ _));exact BK164.out)) : gb167 ≠ gb164));clear BK164;clear HB;have BK164 := n0_;have HB := n1_;have BK167 := n2_;have GW167 := n3_;have GE167 := n4_;have NB164_167 := n5_;have NB167_164 := n6_;clear n0_ n1_ n2_ n3_ n4_ n5_ n6_;clear hb hbox hg;have hnb17 := NB167_164.out;have hnc17 := NB164_167.out;have hcz18_0 : w16.cell? ⟨gb167,0,none⟩ = some (.int .u64 0) := (blk_cell BK167.out 0).trans rfl;have hcz18_1 : w16.cell? ⟨gb167,1,none⟩ = some (.slice none 0 0) := (blk_cell BK167.out 1).trans rfl;have hcz18_2 : w16.cell? ⟨gb167,2,none⟩ = some (.slice none 0 0) := (blk_cell BK167.out 2).trans rfl;have hfz18_0 := blk_frozen BK167.out 0;have hfz18_1 := blk_frozen BK167.out 1;have hfz18_2 := blk_frozen BK167.out 2) | ((with_reducible refine gate_callee (f := 33) rfl ?_);refine goesL_ (some 17) rfl rfl Tryd.func33 (by kernel_rfl) rfl #[.agg #[.int .u64 ((rd_T31 l1 x12_1).f0),.slice A166_1 ((rd_T31 l1 x12_1).f1).length c166_1,.slice A166_2 ((rd_T31 l1 x12_1).f2).length c166_2],.int .i64 2000] rfl (by (try simp only [List.map_toArray,List.map_cons,List.map_nil]);first | done | rfl | (simp only [List.length_drop,List.length_take];rfl)) ?_;(with_reducible refine (passepartoutref05_Count.calls k1 ((rd_T31 l1 x12_1).f0) _ _ ((rd_T31 l1 x12_1).f1) _ _ ((rd_T31 l1 x12_1).f2) 2000 t168 _ ?side1 ?side2 ?side3 ?side4 A14.out).mono ?_);(case side1 => exact Kd.C_below HR166_1.out (by repeat (first | (with_reducible first | exact HB.out | apply below_alloc | apply pw_below_drewN | apply below_drew1 | refine below_set ?_ GE164.out | refine below_set ?_ GE167.out) | exact HB.out)));(case side2 => exact HC166_1.out);(case side3 => exact Kd.C_below HR166_2.out (by repeat (first | (with_reducible first | exact HB.out | apply below_alloc | apply pw_below_drewN | apply below_drew1 | refine below_set ?_ GE164.out | refine below_set ?_ GE167.out) | exact HB.out)));(case side4 => exact HC166_2.out);rintro e w19 ⟨rfl,hb⟩;refine ⟨_,rfl,?_⟩;have n0_ := Aside0.mk (blk_below (g := gb164) (o := .cells #[.int .i64 a0_0,.int .i64 a0_1,.int .i64 a0_2,.int .i64 a0_3,.int .i64 a0_4,.slice A0_5 l0_5.length c0_5] 24 (0,0)) (by (with_reducible repeat (first | refine blk_drewN ?_ _ | refine blk_drew ?_ | refine blk_alloc ?_ _));refine blk_far ?_ NB164_167.out _;(with_reducible repeat (first | refine blk_drewN ?_ _ | refine blk_drew ?_ | refine blk_alloc ?_ _));refine blk_far ?_ NB164_167.out _;(with_reducible repeat (first | refine blk_drewN ?_ _ | refine blk_drew ?_ | refine blk_alloc ?_ _));refine blk_far ?_ NB164_167.out _;(with_reducible repeat (first | refine blk_drewN ?_ _ | refine blk_drew ?_ | refine blk_alloc ?_ _));exact BK164.out) hb);have n1_ := Aside0.mk (blk_below (g := gb167) (o := .cells #[.int .u64 ((rd_T31 l1 x12_1).f0),.slice A166_1 ((rd_T31 l1 x12_1).f1).length c166_1,.slice A166_2 ((rd_T31 l1 x12_1).f2).length c166_2] 31 (0,0)) (by (with_reducible repeat (first | refine blk_drewN ?_ _ | refine blk_drew ?_ | refine blk_alloc ?_ _));refine blk_put (cs := #[.int .u64 ((rd_T31 l1 x12_1).f0),.slice A166_1 ((rd_T31 l1 x12_1).f1).length c166_1,.slice none 0 0]) ?_ 2 _ rfl;(with_reducible repeat (first | refine blk_drewN ?_ _ | refine blk_drew ?_ | refine blk_alloc ?_ _));refine blk_put (cs := #[.int .u64 ((rd_T31 l1 x12_1).f0),.slice none 0 0,.slice none 0 0]) ?_ 1 _ rfl;(with_reducible repeat (first | refine blk_drewN ?_ _ | refine blk_drew ?_ | refine blk_alloc ?_ _));refine blk_put (cs := #[.int .u64 0,.slice none 0 0,.slice none 0 0]) ?_ 0 _ rfl;(with_reducible repeat (first | refine blk_drewN ?_ _ | refine blk_drew ?_ | refine blk_alloc ?_ _));exact BK167.out) hb);have n2_ := Aside0.mk (below_step (by repeat (first | (with_reducible first | exact HB.out | apply below_alloc | apply pw_below_drewN | apply below_drew1 | refine below_set ?_ GE164.out | refine below_set ?_ GE167.out) | exact HB.out)) hb);clear BK164;clear BK167;clear HB;have BK164 := n0_;have BK167 := n1_;have HB := n2_;clear n0_ n1_ n2_;(try clear hb);(try clear hb2);(try clear hk);(try clear hi)))
        go_ret
        exact ⟨by first | rfl | (simp [errW_none,errW_some] <;> rfl) | (simp [*,errW_none,errW_some] <;> rfl),by repeat (first | (with_reducible first | exact HB.out | apply below_alloc | apply pw_below_drewN | apply below_drew1 | refine below_set ?_ GE164.out | refine below_set ?_ GE167.out) | exact HB.out)⟩
       ·rw [if_neg c15] at H
        have c15b0 : decide (2000 < t168) = false := decide_eq_false c15
        clear c15
        replace H := Option.bind_eq_some_iff.mp H
        obtain ⟨t169,A200,H⟩ := H
        replace H : (if t169 > 20000 then (some 1) else (passepartoutlaw05_Great.l0 k1 l1 (l1.length : Int) (wrap64 (x12_1 + 1)))) = some r := H
        have A20 := Aside0.mk A200
        clear A200
        by_cases c21 : t169 > 20000
        ·rw [if_pos c21] at H
         have c21b0 : decide (20000 < t169) = true := decide_eq_true c21
         clear c21
         obtain rfl := Option.some.inj H
         have p166 : 0 ≤ (x12_1 : Int) := of_decide_eq_true (by first | (with_reducible assumption) | assumption)
         have q166 : x12_1 < (l1.length : Int) := of_decide_eq_true (by first | (with_reducible assumption) | assumption)
         obtain ⟨ad166,A166_1,c166_1,A166_2,c166_2,e166,hx166_0,hx166_1,hx166_2,hl166_1,hi166_1,hl166_2,hi166_2⟩ := at_T31 HR1.out x12_1 p166 q166
         cases e166
         replace hx166_0 := (HB.out.cell (World.block_lt_of_cell? w _ hx166_0)).trans hx166_0
         replace hx166_1 := (HB.out.cell (World.block_lt_of_cell? w _ hx166_1)).trans hx166_1
         replace hx166_2 := (HB.out.cell (World.block_lt_of_cell? w _ hx166_2)).trans hx166_2
         have HR166_1 := Aside0.mk hi166_1
         have HC166_1 := Aside0.mk hl166_1
         clear hi166_1 hl166_1
         have HR166_2 := Aside0.mk hi166_2
         have HC166_2 := Aside0.mk hl166_2
         clear hi166_2 hl166_2
         replace p166 := eq_true p166
         replace q166 := eq_true q166
         go_wp2_with (first | ((with_reducible refine gate_dst (N := 6) rfl ?_);refine box_event ?hg (N := 6) ?hd (cs := #[.int .u64 0,.slice none 0 0,.slice none 0 0]) (t := 31) ?hr ?_;(case hd => rfl);(case hg => rfl);(case hr => first | (go_simp;done) | (go_simp;rfl));intro gb167 hg w22 hbox hb;have n0_ := Aside0.mk (blk_below (g := gb164) (o := .cells #[.int .i64 a0_0,.int .i64 a0_1,.int .i64 a0_2,.int .i64 a0_3,.int .i64 a0_4,.slice A0_5 l0_5.length c0_5] 24 (0,0)) (by (with_reducible repeat (first | refine blk_drewN ?_ _ | refine blk_drew ?_ | refine blk_alloc ?_ _));exact BK164.out) hb);have n1_ := Aside0.mk (below_step (by repeat (first | (with_reducible first | exact HB.out | apply below_alloc | apply pw_below_drewN | apply below_drew1 | refine below_set ?_ GE164.out) | exact HB.out)) hb);have n2_ := Aside0.mk (hbox);have n3_ := Aside0.mk ((by rw [hg];exact (below_size (by repeat (first | (with_reducible first | exact HB.out | apply below_alloc | apply pw_below_drewN | apply below_drew1 | refine below_set ?_ GE164.out) | exact HB.out))) : w.heap.size ≤ gb167));have n4_ := Aside0.mk ((by rw [hg];exact (below_size (by repeat (first | (with_reducible first | exact HB.out | apply below_alloc | apply pw_below_drewN | apply below_drew1 | refine below_set ?_ GE164.out) | exact HB.out))) : w.heap.size ≤ gb167));have n5_ := Aside0.mk ((by rw [hg];exact Nat.ne_of_lt (blk_lt (g := gb164) (o := .cells #[.int .i64 a0_0,.int .i64 a0_1,.int .i64 a0_2,.int .i64 a0_3,.int .i64 a0_4,.slice A0_5 l0_5.length c0_5] 24 (0,0)) (by (with_reducible repeat (first | refine blk_drewN ?_ _ | refine blk_drew ?_ | refine blk_alloc ?_ _));exact BK164.out)) : gb164 ≠ gb167));have n6_ := Aside0.mk ((by rw [hg];exact Nat.ne_of_gt (blk_lt (g := gb164) (o := .cells #[.int .i64 a0_0,.int .i64 a0_1,.int .i64 a0_2,.int .i64 a0_3,.int .i64 a0_4,.slice A0_5 l0_5.length c0_5] 24 (0,0)) (by (with_reducible repeat (first | refine blk_drewN ?_ _ | refine blk_drew ?_ | refine blk_alloc ?_ _));exact BK164.out)) : gb167 ≠ gb164));clear BK164;clear HB;have BK164 := n0_;have HB := n1_;have BK167 := n2_;have GW167 := n3_;have GE167 := n4_;have NB164_167 := n5_;have NB167_164 := n6_;clear n0_ n1_ n2_ n3_ n4_ n5_ n6_;clear hb hbox hg;have hnb23 := NB167_164.out;have hnc23 := NB164_167.out;have hcz24_0 : w22.cell? ⟨gb167,0,none⟩ = some (.int .u64 0) := (blk_cell BK167.out 0).trans rfl;have hcz24_1 : w22.cell? ⟨gb167,1,none⟩ = some (.slice none 0 0) := (blk_cell BK167.out 1).trans rfl;have hcz24_2 : w22.cell? ⟨gb167,2,none⟩ = some (.slice none 0 0) := (blk_cell BK167.out 2).trans rfl;have hfz24_0 := blk_frozen BK167.out 0;have hfz24_1 := blk_frozen BK167.out 1;have hfz24_2 := blk_frozen BK167.out 2) | ((with_reducible refine gate_callee (f := 33) rfl ?_);refine goesL_ (some 17) rfl rfl Tryd.func33 (by kernel_rfl) rfl #[.agg #[.int .u64 ((rd_T31 l1 x12_1).f0),.slice A166_1 ((rd_T31 l1 x12_1).f1).length c166_1,.slice A166_2 ((rd_T31 l1 x12_1).f2).length c166_2],.int .i64 2000] rfl (by (try simp only [List.map_toArray,List.map_cons,List.map_nil]);first | done | rfl | (simp only [List.length_drop,List.length_take];rfl)) ?_;(with_reducible refine (passepartoutref05_Count.calls k1 ((rd_T31 l1 x12_1).f0) _ _ ((rd_T31 l1 x12_1).f1) _ _ ((rd_T31 l1 x12_1).f2) 2000 t168 _ ?side1 ?side2 ?side3 ?side4 A14.out).mono ?_);(case side1 => exact Kd.C_below HR166_1.out (by repeat (first | (with_reducible first | exact HB.out | apply below_alloc | apply pw_below_drewN | apply below_drew1 | refine below_set ?_ GE164.out | refine below_set ?_ GE167.out) | exact HB.out)));(case side2 => exact HC166_1.out);(case side3 => exact Kd.C_below HR166_2.out (by repeat (first | (with_reducible first | exact HB.out | apply below_alloc | apply pw_below_drewN | apply below_drew1 | refine below_set ?_ GE164.out | refine below_set ?_ GE167.out) | exact HB.out)));(case side4 => exact HC166_2.out);rintro e w25 ⟨rfl,hb⟩;refine ⟨_,rfl,?_⟩;have n0_ := Aside0.mk (blk_below (g := gb164) (o := .cells #[.int .i64 a0_0,.int .i64 a0_1,.int .i64 a0_2,.int .i64 a0_3,.int .i64 a0_4,.slice A0_5 l0_5.length c0_5] 24 (0,0)) (by (with_reducible repeat (first | refine blk_drewN ?_ _ | refine blk_drew ?_ | refine blk_alloc ?_ _));refine blk_far ?_ NB164_167.out _;(with_reducible repeat (first | refine blk_drewN ?_ _ | refine blk_drew ?_ | refine blk_alloc ?_ _));refine blk_far ?_ NB164_167.out _;(with_reducible repeat (first | refine blk_drewN ?_ _ | refine blk_drew ?_ | refine blk_alloc ?_ _));refine blk_far ?_ NB164_167.out _;(with_reducible repeat (first | refine blk_drewN ?_ _ | refine blk_drew ?_ | refine blk_alloc ?_ _));exact BK164.out) hb);have n1_ := Aside0.mk (blk_below (g := gb167) (o := .cells #[.int .u64 ((rd_T31 l1 x12_1).f0),.slice A166_1 ((rd_T31 l1 x12_1).f1).length c166_1,.slice A166_2 ((rd_T31 l1 x12_1).f2).length c166_2] 31 (0,0)) (by (with_reducible repeat (first | refine blk_drewN ?_ _ | refine blk_drew ?_ | refine blk_alloc ?_ _));refine blk_put (cs := #[.int .u64 ((rd_T31 l1 x12_1).f0),.slice A166_1 ((rd_T31 l1 x12_1).f1).length c166_1,.slice none 0 0]) ?_ 2 _ rfl;(with_reducible repeat (first | refine blk_drewN ?_ _ | refine blk_drew ?_ | refine blk_alloc ?_ _));refine blk_put (cs := #[.int .u64 ((rd_T31 l1 x12_1).f0),.slice none 0 0,.slice none 0 0]) ?_ 1 _ rfl;(with_reducible repeat (first | refine blk_drewN ?_ _ | refine blk_drew ?_ | refine blk_alloc ?_ _));refine blk_put (cs := #[.int .u64 0,.slice none 0 0,.slice none 0 0]) ?_ 0 _ rfl;(with_reducible repeat (first | refine blk_drewN ?_ _ | refine blk_drew ?_ | refine blk_alloc ?_ _));exact BK167.out) hb);have n2_ := Aside0.mk (below_step (by repeat (first | (with_reducible first | exact HB.out | apply below_alloc | apply pw_below_drewN | apply below_drew1 | refine below_set ?_ GE164.out | refine below_set ?_ GE167.out) | exact HB.out)) hb);clear BK164;clear BK167;clear HB;have BK164 := n0_;have BK167 := n1_;have HB := n2_;clear n0_ n1_ n2_;(try clear hb);(try clear hb2);(try clear hk);(try clear hi);have hcz26_0 : w25.cell? ⟨gb167,0,none⟩ = some (.int .u64 ((rd_T31 l1 x12_1).f0)) := (blk_cell BK167.out 0).trans rfl;have hcz26_1 : w25.cell? ⟨gb167,1,none⟩ = some (.slice A166_1 ((rd_T31 l1 x12_1).f1).length c166_1) := (blk_cell BK167.out 1).trans rfl;have hcz26_2 : w25.cell? ⟨gb167,2,none⟩ = some (.slice A166_2 ((rd_T31 l1 x12_1).f2).length c166_2) := (blk_cell BK167.out 2).trans rfl;have hfz26_0 := blk_frozen BK167.out 0;have hfz26_1 := blk_frozen BK167.out 1;have hfz26_2 := blk_frozen BK167.out 2) | (go_at_call 34;(with_reducible refine (passepartoutref05_Bytes.calls k1 ((rd_T31 l1 x12_1).f0) _ _ ((rd_T31 l1 x12_1).f1) _ _ ((rd_T31 l1 x12_1).f2) 20000 t169 _ ?side1 ?side2 ?side3 ?side4 A20.out).mono ?_);(case side1 => repeat (first | exact (Kd.C_below HR166_1.out HB.out) | (with_reducible refine Kd.C_alloc ?_ _) | (with_reducible refine Kd.C_drewN ?_ _) | (with_reducible refine Kd.C_drew ?_)));(case side2 => exact HC166_1.out);(case side3 => repeat (first | exact (Kd.C_below HR166_2.out HB.out) | (with_reducible refine Kd.C_alloc ?_ _) | (with_reducible refine Kd.C_drewN ?_ _) | (with_reducible refine Kd.C_drew ?_)));(case side4 => exact HC166_2.out);rintro e w27 ⟨rfl,hb⟩;have n0_ := Aside0.mk (blk_below (g := gb164) (o := .cells #[.int .i64 a0_0,.int .i64 a0_1,.int .i64 a0_2,.int .i64 a0_3,.int .i64 a0_4,.slice A0_5 l0_5.length c0_5] 24 (0,0)) (by (with_reducible repeat (first | refine blk_drewN ?_ _ | refine blk_drew ?_ | refine blk_alloc ?_ _));exact BK164.out) hb);have n1_ := Aside0.mk (blk_below (g := gb167) (o := .cells #[.int .u64 ((rd_T31 l1 x12_1).f0),.slice A166_1 ((rd_T31 l1 x12_1).f1).length c166_1,.slice A166_2 ((rd_T31 l1 x12_1).f2).length c166_2] 31 (0,0)) (by (with_reducible repeat (first | refine blk_drewN ?_ _ | refine blk_drew ?_ | refine blk_alloc ?_ _));exact BK167.out) hb);have n2_ := Aside0.mk (below_step (by repeat (first | (with_reducible first | exact HB.out | apply below_alloc | apply pw_below_drewN | apply below_drew1 | refine below_set ?_ GE164.out | refine below_set ?_ GE167.out) | exact HB.out)) hb);clear BK164;clear BK167;clear HB;have BK164 := n0_;have BK167 := n1_;have HB := n2_;clear n0_ n1_ n2_;(try clear hb);(try clear hb2);(try clear hk);(try clear hi)))
         go_ret
         exact ⟨by first | rfl | (simp [errW_none,errW_some] <;> rfl) | (simp [*,errW_none,errW_some] <;> rfl),by repeat (first | (with_reducible first | exact HB.out | apply below_alloc | apply pw_below_drewN | apply below_drew1 | refine below_set ?_ GE164.out | refine below_set ?_ GE167.out) | exact HB.out)⟩
        ·rw [if_neg c21] at H
         have c21b0 : decide (20000 < t169) = false := decide_eq_false c21
         clear c21
         have H' := Aside0.mk H
         clear H
         have p166 : 0 ≤ (x12_1 : Int) := of_decide_eq_true (by first | (with_reducible assumption) | assumption)
         have q166 : x12_1 < (l1.length : Int) := of_decide_eq_true (by first | (with_reducible assumption) | assumption)
         obtain ⟨ad166,A166_1,c166_1,A166_2,c166_2,e166,hx166_0,hx166_1,hx166_2,hl166_1,hi166_1,hl166_2,hi166_2⟩ := at_T31 HR1.out x12_1 p166 q166
         cases e166
         replace hx166_0 := (HB.out.cell (World.block_lt_of_cell? w _ hx166_0)).trans hx166_0
         replace hx166_1 := (HB.out.cell (World.block_lt_of_cell? w _ hx166_1)).trans hx166_1
         replace hx166_2 := (HB.out.cell (World.block_lt_of_cell? w _ hx166_2)).trans hx166_2
         have HR166_1 := Aside0.mk hi166_1
         have HC166_1 := Aside0.mk hl166_1
         clear hi166_1 hl166_1
         have HR166_2 := Aside0.mk hi166_2
         have HC166_2 := Aside0.mk hl166_2
         clear hi166_2 hl166_2
         replace p166 := eq_true p166
         replace q166 := eq_true q166
         go_wp2_with (first | ((with_reducible refine gate_dst (N := 6) rfl ?_);refine box_event ?hg (N := 6) ?hd (cs := #[.int .u64 0,.slice none 0 0,.slice none 0 0]) (t := 31) ?hr ?_;(case hd => rfl);(case hg => rfl);(case hr => first | (go_simp;done) | (go_simp;rfl));intro gb167 hg w28 hbox hb;have n0_ := Aside0.mk (blk_below (g := gb164) (o := .cells #[.int .i64 a0_0,.int .i64 a0_1,.int .i64 a0_2,.int .i64 a0_3,.int .i64 a0_4,.slice A0_5 l0_5.length c0_5] 24 (0,0)) (by (with_reducible repeat (first | refine blk_drewN ?_ _ | refine blk_drew ?_ | refine blk_alloc ?_ _));exact BK164.out) hb);have n1_ := Aside0.mk (below_step (by repeat (first | (with_reducible first | exact HB.out | apply below_alloc | apply pw_below_drewN | apply below_drew1 | refine below_set ?_ GE164.out) | exact HB.out)) hb);have n2_ := Aside0.mk (hbox);have n3_ := Aside0.mk ((by rw [hg];exact (below_size (by repeat (first | (with_reducible first | exact HB.out | apply below_alloc | apply pw_below_drewN | apply below_drew1 | refine below_set ?_ GE164.out) | exact HB.out))) : w.heap.size ≤ gb167));have n4_ := Aside0.mk ((by rw [hg];exact (below_size (by repeat (first | (with_reducible first | exact HB.out | apply below_alloc | apply pw_below_drewN | apply below_drew1 | refine below_set ?_ GE164.out) | exact HB.out))) : w.heap.size ≤ gb167));have n5_ := Aside0.mk ((by rw [hg];exact Nat.ne_of_lt (blk_lt (g := gb164) (o := .cells #[.int .i64 a0_0,.int .i64 a0_1,.int .i64 a0_2,.int .i64 a0_3,.int .i64 a0_4,.slice A0_5 l0_5.length c0_5] 24 (0,0)) (by (with_reducible repeat (first | refine blk_drewN ?_ _ | refine blk_drew ?_ | refine blk_alloc ?_ _));exact BK164.out)) : gb164 ≠ gb167));have n6_ := Aside0.mk ((by rw [hg];exact Nat.ne_of_gt (blk_lt (g := gb164) (o := .cells #[.int .i64 a0_0,.int .i64 a0_1,.int .i64 a0_2,.int .i64 a0_3,.int .i64 a0_4,.slice A0_5 l0_5.length c0_5] 24 (0,0)) (by (with_reducible repeat (first | refine blk_drewN ?_ _ | refine blk_drew ?_ | refine blk_alloc ?_ _));exact BK164.out)) : gb167 ≠ gb164));clear BK164;clear HB;have BK164 := n0_;have HB := n1_;have BK167 := n2_;have GW167 := n3_;have GE167 := n4_;have NB164_167 := n5_;have NB167_164 := n6_;clear n0_ n1_ n2_ n3_ n4_ n5_ n6_;clear hb hbox hg;have hnb29 := NB167_164.out;have hnc29 := NB164_167.out;have hcz30_0 : w28.cell? ⟨gb167,0,none⟩ = some (.int .u64 0) := (blk_cell BK167.out 0).trans rfl;have hcz30_1 : w28.cell? ⟨gb167,1,none⟩ = some (.slice none 0 0) := (blk_cell BK167.out 1).trans rfl;have hcz30_2 : w28.cell? ⟨gb167,2,none⟩ = some (.slice none 0 0) := (blk_cell BK167.out 2).trans rfl;have hfz30_0 := blk_frozen BK167.out 0;have hfz30_1 := blk_frozen BK167.out 1;have hfz30_2 := blk_frozen BK167.out 2) | ((with_reducible refine gate_callee (f := 33) rfl ?_);refine goesL_ (some 17) rfl rfl Tryd.func33 (by kernel_rfl) rfl #[.agg #[.int .u64 ((rd_T31 l1 x12_1).f0),.slice A166_1 ((rd_T31 l1 x12_1).f1).length c166_1,.slice A166_2 ((rd_T31 l1 x12_1).f2).length c166_2],.int .i64 2000] rfl (by (try simp only [List.map_toArray,List.map_cons,List.map_nil]);first | done | rfl | (simp only [List.length_drop,List.length_take];rfl)) ?_;(with_reducible refine (passepartoutref05_Count.calls k1 ((rd_T31 l1 x12_1).f0) _ _ ((rd_T31 l1 x12_1).f1) _ _ ((rd_T31 l1 x12_1).f2) 2000 t168 _ ?side1 ?side2 ?side3 ?side4 A14.out).mono ?_);(case side1 => exact Kd.C_below HR166_1.out (by repeat (first | (with_reducible first | exact HB.out | apply below_alloc | apply pw_below_drewN | apply below_drew1 | refine below_set ?_ GE164.out | refine below_set ?_ GE167.out) | exact HB.out)));(case side2 => exact HC166_1.out);(case side3 => exact Kd.C_below HR166_2.out (by repeat (first | (with_reducible first | exact HB.out | apply below_alloc | apply pw_below_drewN | apply below_drew1 | refine below_set ?_ GE164.out | refine below_set ?_ GE167.out) | exact HB.out)));(case side4 => exact HC166_2.out);rintro e w31 ⟨rfl,hb⟩;refine ⟨_,rfl,?_⟩;have n0_ := Aside0.mk (blk_below (g := gb164) (o := .cells #[.int .i64 a0_0,.int .i64 a0_1,.int .i64 a0_2,.int .i64 a0_3,.int .i64 a0_4,.slice A0_5 l0_5.length c0_5] 24 (0,0)) (by (with_reducible repeat (first | refine blk_drewN ?_ _ | refine blk_drew ?_ | refine blk_alloc ?_ _));refine blk_far ?_ NB164_167.out _;(with_reducible repeat (first | refine blk_drewN ?_ _ | refine blk_drew ?_ | refine blk_alloc ?_ _));refine blk_far ?_ NB164_167.out _;(with_reducible repeat (first | refine blk_drewN ?_ _ | refine blk_drew ?_ | refine blk_alloc ?_ _));refine blk_far ?_ NB164_167.out _;(with_reducible repeat (first | refine blk_drewN ?_ _ | refine blk_drew ?_ | refine blk_alloc ?_ _));exact BK164.out) hb);have n1_ := Aside0.mk (blk_below (g := gb167) (o := .cells #[.int .u64 ((rd_T31 l1 x12_1).f0),.slice A166_1 ((rd_T31 l1 x12_1).f1).length c166_1,.slice A166_2 ((rd_T31 l1 x12_1).f2).length c166_2] 31 (0,0)) (by (with_reducible repeat (first | refine blk_drewN ?_ _ | refine blk_drew ?_ | refine blk_alloc ?_ _));refine blk_put (cs := #[.int .u64 ((rd_T31 l1 x12_1).f0),.slice A166_1 ((rd_T31 l1 x12_1).f1).length c166_1,.slice none 0 0]) ?_ 2 _ rfl;(with_reducible repeat (first | refine blk_drewN ?_ _ | refine blk_drew ?_ | refine blk_alloc ?_ _));refine blk_put (cs := #[.int .u64 ((rd_T31 l1 x12_1).f0),.slice none 0 0,.slice none 0 0]) ?_ 1 _ rfl;(with_reducible repeat (first | refine blk_drewN ?_ _ | refine blk_drew ?_ | refine blk_alloc ?_ _));refine blk_put (cs := #[.int .u64 0,.slice none 0 0,.slice none 0 0]) ?_ 0 _ rfl;(with_reducible repeat (first | refine blk_drewN ?_ _ | refine blk_drew ?_ | refine blk_alloc ?_ _));exact BK167.out) hb);have n2_ := Aside0.mk (below_step (by repeat (first | (with_reducible first | exact HB.out | apply below_alloc | apply pw_below_drewN | apply below_drew1 | refine below_set ?_ GE164.out | refine below_set ?_ GE167.out) | exact HB.out)) hb);clear BK164;clear BK167;clear HB;have BK164 := n0_;have BK167 := n1_;have HB := n2_;clear n0_ n1_ n2_;(try clear hb);(try clear hb2);(try clear hk);(try clear hi);have hcz32_0 : w31.cell? ⟨gb167,0,none⟩ = some (.int .u64 ((rd_T31 l1 x12_1).f0)) := (blk_cell BK167.out 0).trans rfl;have hcz32_1 : w31.cell? ⟨gb167,1,none⟩ = some (.slice A166_1 ((rd_T31 l1 x12_1).f1).length c166_1) := (blk_cell BK167.out 1).trans rfl;have hcz32_2 : w31.cell? ⟨gb167,2,none⟩ = some (.slice A166_2 ((rd_T31 l1 x12_1).f2).length c166_2) := (blk_cell BK167.out 2).trans rfl;have hfz32_0 := blk_frozen BK167.out 0;have hfz32_1 := blk_frozen BK167.out 1;have hfz32_2 := blk_frozen BK167.out 2) | (go_at_call 34;(with_reducible refine (passepartoutref05_Bytes.calls k1 ((rd_T31 l1 x12_1).f0) _ _ ((rd_T31 l1 x12_1).f1) _ _ ((rd_T31 l1 x12_1).f2) 20000 t169 _ ?side1 ?side2 ?side3 ?side4 A20.out).mono ?_);(case side1 => repeat (first | exact (Kd.C_below HR166_1.out HB.out) | (with_reducible refine Kd.C_alloc ?_ _) | (with_reducible refine Kd.C_drewN ?_ _) | (with_reducible refine Kd.C_drew ?_)));(case side2 => exact HC166_1.out);(case side3 => repeat (first | exact (Kd.C_below HR166_2.out HB.out) | (with_reducible refine Kd.C_alloc ?_ _) | (with_reducible refine Kd.C_drewN ?_ _) | (with_reducible refine Kd.C_drew ?_)));(case side4 => exact HC166_2.out);rintro e w33 ⟨rfl,hb⟩;have n0_ := Aside0.mk (blk_below (g := gb164) (o := .cells #[.int .i64 a0_0,.int .i64 a0_1,.int .i64 a0_2,.int .i64 a0_3,.int .i64 a0_4,.slice A0_5 l0_5.length c0_5] 24 (0,0)) (by (with_reducible repeat (first | refine blk_drewN ?_ _ | refine blk_drew ?_ | refine blk_alloc ?_ _));exact BK164.out) hb);have n1_ := Aside0.mk (blk_below (g := gb167) (o := .cells #[.int .u64 ((rd_T31 l1 x12_1).f0),.slice A166_1 ((rd_T31 l1 x12_1).f1).length c166_1,.slice A166_2 ((rd_T31 l1 x12_1).f2).length c166_2] 31 (0,0)) (by (with_reducible repeat (first | refine blk_drewN ?_ _ | refine blk_drew ?_ | refine blk_alloc ?_ _));exact BK167.out) hb);have n2_ := Aside0.mk (below_step (by repeat (first | (with_reducible first | exact HB.out | apply below_alloc | apply pw_below_drewN | apply below_drew1 | refine below_set ?_ GE164.out | refine below_set ?_ GE167.out) | exact HB.out)) hb);clear BK164;clear BK167;clear HB;have BK164 := n0_;have BK167 := n1_;have HB := n2_;clear n0_ n1_ n2_;(try clear hb);(try clear hb2);(try clear hk);(try clear hi)))
         go_roundg k1
         case measure => have := HK1.out;omega
         case rel => exact ⟨(wrap64 (x12_1 + 1)),(by first | rfl | (simp;done) | (simp [*];done)),H',⟨by have := HK1.out;omega⟩,⟨by (with_reducible repeat (first | refine blk_drewN ?_ _ | refine blk_drew ?_ | refine blk_alloc ?_ _));exact BK164.out⟩,⟨by repeat (first | (with_reducible first | exact HB.out | apply below_alloc | apply pw_below_drewN | apply below_drew1 | refine below_set ?_ GE164.out | refine below_set ?_ GE167.out) | exact HB.out)⟩⟩
      ·rw [if_neg c13] at H
       exact absurd H (by simp)
     ·rw [if_neg c12] at H
      exact absurd H (by simp)
    ·rw [if_neg c11] at H
     have c11b0 : decide (x12_1 < (l1.length : Int)) = false := decide_eq_false c11
     clear c11
     obtain rfl := Option.some.inj H
     go_wp2
     go_ret
     exact ⟨by first | rfl | (simp [errW_none,errW_some] <;> rfl) | (simp [*,errW_none,errW_some] <;> rfl),by repeat (first | (with_reducible first | exact HB.out | apply below_alloc | apply pw_below_drewN | apply below_drew1 | refine below_set ?_ GE164.out) | exact HB.out)⟩

end Go.Proofs.YtdhnfccgojgehaaDoor.QP

namespace Go.Proofs.YtdhnfccgojgehaaDoor.QP
open Go.RowKit Go.Proofs.YtdhnfccgojgehaaDoorW.PrintWords Go.Proofs.YtdhnfccgojgehaaDoorW.PrintLast Go.Proofs.YtdhnfccgojgehaaDoorW.PrintMore
attribute [local go_sem] max2_int min2_int max_two min_two max_three min_three max_four min_four   -- for this text's walks alone
set_option linter.unusedVariables false
set_option linter.unusedSimpArgs false

/-! ### passepartoutref05_Same: function 13 -/
mutual
def passepartoutref05_Same.j0 : Nat → Bool → Int → List Int → List (S31) → Int → List Int → List (S31) → Option (Bool)
 | 0,_,_,_,_,_,_,_ => none
 | k + 1,x29,x102000,x102001,x102002,x103000,x103001,x103002 => if x29 = true then (some false) else (passepartoutref05_Same.l0 k 0 x102000 x102001 x102002 x103000 x103001 x103002)
def passepartoutref05_Same.l0 : Nat → Int → Int → List Int → List (S31) → Int → List Int → List (S31) → Option (Bool)
 | 0,_,_,_,_,_,_,_ => none
 | k + 1,x5,x102000,x102001,x102002,x103000,x103001,x103002 => if x5 < (x102002.length : Int) then (if 0 ≤ x5 then (if x5 < (x103002.length : Int) then ((passepartoutref05_Same.f k ((rd_T31 x102002 x5).f0) ((rd_T31 x102002 x5).f1) ((rd_T31 x102002 x5).f2) ((rd_T31 x103002 x5).f0) ((rd_T31 x103002 x5).f1) ((rd_T31 x103002 x5).f2)).bind fun t105 => (if t105 = true then (passepartoutref05_Same.l0 k (wrap64 (x5 + 1)) x102000 x102001 x102002 x103000 x103001 x103002) else (some false))) else (none)) else (none)) else (some true)
def passepartoutref05_Same.f : Nat → Int → List Int → List (S31) → Int → List Int → List (S31) → Option (Bool)
 | 0,_,_,_,_,_,_ => none
 | k + 1,a0_0,l0_1,l0_2,a1_0,l1_1,l1_2 => if a0_0 = a1_0 then (if (strOfNums l0_1).toList = (strOfNums l1_1).toList then (passepartoutref05_Same.j0 k ((l0_2.length : Int) != (l1_2.length : Int)) a0_0 l0_1 l0_2 a1_0 l1_1 l1_2) else (passepartoutref05_Same.j0 k true a0_0 l0_1 l0_2 a1_0 l1_1 l1_2)) else (passepartoutref05_Same.j0 k true a0_0 l0_1 l0_2 a1_0 l1_1 l1_2)
end
theorem passepartoutref05_Same.mono_l : ∀ k,(∀ y0 y1 y2 y3 y4 y5,LeO (passepartoutref05_Same.f k y0 y1 y2 y3 y4 y5) (passepartoutref05_Same.f (k + 1) y0 y1 y2 y3 y4 y5)) ∧ (∀ y0 y1 y2 y3 y4 y5 y6,LeO (passepartoutref05_Same.j0 k y0 y1 y2 y3 y4 y5 y6) (passepartoutref05_Same.j0 (k + 1) y0 y1 y2 y3 y4 y5 y6)) ∧ (∀ y0 y1 y2 y3 y4 y5 y6,LeO (passepartoutref05_Same.l0 k y0 y1 y2 y3 y4 y5 y6) (passepartoutref05_Same.l0 (k + 1) y0 y1 y2 y3 y4 y5 y6))
 | 0 => ⟨fun _ _ _ _ _ _ r h => by simp [passepartoutref05_Same.f] at h,fun _ _ _ _ _ _ _ r h => by simp [passepartoutref05_Same.j0] at h,fun _ _ _ _ _ _ _ r h => by simp [passepartoutref05_Same.l0] at h⟩
 | k + 1 => by
  obtain ⟨ih0,ih1,ih2⟩ := passepartoutref05_Same.mono_l k
  refine ⟨?_,?_,?_⟩
  ·intro y0 y1 y2 y3 y4 y5
   unfold passepartoutref05_Same.f
   repeat' first
   | (with_reducible exact ih0 _ _ _ _ _ _)
   | (with_reducible exact ih1 _ _ _ _ _ _ _)
   | (with_reducible exact ih2 _ _ _ _ _ _ _)
   | (with_reducible exact LeO.refl _)
   | (with_reducible exact LeO.none _)
   | (with_reducible refine LeO.ite ?_ ?_)
   | (with_reducible refine LeO.bind ?_ (fun _ => ?_))
   | exact ih0 _ _ _ _ _ _
   | exact ih1 _ _ _ _ _ _ _
   | exact ih2 _ _ _ _ _ _ _
   | exact LeO.none _
   | refine LeO.ite ?_ ?_
   | refine LeO.bind ?_ (fun _ => ?_)
  ·intro y0 y1 y2 y3 y4 y5 y6
   unfold passepartoutref05_Same.j0
   repeat' first
   | (with_reducible exact ih0 _ _ _ _ _ _)
   | (with_reducible exact ih1 _ _ _ _ _ _ _)
   | (with_reducible exact ih2 _ _ _ _ _ _ _)
   | (with_reducible exact LeO.refl _)
   | (with_reducible exact LeO.none _)
   | (with_reducible refine LeO.ite ?_ ?_)
   | (with_reducible refine LeO.bind ?_ (fun _ => ?_))
   | exact ih0 _ _ _ _ _ _
   | exact ih1 _ _ _ _ _ _ _
   | exact ih2 _ _ _ _ _ _ _
   | exact LeO.none _
   | refine LeO.ite ?_ ?_
   | refine LeO.bind ?_ (fun _ => ?_)
  ·intro y0 y1 y2 y3 y4 y5 y6
   unfold passepartoutref05_Same.l0
   repeat' first
   | (with_reducible exact ih0 _ _ _ _ _ _)
   | (with_reducible exact ih1 _ _ _ _ _ _ _)
   | (with_reducible exact ih2 _ _ _ _ _ _ _)
   | (with_reducible exact LeO.refl _)
   | (with_reducible exact LeO.none _)
   | (with_reducible refine LeO.ite ?_ ?_)
   | (with_reducible refine LeO.bind ?_ (fun _ => ?_))
   | exact ih0 _ _ _ _ _ _
   | exact ih1 _ _ _ _ _ _ _
   | exact ih2 _ _ _ _ _ _ _
   | exact LeO.none _
   | refine LeO.ite ?_ ?_
   | refine LeO.bind ?_ (fun _ => ?_)
theorem passepartoutref05_Same.mono : ∀ a0 a1 a2 a3 a4 a5 k,LeO (passepartoutref05_Same.f k a0 a1 a2 a3 a4 a5) (passepartoutref05_Same.f (k + 1) a0 a1 a2 a3 a4 a5) := by
 intro a0 a1 a2 a3 a4 a5 k
 obtain ⟨ih0,ih1,ih2⟩ := passepartoutref05_Same.mono_l k
 exact ih0 a0 a1 a2 a3 a4 a5
def passepartoutref05_Same.T6 : Bool × List (List Nat × List Nat) := (true,[([],[]),([0],[0]),([],[]),([1,2],[1,2]),([3],[3]),([],[]),([5],[5]),([],[]),([6,7],[6,7]),([8],[8]),([4,9],[4,9]),([10,10,0,1,2,3,4,5,6,7,8,9,10],[10])])
def passepartoutref05_Same.B6 : List Nat := [0,1,0,7,15,0,32,0,224,480,1023,2047]
theorem passepartoutref05_Same.tab6 : rtab .any (opsOf Tryd.f13 6) = passepartoutref05_Same.T6 := by kernel_rfl
theorem passepartoutref05_Same.bits6 : waitsOk passepartoutref05_Same.T6.2 passepartoutref05_Same.B6 = true := by kernel_rfl
set_option maxHeartbeats 8000000 in
set_option maxRecDepth 100000 in
theorem passepartoutref05_Same.calls (k : Nat) : ∀ (a0_0 : Int) (A0_1 : Option Addr) (c0_1 : Nat) (l0_1 : List Int) (A0_2 : Option Addr) (c0_2 : Nat) (l0_2 : List (S31)) (a1_0 : Int) (A1_1 : Option Addr) (c1_1 : Nat) (l1_1 : List Int) (A1_2 : Option Addr) (c1_2 : Nat) (l1_2 : List (S31)) (r : Bool) (w : World) (hr0_1 : Kd.C (Kd.int .u8) w A0_1 l0_1.length l0_1) (hc0_1 : l0_1.length ≤ c0_1) (hr0_2 : Kd.C k31 w A0_2 l0_2.length l0_2) (hc0_2 : l0_2.length ≤ c0_2) (hr1_1 : Kd.C (Kd.int .u8) w A1_1 l1_1.length l1_1) (hc1_1 : l1_1.length ≤ c1_1) (hr1_2 : Kd.C k31 w A1_2 l1_2.length l1_2) (hc1_2 : l1_2.length ≤ c1_2) (h : passepartoutref05_Same.f k a0_0 l0_1 l0_2 a1_0 l1_1 l1_2 = some r),
  Calls Tryd.prog 13 #[.agg #[.int .u64 a0_0,.slice A0_1 l0_1.length c0_1,.slice A0_2 l0_2.length c0_2],.agg #[.int .u64 a1_0,.slice A1_1 l1_1.length c1_1,.slice A1_2 l1_2.length c1_2]] w fun e w' => e = .returned (.bool r) ∧ Below w.heap.size w w' := by
 induction k using Nat.strongRecOn with
 | _ k ih =>
 intro a0_0 A0_1 c0_1 l0_1 A0_2 c0_2 l0_2 a1_0 A1_1 c1_1 l1_1 A1_2 c1_2 l1_2 r w hr0_1 hc0_1 hr0_2 hc0_2 hr1_1 hc1_1 hr1_2 hc1_2 h
 cases k with
 | zero => exact absurd h (by simp [passepartoutref05_Same.f])
 | succ k =>
 simp only [passepartoutref05_Same.f] at h
 have hu31 := Tryd.underlying31
 have HR0_1 := Aside0.mk hr0_1
 have HC0_1 := Aside0.mk hc0_1
 clear hr0_1 hc0_1
 have HR0_2 := Aside0.mk hr0_2
 have HC0_2 := Aside0.mk hc0_2
 clear hr0_2 hc0_2
 have HR1_1 := Aside0.mk hr1_1
 have HC1_1 := Aside0.mk hc1_1
 clear hr1_1 hc1_1
 have HR1_2 := Aside0.mk hr1_2
 have HC1_2 := Aside0.mk hc1_2
 clear hr1_2 hc1_2
 have HB := Aside0.mk (Below.refl w.heap.size w)
 have H : (if a0_0 = a1_0 then (if (strOfNums l0_1).toList = (strOfNums l1_1).toList then (passepartoutref05_Same.j0 k ((l0_2.length : Int) != (l1_2.length : Int)) a0_0 l0_1 l0_2 a1_0 l1_1 l1_2) else (passepartoutref05_Same.j0 k true a0_0 l0_1 l0_2 a1_0 l1_1 l1_2)) else (passepartoutref05_Same.j0 k true a0_0 l0_1 l0_2 a1_0 l1_1 l1_2)) = some r := h
 clear h
 have HC3 := Aside0.mk H
 clear H
 go_enter Tryd.func13,Tryd.ntmps13
 go_upto_region 1 with (first | ((with_reducible refine gate_dst (N := 2) rfl ?_);(try (refine gate_guard (by rfl) ?_;dsimp only));refine box_event ?hg (N := 2) ?hd (cs := #[.int .u64 a0_0,.slice A0_1 l0_1.length c0_1,.slice A0_2 l0_2.length c0_2]) (t := 31) ?hr ?_;(case hd => rfl);(case hg => rfl);(case hr => first | (go_simp;done) | (go_simp;rfl));intro gb101 hg w4 hbox hb;have n0_ := Aside0.mk (below_step (by repeat (first | (with_reducible first | exact HB.out | apply below_alloc | apply pw_below_drewN | apply below_drew1) | exact HB.out)) hb);have n1_ := Aside0.mk (hbox);have n2_ := Aside0.mk ((by rw [hg];exact (below_size (by repeat (first | (with_reducible first | exact HB.out | apply below_alloc | apply pw_below_drewN | apply below_drew1) | exact HB.out))) : w.heap.size ≤ gb101));have n3_ := Aside0.mk ((by rw [hg];exact (below_size (by repeat (first | (with_reducible first | exact HB.out | apply below_alloc | apply pw_below_drewN | apply below_drew1) | exact HB.out))) : w.heap.size ≤ gb101));clear HB;have HB := n0_;have BK101 := n1_;have GW101 := n2_;have GE101 := n3_;clear n0_ n1_ n2_ n3_;clear hb hbox hg) | ((with_reducible refine gate_dst (N := 3) rfl ?_);(try (refine gate_guard (by rfl) ?_;dsimp only));refine box_event ?hg (N := 3) ?hd (cs := #[.int .u64 a1_0,.slice A1_1 l1_1.length c1_1,.slice A1_2 l1_2.length c1_2]) (t := 31) ?hr ?_;(case hd => rfl);(case hg => rfl);(case hr => first | (go_simp;done) | (go_simp;rfl));intro gb102 hg w5 hbox hb;have n0_ := Aside0.mk (blk_below (g := gb101) (o := .cells #[.int .u64 a0_0,.slice A0_1 l0_1.length c0_1,.slice A0_2 l0_2.length c0_2] 31 (0,0)) (by (with_reducible repeat (first | refine blk_drewN ?_ _ | refine blk_drew ?_ | refine blk_alloc ?_ _));exact BK101.out) hb);have n1_ := Aside0.mk (below_step (by repeat (first | (with_reducible first | exact HB.out | apply below_alloc | apply pw_below_drewN | apply below_drew1 | refine below_set ?_ GE101.out) | exact HB.out)) hb);have n2_ := Aside0.mk (hbox);have n3_ := Aside0.mk ((by rw [hg];exact (below_size (by repeat (first | (with_reducible first | exact HB.out | apply below_alloc | apply pw_below_drewN | apply below_drew1 | refine below_set ?_ GE101.out) | exact HB.out))) : w.heap.size ≤ gb102));have n4_ := Aside0.mk ((by rw [hg];exact (below_size (by repeat (first | (with_reducible first | exact HB.out | apply below_alloc | apply pw_below_drewN | apply below_drew1 | refine below_set ?_ GE101.out) | exact HB.out))) : w.heap.size ≤ gb102));have n5_ := Aside0.mk ((by rw [hg];exact Nat.ne_of_lt (blk_lt (g := gb101) (o := .cells #[.int .u64 a0_0,.slice A0_1 l0_1.length c0_1,.slice A0_2 l0_2.length c0_2] 31 (0,0)) (by (with_reducible repeat (first | refine blk_drewN ?_ _ | refine blk_drew ?_ | refine blk_alloc ?_ _));exact BK101.out)) : gb101 ≠ gb102));have n6_ := Aside0.mk ((by rw [hg];exact Nat.ne_of_gt (blk_lt (g := gb101) (o := .cells #[.int .u64 a0_0,.slice A0_1 l0_1.length c0_1,.slice A0_2 l0_2.length c0_2] 31 (0,0)) (by (with_reducible repeat (first | refine blk_drewN ?_ _ | refine blk_drew ?_ | refine blk_alloc ?_ _));exact BK101.out)) : gb102 ≠ gb101));clear BK101;clear HB;have BK101 := n0_;have HB := n1_;have BK102 := n2_;have GW102 := n3_;have GE102 := n4_;have NB101_102 := n5_;have NB102_101 := n6_;clear n0_ n1_ n2_ n3_ n4_ n5_ n6_;clear hb hbox hg))
 (try simp only [Act.put,List.setIfInBounds_toArray,List.set_cons_zero,List.set_cons_succ])
 go_cut [29] (fun v29 wc => ∃ (kq : Nat) (x29_2 : Bool),v29 = .bool x29_2 ∧ Aside0 (passepartoutref05_Same.j0 kq x29_2 a0_0 l0_1 l0_2 a1_0 l1_1 l1_2 = some r) ∧ Aside0 (kq ≤ k) ∧ Aside0 (wc.heap[gb101]? = some (.cells #[.int .u64 a0_0,(.slice A0_1 l0_1.length c0_1),(.slice A0_2 l0_2.length c0_2)] 31 (0,0))) ∧ Aside0 (wc.heap[gb102]? = some (.cells #[.int .u64 a1_0,(.slice A1_1 l1_1.length c1_1),(.slice A1_2 l1_2.length c1_2)] 31 (0,0))) ∧ Aside0 (Below w.heap.size w wc))
 case first =>
  have H := HC3.out
  clear HC3
  by_cases c6 : a0_0 = a1_0
  ·rw [if_pos c6] at H
   have c6b0 : (a0_0 == a1_0) = true := beq_iff_eq.mpr c6
   have c6b1 : (a0_0 != a1_0) = false := bne_eq_false_iff_eq.mpr c6
   clear c6
   (first | rw [c6b0] | (simp only [i64_w,i32_w];rw [c6b0]) | skip)
   by_cases c7 : (strOfNums l0_1).toList = (strOfNums l1_1).toList
   ·rw [if_pos c7] at H
    have c7b0 : ((strOfNums l0_1).toList == (strOfNums l1_1).toList) = true := beq_iff_eq.mpr c7
    have c7b1 : ((strOfNums l0_1).toList != (strOfNums l1_1).toList) = false := bne_eq_false_iff_eq.mpr c7
    clear c7
    have H' := Aside0.mk H
    clear H
    have hnb8 := NB101_102.out
    have hnc8 := NB102_101.out
    have hcz9_0 : w5.cell? ⟨gb101,0,none⟩ = some (.int .u64 a0_0) := (blk_cell BK101.out 0).trans rfl
    have hcz9_1 : w5.cell? ⟨gb101,1,none⟩ = some (.slice A0_1 l0_1.length c0_1) := (blk_cell BK101.out 1).trans rfl
    have hcz9_2 : w5.cell? ⟨gb101,2,none⟩ = some (.slice A0_2 l0_2.length c0_2) := (blk_cell BK101.out 2).trans rfl
    have hfz9_0 := blk_frozen BK101.out 0
    have hfz9_1 := blk_frozen BK101.out 1
    have hfz9_2 := blk_frozen BK101.out 2
    have hcz10_0 : w5.cell? ⟨gb102,0,none⟩ = some (.int .u64 a1_0) := (blk_cell BK102.out 0).trans rfl
    have hcz10_1 : w5.cell? ⟨gb102,1,none⟩ = some (.slice A1_1 l1_1.length c1_1) := (blk_cell BK102.out 1).trans rfl
    have hcz10_2 : w5.cell? ⟨gb102,2,none⟩ = some (.slice A1_2 l1_2.length c1_2) := (blk_cell BK102.out 2).trans rfl
    have hfz10_0 := blk_frozen BK102.out 0
    have hfz10_1 := blk_frozen BK102.out 1
    have hfz10_2 := blk_frozen BK102.out 2
    have hcv11 := Kd.C_string (P := Tryd.prog) (A := A0_1) (c := c0_1) Tryd.underlying25 Tryd.underlying5 Tryd.underlying9 (Kd.C_below HR0_1.out HB.out)
    have hcv12 := Kd.C_string (P := Tryd.prog) (A := A1_1) (c := c1_1) Tryd.underlying25 Tryd.underlying5 Tryd.underlying9 (Kd.C_below HR1_1.out HB.out)
    go_wp2
    go_meet
    case rel => exact ⟨_,(((l0_2.length : Int) != (l1_2.length : Int))),(by first | rfl | (simp;done) | (simp [*];done)),H',⟨by first | omega | exact Nat.le_refl _⟩,⟨by (with_reducible repeat (first | refine blk_drewN ?_ _ | refine blk_drew ?_ | refine blk_alloc ?_ _));exact BK101.out⟩,⟨by (with_reducible repeat (first | refine blk_drewN ?_ _ | refine blk_drew ?_ | refine blk_alloc ?_ _));exact BK102.out⟩,⟨by repeat (first | (with_reducible first | exact HB.out | apply below_alloc | apply pw_below_drewN | apply below_drew1 | refine below_set ?_ GE101.out | refine below_set ?_ GE102.out) | exact HB.out)⟩⟩
   ·rw [if_neg c7] at H
    have c7b0 : ((strOfNums l0_1).toList == (strOfNums l1_1).toList) = false := beq_eq_false_iff_ne.mpr c7
    have c7b1 : ((strOfNums l0_1).toList != (strOfNums l1_1).toList) = true := bne_iff_ne.mpr c7
    have H' := Aside0.mk H
    clear H
    have hnb13 := NB101_102.out
    have hnc13 := NB102_101.out
    have hcz14_0 : w5.cell? ⟨gb101,0,none⟩ = some (.int .u64 a0_0) := (blk_cell BK101.out 0).trans rfl
    have hcz14_1 : w5.cell? ⟨gb101,1,none⟩ = some (.slice A0_1 l0_1.length c0_1) := (blk_cell BK101.out 1).trans rfl
    have hcz14_2 : w5.cell? ⟨gb101,2,none⟩ = some (.slice A0_2 l0_2.length c0_2) := (blk_cell BK101.out 2).trans rfl
    have hfz14_0 := blk_frozen BK101.out 0
    have hfz14_1 := blk_frozen BK101.out 1
    have hfz14_2 := blk_frozen BK101.out 2
    have hcz15_0 : w5.cell? ⟨gb102,0,none⟩ = some (.int .u64 a1_0) := (blk_cell BK102.out 0).trans rfl
    have hcz15_1 : w5.cell? ⟨gb102,1,none⟩ = some (.slice A1_1 l1_1.length c1_1) := (blk_cell BK102.out 1).trans rfl
    have hcz15_2 : w5.cell? ⟨gb102,2,none⟩ = some (.slice A1_2 l1_2.length c1_2) := (blk_cell BK102.out 2).trans rfl
    have hfz15_0 := blk_frozen BK102.out 0
    have hfz15_1 := blk_frozen BK102.out 1
    have hfz15_2 := blk_frozen BK102.out 2
    have hcv16 := Kd.C_string (P := Tryd.prog) (A := A0_1) (c := c0_1) Tryd.underlying25 Tryd.underlying5 Tryd.underlying9 (Kd.C_below HR0_1.out HB.out)
    have hcv17 := Kd.C_string (P := Tryd.prog) (A := A1_1) (c := c1_1) Tryd.underlying25 Tryd.underlying5 Tryd.underlying9 (Kd.C_below HR1_1.out HB.out)
    go_wp2
    go_meet
    case rel => exact ⟨_,(true),(by first | rfl | (simp;done) | (simp [*];done)),H',⟨by first | omega | exact Nat.le_refl _⟩,⟨by (with_reducible repeat (first | refine blk_drewN ?_ _ | refine blk_drew ?_ | refine blk_alloc ?_ _));exact BK101.out⟩,⟨by (with_reducible repeat (first | refine blk_drewN ?_ _ | refine blk_drew ?_ | refine blk_alloc ?_ _));exact BK102.out⟩,⟨by repeat (first | (with_reducible first | exact HB.out | apply below_alloc | apply pw_below_drewN | apply below_drew1 | refine below_set ?_ GE101.out | refine below_set ?_ GE102.out) | exact HB.out)⟩⟩
  ·rw [if_neg c6] at H
   have c6b0 : (a0_0 == a1_0) = false := beq_eq_false_iff_ne.mpr c6
   have c6b1 : (a0_0 != a1_0) = true := bne_iff_ne.mpr c6
   (first | rw [c6b0] | (simp only [i64_w,i32_w];rw [c6b0]) | skip)
   have H' := Aside0.mk H
   clear H
   have hnb18 := NB101_102.out
   have hnc18 := NB102_101.out
   have hcz19_0 : w5.cell? ⟨gb101,0,none⟩ = some (.int .u64 a0_0) := (blk_cell BK101.out 0).trans rfl
   have hcz19_1 : w5.cell? ⟨gb101,1,none⟩ = some (.slice A0_1 l0_1.length c0_1) := (blk_cell BK101.out 1).trans rfl
   have hcz19_2 : w5.cell? ⟨gb101,2,none⟩ = some (.slice A0_2 l0_2.length c0_2) := (blk_cell BK101.out 2).trans rfl
   have hfz19_0 := blk_frozen BK101.out 0
   have hfz19_1 := blk_frozen BK101.out 1
   have hfz19_2 := blk_frozen BK101.out 2
   have hcz20_0 : w5.cell? ⟨gb102,0,none⟩ = some (.int .u64 a1_0) := (blk_cell BK102.out 0).trans rfl
   have hcz20_1 : w5.cell? ⟨gb102,1,none⟩ = some (.slice A1_1 l1_1.length c1_1) := (blk_cell BK102.out 1).trans rfl
   have hcz20_2 : w5.cell? ⟨gb102,2,none⟩ = some (.slice A1_2 l1_2.length c1_2) := (blk_cell BK102.out 2).trans rfl
   have hfz20_0 := blk_frozen BK102.out 0
   have hfz20_1 := blk_frozen BK102.out 1
   have hfz20_2 := blk_frozen BK102.out 2
   go_wp2
   go_meet
   case rel => exact ⟨_,(true),(by first | rfl | (simp;done) | (simp [*];done)),H',⟨by first | omega | exact Nat.le_refl _⟩,⟨by (with_reducible repeat (first | refine blk_drewN ?_ _ | refine blk_drew ?_ | refine blk_alloc ?_ _));exact BK101.out⟩,⟨by (with_reducible repeat (first | refine blk_drewN ?_ _ | refine blk_drew ?_ | refine blk_alloc ?_ _));exact BK102.out⟩,⟨by repeat (first | (with_reducible first | exact HB.out | apply below_alloc | apply pw_below_drewN | apply below_drew1 | refine below_set ?_ GE101.out | refine below_set ?_ GE102.out) | exact HB.out)⟩⟩
 case rest =>
  clear HC3
  try clear c1
  try clear hcv1
  try clear p2
  try clear c6
  try clear c6b0
  try clear c6b1
  try clear c7
  try clear c7b0
  try clear c7b1
  try clear c8
  try clear hcv11
  try clear hcv12
  try clear c13
  try clear hcv16
  try clear hcv17
  try clear c18
  try clear hcz10_0
  try clear hcz10_1
  try clear hcz10_2
  try clear hcz14_0
  try clear hcz14_1
  try clear hcz14_2
  try clear hcz15_0
  try clear hcz15_1
  try clear hcz15_2
  try clear hcz19_0
  try clear hcz19_1
  try clear hcz19_2
  try clear hcz20_0
  try clear hcz20_1
  try clear hcz20_2
  try clear hcz9_0
  try clear hcz9_1
  try clear hcz9_2
  try clear hfz10_0
  try clear hfz10_1
  try clear hfz10_2
  try clear hfz14_0
  try clear hfz14_1
  try clear hfz14_2
  try clear hfz15_0
  try clear hfz15_1
  try clear hfz15_2
  try clear hfz19_0
  try clear hfz19_1
  try clear hfz19_2
  try clear hfz20_0
  try clear hfz20_1
  try clear hfz20_2
  try clear hfz9_0
  try clear hfz9_1
  try clear hfz9_2
  obtain ⟨kq,x29_2,rfl,HA,HJ2,BK101,BK102,HB⟩ := hcut
  cases kq with
  | zero => exact absurd HA.out (by simp [passepartoutref05_Same.j0])
  | succ kj2 =>
   have H := HA.out
   clear HA
   simp only [passepartoutref05_Same.j0] at H
   by_cases c21 : x29_2 = true
   ·subst c21
    have H1 : (some false) = some r := by rw [if_pos rfl] at H;exact H
    clear H
    have H := H1
    clear H1
    obtain rfl := Option.some.inj H
    go_wp2
    go_ret
    exact ⟨by first | rfl | (simp [errW_none,errW_some] <;> rfl) | (simp [*,errW_none,errW_some] <;> rfl),by repeat (first | (with_reducible first | exact HB.out | apply below_alloc | apply pw_below_drewN | apply below_drew1 | refine below_set ?_ GE101.out | refine below_set ?_ GE102.out) | exact HB.out)⟩
   ·replace c21 := Bool.eq_false_iff.mpr c21
    subst c21
    have H1 : (passepartoutref05_Same.l0 kj2 0 a0_0 l0_1 l0_2 a1_0 l1_1 l1_2) = some r := by rw [if_neg (show ¬ (false = true) by decide)] at H;exact H
    clear H
    have H := H1
    clear H1
    have H' := Aside0.mk H
    clear H
    go_wp2
    go_loopg [5] kj2 (fun kq v5 w' => ∃ (x5_2 : Int),v5 = .int .i64 x5_2 ∧ Aside0 (passepartoutref05_Same.l0 kq x5_2 a0_0 l0_1 l0_2 a1_0 l1_1 l1_2 = some r) ∧ Aside0 (kq ≤ kj2) ∧ Aside0 (w'.heap[gb101]? = some (.cells #[.int .u64 a0_0,(.slice A0_1 l0_1.length c0_1),(.slice A0_2 l0_2.length c0_2)] 31 (0,0))) ∧ Aside0 (w'.heap[gb102]? = some (.cells #[.int .u64 a1_0,(.slice A1_1 l1_1.length c1_1),(.slice A1_2 l1_2.length c1_2)] 31 (0,0))) ∧ Aside0 (Below w.heap.size w w'))
    case atStart => exact ⟨(0),(by first | rfl | (simp;done) | (simp [*];done)),H',⟨Nat.le_refl _⟩,⟨by (with_reducible repeat (first | refine blk_drewN ?_ _ | refine blk_drew ?_ | refine blk_alloc ?_ _));exact BK101.out⟩,⟨by (with_reducible repeat (first | refine blk_drewN ?_ _ | refine blk_drew ?_ | refine blk_alloc ?_ _));exact BK102.out⟩,⟨by repeat (first | (with_reducible first | exact HB.out | apply below_alloc | apply pw_below_drewN | apply below_drew1 | refine below_set ?_ GE101.out | refine below_set ?_ GE102.out) | exact HB.out)⟩⟩
    case round =>
     clear H'
     try clear c1
     try clear hcv1
     try clear c2
     try clear p2
     try clear c6
     try clear c6b0
     try clear c6b1
     try clear c7
     try clear c7b0
     try clear c7b1
     try clear c8
     try clear hcv11
     try clear hcv12
     try clear c13
     try clear hcv16
     try clear hcv17
     try clear c18
     try clear c21
     try clear hcz10_0
     try clear hcz10_1
     try clear hcz10_2
     try clear hcz14_0
     try clear hcz14_1
     try clear hcz14_2
     try clear hcz15_0
     try clear hcz15_1
     try clear hcz15_2
     try clear hcz19_0
     try clear hcz19_1
     try clear hcz19_2
     try clear hcz20_0
     try clear hcz20_1
     try clear hcz20_2
     try clear hcz9_0
     try clear hcz9_1
     try clear hcz9_2
     try clear hfz10_0
     try clear hfz10_1
     try clear hfz10_2
     try clear hfz14_0
     try clear hfz14_1
     try clear hfz14_2
     try clear hfz15_0
     try clear hfz15_1
     try clear hfz15_2
     try clear hfz19_0
     try clear hfz19_1
     try clear hfz19_2
     try clear hfz20_0
     try clear hfz20_1
     try clear hfz20_2
     try clear hfz9_0
     try clear hfz9_1
     try clear hfz9_2
     try clear p2
     obtain ⟨x5_2,rfl,HA,HK2,BK101,BK102,HB⟩ := hrel
     cases gk with
     | zero => exact absurd HA.out (by simp [passepartoutref05_Same.l0])
     | succ k2 =>
      have H := HA.out
      clear HA
      simp only [passepartoutref05_Same.l0] at H
      by_cases c22 : x5_2 < (l0_2.length : Int)
      ·rw [if_pos c22] at H
       have c22b0 : decide (x5_2 < (l0_2.length : Int)) = true := decide_eq_true c22
       clear c22
       by_cases c23 : 0 ≤ x5_2
       ·rw [if_pos c23] at H
        have c23b0 : decide (0 ≤ x5_2) = true := decide_eq_true c23
        clear c23
        by_cases c24 : x5_2 < (l1_2.length : Int)
        ·rw [if_pos c24] at H
         have c24b0 : decide (x5_2 < (l1_2.length : Int)) = true := decide_eq_true c24
         clear c24
         replace H := Option.bind_eq_some_iff.mp H
         obtain ⟨t105,A250,H⟩ := H
         replace H : (if t105 = true then (passepartoutref05_Same.l0 k2 (wrap64 (x5_2 + 1)) a0_0 l0_1 l0_2 a1_0 l1_1 l1_2) else (some false)) = some r := H
         have A25 := Aside0.mk A250
         clear A250
         by_cases c26 : t105 = true
         ·subst c26
          have H1 : (passepartoutref05_Same.l0 k2 (wrap64 (x5_2 + 1)) a0_0 l0_1 l0_2 a1_0 l1_1 l1_2) = some r := by rw [if_pos rfl] at H;exact H
          clear H
          have H := H1
          clear H1
          have H' := Aside0.mk H
          clear H
          have hnb27 := NB101_102.out
          have hnc27 := NB102_101.out
          have hcz28_0 : wr.cell? ⟨gb101,0,none⟩ = some (.int .u64 a0_0) := (blk_cell BK101.out 0).trans rfl
          have hcz28_1 : wr.cell? ⟨gb101,1,none⟩ = some (.slice A0_1 l0_1.length c0_1) := (blk_cell BK101.out 1).trans rfl
          have hcz28_2 : wr.cell? ⟨gb101,2,none⟩ = some (.slice A0_2 l0_2.length c0_2) := (blk_cell BK101.out 2).trans rfl
          have hfz28_0 := blk_frozen BK101.out 0
          have hfz28_1 := blk_frozen BK101.out 1
          have hfz28_2 := blk_frozen BK101.out 2
          try go_wp2
          have n0_ := Aside0.mk (blk_drew BK101.out)
          have n1_ := Aside0.mk (blk_drew BK102.out)
          have n2_ := Aside0.mk (below_drew1 HB.out)
          clear BK101
          clear BK102
          clear HB
          have BK101 := n0_
          have BK102 := n1_
          have HB := n2_
          clear n0_ n1_ n2_
          have p103 : 0 ≤ (x5_2 : Int) := of_decide_eq_true (by first | (with_reducible assumption) | assumption)
          have q103 : x5_2 < (l0_2.length : Int) := of_decide_eq_true (by first | (with_reducible assumption) | assumption)
          obtain ⟨ad103,A103_1,c103_1,A103_2,c103_2,e103,hx103_0,hx103_1,hx103_2,hl103_1,hi103_1,hl103_2,hi103_2⟩ := at_T31 HR0_2.out x5_2 p103 q103
          have hw103_2 := hx103_2
          have hw103_1 := hx103_1
          have hw103_0 := hx103_0
          cases e103
          replace hx103_0 := (HB.out.cell (World.block_lt_of_cell? w _ hx103_0)).trans hx103_0
          replace hx103_1 := (HB.out.cell (World.block_lt_of_cell? w _ hx103_1)).trans hx103_1
          replace hx103_2 := (HB.out.cell (World.block_lt_of_cell? w _ hx103_2)).trans hx103_2
          have HR103_1 := Aside0.mk hi103_1
          have HC103_1 := Aside0.mk hl103_1
          clear hi103_1 hl103_1
          have HR103_2 := Aside0.mk hi103_2
          have HC103_2 := Aside0.mk hl103_2
          clear hi103_2 hl103_2
          replace p103 := eq_true p103
          replace q103 := eq_true q103
          have p104 : 0 ≤ (x5_2 : Int) := of_decide_eq_true (by first | (with_reducible assumption) | assumption)
          have q104 : x5_2 < (l1_2.length : Int) := of_decide_eq_true (by first | (with_reducible assumption) | assumption)
          obtain ⟨ad104,A104_1,c104_1,A104_2,c104_2,e104,hx104_0,hx104_1,hx104_2,hl104_1,hi104_1,hl104_2,hi104_2⟩ := at_T31 HR1_2.out x5_2 p104 q104
          have hw104_2 := hx104_2
          have hw104_1 := hx104_1
          have hw104_0 := hx104_0
          cases e104
          replace hx104_0 := (HB.out.cell (World.block_lt_of_cell? w _ hx104_0)).trans hx104_0
          replace hx104_1 := (HB.out.cell (World.block_lt_of_cell? w _ hx104_1)).trans hx104_1
          replace hx104_2 := (HB.out.cell (World.block_lt_of_cell? w _ hx104_2)).trans hx104_2
          have HR104_1 := Aside0.mk hi104_1
          have HC104_1 := Aside0.mk hl104_1
          clear hi104_1 hl104_1
          have HR104_2 := Aside0.mk hi104_2
          have HC104_2 := Aside0.mk hl104_2
          clear hi104_2 hl104_2
          replace p104 := eq_true p104
          replace q104 := eq_true q104
          refine start_ (n := 12) (S := fun w' => w'.cell? ⟨gb101,0,none⟩ = some (.int .u64 a0_0) ∧ w'.cell? ⟨gb101,1,none⟩ = some (.slice A0_1 l0_1.length c0_1) ∧ w'.cell? ⟨gb101,2,none⟩ = some (.slice (some ad103) l0_2.length c0_2) ∧ w'.cell? ⟨gb102,0,none⟩ = some (.int .u64 a1_0) ∧ w'.cell? ⟨gb102,1,none⟩ = some (.slice A1_1 l1_1.length c1_1) ∧ w'.cell? ⟨gb102,2,none⟩ = some (.slice (some ad104) l1_2.length c1_2) ∧ w'.cell? (ad103.add ((x5_2).toNat * 3)) = some (.int .u64 ((rd_T31 l0_2 x5_2).f0)) ∧ w'.cell? ⟨(ad103.add ((x5_2).toNat * 3)).block,(ad103.add ((x5_2).toNat * 3)).off + 1,none⟩ = some (.slice A103_1 ((rd_T31 l0_2 x5_2).f1).length c103_1) ∧ w'.cell? ⟨(ad103.add ((x5_2).toNat * 3)).block,(ad103.add ((x5_2).toNat * 3)).off + 2,none⟩ = some (.slice A103_2 ((rd_T31 l0_2 x5_2).f2).length c103_2) ∧ w'.cell? (ad104.add ((x5_2).toNat * 3)) = some (.int .u64 ((rd_T31 l1_2 x5_2).f0)) ∧ w'.cell? ⟨(ad104.add ((x5_2).toNat * 3)).block,(ad104.add ((x5_2).toNat * 3)).off + 1,none⟩ = some (.slice A104_1 ((rd_T31 l1_2 x5_2).f1).length c104_1) ∧ w'.cell? ⟨(ad104.add ((x5_2).toNat * 3)).block,(ad104.add ((x5_2).toNat * 3)).off + 2,none⟩ = some (.slice A104_2 ((rd_T31 l1_2 x5_2).f2).length c104_2)) (ds := []) #[false,false,false,false,false,false,false,false,false,false,false,false] (by kernel_rfl) rfl rfl ⟨(blk_cell BK101.out 0).trans rfl,(blk_cell BK101.out 1).trans rfl,(blk_cell BK101.out 2).trans rfl,(blk_cell BK102.out 0).trans rfl,(blk_cell BK102.out 1).trans rfl,(blk_cell BK102.out 2).trans rfl,((HB.out.cell (World.block_lt_of_cell? w _ hw103_0)).trans hw103_0),((HB.out.cell (World.block_lt_of_cell? w _ hw103_1)).trans hw103_1),((HB.out.cell (World.block_lt_of_cell? w _ hw103_2)).trans hw103_2),((HB.out.cell (World.block_lt_of_cell? w _ hw104_0)).trans hw104_0),((HB.out.cell (World.block_lt_of_cell? w _ hw104_1)).trans hw104_1),((HB.out.cell (World.block_lt_of_cell? w _ hw104_2)).trans hw104_2)⟩ (fun hHeld => ?_);refine with_tabW passepartoutref05_Same.tab6 passepartoutref05_Same.bits6 (fun HT_ HW_ => ?_)
          generalize wr.drew = w29 at BK101 BK102 HB HR103_1 HR103_2 HR104_1 HR104_2 hx103_0 hx103_1 hx103_2 hx104_0 hx104_1 hx104_2 hHeld ⊢
          refine pure_ (i := 0) (N := some 37) (v := ?_) (a' := ?_) #[true,false,false,false,false,false,false,false,false,false,false,false] rfl rfl (any_of HT_.out (by kernel_rfl)) (fun _ _ _ h => h) (Or.inl ⟨by rfl,?_⟩) ?_ ?_
          rotate_left
          ·intro w'
           go_simp
           with_reducible rfl
          rotate_left
          ·simp only [Act.put,List.setIfInBounds_toArray,List.set_cons_zero,List.set_cons_succ,i64_w,i32_w]
           rfl
          refine pure_ (i := 2) (N := some 39) (v := ?_) (a' := ?_) #[true,false,true,false,false,false,false,false,false,false,false,false] rfl rfl (any_of HT_.out (by kernel_rfl)) (fun _ _ _ h => h) (Or.inl ⟨by rfl,?_⟩) ?_ ?_
          rotate_left
          ·intro w'
           go_simp
           with_reducible rfl
          rotate_left
          ·simp only [Act.put,List.setIfInBounds_toArray,List.set_cons_zero,List.set_cons_succ,i64_w,i32_w]
           rfl
          refine pure_ (i := 5) (N := some 42) (v := ?_) (a' := ?_) #[true,false,true,false,false,true,false,false,false,false,false,false] rfl rfl (any_of HT_.out (by kernel_rfl)) (fun _ _ _ h => h) (Or.inl ⟨by rfl,?_⟩) ?_ ?_
          rotate_left
          ·intro w'
           go_simp
           with_reducible rfl
          rotate_left
          ·simp only [Act.put,List.setIfInBounds_toArray,List.set_cons_zero,List.set_cons_succ,i64_w,i32_w]
           rfl
          refine pure_ (i := 7) (N := some 44) (v := ?_) (a' := ?_) #[true,false,true,false,false,true,false,true,false,false,false,false] rfl rfl (any_of HT_.out (by kernel_rfl)) (fun _ _ _ h => h) (Or.inl ⟨by rfl,?_⟩) ?_ ?_
          rotate_left
          ·intro w'
           go_simp
           with_reducible rfl
          rotate_left
          ·simp only [Act.put,List.setIfInBounds_toArray,List.set_cons_zero,List.set_cons_succ,i64_w,i32_w]
           rfl
          refine take_ (i := 1) (N := some 38) (v := ?_) (a' := ?_) #[true,true,true,false,false,true,false,true,false,false,false,false] rfl rfl (take_ofW HT_.out HW_.out (by kernel_rfl)) (fun _ _ _ h => h) (Or.inl ⟨by rfl,?_⟩) hHeld ?_ ?_
          rotate_left
          ·rintro w' ⟨s0,s1,s2,s3,s4,s5,s6,s7,s8,s9,s10,s11⟩
           go_simp
           with_reducible rfl
          rotate_left
          ·simp only [Act.put,List.setIfInBounds_toArray,List.set_cons_zero,List.set_cons_succ,i64_w,i32_w]
           rfl
          refine pure_ (i := 3) (N := some 40) (v := ?_) (a' := ?_) #[true,true,true,true,false,true,false,true,false,false,false,false] rfl rfl (any_of HT_.out (by kernel_rfl)) (fun _ _ _ h => h) (Or.inl ⟨by rfl,?_⟩) ?_ ?_
          rotate_left
          ·intro w'
           go_simp
           with_reducible rfl
          rotate_left
          ·simp only [Act.put,List.setIfInBounds_toArray,List.set_cons_zero,List.set_cons_succ,i64_w,i32_w]
           rfl
          refine take_ (i := 4) (N := some 41) (v := ?_) (a' := ?_) #[true,true,true,true,true,true,false,true,false,false,false,false] rfl rfl (take_ofW HT_.out HW_.out (by kernel_rfl)) (fun _ _ _ h => h) (Or.inl ⟨by rfl,?_⟩) hHeld ?_ ?_
          rotate_left
          ·rintro w' ⟨s0,s1,s2,s3,s4,s5,s6,s7,s8,s9,s10,s11⟩
           go_simp
           with_reducible rfl
          rotate_left
          ·simp only [Act.put,List.setIfInBounds_toArray,List.set_cons_zero,List.set_cons_succ,i64_w,i32_w]
           rfl
          refine take_ (i := 6) (N := some 43) (v := ?_) (a' := ?_) #[true,true,true,true,true,true,true,true,false,false,false,false] rfl rfl (take_ofW HT_.out HW_.out (by kernel_rfl)) (fun _ _ _ h => h) (Or.inl ⟨by rfl,?_⟩) hHeld ?_ ?_
          rotate_left
          ·rintro w' ⟨s0,s1,s2,s3,s4,s5,s6,s7,s8,s9,s10,s11⟩
           go_simp
           with_reducible rfl
          rotate_left
          ·simp only [Act.put,List.setIfInBounds_toArray,List.set_cons_zero,List.set_cons_succ,i64_w,i32_w]
           rfl
          refine pure_ (i := 8) (N := some 45) (v := ?_) (a' := ?_) #[true,true,true,true,true,true,true,true,true,false,false,false] rfl rfl (any_of HT_.out (by kernel_rfl)) (fun _ _ _ h => h) (Or.inl ⟨by rfl,?_⟩) ?_ ?_
          rotate_left
          ·intro w'
           go_simp
           with_reducible rfl
          rotate_left
          ·simp only [Act.put,List.setIfInBounds_toArray,List.set_cons_zero,List.set_cons_succ,i64_w,i32_w]
           rfl
          refine take_ (i := 9) (N := some 46) (v := ?_) (a' := ?_) #[true,true,true,true,true,true,true,true,true,true,false,false] rfl rfl (take_ofW HT_.out HW_.out (by kernel_rfl)) (fun _ _ _ h => h) (Or.inl ⟨by rfl,?_⟩) hHeld ?_ ?_
          rotate_left
          ·rintro w' ⟨s0,s1,s2,s3,s4,s5,s6,s7,s8,s9,s10,s11⟩
           go_simp
           with_reducible rfl
          rotate_left
          ·simp only [Act.put,List.setIfInBounds_toArray,List.set_cons_zero,List.set_cons_succ,i64_w,i32_w]
           rfl
          refine one_ (i := 10) (N := some 47) #[true,true,true,true,true,true,true,true,true,true,true,false] rfl rfl (one_of HT_.out (by kernel_rfl)) (by decide) (fun K hK => ?_)
          refine goes_ Tryd.func13 (by kernel_rfl) rfl #[.agg #[.int .u64 ((rd_T31 l0_2 x5_2).f0),.slice A103_1 ((rd_T31 l0_2 x5_2).f1).length c103_1,.slice A103_2 ((rd_T31 l0_2 x5_2).f2).length c103_2],.agg #[.int .u64 ((rd_T31 l1_2 x5_2).f0),.slice A104_1 ((rd_T31 l1_2 x5_2).f1).length c104_1,.slice A104_2 ((rd_T31 l1_2 x5_2).f2).length c104_2]] (by rfl) rfl rfl (by (try simp only [List.map_toArray,List.map_cons,List.map_nil]);first | done | rfl | (simp only [List.length_drop,List.length_take];rfl)) ?_
          with_reducible refine (ih k2 (by have := HJ2.out;have := HK2.out;omega) ((rd_T31 l0_2 x5_2).f0) _ _ ((rd_T31 l0_2 x5_2).f1) _ _ ((rd_T31 l0_2 x5_2).f2) ((rd_T31 l1_2 x5_2).f0) _ _ ((rd_T31 l1_2 x5_2).f1) _ _ ((rd_T31 l1_2 x5_2).f2) true _ ?side1 ?side2 ?side3 ?side4 ?side5 ?side6 ?side7 ?side8 A25.out).mono ?_
          (case side1 => repeat (first | exact (Kd.C_below HR103_1.out HB.out) | (with_reducible refine Kd.C_alloc ?_ _) | (with_reducible refine Kd.C_drewN ?_ _) | (with_reducible refine Kd.C_drew ?_)))
          (case side2 => exact HC103_1.out)
          (case side3 => repeat (first | exact (Kd.C_below HR103_2.out HB.out) | (with_reducible refine Kd.C_alloc ?_ _) | (with_reducible refine Kd.C_drewN ?_ _) | (with_reducible refine Kd.C_drew ?_)))
          (case side4 => exact HC103_2.out)
          (case side5 => repeat (first | exact (Kd.C_below HR104_1.out HB.out) | (with_reducible refine Kd.C_alloc ?_ _) | (with_reducible refine Kd.C_drewN ?_ _) | (with_reducible refine Kd.C_drew ?_)))
          (case side6 => exact HC104_1.out)
          (case side7 => repeat (first | exact (Kd.C_below HR104_2.out HB.out) | (with_reducible refine Kd.C_alloc ?_ _) | (with_reducible refine Kd.C_drewN ?_ _) | (with_reducible refine Kd.C_drew ?_)))
          (case side8 => exact HC104_2.out)
          rintro e w30 ⟨rfl,hb⟩
          refine ⟨_,rfl,?_⟩
          have n0_ := Aside0.mk (blk_below (g := gb101) (o := .cells #[.int .u64 a0_0,.slice A0_1 l0_1.length c0_1,.slice (some ad103) l0_2.length c0_2] 31 (0,0)) (by (with_reducible repeat (first | refine blk_drewN ?_ _ | refine blk_drew ?_ | refine blk_alloc ?_ _));exact BK101.out) hb)
          have n1_ := Aside0.mk (blk_below (g := gb102) (o := .cells #[.int .u64 a1_0,.slice A1_1 l1_1.length c1_1,.slice (some ad104) l1_2.length c1_2] 31 (0,0)) (by (with_reducible repeat (first | refine blk_drewN ?_ _ | refine blk_drew ?_ | refine blk_alloc ?_ _));exact BK102.out) hb)
          have n2_ := Aside0.mk (below_step (by repeat (first | (with_reducible first | exact HB.out | apply below_alloc | apply pw_below_drewN | apply below_drew1 | refine below_set ?_ GE101.out | refine below_set ?_ GE102.out) | exact HB.out)) hb)
          clear BK101
          clear BK102
          clear HB
          have BK101 := n0_
          have BK102 := n1_
          have HB := n2_
          clear n0_ n1_ n2_
          (try clear hb)
          (try clear hb2)
          (try clear hk)
          (try clear hi)
          refine hK.out _ _ ⟨(blk_cell BK101.out 0).trans rfl,(blk_cell BK101.out 1).trans rfl,(blk_cell BK101.out 2).trans rfl,(blk_cell BK102.out 0).trans rfl,(blk_cell BK102.out 1).trans rfl,(blk_cell BK102.out 2).trans rfl,((HB.out.cell (World.block_lt_of_cell? w _ hw103_0)).trans hw103_0),((HB.out.cell (World.block_lt_of_cell? w _ hw103_1)).trans hw103_1),((HB.out.cell (World.block_lt_of_cell? w _ hw103_2)).trans hw103_2),((HB.out.cell (World.block_lt_of_cell? w _ hw104_0)).trans hw104_0),((HB.out.cell (World.block_lt_of_cell? w _ hw104_1)).trans hw104_1),((HB.out.cell (World.block_lt_of_cell? w _ hw104_2)).trans hw104_2)⟩ (fun hHeld => ?_)
          clear hK K
          refine norm_ (a' := ?_) ?_ ?_
          rotate_left
          ·show Act.put _ (some 47) _ = _
           simp only [Act.put,List.setIfInBounds_toArray,List.set_cons_zero,List.set_cons_succ,i64_w,i32_w]
           rfl
          refine pure_ (i := 11) (N := some 6) (v := ?_) (a' := ?_) #[true,true,true,true,true,true,true,true,true,true,true,true] rfl rfl (any_of HT_.out (by kernel_rfl)) (fun _ _ _ h => h) (Or.inl ⟨by rfl,?_⟩) ?_ ?_
          rotate_left
          ·intro w'
           go_simp
           with_reducible rfl
          rotate_left
          ·simp only [Act.put,List.setIfInBounds_toArray,List.set_cons_zero,List.set_cons_succ,i64_w,i32_w]
           rfl
          refine done_ (done_of HT_.out (by kernel_rfl)) ?_
          try go_wp2
          go_roundg k2
          case measure => have := HJ2.out;have := HK2.out;omega
          case rel => exact ⟨(wrap64 (x5_2 + 1)),(by first | rfl | (simp;done) | (simp [*];done)),H',⟨by have := HJ2.out;have := HK2.out;omega⟩,⟨by (with_reducible repeat (first | refine blk_drewN ?_ _ | refine blk_drew ?_ | refine blk_alloc ?_ _));exact BK101.out⟩,⟨by (with_reducible repeat (first | refine blk_drewN ?_ _ | refine blk_drew ?_ | refine blk_alloc ?_ _));exact BK102.out⟩,⟨by repeat (first | (with_reducible first | exact HB.out | apply below_alloc | apply pw_below_drewN | apply below_drew1 | refine below_set ?_ GE101.out | refine below_set ?_ GE102.out) | exact HB.out)⟩⟩
         ·replace c26 := Bool.eq_false_iff.mpr c26
          subst c26
          have H1 : (some false) = some r := by rw [if_neg (show ¬ (false = true) by decide)] at H;exact H
          clear H
          have H := H1
          clear H1
          obtain rfl := Option.some.inj H
          have hnb31 := NB101_102.out
          have hnc31 := NB102_101.out
          have hcz32_0 : wr.cell? ⟨gb101,0,none⟩ = some (.int .u64 a0_0) := (blk_cell BK101.out 0).trans rfl
          have hcz32_1 : wr.cell? ⟨gb101,1,none⟩ = some (.slice A0_1 l0_1.length c0_1) := (blk_cell BK101.out 1).trans rfl
          have hcz32_2 : wr.cell? ⟨gb101,2,none⟩ = some (.slice A0_2 l0_2.length c0_2) := (blk_cell BK101.out 2).trans rfl
          have hfz32_0 := blk_frozen BK101.out 0
          have hfz32_1 := blk_frozen BK101.out 1
          have hfz32_2 := blk_frozen BK101.out 2
          try go_wp2
          have n0_ := Aside0.mk (blk_drew BK101.out)
          have n1_ := Aside0.mk (blk_drew BK102.out)
          have n2_ := Aside0.mk (below_drew1 HB.out)
          clear BK101
          clear BK102
          clear HB
          have BK101 := n0_
          have BK102 := n1_
          have HB := n2_
          clear n0_ n1_ n2_
          have p103 : 0 ≤ (x5_2 : Int) := of_decide_eq_true (by first | (with_reducible assumption) | assumption)
          have q103 : x5_2 < (l0_2.length : Int) := of_decide_eq_true (by first | (with_reducible assumption) | assumption)
          obtain ⟨ad103,A103_1,c103_1,A103_2,c103_2,e103,hx103_0,hx103_1,hx103_2,hl103_1,hi103_1,hl103_2,hi103_2⟩ := at_T31 HR0_2.out x5_2 p103 q103
          have hw103_2 := hx103_2
          have hw103_1 := hx103_1
          have hw103_0 := hx103_0
          cases e103
          replace hx103_0 := (HB.out.cell (World.block_lt_of_cell? w _ hx103_0)).trans hx103_0
          replace hx103_1 := (HB.out.cell (World.block_lt_of_cell? w _ hx103_1)).trans hx103_1
          replace hx103_2 := (HB.out.cell (World.block_lt_of_cell? w _ hx103_2)).trans hx103_2
          have HR103_1 := Aside0.mk hi103_1
          have HC103_1 := Aside0.mk hl103_1
          clear hi103_1 hl103_1
          have HR103_2 := Aside0.mk hi103_2
          have HC103_2 := Aside0.mk hl103_2
          clear hi103_2 hl103_2
          replace p103 := eq_true p103
          replace q103 := eq_true q103
          have p104 : 0 ≤ (x5_2 : Int) := of_decide_eq_true (by first | (with_reducible assumption) | assumption)
          have q104 : x5_2 < (l1_2.length : Int) := of_decide_eq_true (by first | (with_reducible assumption) | assumption)
          obtain ⟨ad104,A104_1,c104_1,A104_2,c104_2,e104,hx104_0,hx104_1,hx104_2,hl104_1,hi104_1,hl104_2,hi104_2⟩ := at_T31 HR1_2.out x5_2 p104 q104
          have hw104_2 := hx104_2
          have hw104_1 := hx104_1
          have hw104_0 := hx104_0
          cases e104
          replace hx104_0 := (HB.out.cell (World.block_lt_of_cell? w _ hx104_0)).trans hx104_0
          replace hx104_1 := (HB.out.cell (World.block_lt_of_cell? w _ hx104_1)).trans hx104_1
          replace hx104_2 := (HB.out.cell (World.block_lt_of_cell? w _ hx104_2)).trans hx104_2
          have HR104_1 := Aside0.mk hi104_1
          have HC104_1 := Aside0.mk hl104_1
          clear hi104_1 hl104_1
          have HR104_2 := Aside0.mk hi104_2
          have HC104_2 := Aside0.mk hl104_2
          clear hi104_2 hl104_2
          replace p104 := eq_true p104
          replace q104 := eq_true q104
          refine start_ (n := 12) (S := fun w' => w'.cell? ⟨gb101,0,none⟩ = some (.int .u64 a0_0) ∧ w'.cell? ⟨gb101,1,none⟩ = some (.slice A0_1 l0_1.length c0_1) ∧ w'.cell? ⟨gb101,2,none⟩ = some (.slice (some ad103) l0_2.length c0_2) ∧ w'.cell? ⟨gb102,0,none⟩ = some (.int .u64 a1_0) ∧ w'.cell? ⟨gb102,1,none⟩ = some (.slice A1_1 l1_1.length c1_1) ∧ w'.cell? ⟨gb102,2,none⟩ = some (.slice (some ad104) l1_2.length c1_2) ∧ w'.cell? (ad103.add ((x5_2).toNat * 3)) = some (.int .u64 ((rd_T31 l0_2 x5_2).f0)) ∧ w'.cell? ⟨(ad103.add ((x5_2).toNat * 3)).block,(ad103.add ((x5_2).toNat * 3)).off + 1,none⟩ = some (.slice A103_1 ((rd_T31 l0_2 x5_2).f1).length c103_1) ∧ w'.cell? ⟨(ad103.add ((x5_2).toNat * 3)).block,(ad103.add ((x5_2).toNat * 3)).off + 2,none⟩ = some (.slice A103_2 ((rd_T31 l0_2 x5_2).f2).length c103_2) ∧ w'.cell? (ad104.add ((x5_2).toNat * 3)) = some (.int .u64 ((rd_T31 l1_2 x5_2).f0)) ∧ w'.cell? ⟨(ad104.add ((x5_2).toNat * 3)).block,(ad104.add ((x5_2).toNat * 3)).off + 1,none⟩ = some (.slice A104_1 ((rd_T31 l1_2 x5_2).f1).length c104_1) ∧ w'.cell? ⟨(ad104.add ((x5_2).toNat * 3)).block,(ad104.add ((x5_2).toNat * 3)).off + 2,none⟩ = some (.slice A104_2 ((rd_T31 l1_2 x5_2).f2).length c104_2)) (ds := []) #[false,false,false,false,false,false,false,false,false,false,false,false] (by kernel_rfl) rfl rfl ⟨(blk_cell BK101.out 0).trans rfl,(blk_cell BK101.out 1).trans rfl,(blk_cell BK101.out 2).trans rfl,(blk_cell BK102.out 0).trans rfl,(blk_cell BK102.out 1).trans rfl,(blk_cell BK102.out 2).trans rfl,((HB.out.cell (World.block_lt_of_cell? w _ hw103_0)).trans hw103_0),((HB.out.cell (World.block_lt_of_cell? w _ hw103_1)).trans hw103_1),((HB.out.cell (World.block_lt_of_cell? w _ hw103_2)).trans hw103_2),((HB.out.cell (World.block_lt_of_cell? w _ hw104_0)).trans hw104_0),((HB.out.cell (World.block_lt_of_cell? w _ hw104_1)).trans hw104_1),((HB.out.cell (World.block_lt_of_cell? w _ hw104_2)).trans hw104_2)⟩ (fun hHeld => ?_);refine with_tabW passepartoutref05_Same.tab6 passepartoutref05_Same.bits6 (fun HT_ HW_ => ?_)
          generalize wr.drew = w33 at BK101 BK102 HB HR103_1 HR103_2 HR104_1 HR104_2 hx103_0 hx103_1 hx103_2 hx104_0 hx104_1 hx104_2 hHeld ⊢
          refine pure_ (i := 0) (N := some 37) (v := ?_) (a' := ?_) #[true,false,false,false,false,false,false,false,false,false,false,false] rfl rfl (any_of HT_.out (by kernel_rfl)) (fun _ _ _ h => h) (Or.inl ⟨by rfl,?_⟩) ?_ ?_
          rotate_left
          ·intro w'
           go_simp
           with_reducible rfl
          rotate_left
          ·simp only [Act.put,List.setIfInBounds_toArray,List.set_cons_zero,List.set_cons_succ,i64_w,i32_w]
           rfl
          refine pure_ (i := 2) (N := some 39) (v := ?_) (a' := ?_) #[true,false,true,false,false,false,false,false,false,false,false,false] rfl rfl (any_of HT_.out (by kernel_rfl)) (fun _ _ _ h => h) (Or.inl ⟨by rfl,?_⟩) ?_ ?_
          rotate_left
          ·intro w'
           go_simp
           with_reducible rfl
          rotate_left
          ·simp only [Act.put,List.setIfInBounds_toArray,List.set_cons_zero,List.set_cons_succ,i64_w,i32_w]
           rfl
          refine pure_ (i := 5) (N := some 42) (v := ?_) (a' := ?_) #[true,false,true,false,false,true,false,false,false,false,false,false] rfl rfl (any_of HT_.out (by kernel_rfl)) (fun _ _ _ h => h) (Or.inl ⟨by rfl,?_⟩) ?_ ?_
          rotate_left
          ·intro w'
           go_simp
           with_reducible rfl
          rotate_left
          ·simp only [Act.put,List.setIfInBounds_toArray,List.set_cons_zero,List.set_cons_succ,i64_w,i32_w]
           rfl
          refine pure_ (i := 7) (N := some 44) (v := ?_) (a' := ?_) #[true,false,true,false,false,true,false,true,false,false,false,false] rfl rfl (any_of HT_.out (by kernel_rfl)) (fun _ _ _ h => h) (Or.inl ⟨by rfl,?_⟩) ?_ ?_
          rotate_left
          ·intro w'
           go_simp
           with_reducible rfl
          rotate_left
          ·simp only [Act.put,List.setIfInBounds_toArray,List.set_cons_zero,List.set_cons_succ,i64_w,i32_w]
           rfl
          refine take_ (i := 1) (N := some 38) (v := ?_) (a' := ?_) #[true,true,true,false,false,true,false,true,false,false,false,false] rfl rfl (take_ofW HT_.out HW_.out (by kernel_rfl)) (fun _ _ _ h => h) (Or.inl ⟨by rfl,?_⟩) hHeld ?_ ?_
          rotate_left
          ·rintro w' ⟨s0,s1,s2,s3,s4,s5,s6,s7,s8,s9,s10,s11⟩
           go_simp
           with_reducible rfl
          rotate_left
          ·simp only [Act.put,List.setIfInBounds_toArray,List.set_cons_zero,List.set_cons_succ,i64_w,i32_w]
           rfl
          refine pure_ (i := 3) (N := some 40) (v := ?_) (a' := ?_) #[true,true,true,true,false,true,false,true,false,false,false,false] rfl rfl (any_of HT_.out (by kernel_rfl)) (fun _ _ _ h => h) (Or.inl ⟨by rfl,?_⟩) ?_ ?_
          rotate_left
          ·intro w'
           go_simp
           with_reducible rfl
          rotate_left
          ·simp only [Act.put,List.setIfInBounds_toArray,List.set_cons_zero,List.set_cons_succ,i64_w,i32_w]
           rfl
          refine take_ (i := 4) (N := some 41) (v := ?_) (a' := ?_) #[true,true,true,true,true,true,false,true,false,false,false,false] rfl rfl (take_ofW HT_.out HW_.out (by kernel_rfl)) (fun _ _ _ h => h) (Or.inl ⟨by rfl,?_⟩) hHeld ?_ ?_
          rotate_left
          ·rintro w' ⟨s0,s1,s2,s3,s4,s5,s6,s7,s8,s9,s10,s11⟩
           go_simp
           with_reducible rfl
          rotate_left
          ·simp only [Act.put,List.setIfInBounds_toArray,List.set_cons_zero,List.set_cons_succ,i64_w,i32_w]
           rfl
          refine take_ (i := 6) (N := some 43) (v := ?_) (a' := ?_) #[true,true,true,true,true,true,true,true,false,false,false,false] rfl rfl (take_ofW HT_.out HW_.out (by kernel_rfl)) (fun _ _ _ h => h) (Or.inl ⟨by rfl,?_⟩) hHeld ?_ ?_
          rotate_left
          ·rintro w' ⟨s0,s1,s2,s3,s4,s5,s6,s7,s8,s9,s10,s11⟩
           go_simp
           with_reducible rfl
          rotate_left
          ·simp only [Act.put,List.setIfInBounds_toArray,List.set_cons_zero,List.set_cons_succ,i64_w,i32_w]
           rfl
          refine pure_ (i := 8) (N := some 45) (v := ?_) (a' := ?_) #[true,true,true,true,true,true,true,true,true,false,false,false] rfl rfl (any_of HT_.out (by kernel_rfl)) (fun _ _ _ h => h) (Or.inl ⟨by rfl,?_⟩) ?_ ?_
          rotate_left
          ·intro w'
           go_simp
           with_reducible rfl
          rotate_left
          ·simp only [Act.put,List.setIfInBounds_toArray,List.set_cons_zero,List.set_cons_succ,i64_w,i32_w]
           rfl
          refine take_ (i := 9) (N := some 46) (v := ?_) (a' := ?_) #[true,true,true,true,true,true,true,true,true,true,false,false] rfl rfl (take_ofW HT_.out HW_.out (by kernel_rfl)) (fun _ _ _ h => h) (Or.inl ⟨by rfl,?_⟩) hHeld ?_ ?_
          rotate_left
          ·rintro w' ⟨s0,s1,s2,s3,s4,s5,s6,s7,s8,s9,s10,s11⟩
           go_simp
           with_reducible rfl
          rotate_left
          ·simp only [Act.put,List.setIfInBounds_toArray,List.set_cons_zero,List.set_cons_succ,i64_w,i32_w]
           rfl
          refine one_ (i := 10) (N := some 47) #[true,true,true,true,true,true,true,true,true,true,true,false] rfl rfl (one_of HT_.out (by kernel_rfl)) (by decide) (fun K hK => ?_)
          refine goes_ Tryd.func13 (by kernel_rfl) rfl #[.agg #[.int .u64 ((rd_T31 l0_2 x5_2).f0),.slice A103_1 ((rd_T31 l0_2 x5_2).f1).length c103_1,.slice A103_2 ((rd_T31 l0_2 x5_2).f2).length c103_2],.agg #[.int .u64 ((rd_T31 l1_2 x5_2).f0),.slice A104_1 ((rd_T31 l1_2 x5_2).f1).length c104_1,.slice A104_2 ((rd_T31 l1_2 x5_2).f2).length c104_2]] (by rfl) rfl rfl (by (try simp only [List.map_toArray,List.map_cons,List.map_nil]);first | done | rfl | (simp only [List.length_drop,List.length_take];rfl)) ?_
          with_reducible refine (ih k2 (by have := HJ2.out;have := HK2.out;omega) ((rd_T31 l0_2 x5_2).f0) _ _ ((rd_T31 l0_2 x5_2).f1) _ _ ((rd_T31 l0_2 x5_2).f2) ((rd_T31 l1_2 x5_2).f0) _ _ ((rd_T31 l1_2 x5_2).f1) _ _ ((rd_T31 l1_2 x5_2).f2) false _ ?side1 ?side2 ?side3 ?side4 ?side5 ?side6 ?side7 ?side8 A25.out).mono ?_
          (case side1 => repeat (first | exact (Kd.C_below HR103_1.out HB.out) | (with_reducible refine Kd.C_alloc ?_ _) | (with_reducible refine Kd.C_drewN ?_ _) | (with_reducible refine Kd.C_drew ?_)))
          (case side2 => exact HC103_1.out)
          (case side3 => repeat (first | exact (Kd.C_below HR103_2.out HB.out) | (with_reducible refine Kd.C_alloc ?_ _) | (with_reducible refine Kd.C_drewN ?_ _) | (with_reducible refine Kd.C_drew ?_)))
          (case side4 => exact HC103_2.out)
          (case side5 => repeat (first | exact (Kd.C_below HR104_1.out HB.out) | (with_reducible refine Kd.C_alloc ?_ _) | (with_reducible refine Kd.C_drewN ?_ _) | (with_reducible refine Kd.C_drew ?_)))
          (case side6 => exact HC104_1.out)
          (case side7 => repeat (first | exact (Kd.C_below HR104_2.out HB.out) | (with_reducible refine Kd.C_alloc ?_ _) | (with_reducible refine Kd.C_drewN ?_ _) | (with_reducible refine Kd.C_drew ?_)))
          (case side8 => exact HC104_2.out)
          rintro e w34 ⟨rfl,hb⟩
          refine ⟨_,rfl,?_⟩
          have n0_ := Aside0.mk (blk_below (g := gb101) (o := .cells #[.int .u64 a0_0,.slice A0_1 l0_1.length c0_1,.slice (some ad103) l0_2.length c0_2] 31 (0,0)) (by (with_reducible repeat (first | refine blk_drewN ?_ _ | refine blk_drew ?_ | refine blk_alloc ?_ _));exact BK101.out) hb)
          have n1_ := Aside0.mk (blk_below (g := gb102) (o := .cells #[.int .u64 a1_0,.slice A1_1 l1_1.length c1_1,.slice (some ad104) l1_2.length c1_2] 31 (0,0)) (by (with_reducible repeat (first | refine blk_drewN ?_ _ | refine blk_drew ?_ | refine blk_alloc ?_ _));exact BK102.out) hb)
          have n2_ := Aside0.mk (below_step (by repeat (first | (with_reducible first | exact HB.out | apply below_alloc | apply pw_below_drewN | apply below_drew1 | refine below_set ?_ GE101.out | refine below_set ?_ GE102.out) | exact HB.out)) hb)
          clear BK101
          clear BK102
          clear HB
          have BK101 := n0_
          have BK102 := n1_
          have HB := n2_
          clear n0_ n1_ n2_
          (try clear hb)
          (try clear hb2)
          (try clear hk)
          (try clear hi)
          refine hK.out _ _ ⟨(blk_cell BK101.out 0).trans rfl,(blk_cell BK101.out 1).trans rfl,(blk_cell BK101.out 2).trans rfl,(blk_cell BK102.out 0).trans rfl,(blk_cell BK102.out 1).trans rfl,(blk_cell BK102.out 2).trans rfl,((HB.out.cell (World.block_lt_of_cell? w _ hw103_0)).trans hw103_0),((HB.out.cell (World.block_lt_of_cell? w _ hw103_1)).trans hw103_1),((HB.out.cell (World.block_lt_of_cell? w _ hw103_2)).trans hw103_2),((HB.out.cell (World.block_lt_of_cell? w _ hw104_0)).trans hw104_0),((HB.out.cell (World.block_lt_of_cell? w _ hw104_1)).trans hw104_1),((HB.out.cell (World.block_lt_of_cell? w _ hw104_2)).trans hw104_2)⟩ (fun hHeld => ?_)
          clear hK K
          refine norm_ (a' := ?_) ?_ ?_
          rotate_left
          ·show Act.put _ (some 47) _ = _
           simp only [Act.put,List.setIfInBounds_toArray,List.set_cons_zero,List.set_cons_succ,i64_w,i32_w]
           rfl
          refine pure_ (i := 11) (N := some 6) (v := ?_) (a' := ?_) #[true,true,true,true,true,true,true,true,true,true,true,true] rfl rfl (any_of HT_.out (by kernel_rfl)) (fun _ _ _ h => h) (Or.inl ⟨by rfl,?_⟩) ?_ ?_
          rotate_left
          ·intro w'
           go_simp
           with_reducible rfl
          rotate_left
          ·simp only [Act.put,List.setIfInBounds_toArray,List.set_cons_zero,List.set_cons_succ,i64_w,i32_w]
           rfl
          refine done_ (done_of HT_.out (by kernel_rfl)) ?_
          try go_wp2
          go_ret
          exact ⟨by first | rfl | (simp [errW_none,errW_some] <;> rfl) | (simp [*,errW_none,errW_some] <;> rfl),by repeat (first | (with_reducible first | exact HB.out | apply below_alloc | apply pw_below_drewN | apply below_drew1 | refine below_set ?_ GE101.out | refine below_set ?_ GE102.out) | exact HB.out)⟩
        ·rw [if_neg c24] at H
         exact absurd H (by simp)
       ·rw [if_neg c23] at H
        exact absurd H (by simp)
      ·rw [if_neg c22] at H
       have c22b0 : decide (x5_2 < (l0_2.length : Int)) = false := decide_eq_false c22
       clear c22
       obtain rfl := Option.some.inj H
       have hnb35 := NB101_102.out
       have hnc35 := NB102_101.out
       have hcz36_0 : wr.cell? ⟨gb101,0,none⟩ = some (.int .u64 a0_0) := (blk_cell BK101.out 0).trans rfl
       have hcz36_1 : wr.cell? ⟨gb101,1,none⟩ = some (.slice A0_1 l0_1.length c0_1) := (blk_cell BK101.out 1).trans rfl
       have hcz36_2 : wr.cell? ⟨gb101,2,none⟩ = some (.slice A0_2 l0_2.length c0_2) := (blk_cell BK101.out 2).trans rfl
       have hfz36_0 := blk_frozen BK101.out 0
       have hfz36_1 := blk_frozen BK101.out 1
       have hfz36_2 := blk_frozen BK101.out 2
       go_wp2
       go_ret
       exact ⟨by first | rfl | (simp [errW_none,errW_some] <;> rfl) | (simp [*,errW_none,errW_some] <;> rfl),by repeat (first | (with_reducible first | exact HB.out | apply below_alloc | apply pw_below_drewN | apply below_drew1 | refine below_set ?_ GE101.out | refine below_set ?_ GE102.out) | exact HB.out)⟩

end Go.Proofs.YtdhnfccgojgehaaDoor.QP
