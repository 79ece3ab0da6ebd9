/-
  Texts for the law WriteRows: part 3.
-/
import Derived.StillTailTactics
import Derived.Deep.CutRange
import Derived.BigQuiet
import Derived.Deep.RegionHeld3
import Derived.Deep.RegionWith
import Derived.Deep.QuietTactic
import Derived.Test.YtdhnfccgojgehaaProg
import Derived.Laws.LoneSync
import Derived.Test.YtdhnfccgojgehaaRows
import Derived.LaidHandle
import Derived.LaidMore
import Derived.Deep.LoopGhost
import Derived.Lib.SmallJoins
import Derived.Test.YtdhnfccgojgehaaMWriteRows1
import Derived.Test.YtdhnfccgojgehaaMWriteRows2

set_option linter.unusedVariables false
set_option linter.unusedSimpArgs false
namespace Go.Proofs.Ytdhnfccgojgehaa
open Go.RowKit

mutual
/-- How many forms there are in one. -/
def szF : Fm → Nat
 | .mk a l => if a.k = 2 ∨ a.k = 3 then 1 + szL l else 1
def szL : List Fm → Nat
 | [] => 0
 | f :: t => szF f + szL t
end
theorem szF_mk (a : FH) (l : List Fm) : szF (.mk a l) = if a.k = 2 ∨ a.k = 3 then 1 + szL l else 1 := by rw [szF]
theorem szF_pos (f : Fm) : 1 ≤ szF f := by
 cases f
 rw [szF_mk]
 split <;> omega
theorem szL_mem {l : List Fm} {f : Fm} (h : f ∈ l) : szF f ≤ szL l := by
 induction l with
 | nil => simp at h
 | cons g t ih =>
  rw [szL]
  rcases List.mem_cons.1 h with rfl | h
  ·omega
  ·have := ih h
   omega
theorem szL_drop {l : List Fm} {i : Nat} (hi : i < l.length) : szL (l.drop i) = szF l[i] + szL (l.drop (i + 1)) := by
 rw [List.drop_eq_getElem_cons hi,szL]
theorem cnt_sz (f : Fm) : ∀ m,(cntR m f ≤ m → cntR m f = szF f) ∧ (szF f ≤ m → cntR m f = szF f) := by
 induction f using RT.induct with
 | h a l ih =>
 intro m
 rw [cntR,szF_mk]
 by_cases hk : a.k = 2 ∨ a.k = 3
 ·rw [if_pos hk,if_pos hk]
  have key : ∀ (t : List Fm),(∀ f ∈ t,f ∈ l) → ∀ n,(cntL m n t ≤ m → cntL m n t = n + szL t) ∧ (n + szL t ≤ m → cntL m n t = n + szL t) := by
   intro t
   induction t with
   | nil => intro _ n;rw [cntL,szL];exact ⟨fun _ => by omega,fun _ => by omega⟩
   | cons f t ih2 =>
    intro hf n
    rw [cntL,szL]
    have h1 := ih f (hf f (by simp)) (m - n)
    have hp := szF_pos f
    constructor
    ·intro h
     by_cases hn : n ≤ m
     ·rw [if_pos hn] at h ⊢
      have h2 := (ih2 (fun g hg => hf g (by simp [hg])) (n + cntR (m - n) f)).1 h
      have h3 : n + cntR (m - n) f ≤ m := by
       by_cases h4 : n + cntR (m - n) f ≤ m
       ·exact h4
       ·omega
      have h5 := h1.1 (by omega)
      omega
     ·rw [if_neg hn] at h
      omega
    ·intro h
     rw [if_pos (by omega),h1.2 (by omega),(ih2 (fun g hg => hf g (by simp [hg])) (n + szF f)).2 (by omega)]
     omega
  exact key l (fun _ h => h) 1
 ·rw [if_neg hk,if_neg hk]
  exact ⟨fun _ => rfl,fun _ => rfl⟩
theorem span_sz (sel : FH → Int) (hs : sel = FH.lo ∨ sel = FH.hi) (f : Fm) (h : szF f ≤ 100000) (hc : checkR f = 0) : 0 ≤ spanR sel f ∧ spanR sel f ≤ 16777218 * (szF f : Nat) := by
 have e := (cnt_sz f 100000).2 h
 have := span_bd sel hs f 100000 (by omega) (by omega) hc
 rw [e] at this
 exact this
def gB (c : Nat) : Nat := max 1 (2 * c - 1)
theorem gB_mono {c c' : Nat} (h : c ≤ c') : gB c ≤ gB c' := by unfold gB;omega
theorem own_sz {h : FH} {P : List Fm} (hc : checkR (.mk h P) = 0) (k0 : h.k = 0) : szB h.s = true := by
 rw [checkR_mk] at hc
 have h0 : ownN h.k h.s h.lo h.hi h.st P.length = 0 := Decidable.byContradiction fun hn => by
  rw [if_pos hn] at hc
  exact hn hc
 unfold ownN at h0
 rw [if_pos k0] at h0
 split at h0
 ·omega
 ·unfold szB
  simp only [Bool.or_eq_true,decide_eq_true_eq]
  omega
theorem badF_at {k : Int} {n : Nat} {l : List Fm} : ∀ {i : Nat},badF k n i l = false → ∀ j (hj : j < l.length),badI k n (i + j) l[j] = false := by
 induction l with
 | nil => intro i _ j hj;simp at hj
 | cons f t ih =>
  intro i h j hj
  rw [badF,Bool.or_eq_false_iff] at h
  cases j with
  | zero => simpa using h.1
  | succ j =>
   have := ih h.2 j (by simpa using hj)
   rw [show i + 1 + j = i + (j + 1) by omega] at this
   simpa using this
theorem openL_shut {P : List Fm} (h : openL P = false) (hl : 0 < P.length) : openR (P[P.length - 1]'(by omega)) = false := by
 induction P with
 | nil => simp at hl
 | cons f t ih =>
  cases t with
  | nil => rw [openL] at h;simpa using h
  | cons g u =>
   rw [openL] at h
   have := ih h (by simp)
   simpa using this
/-- The parts of a right row that is not open: none of them is. -/
theorem row_shut {h : FH} {P : List Fm} (hc : checkR (.mk h P) = 0) (k3 : h.k = 3) : (∀ j (hj : j < P.length),j + 1 < P.length → openR P[j] = false) ∧ (openR (.mk h P) = false → ∀ j (hj : j < P.length),openR P[j] = false) := by
 obtain ⟨_,_,_,hch⟩ := check_ok hc
 have hb := (hch (.inr k3)).2
 have h1 : ∀ j (hj : j < P.length),j + 1 < P.length → openR P[j] = false := by
  intro j hj hj2
  have := badF_at hb j hj
  unfold badI at this
  simp only [Nat.zero_add,Bool.or_eq_false_iff,Bool.and_eq_false_imp,decide_eq_false_iff_not,decide_eq_true_eq] at this
  cases ho : openR P[j]
  ·rfl
  ·have := this.1 ho
   omega
 refine ⟨h1,fun ho j hj => ?_⟩
 rw [openR_mk,if_pos k3] at ho
 by_cases hj2 : j + 1 < P.length
 ·exact h1 j hj hj2
 ·have := openL_shut ho (by omega)
  simpa [show P.length - 1 = j by omega] using this
/-- The item of a right list. -/
theorem list_item {h : FH} {P : List Fm} (hc : checkR (.mk h P) = 0) (k2 : h.k = 2) : ∃ g,P = [g] ∧ checkR g = 0 ∧ openR g = false ∧ leastR g ≠ 0 := by
 obtain ⟨_,h1,_,hch⟩ := check_ok hc
 obtain ⟨g,rfl⟩ := List.length_eq_one_iff.1 (h1 k2)
 obtain ⟨h2,h3⟩ := hch (.inl k2)
 have := badF_at h3 0 (by simp)
 unfold badI at this
 simp [k2] at this
 exact ⟨g,rfl,h2 g (by simp),this.1,this.2⟩
theorem lenE_app {h : FH} {b : List UInt8} (hs : 0 ≤ h.s) (h1 : (lenE h b).2.1 = 0) (r : List UInt8) : lenE h (b.take (h.s.toNat + (lenE h b).2.2) ++ r) = lenE h b := by
 obtain ⟨g1,g2,g3,g4,g5,g6,g7⟩ := lenE_ok h1
 have e0 : lenE h b = (0,0,(lenE h b).2.2) := Prod.ext g7 (Prod.ext h1 rfl)
 generalize (lenE h b).2.2 = n at *
 have hlen : (b.take (h.s.toNat + n) ++ r).length = h.s.toNat + n + r.length := by
  rw [List.length_append,List.length_take]
  omega
 have htk : (b.take (h.s.toNat + n) ++ r).take h.s.toNat = b.take h.s.toNat := by
  rw [List.take_append_of_le_length (by rw [List.length_take];omega),List.take_take]
  congr 1
  omega
 rw [e0]
 unfold lenE
 rw [htk,← g6,hlen,if_neg (by omega),if_neg (by omega),if_neg (by omega)]
theorem mayR_is {n lo hi st : Int} (h1 : lo ≤ n) (h2 : n ≤ hi) (h3 : Int.tmod n st = 0) : mayR n lo hi st = 0 := by
 unfold mayR
 rw [if_neg (by omega),if_neg (by omega),if_pos h3]
theorem tmod_one (n : Int) : Int.tmod n 1 = 0 := by simp
theorem alone0 (n : Int) : aloneB 0 n 0 0 = true := by unfold aloneB;simp [fld]
theorem alone_b {k : Int} (hk : k = 1 ∨ k = 4 ∨ k = 5) (b : Nat) : aloneB k 0 b 0 = true := by
 unfold aloneB
 rcases hk with rfl | rfl | rfl <;> simp [fld]
theorem alone_l {k : Int} (hk : k = 2 ∨ k = 3) (l : Nat) : aloneB k 0 0 l = true := by
 unfold aloneB
 rcases hk with rfl | rfl <;> simp [fld]

/-- What is read of bytes is told by so many of them, fits, has as many, and is written as these. -/
def GotR (f : Fm) (b : List UInt8) (x : Vt) (rest : List UInt8) (q : Nat) : Prop :=
 ∃ u,b = u ++ rest ∧ fitR f x = ((u.length : Int),0) ∧ leastR f ≤ u.length ∧ writeR f x = u ∧ wfV x = true ∧ 1 ≤ q ∧ q ≤ szF f * gB u.length ∧ (openR f = false → ∀ r',readR f (u ++ r') = .got x r' q)

theorem u64_be {l : List UInt8} (h : l.length ≤ 8) : u64B ((be l : Nat) : Int) := by
 have h1 := be_lt l
 have h2 : 256 ^ l.length ≤ 256 ^ 8 := Nat.pow_le_pow_right (by omega) h
 have h3 : (256 : Nat) ^ 8 = 18446744073709551616 := by decide
 unfold u64B
 omega
theorem read_got (f : Fm) : szF f ≤ 100000 → checkR f = 0 → ∀ b : List UInt8,b.length ≤ 140737488351232 → ∀ x rest q,readR f b = .got x rest q → GotR f b x rest q := by
 induction f using RT.induct with
 | h h P ih =>
 intro hsz hck b hb x rest q hrd
 obtain ⟨hown,hone,h32,hch⟩ := check_ok hck
 rw [readR_mk] at hrd
 by_cases k0 : h.k = 0
 ·rw [if_pos k0] at hrd
  split at hrd
  ·simp at hrd
  rename_i hlt
  injection hrd with e1 e2 e3
  subst e1 e2 e3
  have hs := hown.k0 k0
  have hlen : (b.take h.s.toNat).length = h.s.toNat := by rw [List.length_take];omega
  refine ⟨b.take h.s.toNat,(List.take_append_drop _ _).symm,?_,?_,?_,?_,by omega,?_,?_⟩
  ·rw [fitR_mk]
   simp only [k0,List.length_nil,alone0,Bool.true_eq_false,if_false,if_true]
   rw [if_neg (fun hx => ?_),hlen]
   ·congr 1
    omega
   ·have h1 := be_lt (b.take h.s.toNat)
    rw [hlen] at h1
    have h2 : (256 : Nat) ^ h.s.toNat = 2 ^ (8 * h.s.toNat) := by rw [Nat.pow_mul]
    have h3 := hx.2
    rw [h2] at h1
    have h4 : ((2 : Int) ^ (8 * h.s.toNat)) = ((2 ^ (8 * h.s.toNat) : Nat) : Int) := by simp
    omega
  ·rw [leastR,spanR_mk,if_pos k0,hlen]
   omega
  ·rw [writeR_mk,if_pos k0]
   have := beB_be (b.take h.s.toNat)
   rw [hlen] at this
   simpa using this
  ·exact (wfV_mk _ _).2 ⟨u64_be (by rw [hlen];omega),by simp,by simp,by simp⟩
  ·have := szF_pos (.mk h P)
   have h2 : 1 ≤ gB (b.take h.s.toNat).length := by unfold gB;omega
   exact Nat.le_trans (by omega) (Nat.mul_le_mul this h2)
  ·intro _ r'
   rw [readR_mk,if_pos k0,if_neg (by rw [List.length_append,hlen];omega),List.take_append_of_le_length (by omega),List.take_of_length_le (l := b.take h.s.toNat) (by omega),List.drop_append_of_le_length (by omega),List.drop_of_length_le (l := b.take h.s.toNat) (by omega)]
   rfl
 rw [if_neg k0] at hrd
 by_cases k1 : h.k = 1
 ·rw [if_pos k1] at hrd
  split at hrd
  ·simp at hrd
  rename_i hz
  injection hrd with e1 e2 e3
  subst e1 e2 e3
  have hz := Decidable.not_not.1 hz
  obtain ⟨g1,g2,g3,g4,g5,g6,g7⟩ := lenE_ok hz
  have happ := fun r => lenE_app (h := h) (b := b) (by have := hown.k12 (.inl k1);omega) hz r
  have hs := hown.k12 (.inl k1)
  generalize hn : (lenE h b).2.2 = n at *
  have hlen : (b.take (h.s.toNat + n)).length = h.s.toNat + n := by rw [List.length_take];omega
  have hlen2 : ((b.drop h.s.toNat).take n).length = n := by rw [List.length_take,List.length_drop];omega
  have hu : b.take (h.s.toNat + n) = b.take h.s.toNat ++ (b.drop h.s.toNat).take n := by rw [List.take_add]
  refine ⟨b.take (h.s.toNat + n),(List.take_append_drop _ _).symm,?_,?_,?_,?_,by omega,?_,?_⟩
  ·rw [fitR_mk]
   simp only [List.length_nil,alone_b (.inl k1),Bool.true_eq_false,if_false,if_neg k0,if_pos k1,hlen2,hlen,mayR_is g2 g3 g4]
   rw [w64 (by omega) (by omega)]
   congr 1
   omega
  ·rw [leastR,spanR_mk,if_neg k0,if_pos (.inl k1),hlen,w64 (by omega) (by omega)]
   omega
  ·rw [writeR_mk,if_neg k0,if_pos k1,hu]
   simp only [hlen2]
   have := beB_be (b.take h.s.toNat)
   rw [List.length_take,Nat.min_eq_left (by omega),← g6] at this
   rw [this]
  ·exact (wfV_mk _ _).2 ⟨by unfold u64B;simp only;omega,by simp only [hlen2];omega,by simp,by simp⟩
  ·have := szF_pos (.mk h P)
   have h2 : 1 ≤ gB (b.take (h.s.toNat + n)).length := by unfold gB;omega
   exact Nat.le_trans (by omega) (Nat.mul_le_mul this h2)
  ·intro _ r'
   rw [readR_mk,if_neg k0,if_pos k1,happ r',if_neg (by simp [hz]),hn]
   congr 1
   ·congr 2
    rw [List.drop_append_of_le_length (by omega),List.take_append_of_le_length (by rw [List.length_drop];omega),hu,List.drop_append_of_le_length (by rw [List.length_take];omega),List.drop_of_length_le (l := b.take h.s.toNat) (by rw [List.length_take];omega),List.nil_append,List.take_take,Nat.min_self]
   ·rw [List.drop_append_of_le_length (by omega),List.drop_of_length_le (by omega)]
    rfl
 rw [if_neg k1] at hrd
 by_cases k4 : h.k = 4
 ·rw [if_pos k4] at hrd
  split at hrd
  ·simp at hrd
  split at hrd
  ·simp at hrd
  injection hrd with e1 e2 e3
  subst e1 e2 e3
  have hs := hown.k4 k4
  refine ⟨b,by simp,?_,?_,?_,?_,by omega,?_,?_⟩
  ·rw [fitR_mk]
   simp only [List.length_nil,alone_b (.inr (.inl k4)),Bool.true_eq_false,if_false,if_neg k0,if_neg k1,if_pos k4]
   rw [mayR_is (by omega) (by omega) (tmod_one _)]
  ·rw [leastR,spanR_mk,if_neg k0,if_neg (by omega),if_pos k4]
   omega
  ·rw [writeR_mk,if_neg k0,if_neg k1,if_pos (.inl k4)]
  ·exact (wfV_mk _ _).2 ⟨by unfold u64B;simp only;omega,by simp only;omega,by simp,by simp⟩
  ·have := szF_pos (.mk h P)
   have h2 : 1 ≤ gB b.length := by unfold gB;omega
   exact Nat.le_trans (by omega) (Nat.mul_le_mul this h2)
  ·intro ho
   rw [openR_mk,if_neg (by omega)] at ho
   simp [k4] at ho
 rw [if_neg k4] at hrd
 by_cases k5 : h.k = 5
 ·rw [if_pos k5] at hrd
  split at hrd
  ·simp at hrd
  rename_i hlt
  injection hrd with e1 e2 e3
  subst e1 e2 e3
  have hs := hown.k5 k5
  have hlen : (b.take h.lo.toNat).length = h.lo.toNat := by rw [List.length_take];omega
  refine ⟨b.take h.lo.toNat,(List.take_append_drop _ _).symm,?_,?_,?_,?_,by omega,?_,?_⟩
  ·rw [fitR_mk]
   simp only [List.length_nil,alone_b (.inr (.inr k5)),Bool.true_eq_false,if_false,if_neg k0,if_neg k1,if_neg k4,if_pos k5,hlen]
   rw [mayR_is (by omega) (by omega) (tmod_one _)]
   congr 1
   omega
  ·rw [leastR,spanR_mk,if_neg k0,if_neg (by omega),if_neg k4,if_pos k5,hlen]
   omega
  ·rw [writeR_mk,if_neg k0,if_neg k1,if_pos (.inr k5)]
  ·exact (wfV_mk _ _).2 ⟨by unfold u64B;simp only;omega,by simp only [hlen];omega,by simp,by simp⟩
  ·have := szF_pos (.mk h P)
   have h2 : 1 ≤ gB (b.take h.lo.toNat).length := by unfold gB;omega
   exact Nat.le_trans (by omega) (Nat.mul_le_mul this h2)
  ·intro _ r'
   rw [readR_mk,if_neg k0,if_neg k1,if_neg k4,if_pos k5,if_neg (by rw [List.length_append,hlen];omega),List.take_append_of_le_length (by omega),List.take_of_length_le (l := b.take h.lo.toNat) (by omega),List.drop_append_of_le_length (by omega),List.drop_of_length_le (l := b.take h.lo.toNat) (by omega)]
   rfl
 rw [if_neg k5] at hrd
 have hk23 : h.k = 2 ∨ h.k = 3 := by have := hown.k;omega
 have hPc : ∀ y ∈ P,checkR y = 0 := (hch hk23).1
 rw [szF_mk,if_pos hk23] at hsz
 have hPz : ∀ y ∈ P,szF y ≤ 100000 := fun y hy => by have := szL_mem hy;omega
 by_cases k3 : h.k = 3
 ·rw [if_pos k3] at hrd
  have hshut := row_shut hck k3
  have key : ∀ (d i : Nat) (b : List UInt8) (off q0 : Nat) (acc : List Vt),P.length - i = d → i ≤ P.length → b.length ≤ 140737488351232 → readRow (P.drop i) b off q0 acc = .got x rest q →
    ∃ ys u,x = .mk ⟨0,[]⟩ (acc ++ ys) ∧ ys.length = P.length - i ∧ b = u ++ rest ∧ (∀ c0 : Nat,c0 + b.length ≤ 140737488351232 → fitL (.mk h P) c0 i ys = (((c0 + u.length : Nat) : Int),0) ∧ spanL FH.lo c0 (P.drop i) ≤ ((c0 + u.length : Nat) : Int)) ∧
     writeL (.mk h P) i ys = u ∧ (∀ y ∈ ys,wfV y = true) ∧ q0 ≤ q ∧ q ≤ q0 + szL (P.drop i) * gB u.length ∧ ((∀ j (hj : j < P.length),openR P[j] = false) → ∀ r',readRow (P.drop i) (u ++ r') off q0 acc = .got x r' q) := by
   intro d
   induction d with
   | zero =>
    intro i b off q0 acc hd hi hbl hr
    rw [readRow_end (by omega)] at hr
    injection hr with e1 e2 e3
    subst e1 e2 e3
    refine ⟨[],[],by simp,by simp;omega,by simp,fun c0 _ => ⟨by rw [fitL_nil,if_pos k3];simp,?_⟩,by rw [writeL],by simp,by omega,by omega,fun _ r' => by rw [readRow_end (by omega)];simp⟩
    rw [List.drop_of_length_le (by omega),spanL]
    simp
   | succ d ihd =>
    intro i b off q0 acc hd hi hbl hr
    have hlt : i < P.length := by omega
    have hmem := List.getElem_mem hlt
    rw [readRow_drop hlt] at hr
    cases hx : readR P[i] b with
    | bad a e s => rw [hx] at hr;simp at hr
    | got y r s =>
     rw [hx] at hr
     simp only at hr
     obtain ⟨u1,hb1,f1,l1,w1,v1,q1,q2,o1⟩ := ih P[i] hmem (hPz _ hmem) (hPc _ hmem) b hbl y r s hx
     have hbr : b.length = u1.length + r.length := by rw [hb1,List.length_append]
     obtain ⟨ys,u2,hx2,hyl,hb2,hf2,hw2,hv2,hq3,hq4,ho2⟩ := ihd (i + 1) r _ _ _ (by omega) (by omega) (by omega) hr
     have hrl : r.length = u2.length + rest.length := by rw [hb2,List.length_append]
     have hsp := span_sz FH.lo (.inl rfl) P[i] (hPz _ hmem) (hPc _ hmem)
     have hl1 : spanR FH.lo P[i] ≤ u1.length := l1
     refine ⟨y :: ys,u1 ++ u2,by rw [hx2,List.append_assoc];rfl,by rw [List.length_cons,hyl];omega,by rw [hb1,hb2,List.append_assoc],fun c0 hc0 => ?_,?_,?_,by omega,?_,?_⟩
     ·have hjm : i % P.length = i := Nat.mod_eq_of_lt hlt
      have hg : P.getD (i % P.length) nilF = P[i] := by rw [hjm];simp [hlt]
      obtain ⟨h1,h2⟩ := hf2 (c0 + u1.length) (by omega)
      constructor
      ·rw [fitL]
       simp only [RT.l,hg,f1,if_true]
       rw [w64 (by omega) (by omega),show (c0 : Int) + (u1.length : Int) = ((c0 + u1.length : Nat) : Int) by omega,h1,List.length_append]
       congr 2
       omega
      ·rw [List.drop_eq_getElem_cons hlt,spanL]
       rw [w64 (by omega) (by omega)]
       have hmono : ∀ (t : List Fm) (a c : Int),(∀ y ∈ t,szF y ≤ 100000 ∧ checkR y = 0) → a ≤ c → 0 ≤ a → c + 1677721800000 * t.length ≤ 9000000000000000000 → spanL FH.lo a t ≤ spanL FH.lo c t := by
        intro t
        induction t with
        | nil => intro a c _ hac _ _;rw [spanL,spanL];exact hac
        | cons g t iht =>
         intro a c ht hac h0 hc
         have hg := span_sz FH.lo (.inl rfl) g (ht g (by simp)).1 (ht g (by simp)).2
         have hg2 := (ht g (by simp)).1
         rw [List.length_cons] at hc
         rw [spanL,spanL,w64 (by omega) (by omega),w64 (by omega) (by omega)]
         exact iht _ _ (fun y hy => ht y (by simp [hy])) (by omega) (by omega) (by omega)
       have h32' := h32 k3
       refine Int.le_trans (hmono (P.drop (i + 1)) ((c0 : Int) + spanR FH.lo P[i]) ((c0 + u1.length : Nat) : Int) (fun y hy => ⟨hPz y (List.mem_of_mem_drop hy),hPc y (List.mem_of_mem_drop hy)⟩) (by omega) (by omega) (by rw [List.length_drop];omega)) ?_
       rw [List.length_append]
       omega
     ·rw [writeL]
      have hg : P.getD (i % P.length) nilF = P[i] := by rw [Nat.mod_eq_of_lt hlt];simp [hlt]
      simp only [RT.l,hg,w1,hw2]
     ·intro z hz
      rcases List.mem_cons.1 hz with rfl | hz
      ·exact v1
      ·exact hv2 z hz
     ·rw [szL_drop hlt,Nat.add_mul]
      have e1 := Nat.mul_le_mul_left (szF P[i]) (gB_mono (show u1.length ≤ (u1 ++ u2).length by rw [List.length_append];omega))
      have e2 := Nat.mul_le_mul_left (szL (P.drop (i + 1))) (gB_mono (show u2.length ≤ (u1 ++ u2).length by rw [List.length_append];omega))
      omega
     ·intro hop r'
      rw [readRow_drop hlt,List.append_assoc,o1 (hop i hlt) (u2 ++ r')]
      simp only
      have := ho2 hop r'
      rw [show (u1 ++ (u2 ++ r')).length - (u2 ++ r').length = b.length - r.length by rw [List.length_append];omega]
      exact this
  obtain ⟨ys,u,hx,hyl,hbu,hf,hw,hv,hq1,hq2,ho⟩ := key P.length 0 b 0 1 [] (by omega) (by omega) hb (by rw [List.drop_zero];exact hrd)
  rw [List.nil_append] at hx
  subst hx
  obtain ⟨hf1,hf2⟩ := hf 0 (by omega)
  rw [List.drop_zero] at hf2 hq2
  refine ⟨u,hbu,?_,?_,?_,?_,by omega,?_,?_⟩
  ·rw [fitR_mk]
   simp only [List.length_nil,alone_l (.inr k3),Bool.true_eq_false,if_false,if_neg k0,if_neg k1,if_neg k4,if_neg k5]
   rw [if_neg (fun hh => hh.2 (by omega))]
   have := hf1
   rw [Nat.zero_add] at this
   exact this
  ·rw [leastR,spanR_mk,if_neg k0,if_neg (by omega),if_neg k4,if_neg k5]
   simpa using hf2
  ·rw [writeR_mk,if_neg k0,if_neg k1,if_neg (by omega),if_neg (by omega)]
   exact hw
  ·exact (wfV_mk _ _).2 ⟨by unfold u64B;simp only;omega,by simp,by have := h32 k3;omega,hv⟩
  ·rw [szF_mk,if_pos hk23,Nat.add_mul,Nat.one_mul]
   have h2 : 1 ≤ gB u.length := by unfold gB;omega
   omega
  ·intro hop r'
   rw [readR_mk,if_neg k0,if_neg k1,if_neg k4,if_neg k5,if_pos k3]
   have := ho (hshut.2 hop) r'
   rw [List.drop_zero] at this
   exact this
 rw [if_neg k3] at hrd
 have k2 : h.k = 2 := by omega
 split at hrd
 ·simp at hrd
 rename_i hz
 have hz := Decidable.not_not.1 hz
 obtain ⟨g1,g2,g3,g4,g5,g6,g7⟩ := lenE_ok hz
 have happ := fun r => lenE_app (h := h) (b := b) (by have := hown.k12 (.inr k2);omega) hz r
 have hs := hown.k12 (.inr k2)
 obtain ⟨g,rfl,hgc,hgo,hgl⟩ := list_item hck k2
 rw [readHd_one] at hrd
 have hgz : szF g ≤ 100000 := hPz g (by simp)
 generalize hn : (lenE h b).2.2 = n at *
 have hgd : ∀ j,[g].getD (j % [g].length) nilF = g := by intro j;simp [Nat.mod_one]
 have key : ∀ (fuel : Nat) (b : List UInt8) (off q0 : Nat) (acc : List Vt) (x : Vt) (rest : List UInt8) (q : Nat),b.length ≤ fuel → b.length ≤ 140737488351232 → iterR (readR g) fuel b off q0 acc = .got x rest q →
   ∃ ys,x = .mk ⟨0,[]⟩ (acc ++ ys) ∧ rest = [] ∧ ys.length ≤ b.length ∧ (∀ (c0 j : Nat),c0 + b.length ≤ 140737488351232 → fitL (.mk h [g]) c0 j ys = (wrap64 (h.s + ((c0 + b.length : Nat) : Int)),mayR ((c0 + b.length : Nat) : Int) h.lo h.hi h.st) ∧ writeL (.mk h [g]) j ys = b) ∧ (∀ y ∈ ys,wfV y = true) ∧ q0 ≤ q ∧ q ≤ q0 + szF g * (2 * b.length) := by
  intro fuel
  induction fuel with
  | zero =>
   intro b off q0 acc x rest q hbf _ hr
   rw [iterR] at hr
   injection hr with e1 e2 e3
   subst e1 e2 e3
   have hb0 : b = [] := List.eq_nil_of_length_eq_zero (by omega)
   subst hb0
   refine ⟨[],by simp,rfl,by simp,fun c0 j _ => ⟨?_,by rw [writeL]⟩,by simp,by omega,by omega⟩
   rw [fitL_nil,if_neg k3]
   rfl
  | succ fuel ihf =>
   intro b off q0 acc x rest q hbf hbl hr
   rw [iterR] at hr
   by_cases hb0 : b.length = 0
   ·rw [if_pos hb0] at hr
    injection hr with e1 e2 e3
    subst e1 e2 e3
    have hb0 : b = [] := List.eq_nil_of_length_eq_zero (by omega)
    subst hb0
    refine ⟨[],by simp,rfl,by simp,fun c0 j _ => ⟨?_,by rw [writeL]⟩,by simp,by omega,by omega⟩
    rw [fitL_nil,if_neg k3]
    rfl
   rw [if_neg hb0] at hr
   cases hx : readR g b with
   | bad a e s => rw [hx] at hr;simp at hr
   | got y r s =>
    rw [hx] at hr
    simp only at hr
    obtain ⟨u1,hb1,f1,l1,w1,v1,q1,q2,o1⟩ := ih g (by simp) hgz hgc b hbl y r s hx
    have hbr : b.length = u1.length + r.length := by rw [hb1,List.length_append]
    have hsp := span_sz FH.lo (.inl rfl) g hgz hgc
    have hgl2 : leastR g = spanR FH.lo g := rfl
    have hu1 : 1 ≤ u1.length := by omega
    obtain ⟨ys,hx2,hr0,hyl,hf2,hv2,hq3,hq4⟩ := ihf r _ _ _ x rest q (by omega) (by omega) hr
    refine ⟨y :: ys,by rw [hx2,List.append_assoc];rfl,hr0,by rw [List.length_cons];omega,fun c0 j hc0 => ?_,?_,by omega,?_⟩
    ·obtain ⟨h1,h2⟩ := hf2 (c0 + u1.length) (j + 1) (by omega)
     constructor
     ·rw [fitL]
      simp only [RT.l,hgd,f1,if_true]
      rw [w64 (by omega) (by omega),show (c0 : Int) + (u1.length : Int) = ((c0 + u1.length : Nat) : Int) by omega,h1,show c0 + u1.length + r.length = c0 + b.length by omega]
     ·rw [writeL]
      simp only [RT.l,hgd,w1,h2]
      exact hb1.symm
    ·intro z hz
     rcases List.mem_cons.1 hz with rfl | hz
     ·exact v1
     ·exact hv2 z hz
    ·have e1 := Nat.mul_le_mul_left (szF g) (show gB u1.length ≤ 2 * u1.length by unfold gB;omega)
     have e2 : szF g * (2 * b.length) = szF g * (2 * u1.length) + szF g * (2 * r.length) := by rw [← Nat.mul_add];congr 1;omega
     omega
 cases hit : iterR (readR g) n ((b.drop h.s.toNat).take n) h.s.toNat 1 [] with
 | bad a e s => rw [hit] at hrd;simp at hrd
 | got y r s =>
  rw [hit] at hrd
  simp only at hrd
  injection hrd with e1 e2 e3
  subst e1 e2 e3
  have hlen2 : ((b.drop h.s.toNat).take n).length = n := by rw [List.length_take,List.length_drop];omega
  have hlen : (b.take (h.s.toNat + n)).length = h.s.toNat + n := by rw [List.length_take];omega
  have hu : b.take (h.s.toNat + n) = b.take h.s.toNat ++ (b.drop h.s.toNat).take n := by rw [List.take_add]
  obtain ⟨ys,hx2,hr0,hyl,hf2,hv2,hq3,hq4⟩ := key n _ _ _ _ _ _ _ (by omega) (by omega) hit
  rw [List.nil_append] at hx2
  subst hx2
  obtain ⟨hf3,hw3⟩ := hf2 0 0 (by omega)
  rw [hlen2] at hf3 hyl hq4
  rw [Nat.zero_add] at hf3
  refine ⟨b.take (h.s.toNat + n),(List.take_append_drop _ _).symm,?_,?_,?_,?_,by omega,?_,?_⟩
  ·rw [fitR_mk]
   simp only [List.length_nil,alone_l (.inl k2),Bool.true_eq_false,if_false,if_neg k0,if_neg k1,if_neg k4,if_neg k5]
   rw [if_neg (fun hh => k3 hh.1)]
   have := hf3
   rw [mayR_is g2 g3 g4,w64 (by omega) (by omega)] at this
   rw [hlen]
   refine this.trans ?_
   congr 1
   omega
  ·rw [leastR,spanR_mk,if_neg k0,if_pos (.inr k2),hlen,w64 (by omega) (by omega)]
   omega
  ·rw [writeR_mk,if_neg k0,if_neg k1,if_neg (by omega),if_pos k2,hw3,hlen2,hu]
   have := beB_be (b.take h.s.toNat)
   rw [List.length_take,Nat.min_eq_left (by omega),← g6] at this
   rw [this]
  ·exact (wfV_mk _ _).2 ⟨by unfold u64B;simp only;omega,by simp,by omega,hv2⟩
  ·rw [szF_mk,if_pos hk23,hlen]
   have h1 : 2 * n + 1 ≤ gB (h.s.toNat + n) := by unfold gB;omega
   have h2 := Nat.mul_le_mul_left (1 + szL [g]) h1
   rw [Nat.add_mul,Nat.one_mul] at h2
   have h3 : szL [g] = szF g := by rw [szL,szL];omega
   have h4 : szF g * (2 * n) ≤ szF g * (2 * n + 1) := Nat.mul_le_mul_left _ (by omega)
   rw [h3] at h2 ⊢
   omega
  ·intro _ r'
   rw [readR_mk,if_neg k0,if_neg k1,if_neg k4,if_neg k5,if_neg k3,happ r',if_neg (by simp [hz]),hn,readHd_one]
   have e5 : (((b.take (h.s.toNat + n) ++ r').drop h.s.toNat).take n) = (b.drop h.s.toNat).take n := by
    rw [List.drop_append_of_le_length (by omega),List.take_append_of_le_length (by rw [List.length_drop];omega),hu,List.drop_append_of_le_length (by rw [List.length_take];omega),List.drop_of_length_le (l := b.take h.s.toNat) (by rw [List.length_take];omega),List.nil_append,List.take_take,Nat.min_self]
   rw [e5,hit]
   simp only
   rw [List.drop_append_of_le_length (by omega),List.drop_of_length_le (by omega)]
   rfl
end Go.Proofs.Ytdhnfccgojgehaa

namespace Go.Proofs.Ytdhnfccgojgehaa
open Go.RowKit

def WroteR (f : Fm) (x : Vt) (n : Int) : Prop :=
 ((writeR f x).length : Int) = n ∧ (openR f = false → ∀ m,∃ q,readR f (writeR f x ++ m) = .got x m q) ∧ ∃ q,readR f (writeR f x) = .got x [] q

theorem be_frontW (n x : Nat) (r : List UInt8) (h : x < 256 ^ n) : be ((beB n x ++ r).take n) = x := by
 rw [List.take_left' (beB_length n x),be_beB,Nat.mod_eq_of_lt h]
theorem lenE_is {h : FH} {w : List UInt8} {N : Nat} (hw : w.length = N) (hs : 0 ≤ h.s) (hN : N < 256 ^ h.s.toNat) (hm : mayR (N : Int) h.lo h.hi h.st = 0) (m : List UInt8) : lenE h (beB h.s.toNat N ++ (w ++ m)) = (0,0,N) := by
 obtain ⟨h1,h2,h3⟩ := mayR_ok hm
 have e := be_frontW h.s.toNat N (w ++ m) hN
 unfold lenE
 rw [e,if_neg,if_neg,if_neg]
 ·simp only [List.length_append,beB_length];omega
 ·simp only [not_or,Decidable.not_not];exact ⟨by omega,by omega,h3⟩
 ·simp only [List.length_append,beB_length];omega
theorem alone_is {k n : Int} {b l : Nat} (h : ¬ aloneB k n b l = false) : (fld k = 0 ∨ n = 0) ∧ (fld k = 1 ∨ b = 0) ∧ (fld k = 2 ∨ l = 0) := by
 rw [Bool.not_eq_false] at h
 unfold aloneB at h
 simpa using h

theorem write_got (f : Fm) : szF f ≤ 100000 → checkR f = 0 → ∀ x n,wfV x = true → fitR f x = (n,0) → (writeR f x).length ≤ 140737488351232 → WroteR f x n := by
 induction f using RT.induct with
 | h h P ih =>
 intro hsz hck x n hwf hfit hbd
 obtain ⟨hown,hone,h32,hch⟩ := check_ok hck
 obtain ⟨⟨a,b⟩,l⟩ := x
 obtain ⟨hu64,hbl,hll,hwl⟩ := (wfV_mk _ _).1 hwf
 simp only at hu64 hbl hll
 rw [fitR_mk] at hfit
 by_cases hal : aloneB h.k a b.length l.length = false
 ·rw [if_pos hal] at hfit
  simp at hfit
 rw [if_neg hal] at hfit
 obtain ⟨ha0,ha1,ha2⟩ := alone_is hal
 simp only at ha0 ha1 ha2 hfit
 by_cases k0 : h.k = 0
 ·rw [if_pos k0] at hfit
  have hf : fld h.k = 0 := by rw [k0];rfl
  obtain rfl : b = [] := List.eq_nil_of_length_eq_zero (by omega)
  obtain rfl : l = [] := List.eq_nil_of_length_eq_zero (by omega)
  have hs := hown.k0 k0
  have hsb := own_sz hck k0
  split at hfit
  ·simp at hfit
  rename_i hlt
  injection hfit with hn _
  subst hn
  have e : writeR (.mk h P) (.mk ⟨a,[]⟩ []) = beB h.s.toNat a.toNat := by rw [writeR_mk,if_pos k0]
  have hA : a.toNat < 256 ^ h.s.toNat := by
   have h2 : (256 : Nat) ^ h.s.toNat = 2 ^ (8 * h.s.toNat) := by rw [Nat.pow_mul]
   have h4 : ((2 : Int) ^ (8 * h.s.toNat)) = ((2 ^ (8 * h.s.toNat) : Nat) : Int) := by simp
   unfold u64B at hu64
   by_cases h8 : h.s < 8
   ·have : ¬ (2 : Int) ^ (8 * h.s.toNat) ≤ a := fun hh => hlt ⟨h8,hh⟩
    omega
   ·have h5 : h.s.toNat = 8 := by omega
    rw [h5]
    have h3 : (256 : Nat) ^ 8 = 18446744073709551616 := by decide
    omega
  have ea : ((a.toNat : Nat) : Int) = a := by unfold u64B at hu64;omega
  have key : ∀ m,readR (.mk h P) (beB h.s.toNat a.toNat ++ m) = .got (.mk ⟨a,[]⟩ []) m 1 := by
   intro m
   rw [readR_mk,if_pos k0,if_neg (by rw [List.length_append,beB_length];omega),be_frontW _ _ _ hA,List.drop_left' (beB_length _ _),ea]
  refine ⟨by rw [e,beB_length];omega,fun _ m => ⟨1,by rw [e];exact key m⟩,1,by rw [e];have := key [];rwa [List.append_nil] at this⟩
 rw [if_neg k0] at hfit
 have hk := hown.k
 have hfn : fld h.k ≠ 0 := by
  intro hh
  unfold fld at hh
  split at hh <;> (try split at hh) <;> omega
 obtain rfl : a = 0 := ha0.resolve_left hfn
 by_cases k1 : h.k = 1
 ·rw [if_pos k1] at hfit
  have hf : fld h.k = 1 := by rw [k1];rfl
  obtain rfl : l = [] := List.eq_nil_of_length_eq_zero (by omega)
  obtain ⟨hs1,hs2,hl1,hl2,hl3,hl4,hl5,hl6⟩ := hown.k12 (.inl k1)
  injection hfit with hn hm
  obtain ⟨m1,m2,m3⟩ := mayR_ok hm
  have hN : b.length < 256 ^ h.s.toNat := by
   have : (((256 ^ h.s.toNat : Nat)) : Int) = 256 ^ h.s.toNat := by simp
   omega
  rw [w64 (by omega) (by omega)] at hn
  have e : writeR (.mk h P) (.mk ⟨0,b⟩ []) = beB h.s.toNat b.length ++ b := by rw [writeR_mk,if_neg k0,if_pos k1]
  have key : ∀ m,readR (.mk h P) (beB h.s.toNat b.length ++ b ++ m) = .got (.mk ⟨0,b⟩ []) m 1 := by
   intro m
   rw [List.append_assoc,readR_mk,if_neg k0,if_pos k1,lenE_is rfl (by omega) hN hm,if_neg (by simp)]
   congr 1
   ·congr 2
    simp only
    rw [List.drop_left' (beB_length _ _),List.take_left' rfl]
   ·rw [← List.append_assoc,List.drop_left' (by rw [List.length_append,beB_length])]
  refine ⟨by rw [e,List.length_append,beB_length];omega,fun _ m => ⟨1,by rw [e];exact key m⟩,1,by rw [e];have := key [];rwa [List.append_nil] at this⟩
 rw [if_neg k1] at hfit
 by_cases k4 : h.k = 4
 ·rw [if_pos k4] at hfit
  have hf : fld h.k = 1 := by rw [k4];rfl
  obtain rfl : l = [] := List.eq_nil_of_length_eq_zero (by omega)
  injection hfit with hn hm
  obtain ⟨m1,m2,m3⟩ := mayR_ok hm
  have e : writeR (.mk h P) (.mk ⟨0,b⟩ []) = b := by rw [writeR_mk,if_neg k0,if_neg k1,if_pos (.inl k4)]
  refine ⟨by rw [e];exact hn,fun ho => ?_,1,?_⟩
  ·rw [openR_mk,if_neg (by omega)] at ho
   simp [k4] at ho
  ·rw [e,readR_mk,if_neg k0,if_neg k1,if_pos k4,if_neg (by omega),if_neg (by omega)]
 rw [if_neg k4] at hfit
 by_cases k5 : h.k = 5
 ·rw [if_pos k5] at hfit
  have hf : fld h.k = 1 := by rw [k5];rfl
  obtain rfl : l = [] := List.eq_nil_of_length_eq_zero (by omega)
  injection hfit with hn hm
  obtain ⟨m1,m2,m3⟩ := mayR_ok hm
  have hl := hown.k5 k5
  have e : writeR (.mk h P) (.mk ⟨0,b⟩ []) = b := by rw [writeR_mk,if_neg k0,if_neg k1,if_pos (.inr k5)]
  have key : ∀ m,readR (.mk h P) (b ++ m) = .got (.mk ⟨0,b⟩ []) m 1 := by
   intro m
   rw [readR_mk,if_neg k0,if_neg k1,if_neg k4,if_pos k5,if_neg (by rw [List.length_append];omega),List.take_left' (by omega),List.drop_left' (by omega)]
  refine ⟨by rw [e];omega,fun _ m => ⟨1,by rw [e];exact key m⟩,1,by rw [e];have := key [];rwa [List.append_nil] at this⟩
 rw [if_neg k5] at hfit
 have hk23 : h.k = 2 ∨ h.k = 3 := by omega
 have hf : fld h.k = 2 := by rcases hk23 with hh | hh <;> rw [hh] <;> rfl
 obtain rfl : b = [] := List.eq_nil_of_length_eq_zero (by omega)
 have hPc : ∀ y ∈ P,checkR y = 0 := (hch hk23).1
 rw [szF_mk,if_pos hk23] at hsz
 have hPz : ∀ y ∈ P,szF y ≤ 100000 := fun y hy => by have := szL_mem hy;omega
 by_cases k3 : h.k = 3
 ·by_cases hlen : l.length = P.length
  rotate_left
  ·rw [if_pos ⟨k3,hlen⟩] at hfit
   simp at hfit
  rw [if_neg (fun hh => hh.2 hlen)] at hfit
  have hshut := row_shut hck k3
  have key : ∀ (ys : List Vt) (i c0 : Nat) (n : Int),i + ys.length = P.length → (∀ y ∈ ys,wfV y = true) → c0 + (writeL (.mk h P) i ys).length ≤ 140737488351232 → fitL (.mk h P) c0 i ys = (n,0) →
    n = ((c0 + (writeL (.mk h P) i ys).length : Nat) : Int) ∧ ∀ off q0 acc,((∀ j (hj : j < P.length),openR P[j] = false) → ∀ m,∃ q,readRow (P.drop i) (writeL (.mk h P) i ys ++ m) off q0 acc = .got (.mk ⟨0,[]⟩ (acc ++ ys)) m q) ∧ ∃ q,readRow (P.drop i) (writeL (.mk h P) i ys) off q0 acc = .got (.mk ⟨0,[]⟩ (acc ++ ys)) [] q := by
   intro ys
   induction ys with
   | nil =>
    intro i c0 n hi _ _ hft
    rw [fitL_nil,if_pos k3] at hft
    injection hft with hn _
    refine ⟨by rw [writeL,← hn];simp,fun off q0 acc => ⟨fun _ m => ⟨q0,?_⟩,q0,?_⟩⟩
    ·rw [readRow_end (by simp at hi;omega),writeL];simp
    ·rw [readRow_end (by simp at hi;omega),writeL];simp
   | cons y t iht =>
    intro i c0 n hi hw hb hft
    rw [List.length_cons] at hi
    have hlt : i < P.length := by omega
    have hmem := List.getElem_mem hlt
    have hg : P.getD (i % P.length) nilF = P[i] := by rw [Nat.mod_eq_of_lt hlt];simp [hlt]
    rw [writeL] at hb ⊢
    simp only [RT.l,hg,List.length_append] at hb ⊢
    rw [fitL] at hft
    simp only [RT.l,hg] at hft
    obtain ⟨⟨k,e⟩,hke⟩ : ∃ r,fitR P[i] y = r := ⟨_,rfl⟩
    rw [hke] at hft
    simp only at hft
    by_cases he : e = 0
    rotate_left
    ·rw [if_neg he] at hft
     injection hft with _ h2
     exact absurd h2 he
    subst he
    rw [if_pos rfl] at hft
    obtain ⟨w1,w2,q1,w3⟩ := ih P[i] hmem (hPz _ hmem) (hPc _ hmem) y k (hw y (by simp)) hke (by omega)
    subst w1
    rw [w64 (by omega) (by omega),show (c0 : Int) + ((writeR P[i] y).length : Int) = ((c0 + (writeR P[i] y).length : Nat) : Int) by omega] at hft
    obtain ⟨g1,g2⟩ := iht (i + 1) (c0 + (writeR P[i] y).length) n (by omega) (fun z hz => hw z (by simp [hz])) (by omega) hft
    refine ⟨by rw [g1];congr 1;omega,fun off q0 acc => ⟨fun hall m => ?_,?_⟩⟩
    ·obtain ⟨q2,h2⟩ := w2 (hall i hlt) (writeL (.mk h P) (i + 1) t ++ m)
     obtain ⟨q3,h3⟩ := (g2 (off + ((writeR P[i] y ++ (writeL (.mk h P) (i + 1) t ++ m)).length - (writeL (.mk h P) (i + 1) t ++ m).length)) (q0 + q2) (acc ++ [y])).1 hall m
     refine ⟨q3,?_⟩
     rw [readRow_drop hlt,List.append_assoc,h2]
     simp only
     rw [h3,List.append_assoc]
     rfl
    ·by_cases hlast : i + 1 < P.length
     ·obtain ⟨q2,h2⟩ := w2 (hshut.1 i hlt hlast) (writeL (.mk h P) (i + 1) t)
      obtain ⟨q3,h3⟩ := (g2 (off + ((writeR P[i] y ++ writeL (.mk h P) (i + 1) t).length - (writeL (.mk h P) (i + 1) t).length)) (q0 + q2) (acc ++ [y])).2
      refine ⟨q3,?_⟩
      rw [readRow_drop hlt,h2]
      simp only
      rw [h3,List.append_assoc]
      rfl
     ·obtain rfl : t = [] := List.eq_nil_of_length_eq_zero (by omega)
      refine ⟨q0 + q1,?_⟩
      rw [readRow_drop hlt,writeL,List.append_nil,w3]
      simp only
      rw [readRow_end (by omega)]
  have e : writeR (.mk h P) (.mk ⟨0,[]⟩ l) = writeL (.mk h P) 0 l := by rw [writeR_mk,if_neg k0,if_neg k1,if_neg (by omega),if_neg (by omega)]
  rw [e] at hbd
  obtain ⟨g1,g2⟩ := key l 0 0 n (by omega) hwl (by omega) hfit
  obtain ⟨g3,g4⟩ := g2 0 1 []
  refine ⟨by rw [e,g1];simp,fun ho m => ?_,?_⟩
  ·obtain ⟨q,hq⟩ := g3 (hshut.2 ho) m
   refine ⟨q,?_⟩
   rw [e,readR_mk,if_neg k0,if_neg k1,if_neg k4,if_neg k5,if_pos k3]
   exact hq
  ·obtain ⟨q,hq⟩ := g4
   refine ⟨q,?_⟩
   rw [e,readR_mk,if_neg k0,if_neg k1,if_neg k4,if_neg k5,if_pos k3]
   exact hq
 rw [if_neg (fun hh => k3 hh.1)] at hfit
 have k2 : h.k = 2 := by omega
 obtain ⟨g,rfl,hgc,hgo,hgl⟩ := list_item hck k2
 have hgz := hPz g (by simp)
 obtain ⟨hs1,hs2,hl1,hl2,hl3,hl4,hl5,hl6⟩ := hown.k12 (.inr k2)
 have key : ∀ (ys : List Vt) (j c0 : Nat) (n : Int),(∀ y ∈ ys,wfV y = true) → c0 + (writeL (.mk h [g]) j ys).length ≤ 140737488351232 → fitL (.mk h [g]) c0 j ys = (n,0) →
   n = wrap64 (h.s + ((c0 + (writeL (.mk h [g]) j ys).length : Nat) : Int)) ∧ mayR ((c0 + (writeL (.mk h [g]) j ys).length : Nat) : Int) h.lo h.hi h.st = 0 ∧
   ∀ fuel off q0 acc,(writeL (.mk h [g]) j ys).length ≤ fuel → ∃ q,iterR (readR g) fuel (writeL (.mk h [g]) j ys) off q0 acc = .got (.mk ⟨0,[]⟩ (acc ++ ys)) [] q := by
  intro ys
  induction ys with
  | nil =>
   intro j c0 n _ _ hft
   rw [fitL_nil,if_neg k3] at hft
   injection hft with hn hm
   rw [writeL]
   refine ⟨hn.symm,hm,fun fuel off q0 acc _ => ⟨q0,?_⟩⟩
   cases fuel with
   | zero => rw [iterR];simp
   | succ fuel => rw [iterR,if_pos List.length_nil];simp
  | cons y t iht =>
   intro j c0 n hw hb hft
   have hg : ([g] : List Fm).getD (j % ([g] : List Fm).length) nilF = g := by simp [Nat.mod_one]
   rw [writeL] at hb ⊢
   simp only [RT.l,hg,List.length_append] at hb ⊢
   rw [fitL] at hft
   simp only [RT.l,hg] at hft
   obtain ⟨⟨k,e⟩,hke⟩ : ∃ r,fitR g y = r := ⟨_,rfl⟩
   rw [hke] at hft
   simp only at hft
   by_cases he : e = 0
   rotate_left
   ·rw [if_neg he] at hft
    injection hft with _ h2
    exact absurd h2 he
   subst he
   rw [if_pos rfl] at hft
   obtain ⟨w1,w2,q1,w3⟩ := ih g (by simp) hgz hgc y k (hw y (by simp)) hke (by omega)
   have hleast : leastR g ≤ ((writeR g y).length : Int) := by
    obtain ⟨u,hu,_,hu2,hu3,_⟩ := read_got g hgz hgc (writeR g y) (by omega) y [] q1 w3
    rw [hu3]
    exact hu2
   have hsp := span_sz FH.lo (.inl rfl) g hgz hgc
   have hgl2 : leastR g = spanR FH.lo g := rfl
   subst w1
   rw [w64 (by omega) (by omega),show (c0 : Int) + ((writeR g y).length : Int) = ((c0 + (writeR g y).length : Nat) : Int) by omega] at hft
   obtain ⟨g1,g2,g3⟩ := iht (j + 1) (c0 + (writeR g y).length) n (fun z hz => hw z (by simp [hz])) (by omega) hft
   rw [Nat.add_assoc] at g1 g2
   refine ⟨g1,g2,fun fuel off q0 acc hfu => ?_⟩
   cases fuel with
   | zero => omega
   | succ fuel =>
    obtain ⟨q2,h2⟩ := w2 hgo (writeL (.mk h [g]) (j + 1) t)
    obtain ⟨q3,h3⟩ := g3 fuel (off + ((writeR g y ++ writeL (.mk h [g]) (j + 1) t).length - (writeL (.mk h [g]) (j + 1) t).length)) (q0 + q2) (acc ++ [y]) (by omega)
    refine ⟨q3,?_⟩
    rw [iterR,if_neg (by rw [List.length_append];omega),h2]
    simp only
    rw [h3,List.append_assoc]
    rfl
 have e : writeR (.mk h [g]) (.mk ⟨0,[]⟩ l) = beB h.s.toNat (writeL (.mk h [g]) 0 l).length ++ writeL (.mk h [g]) 0 l := by rw [writeR_mk,if_neg k0,if_neg k1,if_neg (by omega),if_pos k2]
 rw [e,List.length_append,beB_length] at hbd
 obtain ⟨g1,g2,g3⟩ := key l 0 0 n hwl (by omega) hfit
 rw [Nat.zero_add] at g1 g2
 obtain ⟨m1,m2,m3⟩ := mayR_ok g2
 have hN : (writeL (.mk h [g]) 0 l).length < 256 ^ h.s.toNat := by
  have : (((256 ^ h.s.toNat : Nat)) : Int) = 256 ^ h.s.toNat := by simp
  omega
 rw [w64 (by omega) (by omega)] at g1
 obtain ⟨q,hq⟩ := g3 (writeL (.mk h [g]) 0 l).length h.s.toNat 1 [] (Nat.le_refl _)
 have keyR : ∀ m,readR (.mk h [g]) (beB h.s.toNat (writeL (.mk h [g]) 0 l).length ++ writeL (.mk h [g]) 0 l ++ m) = .got (.mk ⟨0,[]⟩ l) m q := by
  intro m
  rw [List.append_assoc,readR_mk,if_neg k0,if_neg k1,if_neg k4,if_neg k5,if_neg k3,lenE_is rfl (by omega) hN g2,if_neg (by simp),readHd_one]
  simp only
  rw [List.drop_left' (beB_length _ _),List.take_left' rfl,hq]
  simp only [List.nil_append]
  rw [← List.append_assoc,List.drop_left' (by rw [List.length_append,beB_length])]
 refine ⟨by rw [e,List.length_append,beB_length];omega,fun _ m => ⟨q,by rw [e];exact keyR m⟩,q,by rw [e];have := keyR [];rwa [List.append_nil] at this⟩
end Go.Proofs.Ytdhnfccgojgehaa

namespace Go.Proofs.Ytdhnfccgojgehaa
open Go.RowKit

theorem fitL_cons (h : FH) (P : List Fm) (q : Int) (j : Nat) (x : Vt) (t : List Vt) : fitL (.mk h P) q j (x :: t) =
  if (fitR (P.getD (j % P.length) nilF) x).2 = 0 then fitL (.mk h P) (wrap64 (q + (fitR (P.getD (j % P.length) nilF) x).1)) (j + 1) t
  else (0,(fitR (P.getD (j % P.length) nilF) x).2) := by
 rw [fitL]
 rfl
theorem fitL_el {h : FH} {P : List Fm} : ∀ (ys : List Vt) (j : Nat) (c0 n : Int),fitL (.mk h P) c0 j ys = (n,0) → ∀ i (hi : i < ys.length),∃ m,fitR (P.getD ((j + i) % P.length) nilF) ys[i] = (m,0) := by
 intro ys
 induction ys with
 | nil => intro j c0 n _ i hi;simp at hi
 | cons y t ih =>
  intro j c0 n hf i hi
  rw [fitL_cons] at hf
  by_cases he : (fitR (P.getD (j % P.length) nilF) y).2 = 0
  rotate_left
  ·rw [if_neg he] at hf
   injection hf with _ h2
   exact absurd h2 he
  rw [if_pos he] at hf
  cases i with
  | zero => exact ⟨(fitR (P.getD (j % P.length) nilF) y).1,by rw [Nat.add_zero,List.getElem_cons_zero,← he]⟩
  | succ i =>
   obtain ⟨m,hm⟩ := ih (j + 1) _ n hf i (by simpa using hi)
   exact ⟨m,by rw [show j + (i + 1) = j + 1 + i from by omega,List.getElem_cons_succ];exact hm⟩
theorem fitL_len {h : FH} {P : List Fm} (k3 : h.k ≠ 3) : ∀ (ys : List Vt) (j c0 : Nat) (n : Int),
  (∀ y ∈ ys,∀ q m,fitR (P.getD (q % P.length) nilF) y = (m,0) → (writeR (P.getD (q % P.length) nilF) y).length ≤ 140737488351232 → ((writeR (P.getD (q % P.length) nilF) y).length : Int) = m) →
  c0 + (writeL (.mk h P) j ys).length ≤ 140737488351232 → fitL (.mk h P) c0 j ys = (n,0) → mayR ((c0 + (writeL (.mk h P) j ys).length : Nat) : Int) h.lo h.hi h.st = 0 := by
 intro ys
 induction ys with
 | nil =>
  intro j c0 n _ _ hf
  rw [fitL_nil,if_neg k3] at hf
  injection hf with _ hm
 | cons y t ih =>
  intro j c0 n hel hb hf
  rw [writeL] at hb ⊢
  rw [fitL_cons] at hf
  simp only [RT.l,List.length_append] at hb ⊢
  obtain ⟨⟨k,e⟩,hke⟩ : ∃ r,fitR (P.getD (j % P.length) nilF) y = r := ⟨_,rfl⟩
  rw [hke] at hf
  simp only at hf
  by_cases he : e = 0
  rotate_left
  ·rw [if_neg he] at hf
   injection hf with _ h2
   exact absurd h2 he
  subst he
  rw [if_pos rfl] at hf
  have hk := hel y (by simp) j k hke (by omega)
  rw [← hk,w64 (by omega) (by omega),show (c0 : Int) + ((writeR (P.getD (j % P.length) nilF) y).length : Int) = ((c0 + (writeR (P.getD (j % P.length) nilF) y).length : Nat) : Int) by omega] at hf
  have := ih (j + 1) _ n (fun z hz => hel z (by simp [hz])) (by omega) hf
  rwa [Nat.add_assoc] at this
theorem writeL_snoc (f : Fm) : ∀ (ys : List Vt) (j : Nat) (x : Vt),writeL f j (ys ++ [x]) = writeL f j ys ++ writeR (f.l.getD ((j + ys.length) % f.l.length) nilF) x := by
 intro ys
 induction ys with
 | nil => intro j x;rw [List.nil_append,writeL,writeL,writeL];simp
 | cons y t ih =>
  intro j x
  rw [List.cons_append,writeL,ih,writeL,List.append_assoc,List.length_cons,show j + 1 + t.length = j + (t.length + 1) from by omega]
theorem writeL_take (f : Fm) (ys : List Vt) (i : Nat) (hi : i < ys.length) : writeL f 0 (ys.take (i + 1)) = writeL f 0 (ys.take i) ++ writeR (f.l.getD (i % f.l.length) nilF) ys[i] := by
 rw [List.take_succ_eq_append_getElem hi,writeL_snoc,List.length_take,Nat.min_eq_left (by omega),Nat.zero_add]
theorem writeL_le (f : Fm) (ys : List Vt) (i : Nat) (hi : i < ys.length) : (writeL f 0 (ys.take i)).length + (writeR (f.l.getD (i % f.l.length) nilF) ys[i]).length ≤ (writeL f 0 ys).length := by
 have hap : ∀ (a b : List Vt) (j : Nat),(writeL f j a).length ≤ (writeL f j (a ++ b)).length := by
  intro a
  induction a with
  | nil => intro b j;rw [writeL];simp
  | cons y t ih => intro b j;rw [List.cons_append,writeL,writeL,List.length_append,List.length_append];have := ih b (j + 1);omega
 have h1 := hap (ys.take (i + 1)) (ys.drop (i + 1)) 0
 rw [List.take_append_drop,writeL_take f ys i hi,List.length_append] at h1
 exact h1

/-- What stands in a value that fits, kind by kind. -/
inductive FitK (h : FH) (P : List Fm) (a : Int) (b : List UInt8) (l : List Vt) : Prop where
 | num (s : Nat) : h.k = 0 → h.s = s → szB s = true → a.toNat < 256 ^ s → a = (a.toNat : Nat) → a.toNat < 18446744073709551616 → FitK h P a b l
 | opq (s : Nat) : h.k = 1 → h.s = s → 1 ≤ s → s ≤ 3 → b.length < 256 ^ s → FitK h P a b l
 | raw : h.k = 4 ∨ h.k = 5 → FitK h P a b l
 | list (s : Nat) : h.k = 2 → h.s = s → 1 ≤ s → s ≤ 3 → (writeL (.mk h P) 0 l).length < 256 ^ s → 0 < P.length → (∀ y ∈ P,checkR y = 0) → (∀ i (hi : i < l.length),∃ m,fitR (P.getD (i % P.length) nilF) l[i] = (m,0)) → FitK h P a b l
 | row : h.k = 3 → l.length = P.length → (∀ y ∈ P,checkR y = 0) → (∀ i (hi : i < l.length),∃ m,fitR (P.getD (i % P.length) nilF) l[i] = (m,0)) → FitK h P a b l

theorem fit_kinds {h : FH} {P : List Fm} {a : Int} {b : List UInt8} {l : List Vt} {n : Int} (hz : szF (.mk h P) ≤ 100000) (hc : checkR (.mk h P) = 0) (hw : wfV (.mk ⟨a,b⟩ l) = true) (hf : fitR (.mk h P) (.mk ⟨a,b⟩ l) = (n,0)) (hbd : (writeR (.mk h P) (.mk ⟨a,b⟩ l)).length ≤ 140737488351232) : FitK h P a b l := by
 obtain ⟨hown,hone,h32,hch⟩ := check_ok hc
 obtain ⟨hu64,hbl,hll,hwl⟩ := (wfV_mk _ _).1 hw
 simp only at hu64 hbl hll
 rw [fitR_mk] at hf
 by_cases hal : aloneB h.k a b.length l.length = false
 ·rw [if_pos hal] at hf
  simp at hf
 rw [if_neg hal] at hf
 simp only at hf
 by_cases k0 : h.k = 0
 ·rw [if_pos k0] at hf
  have hs := hown.k0 k0
  have hsb := own_sz hc k0
  split at hf
  ·simp at hf
  rename_i hlt
  have hA : a.toNat < 256 ^ h.s.toNat := by
   have h2 : (256 : Nat) ^ h.s.toNat = 2 ^ (8 * h.s.toNat) := by rw [Nat.pow_mul]
   have h4 : ((2 : Int) ^ (8 * h.s.toNat)) = ((2 ^ (8 * h.s.toNat) : Nat) : Int) := by simp
   unfold u64B at hu64
   by_cases h8 : h.s < 8
   ·have : ¬ (2 : Int) ^ (8 * h.s.toNat) ≤ a := fun hh => hlt ⟨h8,hh⟩
    omega
   ·have h5 : h.s.toNat = 8 := by omega
    rw [h5]
    have h3 : (256 : Nat) ^ 8 = 18446744073709551616 := by decide
    omega
  have es : h.s = (h.s.toNat : Int) := by omega
  unfold u64B at hu64
  exact .num h.s.toNat k0 es (by rw [← es];exact hsb) hA (by omega) (by omega)
 rw [if_neg k0] at hf
 by_cases k1 : h.k = 1
 ·rw [if_pos k1] at hf
  obtain ⟨hs1,hs2,hl1,hl2,hl3,hl4,hl5,hl6⟩ := hown.k12 (.inl k1)
  injection hf with hn hm
  obtain ⟨m1,m2,m3⟩ := mayR_ok hm
  have hN : b.length < 256 ^ h.s.toNat := by
   have : (((256 ^ h.s.toNat : Nat)) : Int) = 256 ^ h.s.toNat := by simp
   omega
  exact .opq h.s.toNat k1 (by omega) (by omega) (by omega) hN
 rw [if_neg k1] at hf
 have hk := hown.k
 by_cases k4 : h.k = 4
 ·exact .raw (.inl k4)
 rw [if_neg k4] at hf
 by_cases k5 : h.k = 5
 ·exact .raw (.inr k5)
 rw [if_neg k5] at hf
 have hk23 : h.k = 2 ∨ h.k = 3 := by omega
 have hPc : ∀ y ∈ P,checkR y = 0 := (hch hk23).1
 rw [szF_mk,if_pos hk23] at hz
 have hPz : ∀ y ∈ P,szF y ≤ 100000 := fun y hy => by have := szL_mem hy;omega
 by_cases k3 : h.k = 3
 ·by_cases hlen : l.length = P.length
  rotate_left
  ·rw [if_pos ⟨k3,hlen⟩] at hf
   simp at hf
  rw [if_neg (fun hh => hh.2 hlen)] at hf
  refine .row k3 hlen hPc (fun i hi => ?_)
  obtain ⟨m,hm⟩ := fitL_el l 0 0 n hf i hi
  exact ⟨m,by rwa [Nat.zero_add] at hm⟩
 rw [if_neg (fun hh => k3 hh.1)] at hf
 have k2 : h.k = 2 := by omega
 obtain ⟨g,rfl,hgc,hgo,hgl⟩ := list_item hc k2
 obtain ⟨hs1,hs2,hl1,hl2,hl3,hl4,hl5,hl6⟩ := hown.k12 (.inr k2)
 have e : writeR (.mk h [g]) (.mk ⟨a,b⟩ l) = beB h.s.toNat (writeL (.mk h [g]) 0 l).length ++ writeL (.mk h [g]) 0 l := by rw [writeR_mk,if_neg k0,if_neg k1,if_neg (by omega),if_pos k2]
 rw [e,List.length_append,beB_length] at hbd
 have hg : ∀ q,([g] : List Fm).getD (q % ([g] : List Fm).length) nilF = g := fun q => by simp [Nat.mod_one]
 have hm := fitL_len (h := h) (P := [g]) k3 l 0 0 n (fun y hy q m hq hqb => by
  rw [hg] at hq hqb ⊢
  exact (write_got g (hPz g (by simp)) hgc y m (hwl y hy) hq hqb).1) (by omega) hf
 rw [Nat.zero_add] at hm
 obtain ⟨m1,m2,m3⟩ := mayR_ok hm
 have hN : (writeL (.mk h [g]) 0 l).length < 256 ^ h.s.toNat := by
  have : (((256 ^ h.s.toNat : Nat)) : Int) = 256 ^ h.s.toNat := by simp
  omega
 refine .list h.s.toNat k2 (by omega) (by omega) (by omega) hN (by simp) hPc (fun i hi => ?_)
 obtain ⟨m,hm⟩ := fitL_el l 0 0 n hf i hi
 exact ⟨m,by rwa [Nat.zero_add] at hm⟩
end Go.Proofs.Ytdhnfccgojgehaa

namespace Go.Proofs.Ytdhnfccgojgehaa
open Go.RowKit
set_option maxRecDepth 100000

theorem BStep.wide {ok ok' : Nat → Prop} {g most : Nat} {bs : List UInt8} {ps : List (Nat × Nat)} {w w2 : World} {e : Ending} (h : BStep (fun i => ok i ∧ i < w.heap.size) g bs most ps w e w2) (hok : ∀ i,ok i → ok' i) : BStep ok' g bs most ps w e w2 := by
 obtain ⟨h1,h2,h3⟩ := h
 exact ⟨h1,h2.mono (fun i _ hi => hi.imp (fun h => hok i h.1) id),h3.mono (fun i _ h => hok i h.1)⟩
/-- What laying a value of a form does. -/
def LayC (f : Fm) : Prop := ∀ (ok okr : Nat → Prop) (g : Nat) (bs : List UInt8) (most : Nat) (ps : List (Nat × Nat)) (x : Vt) (n : Int) (fv vv : Value) (w : World),
 checkR f = 0 → fitR f x = (n,0) → wfV x = true → Bld w ok g bs most ps → FmR w okr fv f → VtR w okr vv x → (∀ i,okr i → i < w.heap.size ∧ ¬ ok i) →
 bs.length + (writeR f x).length ≤ most → ps.length + szF f ≤ 1000000 →
 Calls Try.prog 24 #[.pointer (some ⟨g,0,none⟩),fv,vv] w (BStep ok g (bs ++ writeR f x) most ps w)

theorem FmR.here {w : World} {ok : Nat → Prop} {k s lo hi st : Int} {sv : Value} {P : List Fm} (h : FmR w ok (.agg #[.int .i64 k,.int .i64 s,.int .i64 lo,.int .i64 hi,.int .i64 st,sv]) (.mk ⟨k,s,lo,hi,st⟩ P)) : FsR w ok sv P := by
 obtain ⟨sv',e,_,h2⟩ := h
 simp [RT.a] at e
 subst e
 exact h2
theorem FsR.len {w : World} {ok : Nat → Prop} {A : Option Addr} {n c : Nat} {l : List Fm} (h : FsR w ok (.slice A n c) l) : n = l.length ∧ n ≤ c ∧ n ≤ 140737488355328 := by
 obtain ⟨A',c',e,h1,h2,_⟩ := h
 injection e with _ e2 e3
 omega

set_option maxHeartbeats 6400000 in
theorem wall_any (k s lo hi st : Int) (P : List Fm) (hC : ∀ y ∈ P,LayC y) (ok okr : Nat → Prop) (g : Nat) (bs : List UInt8) (most : Nat) (ps : List (Nat × Nat)) (l : List Vt) (A A0 : Option Addr) (c c0 : Nat) (w : World)
  (hel : ∀ i (hi : i < l.length),∃ m,fitR (P.getD (i % P.length) nilF) l[i] = (m,0)) (hP : 0 < l.length → 0 < P.length) (hck : ∀ y ∈ P,checkR y = 0) (hwf : ∀ y ∈ l,wfV y = true)
  (hb : Bld w ok g bs most ps) (hf : FmR w okr (.agg #[.int .i64 k,.int .i64 s,.int .i64 lo,.int .i64 hi,.int .i64 st,.slice A0 P.length c0]) (.mk ⟨k,s,lo,hi,st⟩ P)) (hl : VsR w okr (.slice A l.length c) l)
  (hr : ∀ i,okr i → i < w.heap.size ∧ ¬ ok i) (hlen : bs.length + (writeL (.mk ⟨k,s,lo,hi,st⟩ P) 0 l).length ≤ most) (hps : ∀ y ∈ P,ps.length + szF y ≤ 1000000) :
  Calls Try.prog 42 #[.pointer (some ⟨g,0,none⟩),.agg #[.int .i64 k,.int .i64 s,.int .i64 lo,.int .i64 hi,.int .i64 st,.slice A0 P.length c0],.slice A l.length c] w (BStep ok g (bs ++ writeL (.mk ⟨k,s,lo,hi,st⟩ P) 0 l) most ps w) := by
 have ka : Kp (fun _ => False) w (w.alloc (.cells #[.int .i64 k,.int .i64 s,.int .i64 lo,.int .i64 hi,.int .i64 st,.slice A0 P.length c0] 24)) := (Kp.refl _ w).alloc _
 have q4 := Blk.new w 24 #[.int .i64 k,.int .i64 s,.int .i64 lo,.int .i64 hi,.int .i64 st,.slice A0 P.length c0]
 obtain ⟨hl0,hl1,hl2⟩ := hl.len
 have hb1 : Bld w (fun i => ok i ∧ i < w.heap.size) g bs most ps := hb.mono (fun i h1 h2 => ⟨h2,h1⟩)
 have hsz0 : (w.alloc (.cells #[.int .i64 k,.int .i64 s,.int .i64 lo,.int .i64 hi,.int .i64 st,.slice A0 P.length c0] 24)).heap.size = w.heap.size + 1 := World.size_alloc _ _
 obtain ⟨_,hP3,hP4⟩ := hf.here.len
 have HKA := Lib.hid ka
 have HQ4 := Lib.hid q4
 have HB := Lib.hid (hb1.kp ka (fun _ _ h => h))
 have HF := Lib.hid (fun W (hk : Kp (fun i => ok i ∧ i < w.heap.size) w W) => hf.kp hk (fun i hi h => (hr i hi).2 h.1))
 have HL := Lib.hid (fun W (hk : Kp (fun i => ok i ∧ i < w.heap.size) w W) => hl.kp hk (fun i hi h => (hr i hi).2 h.1))
 have HS := Lib.hid hsz0
 have HC := Lib.hid hC
 have HN := Lib.hid (And.intro hel (And.intro hP (And.intro hck (And.intro hwf (And.intro hr (And.intro hlen hps))))))
 clear ka q4 hb hb1 hf hl hr hlen hps hel hP hck hwf hC hsz0 hl0
 go_enter Try.func42,Try.ntmps42
 go_upto_region 1 with fail
 generalize w.alloc (.cells #[.int .i64 k,.int .i64 s,.int .i64 lo,.int .i64 hi,.int .i64 st,.slice A0 P.length c0] 24) = W0 at HKA HQ4 HB HS ⊢
 go_wp2_with fail
 go_loopw [12] (fun i wr => ∃ j : Nat,j ≤ l.length ∧ i = .int .i64 j ∧ Bld wr (fun i => (ok i ∧ i < w.heap.size) ∨ W0.heap.size ≤ i) g (bs ++ writeL (.mk ⟨k,s,lo,hi,st⟩ P) 0 (l.take j)) most ps ∧ Kp (fun i => ok i ∧ i < w.heap.size) W0 wr) (fun i _ => l.length - (intOf i).toNat)
 case atStart => exact ⟨0,Nat.zero_le _,rfl,by rw [List.take_zero,writeL,List.append_nil];exact HB.out.mono (fun i _ h => .inl h),Kp.refl _ _⟩
 case round =>
  obtain ⟨j,hj,rfl,hbr,hkr⟩ := hrel
  have hkw := (HKA.out.mono (T := fun i => ok i ∧ i < w.heap.size) (fun _ _ h => h.elim)).then_ hkr (fun i h => .inl h)
  have HB4 := Lib.hid (HQ4.out.kp hkr (fun h => absurd h.2 (Nat.lt_irrefl _)))
  have HKR := Lib.hid hkr
  have HKW := Lib.hid hkw
  have HBR := Lib.hid hbr
  clear hkr hkw hbr
  by_cases hlt : j < l.length
  ·have hP0 : 0 < P.length := HN.out.2.1 (by omega)
   obtain ⟨q,hq,m,hm,hmemP,hstep,hle,hmod⟩ : ∃ q,∃ hq : q < P.length,∃ m,fitR (P[q]'hq) l[j] = (m,0) ∧ (P[q]'hq) ∈ P ∧ writeL (.mk ⟨k,s,lo,hi,st⟩ P) 0 (l.take (j + 1)) = writeL (.mk ⟨k,s,lo,hi,st⟩ P) 0 (l.take j) ++ writeR (P[q]'hq) l[j] ∧
     (writeL (.mk ⟨k,s,lo,hi,st⟩ P) 0 (l.take j)).length + (writeR (P[q]'hq) l[j]).length ≤ (writeL (.mk ⟨k,s,lo,hi,st⟩ P) 0 l).length ∧ ((j : Int)).tmod (P.length : Int) = (q : Int) := by
    have hq : j % P.length < P.length := Nat.mod_lt _ hP0
    obtain ⟨m,hm⟩ := HN.out.1 j hlt
    have hgd : P.getD (j % P.length) nilF = P[j % P.length] := by simp [hq]
    have hstep := writeL_take (.mk ⟨k,s,lo,hi,st⟩ P) l j hlt
    have hle := writeL_le (.mk ⟨k,s,lo,hi,st⟩ P) l j hlt
    simp only [RT.l] at hstep hle
    rw [hgd] at hm hstep hle
    exact ⟨j % P.length,hq,m,hm,List.getElem_mem hq,hstep,hle,by rw [Int.tmod_eq_emod_of_nonneg (by omega)];rfl⟩
   have hmemL : l[j] ∈ l := List.getElem_mem hlt
   obtain ⟨bo,off,A1,c1,A2,c2,rfl,hob,hvx,x0,x1,x2⟩ := (HL.out wr HKW.out).at_ hlt
   have hfs := (HF.out wr HKW.out).here
   obtain ⟨bp,offp,A4,c4,rfl,hop4,hfp,p0,p1,p2,p3,p4,p5⟩ := hfs.at_ hq
   have HFS := Lib.hid hfs
   have HLA := Lib.hid (HC.out _ hmemP)
   have HVX := Lib.hid hvx
   have HX := Lib.hid (And.intro hm (And.intro hmemP (And.intro hmemL (And.intro hstep hle))))
   have HMD := Lib.hid hmod
   have hi0 : (0 : Int) ≤ (j : Int) := by omega
   have hi1 : (j : Int) < (l.length : Int) := by omega
   have hpl : (P.length : Int) ≠ 0 := by omega
   have g5 := HB4.out.cell 5
   simp at g5
   clear hvx hm hmemP hmemL hstep hle hmod hfs
   go_upto_region 4 with fail
   have hk5 : Kp (fun _ => False) wr (wr.alloc (.cells #[.int .u64 (l[j]).a.n,.slice A1 (l[j]).a.b.length c1,.slice A2 (l[j]).l.length c2] 29)) := (Kp.refl _ wr).alloc _
   have hq8 := Blk.new wr 29 #[.int .u64 (l[j]).a.n,.slice A1 (l[j]).a.b.length c1,.slice A2 (l[j]).l.length c2]
   have hg4 := HB4.out.kp hk5 (fun h => h)
   have hfs5 := FsR.kp HFS.out hk5 (fun _ _ h => h)
   generalize wr.alloc (.cells #[.int .u64 (l[j]).a.n,.slice A1 (l[j]).a.b.length c1,.slice A2 (l[j]).l.length c2] 29) = W5 at hk5 hq8 hg4 hfs5 ⊢
   generalize wr.heap.size = b8 at hq8 ⊢
   clear x0 x1 x2 g5 p0 p1 p2 p3 p4 p5 hfp
   obtain ⟨bp',offp',A3,c3,e,hop,hfp,p0,p1,p2,p3,p4,p5⟩ := hfs5.at_ hq
   obtain ⟨rfl,rfl⟩ : bp = bp' ∧ offp = offp' := by injection e with e;injection e with e1 e2;exact ⟨e1,e2⟩
   clear e
   have g5 := hg4.cell 5
   have y0 := hq8.cell 0
   have y1 := hq8.cell 1
   have y2 := hq8.cell 2
   simp at g5 y0 y1 y2
   generalize hpq : P[q] = pq at hfp p0 p1 p2 p3 p4 p5 HLA HX
   have HK5 := Lib.hid hk5
   have HG4 := Lib.hid hg4
   have HPQ := Lib.hid hpq
   have HFP := Lib.hid hfp
   clear hk5 hg4 hq8 hpq hfs5 hfp
   have hmod := HMD.out
   have hpne : ¬ P = [] := fun h => by rw [h] at hpl;simp at hpl
   have hq0 : (0 : Int) ≤ (q : Int) := by omega
   have hq1 : (q : Int) < (P.length : Int) := by omega
   go_still_tail 11,(by kernel_rfl)
   change wpList _ _ _ _ _ W5.drew
   have hk6 := HK5.out.drew
   have hg6 := HG4.out.kp ((Kp.refl (fun _ => False) W5).drew) (fun h => h)
   have hf6 := FmR.kp HFP.out ((Kp.refl (fun _ => False) W5).drew) (fun _ _ h => h)
   have hv6 := VtR.kp HVX.out hk6 (fun _ _ h => h)
   have hb6 := Bld.kp HBR.out hk6 (fun _ _ h => h)
   clear g5 y0 y1 y2 p0 p1 p2 p3 p4 p5
   generalize W5.drew = W6 at hk6 hg6 hf6 hv6 hb6 ⊢
   obtain ⟨hm,hmemP,hmemL,hstep,hle⟩ := HX.out
   obtain ⟨_,_,hck,hwf,hr,hlen,hps⟩ := HN.out
   have hsw : w.heap.size ≤ W6.heap.size := Nat.le_trans HKW.out.size hk6.size
   have hlay := HLA.out (fun i => (ok i ∧ i < w.heap.size) ∨ W0.heap.size ≤ i) okr g _ most ps l[j] m _ _ W6 (hck _ hmemP) hm (hwf _ hmemL) hb6 hf6 hv6
    (fun i hi => ⟨Nat.lt_of_lt_of_le (hr i hi).1 hsw,fun h => by
     have := HS.out
     have := hr i hi
     rcases h with h | h
     ·exact this.2 h.1
     ·omega⟩) (by rw [List.length_append];omega) (hps _ hmemP)
   rw [List.append_assoc,← hstep] at hlay
   have HLY := Lib.hid hlay
   have HK6 := Lib.hid hk6
   have HG6 := Lib.hid hg6
   clear hm hmemP hmemL hstep hle hck hwf hr hlen hps hsw hlay hk6 hg6 hf6 hv6 hb6
   go_wp2_with fail
   refine HLY.out.mono ?_
   rintro e w7 ⟨rfl,hb7,hk7⟩
   have HB7 := Lib.hid hb7
   have HK7 := Lib.hid hk7
   clear hb7 hk7
   go_wp2_with fail
   go_roundw
   case rel =>
    refine ⟨j + 1,by omega,by go_num,HB7.out.mono (fun i _ h => ?_),?_⟩
    ·rcases h with h | h
     ·exact h
     ·exact .inr (Nat.le_trans HKR.out.size (Nat.le_trans HK6.out.size h))
    ·exact (HKR.out.then_ HK6.out (fun _ h => h.elim)).then_ HK7.out (fun i h => h)
   case measure => simp [intOf];omega
  ·have hjl : j = l.length := by omega
   subst hjl
   have HB7 := HBR.out
   rw [List.take_length] at HB7
   have HB8 := Lib.hid HB7
   clear HB7
   go_wp2_with fail
   go_ret
   exact BStep.wide (BStep.after ⟨rfl,HB8.out,HKR.out⟩ HKA.out) (fun _ h => h)
end Go.Proofs.Ytdhnfccgojgehaa

namespace Go.Proofs.Ytdhnfccgojgehaa
open Go.RowKit
set_option maxRecDepth 100000

set_option maxHeartbeats 1600000 in
/-- The closure that lays a list. -/
theorem clos2_ok (ok : Nat → Prop) (bs : List UInt8) (most : Nat) (ps : List (Nat × Nat)) (g q3 q4 q5 : Nat) (w : World) (k s lo hi st : Int) (A0 A2 : Option Addr) (p0 c0 l2 c2 : Nat)
  (hA : Calls Try.prog 42 #[.pointer (some ⟨g,0,none⟩),.agg #[.int .i64 k,.int .i64 s,.int .i64 lo,.int .i64 hi,.int .i64 st,.slice A0 p0 c0],.slice A2 l2 c2] w (BStep ok g bs most ps w))
  (h3 : w.cell? ⟨q3,0,none⟩ = some (.pointer (some ⟨g,0,none⟩))) (h4 : Blk w q4 24 #[.int .i64 k,.int .i64 s,.int .i64 lo,.int .i64 hi,.int .i64 st,.slice A0 p0 c0]) (h5 : w.cell? ⟨q5,2,none⟩ = some (.slice A2 l2 c2)) :
  Calls Try.prog 41 #[.pointer (some ⟨q3,0,none⟩),.pointer (some ⟨q4,0,none⟩),.pointer (some ⟨q5,0,none⟩)] w (BStep ok g bs most ps w) := by
 have HA := Lib.hid hA
 have x0 := h4.cell 0
 have x1 := h4.cell 1
 have x2 := h4.cell 2
 have x3 := h4.cell 3
 have x4 := h4.cell 4
 have x5 := h4.cell 5
 simp at x0 x1 x2 x3 x4 x5
 clear hA h4
 go_enter Try.func41,Try.ntmps41
 go_wp2_with fail
 refine HA.out.mono ?_
 rintro e w1 ⟨rfl,hb1,hk1⟩
 have HZ := Lib.hid (And.intro hb1 hk1)
 clear hb1 hk1 x0 x1 x2 x3 x4 x5 h3 h5 HA
 go_wp2_with fail
 go_ret
 exact ⟨rfl,HZ.out.1,HZ.out.2⟩

set_option maxHeartbeats 3200000 in
theorem lay_list (ok okr : Nat → Prop) (g : Nat) (bs u : List UInt8) (most : Nat) (ps : List (Nat × Nat)) (w : World) (hb : Bld w ok g bs most ps) (s : Nat) (h1 : 1 ≤ s) (h3 : s ≤ 3) (hu : u.length < 256 ^ s) (hlen : bs.length + s + u.length ≤ most) (hps : ps.length ≤ 1000000) (hr : ∀ i,okr i → i < w.heap.size ∧ ¬ ok i) (lo hi st n : Int) (A0 A1 A2 : Option Addr) (p0 c0 l1 c1 l2 c2 : Nat)
  (hA : ∀ (ok' : Nat → Prop) (bs' : List UInt8) (ps' : List (Nat × Nat)) (W : World),Kp (fun i => ok i ∧ i < w.heap.size) w W → Bld W ok' g bs' most ps' → (∀ i,okr i → i < w.heap.size ∧ ¬ ok' i) → bs'.length + u.length ≤ most → ps'.length ≤ ps.length + 1 → Calls Try.prog 42 #[.pointer (some ⟨g,0,none⟩),.agg #[.int .i64 2,.int .i64 s,.int .i64 lo,.int .i64 hi,.int .i64 st,.slice A0 p0 c0],.slice A2 l2 c2] W (BStep ok' g (bs' ++ u) most ps' W)) :
  Calls Try.prog 24 #[.pointer (some ⟨g,0,none⟩),.agg #[.int .i64 2,.int .i64 s,.int .i64 lo,.int .i64 hi,.int .i64 st,.slice A0 p0 c0],.agg #[.int .u64 n,.slice A1 l1 c1,.slice A2 l2 c2]] w (BStep ok g (bs ++ (beB s u.length ++ u)) most ps w) := by
 have hb' : Bld w (fun i => ok i ∧ i < w.heap.size) g bs most ps := hb.mono (fun i h1 h2 => ⟨h2,h1⟩)
 have ka := ((((Kp.refl (fun _ => False) w).alloc (.cells #[.pointer (some ⟨g,0,none⟩)] 55)).alloc (.cells #[.int .i64 2,.int .i64 s,.int .i64 lo,.int .i64 hi,.int .i64 st,.slice A0 p0 c0] 24)).alloc (.cells #[.int .u64 n,.slice A1 l1 c1,.slice A2 l2 c2] 29))
 have q3 := ((Blk.new w 55 #[.pointer (some ⟨g,0,none⟩)]).alloc (.cells #[.int .i64 2,.int .i64 s,.int .i64 lo,.int .i64 hi,.int .i64 st,.slice A0 p0 c0] 24)).alloc (.cells #[.int .u64 n,.slice A1 l1 c1,.slice A2 l2 c2] 29)
 have q4 := (Blk.new (w.alloc (.cells #[.pointer (some ⟨g,0,none⟩)] 55)) 24 #[.int .i64 2,.int .i64 s,.int .i64 lo,.int .i64 hi,.int .i64 st,.slice A0 p0 c0]).alloc (.cells #[.int .u64 n,.slice A1 l1 c1,.slice A2 l2 c2] 29)
 have q5 := Blk.new ((w.alloc (.cells #[.pointer (some ⟨g,0,none⟩)] 55)).alloc (.cells #[.int .i64 2,.int .i64 s,.int .i64 lo,.int .i64 hi,.int .i64 st,.slice A0 p0 c0] 24)) 29 #[.int .u64 n,.slice A1 l1 c1,.slice A2 l2 c2]
 have e3 : w.heap.size ≤ w.heap.size := Nat.le_refl _
 have e4 : w.heap.size ≤ w.heap.size + 1 := by omega
 have e5 : w.heap.size ≤ w.heap.size + 1 + 1 := by omega
 simp only [World.size_alloc] at q4 q5
 have HI := Lib.hid (fun (W : World) (k3 k4 k5 : Nat) (hk : Kp (fun _ => False) w W) (j3 : Blk W k3 55 #[.pointer (some ⟨g,0,none⟩)]) (j4 : Blk W k4 24 #[.int .i64 2,.int .i64 s,.int .i64 lo,.int .i64 hi,.int .i64 st,.slice A0 p0 c0]) (j5 : Blk W k5 29 #[.int .u64 n,.slice A1 l1 c1,.slice A2 l2 c2]) (e3 : w.heap.size ≤ k3) (e4 : w.heap.size ≤ k4) (e5 : w.heap.size ≤ k5) =>
  inside_ok (fun i => ok i ∧ i < w.heap.size) g bs u most ps s h1 h3 W (hb'.kp hk (fun _ _ h => h)) 41 #[.pointer (some ⟨k3,0,none⟩),.pointer (some ⟨k4,0,none⟩),.pointer (some ⟨k5,0,none⟩)] (entersW Try.func41 (by kernel_rfl) rfl) hu hlen hps
   (fun w1 hk1 hb1 => clos2_ok _ _ _ _ g k3 k4 k5 w1 2 s lo hi st A0 A2 p0 c0 l2 c2
    (hA _ _ _ w1 ((hk.mono (T := fun i => ok i ∧ i < w.heap.size) (fun _ _ h => h.elim)).then_ hk1 (fun i h => .inl h)) hb1
     (fun i hi => ⟨(hr i hi).1,fun h => by
      rcases h with h | h
      ·exact (hr i hi).2 h.1
      ·have := (hr i hi).1
       have := hk.size
       omega⟩) (by simp only [List.length_append,List.length_replicate];omega) (by simp))
    ((j3.kp hk1 (fun h => by omega)).cell 0) (j4.kp hk1 (fun h => by omega)) ((j5.kp hk1 (fun h => by omega)).cell 2)))
 have HKA := Lib.hid ka
 have HQ3 := Lib.hid q3
 have HQ4 := Lib.hid q4
 have HQ5 := Lib.hid q5
 have HE3 := Lib.hid e3
 have HE4 := Lib.hid e4
 have HE5 := Lib.hid e5
 clear ka q3 q4 q5 hb hb' hu hlen hps h1 h3 hr e3 e4 e5 hA
 go_enter Try.func24,Try.ntmps24
 go_upto_region 1 with fail
 generalize (((w.alloc (.cells #[.pointer (some ⟨g,0,none⟩)] 55)).alloc (.cells #[.int .i64 2,.int .i64 s,.int .i64 lo,.int .i64 hi,.int .i64 st,.slice A0 p0 c0] 24)).alloc (.cells #[.int .u64 n,.slice A1 l1 c1,.slice A2 l2 c2] 29)) = W3 at HKA HQ3 HQ4 HQ5 ⊢
 have HCI := Lib.hid (HI.out W3 _ (w.heap.size + 1) (w.heap.size + 1 + 1) HKA.out HQ3.out HQ4.out HQ5.out HE3.out HE4.out HE5.out)
 have x3 := HQ3.out.cell 0
 have x40 := HQ4.out.cell 0
 have x41 := HQ4.out.cell 1
 have x42 := HQ4.out.cell 2
 have x43 := HQ4.out.cell 3
 have x44 := HQ4.out.cell 4
 have x45 := HQ4.out.cell 5
 have x50 := HQ5.out.cell 0
 have x51 := HQ5.out.cell 1
 have x52 := HQ5.out.cell 2
 simp at x3 x40 x41 x42 x43 x44 x45 x50 x51 x52
 clear HI HQ3 HQ4 HQ5 HE3 HE4 HE5
 go_wp2_with fail
 refine HCI.out.mono ?_
 rintro e w1 hs
 obtain ⟨rfl,hb1,hk1⟩ := hs.after HKA.out
 have HQ := Lib.hid (And.intro (hb1.mono (ok' := fun i => ok i ∨ w.heap.size ≤ i) (fun i _ h => h.imp (·.1) id)) (hk1.mono (T := ok) (fun _ _ h => h.1)))
 clear hb1 hk1 hs HCI
 go_wp2_with fail
 go_ret
 exact ⟨rfl,HQ.out.1,HQ.out.2⟩

set_option maxHeartbeats 3200000 in
theorem lay_row (ok okr : Nat → Prop) (g : Nat) (bs u : List UInt8) (most : Nat) (ps : List (Nat × Nat)) (w : World) (hb : Bld w ok g bs most ps) (hlen : bs.length + u.length ≤ most) (hr : ∀ i,okr i → i < w.heap.size ∧ ¬ ok i) (s lo hi st n : Int) (A0 A1 A2 : Option Addr) (p0 c0 l1 c1 l2 c2 : Nat)
  (hA : ∀ (ok' : Nat → Prop) (bs' : List UInt8) (ps' : List (Nat × Nat)) (W : World),Kp (fun i => ok i ∧ i < w.heap.size) w W → Bld W ok' g bs' most ps' → (∀ i,okr i → i < w.heap.size ∧ ¬ ok' i) → bs'.length + u.length ≤ most → ps'.length ≤ ps.length + 1 → Calls Try.prog 42 #[.pointer (some ⟨g,0,none⟩),.agg #[.int .i64 3,.int .i64 s,.int .i64 lo,.int .i64 hi,.int .i64 st,.slice A0 p0 c0],.slice A2 l2 c2] W (BStep ok' g (bs' ++ u) most ps' W)) :
  Calls Try.prog 24 #[.pointer (some ⟨g,0,none⟩),.agg #[.int .i64 3,.int .i64 s,.int .i64 lo,.int .i64 hi,.int .i64 st,.slice A0 p0 c0],.agg #[.int .u64 n,.slice A1 l1 c1,.slice A2 l2 c2]] w (BStep ok g (bs ++ u) most ps w) := by
 have hb' : Bld w (fun i => ok i ∧ i < w.heap.size) g bs most ps := hb.mono (fun i h1 h2 => ⟨h2,h1⟩)
 have ka := ((((Kp.refl (fun _ => False) w).alloc (.cells #[.pointer (some ⟨g,0,none⟩)] 55)).alloc (.cells #[.int .i64 3,.int .i64 s,.int .i64 lo,.int .i64 hi,.int .i64 st,.slice A0 p0 c0] 24)).alloc (.cells #[.int .u64 n,.slice A1 l1 c1,.slice A2 l2 c2] 29))
 have q3 := ((Blk.new w 55 #[.pointer (some ⟨g,0,none⟩)]).alloc (.cells #[.int .i64 3,.int .i64 s,.int .i64 lo,.int .i64 hi,.int .i64 st,.slice A0 p0 c0] 24)).alloc (.cells #[.int .u64 n,.slice A1 l1 c1,.slice A2 l2 c2] 29)
 have q4 := (Blk.new (w.alloc (.cells #[.pointer (some ⟨g,0,none⟩)] 55)) 24 #[.int .i64 3,.int .i64 s,.int .i64 lo,.int .i64 hi,.int .i64 st,.slice A0 p0 c0]).alloc (.cells #[.int .u64 n,.slice A1 l1 c1,.slice A2 l2 c2] 29)
 have q5 := Blk.new ((w.alloc (.cells #[.pointer (some ⟨g,0,none⟩)] 55)).alloc (.cells #[.int .i64 3,.int .i64 s,.int .i64 lo,.int .i64 hi,.int .i64 st,.slice A0 p0 c0] 24)) 29 #[.int .u64 n,.slice A1 l1 c1,.slice A2 l2 c2]
 have e3 : w.heap.size ≤ w.heap.size := Nat.le_refl _
 have e4 : w.heap.size ≤ w.heap.size + 1 := by omega
 have e5 : w.heap.size ≤ w.heap.size + 1 + 1 := by omega
 simp only [World.size_alloc] at q4 q5
 have HI := Lib.hid (fun (W : World) (hk : Kp (fun _ => False) w W) =>
  hA (fun i => ok i ∧ i < w.heap.size) bs ps W (hk.mono (T := fun i => ok i ∧ i < w.heap.size) (fun _ _ h => h.elim)) (hb'.kp hk (fun _ _ h => h)) (fun i hi => ⟨(hr i hi).1,fun h => (hr i hi).2 h.1⟩) hlen (by omega))
 have HKA := Lib.hid ka
 have HQ3 := Lib.hid q3
 have HQ4 := Lib.hid q4
 have HQ5 := Lib.hid q5
 have HE3 := Lib.hid e3
 have HE4 := Lib.hid e4
 have HE5 := Lib.hid e5
 clear ka q3 q4 q5 hb hb' hlen hr e3 e4 e5 hA
 go_enter Try.func24,Try.ntmps24
 go_upto_region 1 with fail
 generalize (((w.alloc (.cells #[.pointer (some ⟨g,0,none⟩)] 55)).alloc (.cells #[.int .i64 3,.int .i64 s,.int .i64 lo,.int .i64 hi,.int .i64 st,.slice A0 p0 c0] 24)).alloc (.cells #[.int .u64 n,.slice A1 l1 c1,.slice A2 l2 c2] 29)) = W3 at HKA HQ3 HQ4 HQ5 ⊢
 have HCI := Lib.hid (HI.out W3 HKA.out)
 have x3 := HQ3.out.cell 0
 have x40 := HQ4.out.cell 0
 have x41 := HQ4.out.cell 1
 have x42 := HQ4.out.cell 2
 have x43 := HQ4.out.cell 3
 have x44 := HQ4.out.cell 4
 have x45 := HQ4.out.cell 5
 have x50 := HQ5.out.cell 0
 have x51 := HQ5.out.cell 1
 have x52 := HQ5.out.cell 2
 simp at x3 x40 x41 x42 x43 x44 x45 x50 x51 x52
 clear HI HQ3 HQ4 HQ5 HE3 HE4 HE5
 go_wp2_with fail
 refine HCI.out.mono ?_
 rintro e w1 hs
 obtain ⟨rfl,hb1,hk1⟩ := hs.after HKA.out
 have HQ := Lib.hid (And.intro (hb1.mono (ok' := fun i => ok i ∨ w.heap.size ≤ i) (fun i _ h => h.imp (·.1) id)) (hk1.mono (T := ok) (fun _ _ h => h.1)))
 clear hb1 hk1 hs HCI
 go_wp2_with fail
 go_ret
 exact ⟨rfl,HQ.out.1,HQ.out.2⟩

end Go.Proofs.Ytdhnfccgojgehaa

namespace Go.Proofs.Ytdhnfccgojgehaa
open Go.RowKit
set_option maxRecDepth 100000

theorem wlay_any (f : Fm) : szF f ≤ 100000 → LayC f := by
 induction f using RT.induct with
 | h h P ih =>
 intro hz ok okr g bs most ps x n fv vv w hc hf hw hb hfm hv hr hlen hps
 obtain ⟨k,s,lo,hi,st⟩ := h
 obtain ⟨⟨a,b⟩,l⟩ := x
 have hm2 : most ≤ 1073741824 := hb.2.2.1
 have hfk := fit_kinds hz hc hw hf (by omega)
 obtain ⟨A0,c0,rfl⟩ : ∃ A c,fv = .agg #[.int .i64 k,.int .i64 s,.int .i64 lo,.int .i64 hi,.int .i64 st,.slice A P.length c] := by
  obtain ⟨sv,e,_,A,c,e2,_⟩ := id hfm
  subst e2
  exact ⟨A,c,e⟩
 obtain ⟨A1,c1,A2,c2,rfl,hn,hb1,hb2,hbr,hl1,hl2,hvs⟩ := hv.parts
 obtain ⟨_,_,_,hwl⟩ := (wfV_mk _ _).1 hw
 have hall : (k = 2 ∨ k = 3) → 0 < P.length ∨ l = [] → (∀ y ∈ P,checkR y = 0) → (∀ i (hi : i < l.length),∃ m,fitR (P.getD (i % P.length) nilF) l[i] = (m,0)) →
   ∀ (ok' : Nat → Prop) (bs' : List UInt8) (ps' : List (Nat × Nat)) (W : World),Kp (fun i => ok i ∧ i < w.heap.size) w W → Bld W ok' g bs' most ps' → (∀ i,okr i → i < w.heap.size ∧ ¬ ok' i) → bs'.length + (writeL (.mk ⟨k,s,lo,hi,st⟩ P) 0 l).length ≤ most → ps'.length ≤ ps.length + 1 →
    Calls Try.prog 42 #[.pointer (some ⟨g,0,none⟩),.agg #[.int .i64 k,.int .i64 s,.int .i64 lo,.int .i64 hi,.int .i64 st,.slice A0 P.length c0],.slice A2 l.length c2] W (BStep ok' g (bs' ++ writeL (.mk ⟨k,s,lo,hi,st⟩ P) 0 l) most ps' W) := by
  intro hk hP hck hel ok' bs' ps' W hkW hbW hrW hlW hpW
  rw [szF_mk,if_pos hk] at hz hps
  refine wall_any k s lo hi st P (fun y hy => ih y hy (by have := szL_mem hy;omega)) ok' okr g bs' most ps' l A2 A0 c2 c0 W hel (fun h0 => ?_) hck hwl hbW
   (hfm.kp hkW (fun i hi h => (hr i hi).2 h.1)) (hvs.kp hkW (fun i hi h => (hr i hi).2 h.1)) (fun i hi => ⟨Nat.lt_of_lt_of_le (hr i hi).1 hkW.size,(hrW i hi).2⟩) hlW (fun y hy => by have := szL_mem hy;omega)
  rcases hP with h | h
  ·exact h
  ·subst h
   simp at h0
 cases hfk with
 | num s' hk hs hsb hx hxe hx64 =>
  simp only at hk hs
  subst hk hs
  have e : writeR (.mk ⟨0,s',lo,hi,st⟩ P) (.mk ⟨a,b⟩ l) = beB s' a.toNat := by rw [writeR_mk,if_pos rfl];simp
  rw [e] at hlen ⊢
  rw [beB_length] at hlen
  rw [hxe,Int.toNat_natCast]
  exact lay_num ok g bs most ps s' a.toNat hx64 w hb hsb hx hlen lo hi st A0 A1 A2 _ c0 _ c1 _ c2
 | opq s' hk hs h1 h3 hu =>
  simp only at hk hs
  subst hk hs
  have e : writeR (.mk ⟨1,s',lo,hi,st⟩ P) (.mk ⟨a,b⟩ l) = beB s' b.length ++ b := by rw [writeR_mk,if_neg (by simp),if_pos rfl];simp
  rw [e] at hlen ⊢
  rw [List.length_append,beB_length] at hlen
  exact lay_opaque ok okr g bs b most ps w hb s' h1 h3 hu (by omega) (by omega) lo hi st a A0 A1 A2 _ c0 c1 _ c2 hbr (fun i hi => (hr i hi).2)
 | raw hk =>
  simp only at hk
  have e : writeR (.mk ⟨k,s,lo,hi,st⟩ P) (.mk ⟨a,b⟩ l) = b := by rw [writeR_mk,if_neg (by simp;omega),if_neg (by simp;omega),if_pos hk]
  rw [e] at hlen ⊢
  exact lay_bytes ok okr g bs b most ps w hb hlen k hk s lo hi st a A0 A1 A2 _ c0 c1 _ c2 hbr
 | list s' hk hs h1 h3 hu hP hck hel =>
  simp only at hk hs
  subst hk hs
  have e : writeR (.mk ⟨2,s',lo,hi,st⟩ P) (.mk ⟨a,b⟩ l) = beB s' (writeL (.mk ⟨2,s',lo,hi,st⟩ P) 0 l).length ++ writeL (.mk ⟨2,s',lo,hi,st⟩ P) 0 l := by rw [writeR_mk,if_neg (by simp),if_neg (by simp),if_neg (by simp),if_pos rfl];simp
  rw [e] at hlen ⊢
  rw [List.length_append,beB_length] at hlen
  exact lay_list ok okr g bs _ most ps w hb s' h1 h3 hu (by omega) (by omega) hr lo hi st a A0 A1 A2 _ c0 _ c1 _ c2 (hall (.inl rfl) (.inl hP) hck hel)
 | row hk hlP hck hel =>
  simp only at hk
  subst hk
  have e : writeR (.mk ⟨3,s,lo,hi,st⟩ P) (.mk ⟨a,b⟩ l) = writeL (.mk ⟨3,s,lo,hi,st⟩ P) 0 l := by rw [writeR_mk,if_neg (by simp),if_neg (by simp),if_neg (by simp),if_neg (by simp)]
  rw [e] at hlen ⊢
  refine lay_row ok okr g bs _ most ps w hb hlen hr s lo hi st a A0 A1 A2 _ c0 _ c1 _ c2 (hall (.inr rfl) ?_ hck hel)
  by_cases h0 : l.length = 0
  ·exact .inr (List.eq_nil_of_length_eq_zero h0)
  ·exact .inl (by omega)
end Go.Proofs.Ytdhnfccgojgehaa

namespace Go.Proofs.Ytdhnfccgojgehaa
open Go.RowKit
set_option maxRecDepth 100000

theorem i64_wf6 {k : Int} (h : i64B k) : (Lit.int .i64 k).wf = true := by
 unfold i64B at h
 simp [Lit.wf,IntKind.min,IntKind.max,IntKind.signed,IntKind.bits]
 omega
theorem FmR.form6 {w : World} {ok : Nat → Prop} {v : Value} {k s lo hi st : Int} {P : List Fm} (h : FmR w ok v (.mk ⟨k,s,lo,hi,st⟩ P)) : ∃ A c,v = .agg #[.int .i64 k,.int .i64 s,.int .i64 lo,.int .i64 hi,.int .i64 st,.slice A P.length c] := by
 obtain ⟨sv,e,_,A,c,e2,_⟩ := h
 subst e2
 exact ⟨A,c,e⟩
theorem FmR.here6 {w : World} {ok : Nat → Prop} {k s lo hi st : Int} {sv : Value} {P : List Fm} (h : FmR w ok (.agg #[.int .i64 k,.int .i64 s,.int .i64 lo,.int .i64 hi,.int .i64 st,sv]) (.mk ⟨k,s,lo,hi,st⟩ P)) : FsR w ok sv P := by
 obtain ⟨sv',e,_,h2⟩ := h
 simp [RT.a] at e
 subst e
 exact h2
theorem fitL_step (h : FH) (P : List Fm) (q : Int) (l : List Vt) (j : Nat) (hj : j < l.length) (p : Nat) (hp : p < P.length) (hpe : j % P.length = p) : fitL (.mk h P) q j (l.drop j) =
  if (fitR P[p] l[j]).2 = 0 then fitL (.mk h P) (wrap64 (q + (fitR P[p] l[j]).1)) (j + 1) (l.drop (j + 1)) else (0,(fitR P[p] l[j]).2) := by
 rw [fitL_drop h P q l j hj]
 have e : P.getD (j % P.length) nilF = P[p] := by subst hpe;simp [hp]
 simp only [e]

theorem vmay_any (n lo hi st : Int) (hst : st ≠ 0) (w : World) : Calls Try.prog 57 #[.int .i64 n,.int .i64 lo,.int .i64 hi,.int .i64 st] w fun e w' => e = .returned (.int .i64 (mayR n lo hi st)) ∧ w' = w := by
 unfold mayR
 by_cases h1 : n < lo
 ·rw [if_pos h1]
  go_enter Try.func57,Try.ntmps57
  go_wp2_with fail
  go_ret
  exact ⟨rfl,rfl⟩
 by_cases h2 : hi < n
 ·rw [if_neg h1,if_pos h2]
  go_enter Try.func57,Try.ntmps57
  go_wp2_with fail
  go_ret
  exact ⟨rfl,rfl⟩
 obtain ⟨t,ht⟩ : ∃ t,Int.tmod n st = t := ⟨_,rfl⟩
 rw [if_neg h1,if_neg h2,ht]
 by_cases h3 : t = 0
 ·subst h3
  go_enter Try.func57,Try.ntmps57
  go_wp2_with fail
  go_ret
  exact ⟨rfl,rfl⟩
 ·have h4 : (t != 0) = true := by simpa using h3
  rw [if_neg h3]
  go_enter Try.func57,Try.ntmps57
  go_wp2_with fail
  go_ret
  exact ⟨rfl,rfl⟩

theorem FmR.wf_k {w : World} {ok : Nat → Prop} {v : Value} {h : FH} {P : List Fm} (hf : FmR w ok v (.mk h P)) : i64B h.k := by
 obtain ⟨_,_,h1,_⟩ := hf
 exact h1.k
set_option maxHeartbeats 3200000 in
theorem vfit_not (ok : Nat → Prop) (k s lo hi st : Int) (P : List Fm) (a : Int) (b : List UInt8) (l : List Vt) (A0 A1 A2 : Option Addr) (c0 c1 c2 : Nat) (w : World) (hf : FmR w ok (.agg #[.int .i64 k,.int .i64 s,.int .i64 lo,.int .i64 hi,.int .i64 st,.slice A0 P.length c0]) (.mk ⟨k,s,lo,hi,st⟩ P)) (hal : aloneB k a b.length l.length = false) :
  Calls Try.prog 50 #[.agg #[.int .i64 k,.int .i64 s,.int .i64 lo,.int .i64 hi,.int .i64 st,.slice A0 P.length c0],.agg #[.int .u64 a,.slice A1 b.length c1,.slice A2 l.length c2]] w fun e w' => e = .returned (.tuple #[.int .i64 0,.int .i64 15]) ∧ Kp (fun _ => False) w w' := by
 have hkw : (Lit.int .i64 k).wf = true := i64_wf6 hf.wf_k
 have ka : Kp (fun _ => False) w ((w.alloc (.cells #[.int .i64 k,.int .i64 s,.int .i64 lo,.int .i64 hi,.int .i64 st,.slice A0 P.length c0] 24)).alloc (.cells #[.int .u64 a,.slice A1 b.length c1,.slice A2 l.length c2] 29)) := ((Kp.refl _ w).alloc _).alloc _
 have q2 := (Blk.new w 24 #[.int .i64 k,.int .i64 s,.int .i64 lo,.int .i64 hi,.int .i64 st,.slice A0 P.length c0]).alloc (.cells #[.int .u64 a,.slice A1 b.length c1,.slice A2 l.length c2] 29)
 have q3 := Blk.new (w.alloc (.cells #[.int .i64 k,.int .i64 s,.int .i64 lo,.int .i64 hi,.int .i64 st,.slice A0 P.length c0] 24)) 29 #[.int .u64 a,.slice A1 b.length c1,.slice A2 l.length c2]
 simp only [World.size_alloc] at q3
 have HKA := Lib.hid ka
 have HQ2 := Lib.hid q2
 have HQ3 := Lib.hid q3
 have HAL := Lib.hid (fun W => alone_any k a hkw A1 A2 b.length l.length c1 c2 W)
 rw [hal] at HAL
 clear ka q2 q3 hkw hal hf
 go_enter Try.func50,Try.ntmps50
 go_upto_region 1 with fail
 generalize (w.alloc (.cells #[.int .i64 k,.int .i64 s,.int .i64 lo,.int .i64 hi,.int .i64 st,.slice A0 P.length c0] 24)).alloc (.cells #[.int .u64 a,.slice A1 b.length c1,.slice A2 l.length c2] 29) = W0 at HKA HQ2 HQ3 ⊢
 have x0 := HQ2.out.cell 0
 have x1 := HQ2.out.cell 1
 have x2 := HQ2.out.cell 2
 have x3 := HQ2.out.cell 3
 have x4 := HQ2.out.cell 4
 have x5 := HQ2.out.cell 5
 have y0 := HQ3.out.cell 0
 have y1 := HQ3.out.cell 1
 have y2 := HQ3.out.cell 2
 simp at x0 x1 x2 x3 x4 x5 y0 y1 y2
 go_wp2_with fail
 refine (HAL.out W0).mono ?_
 rintro e w1 ⟨rfl,hk1⟩
 have HK1 := Lib.hid (HKA.out.then_ hk1 (fun _ h => h.elim))
 have q2 := HQ2.out.kp hk1 (fun h => h)
 have q3 := HQ3.out.kp hk1 (fun h => h)
 clear x0 x1 x2 x3 x4 x5 y0 y1 y2 hk1 HAL HKA HQ2 HQ3
 have HQ2 := Lib.hid q2
 have HQ3 := Lib.hid q3
 clear q2 q3
 have x0 := HQ2.out.cell 0
 have x1 := HQ2.out.cell 1
 have x2 := HQ2.out.cell 2
 have x3 := HQ2.out.cell 3
 have x4 := HQ2.out.cell 4
 have x5 := HQ2.out.cell 5
 have y0 := HQ3.out.cell 0
 have y1 := HQ3.out.cell 1
 have y2 := HQ3.out.cell 2
 simp at x0 x1 x2 x3 x4 x5 y0 y1 y2
 go_wp2_with fail
 go_ret2
 exact ⟨rfl,HK1.out⟩

set_option maxHeartbeats 6400000 in
theorem vfit_numx (ok : Nat → Prop) (s lo hi st : Int) (P : List Fm) (a : Int) (b : List UInt8) (l : List Vt) (A0 A1 A2 : Option Addr) (c0 c1 c2 : Nat) (w : World) (hf : FmR w ok (.agg #[.int .i64 0,.int .i64 s,.int .i64 lo,.int .i64 hi,.int .i64 st,.slice A0 P.length c0]) (.mk ⟨0,s,lo,hi,st⟩ P)) (hal : aloneB 0 a b.length l.length = true) (hs : 0 ≤ s) (hs8 : s < 8) (hd : (a / 2 ^ (8 * s).toNat != 0) = true) :
  Calls Try.prog 50 #[.agg #[.int .i64 0,.int .i64 s,.int .i64 lo,.int .i64 hi,.int .i64 st,.slice A0 P.length c0],.agg #[.int .u64 a,.slice A1 b.length c1,.slice A2 l.length c2]] w fun e w' => e = .returned (.tuple #[.int .i64 0,.int .i64 3]) ∧ Kp (fun _ => False) w w' := by
 have hkw : (Lit.int .i64 0).wf = true := i64_wf6 hf.wf_k
 have ka : Kp (fun _ => False) w ((w.alloc (.cells #[.int .i64 0,.int .i64 s,.int .i64 lo,.int .i64 hi,.int .i64 st,.slice A0 P.length c0] 24)).alloc (.cells #[.int .u64 a,.slice A1 b.length c1,.slice A2 l.length c2] 29)) := ((Kp.refl _ w).alloc _).alloc _
 have q2 := (Blk.new w 24 #[.int .i64 0,.int .i64 s,.int .i64 lo,.int .i64 hi,.int .i64 st,.slice A0 P.length c0]).alloc (.cells #[.int .u64 a,.slice A1 b.length c1,.slice A2 l.length c2] 29)
 have q3 := Blk.new (w.alloc (.cells #[.int .i64 0,.int .i64 s,.int .i64 lo,.int .i64 hi,.int .i64 st,.slice A0 P.length c0] 24)) 29 #[.int .u64 a,.slice A1 b.length c1,.slice A2 l.length c2]
 simp only [World.size_alloc] at q3
 have HKA := Lib.hid ka
 have HQ2 := Lib.hid q2
 have HQ3 := Lib.hid q3
 have HAL := Lib.hid (fun W => alone_any 0 a hkw A1 A2 b.length l.length c1 c2 W)
 rw [hal] at HAL
 clear ka q2 q3 hkw hal hf
 go_enter Try.func50,Try.ntmps50
 go_upto_region 1 with fail
 generalize (w.alloc (.cells #[.int .i64 0,.int .i64 s,.int .i64 lo,.int .i64 hi,.int .i64 st,.slice A0 P.length c0] 24)).alloc (.cells #[.int .u64 a,.slice A1 b.length c1,.slice A2 l.length c2] 29) = W0 at HKA HQ2 HQ3 ⊢
 have x0 := HQ2.out.cell 0
 have x1 := HQ2.out.cell 1
 have x2 := HQ2.out.cell 2
 have x3 := HQ2.out.cell 3
 have x4 := HQ2.out.cell 4
 have x5 := HQ2.out.cell 5
 have y0 := HQ3.out.cell 0
 have y1 := HQ3.out.cell 1
 have y2 := HQ3.out.cell 2
 simp at x0 x1 x2 x3 x4 x5 y0 y1 y2
 go_wp2_with fail
 refine (HAL.out W0).mono ?_
 rintro e w1 ⟨rfl,hk1⟩
 have HK1 := Lib.hid (HKA.out.then_ hk1 (fun _ h => h.elim))
 have q2 := HQ2.out.kp hk1 (fun h => h)
 have q3 := HQ3.out.kp hk1 (fun h => h)
 clear x0 x1 x2 x3 x4 x5 y0 y1 y2 hk1 HAL HKA HQ2 HQ3
 have HQ2 := Lib.hid q2
 have HQ3 := Lib.hid q3
 clear q2 q3
 have x0 := HQ2.out.cell 0
 have x1 := HQ2.out.cell 1
 have x2 := HQ2.out.cell 2
 have x3 := HQ2.out.cell 3
 have x4 := HQ2.out.cell 4
 have x5 := HQ2.out.cell 5
 have y0 := HQ3.out.cell 0
 have y1 := HQ3.out.cell 1
 have y2 := HQ3.out.cell 2
 simp at x0 x1 x2 x3 x4 x5 y0 y1 y2
 go_wp2_with fail
 go_ret2
 exact ⟨rfl,HK1.out⟩

set_option maxHeartbeats 6400000 in
theorem vfit_num (ok : Nat → Prop) (s lo hi st : Int) (P : List Fm) (a : Int) (b : List UInt8) (l : List Vt) (A0 A1 A2 : Option Addr) (c0 c1 c2 : Nat) (w : World) (hf : FmR w ok (.agg #[.int .i64 0,.int .i64 s,.int .i64 lo,.int .i64 hi,.int .i64 st,.slice A0 P.length c0]) (.mk ⟨0,s,lo,hi,st⟩ P)) (hal : aloneB 0 a b.length l.length = true) (hs : 0 ≤ s) (hs8 : s < 8) (hd : (a / 2 ^ (8 * s).toNat != 0) = false) :
  Calls Try.prog 50 #[.agg #[.int .i64 0,.int .i64 s,.int .i64 lo,.int .i64 hi,.int .i64 st,.slice A0 P.length c0],.agg #[.int .u64 a,.slice A1 b.length c1,.slice A2 l.length c2]] w fun e w' => e = .returned (.tuple #[.int .i64 s,.int .i64 0]) ∧ Kp (fun _ => False) w w' := by
 have hkw : (Lit.int .i64 0).wf = true := i64_wf6 hf.wf_k
 have ka : Kp (fun _ => False) w ((w.alloc (.cells #[.int .i64 0,.int .i64 s,.int .i64 lo,.int .i64 hi,.int .i64 st,.slice A0 P.length c0] 24)).alloc (.cells #[.int .u64 a,.slice A1 b.length c1,.slice A2 l.length c2] 29)) := ((Kp.refl _ w).alloc _).alloc _
 have q2 := (Blk.new w 24 #[.int .i64 0,.int .i64 s,.int .i64 lo,.int .i64 hi,.int .i64 st,.slice A0 P.length c0]).alloc (.cells #[.int .u64 a,.slice A1 b.length c1,.slice A2 l.length c2] 29)
 have q3 := Blk.new (w.alloc (.cells #[.int .i64 0,.int .i64 s,.int .i64 lo,.int .i64 hi,.int .i64 st,.slice A0 P.length c0] 24)) 29 #[.int .u64 a,.slice A1 b.length c1,.slice A2 l.length c2]
 simp only [World.size_alloc] at q3
 have HKA := Lib.hid ka
 have HQ2 := Lib.hid q2
 have HQ3 := Lib.hid q3
 have HAL := Lib.hid (fun W => alone_any 0 a hkw A1 A2 b.length l.length c1 c2 W)
 rw [hal] at HAL
 clear ka q2 q3 hkw hal hf
 go_enter Try.func50,Try.ntmps50
 go_upto_region 1 with fail
 generalize (w.alloc (.cells #[.int .i64 0,.int .i64 s,.int .i64 lo,.int .i64 hi,.int .i64 st,.slice A0 P.length c0] 24)).alloc (.cells #[.int .u64 a,.slice A1 b.length c1,.slice A2 l.length c2] 29) = W0 at HKA HQ2 HQ3 ⊢
 have x0 := HQ2.out.cell 0
 have x1 := HQ2.out.cell 1
 have x2 := HQ2.out.cell 2
 have x3 := HQ2.out.cell 3
 have x4 := HQ2.out.cell 4
 have x5 := HQ2.out.cell 5
 have y0 := HQ3.out.cell 0
 have y1 := HQ3.out.cell 1
 have y2 := HQ3.out.cell 2
 simp at x0 x1 x2 x3 x4 x5 y0 y1 y2
 go_wp2_with fail
 refine (HAL.out W0).mono ?_
 rintro e w1 ⟨rfl,hk1⟩
 have HK1 := Lib.hid (HKA.out.then_ hk1 (fun _ h => h.elim))
 have q2 := HQ2.out.kp hk1 (fun h => h)
 have q3 := HQ3.out.kp hk1 (fun h => h)
 clear x0 x1 x2 x3 x4 x5 y0 y1 y2 hk1 HAL HKA HQ2 HQ3
 have HQ2 := Lib.hid q2
 have HQ3 := Lib.hid q3
 clear q2 q3
 have x0 := HQ2.out.cell 0
 have x1 := HQ2.out.cell 1
 have x2 := HQ2.out.cell 2
 have x3 := HQ2.out.cell 3
 have x4 := HQ2.out.cell 4
 have x5 := HQ2.out.cell 5
 have y0 := HQ3.out.cell 0
 have y1 := HQ3.out.cell 1
 have y2 := HQ3.out.cell 2
 simp at x0 x1 x2 x3 x4 x5 y0 y1 y2
 go_wp2_with fail
 go_ret2
 exact ⟨rfl,HK1.out⟩

set_option maxHeartbeats 3200000 in
theorem vfit_n8 (ok : Nat → Prop) (lo hi st : Int) (P : List Fm) (a : Int) (b : List UInt8) (l : List Vt) (A0 A1 A2 : Option Addr) (c0 c1 c2 : Nat) (w : World) (hf : FmR w ok (.agg #[.int .i64 0,.int .i64 8,.int .i64 lo,.int .i64 hi,.int .i64 st,.slice A0 P.length c0]) (.mk ⟨0,8,lo,hi,st⟩ P)) (hal : aloneB 0 a b.length l.length = true) :
  Calls Try.prog 50 #[.agg #[.int .i64 0,.int .i64 8,.int .i64 lo,.int .i64 hi,.int .i64 st,.slice A0 P.length c0],.agg #[.int .u64 a,.slice A1 b.length c1,.slice A2 l.length c2]] w fun e w' => e = .returned (.tuple #[.int .i64 8,.int .i64 0]) ∧ Kp (fun _ => False) w w' := by
 have hkw : (Lit.int .i64 0).wf = true := i64_wf6 hf.wf_k
 have ka : Kp (fun _ => False) w ((w.alloc (.cells #[.int .i64 0,.int .i64 8,.int .i64 lo,.int .i64 hi,.int .i64 st,.slice A0 P.length c0] 24)).alloc (.cells #[.int .u64 a,.slice A1 b.length c1,.slice A2 l.length c2] 29)) := ((Kp.refl _ w).alloc _).alloc _
 have q2 := (Blk.new w 24 #[.int .i64 0,.int .i64 8,.int .i64 lo,.int .i64 hi,.int .i64 st,.slice A0 P.length c0]).alloc (.cells #[.int .u64 a,.slice A1 b.length c1,.slice A2 l.length c2] 29)
 have q3 := Blk.new (w.alloc (.cells #[.int .i64 0,.int .i64 8,.int .i64 lo,.int .i64 hi,.int .i64 st,.slice A0 P.length c0] 24)) 29 #[.int .u64 a,.slice A1 b.length c1,.slice A2 l.length c2]
 simp only [World.size_alloc] at q3
 have HKA := Lib.hid ka
 have HQ2 := Lib.hid q2
 have HQ3 := Lib.hid q3
 have HAL := Lib.hid (fun W => alone_any 0 a hkw A1 A2 b.length l.length c1 c2 W)
 rw [hal] at HAL
 clear ka q2 q3 hkw hal hf
 go_enter Try.func50,Try.ntmps50
 go_upto_region 1 with fail
 generalize (w.alloc (.cells #[.int .i64 0,.int .i64 8,.int .i64 lo,.int .i64 hi,.int .i64 st,.slice A0 P.length c0] 24)).alloc (.cells #[.int .u64 a,.slice A1 b.length c1,.slice A2 l.length c2] 29) = W0 at HKA HQ2 HQ3 ⊢
 have x0 := HQ2.out.cell 0
 have x1 := HQ2.out.cell 1
 have x2 := HQ2.out.cell 2
 have x3 := HQ2.out.cell 3
 have x4 := HQ2.out.cell 4
 have x5 := HQ2.out.cell 5
 have y0 := HQ3.out.cell 0
 have y1 := HQ3.out.cell 1
 have y2 := HQ3.out.cell 2
 simp at x0 x1 x2 x3 x4 x5 y0 y1 y2
 go_wp2_with fail
 refine (HAL.out W0).mono ?_
 rintro e w1 ⟨rfl,hk1⟩
 have HK1 := Lib.hid (HKA.out.then_ hk1 (fun _ h => h.elim))
 have q2 := HQ2.out.kp hk1 (fun h => h)
 have q3 := HQ3.out.kp hk1 (fun h => h)
 clear x0 x1 x2 x3 x4 x5 y0 y1 y2 hk1 HAL HKA HQ2 HQ3
 have HQ2 := Lib.hid q2
 have HQ3 := Lib.hid q3
 clear q2 q3
 have x0 := HQ2.out.cell 0
 have x1 := HQ2.out.cell 1
 have x2 := HQ2.out.cell 2
 have x3 := HQ2.out.cell 3
 have x4 := HQ2.out.cell 4
 have x5 := HQ2.out.cell 5
 have y0 := HQ3.out.cell 0
 have y1 := HQ3.out.cell 1
 have y2 := HQ3.out.cell 2
 simp at x0 x1 x2 x3 x4 x5 y0 y1 y2
 go_wp2_with fail
 go_ret2
 exact ⟨rfl,HK1.out⟩

set_option maxHeartbeats 3200000 in
theorem vfit_opq (ok : Nat → Prop) (s lo hi st : Int) (P : List Fm) (a : Int) (b : List UInt8) (l : List Vt) (A0 A1 A2 : Option Addr) (c0 c1 c2 : Nat) (w : World) (hf : FmR w ok (.agg #[.int .i64 1,.int .i64 s,.int .i64 lo,.int .i64 hi,.int .i64 st,.slice A0 P.length c0]) (.mk ⟨1,s,lo,hi,st⟩ P)) (hal : aloneB 1 a b.length l.length = true) (hst : st ≠ 0) :
  Calls Try.prog 50 #[.agg #[.int .i64 1,.int .i64 s,.int .i64 lo,.int .i64 hi,.int .i64 st,.slice A0 P.length c0],.agg #[.int .u64 a,.slice A1 b.length c1,.slice A2 l.length c2]] w fun e w' => e = .returned (.tuple #[.int .i64 (wrap64 (s + (b.length : Int))),.int .i64 (mayR b.length lo hi st)]) ∧ Kp (fun _ => False) w w' := by
 have HM := Lib.hid (fun W => vmay_any b.length lo hi st hst W)
 have hkw : (Lit.int .i64 1).wf = true := i64_wf6 hf.wf_k
 have ka : Kp (fun _ => False) w ((w.alloc (.cells #[.int .i64 1,.int .i64 s,.int .i64 lo,.int .i64 hi,.int .i64 st,.slice A0 P.length c0] 24)).alloc (.cells #[.int .u64 a,.slice A1 b.length c1,.slice A2 l.length c2] 29)) := ((Kp.refl _ w).alloc _).alloc _
 have q2 := (Blk.new w 24 #[.int .i64 1,.int .i64 s,.int .i64 lo,.int .i64 hi,.int .i64 st,.slice A0 P.length c0]).alloc (.cells #[.int .u64 a,.slice A1 b.length c1,.slice A2 l.length c2] 29)
 have q3 := Blk.new (w.alloc (.cells #[.int .i64 1,.int .i64 s,.int .i64 lo,.int .i64 hi,.int .i64 st,.slice A0 P.length c0] 24)) 29 #[.int .u64 a,.slice A1 b.length c1,.slice A2 l.length c2]
 simp only [World.size_alloc] at q3
 have HKA := Lib.hid ka
 have HQ2 := Lib.hid q2
 have HQ3 := Lib.hid q3
 have HAL := Lib.hid (fun W => alone_any 1 a hkw A1 A2 b.length l.length c1 c2 W)
 rw [hal] at HAL
 clear ka q2 q3 hkw hal hf
 generalize mayR b.length lo hi st = r2 at HM ⊢
 go_enter Try.func50,Try.ntmps50
 go_upto_region 1 with fail
 generalize (w.alloc (.cells #[.int .i64 1,.int .i64 s,.int .i64 lo,.int .i64 hi,.int .i64 st,.slice A0 P.length c0] 24)).alloc (.cells #[.int .u64 a,.slice A1 b.length c1,.slice A2 l.length c2] 29) = W0 at HKA HQ2 HQ3 ⊢
 have x0 := HQ2.out.cell 0
 have x1 := HQ2.out.cell 1
 have x2 := HQ2.out.cell 2
 have x3 := HQ2.out.cell 3
 have x4 := HQ2.out.cell 4
 have x5 := HQ2.out.cell 5
 have y0 := HQ3.out.cell 0
 have y1 := HQ3.out.cell 1
 have y2 := HQ3.out.cell 2
 simp at x0 x1 x2 x3 x4 x5 y0 y1 y2
 go_wp2_with fail
 refine (HAL.out W0).mono ?_
 rintro e w1 ⟨rfl,hk1⟩
 have HK1 := Lib.hid (HKA.out.then_ hk1 (fun _ h => h.elim))
 have q2 := HQ2.out.kp hk1 (fun h => h)
 have q3 := HQ3.out.kp hk1 (fun h => h)
 clear x0 x1 x2 x3 x4 x5 y0 y1 y2 hk1 HAL HKA HQ2 HQ3
 have HQ2 := Lib.hid q2
 have HQ3 := Lib.hid q3
 clear q2 q3
 have x0 := HQ2.out.cell 0
 have x1 := HQ2.out.cell 1
 have x2 := HQ2.out.cell 2
 have x3 := HQ2.out.cell 3
 have x4 := HQ2.out.cell 4
 have x5 := HQ2.out.cell 5
 have y0 := HQ3.out.cell 0
 have y1 := HQ3.out.cell 1
 have y2 := HQ3.out.cell 2
 simp at x0 x1 x2 x3 x4 x5 y0 y1 y2
 go_upto_region 9 with fail
 go_quiet ((go_at_call 57;exact Calls.quiet_of_same (HM.out _)))
 have HK2 := Lib.hid (HK1.out.drewN nq)
 clear HK1
 go_wp2_with fail
 go_ret2
 exact ⟨rfl,HK2.out⟩

set_option maxHeartbeats 3200000 in
theorem vfit_rest (ok : Nat → Prop) (s lo hi st : Int) (P : List Fm) (a : Int) (b : List UInt8) (l : List Vt) (A0 A1 A2 : Option Addr) (c0 c1 c2 : Nat) (w : World) (hf : FmR w ok (.agg #[.int .i64 4,.int .i64 s,.int .i64 lo,.int .i64 hi,.int .i64 st,.slice A0 P.length c0]) (.mk ⟨4,s,lo,hi,st⟩ P)) (hal : aloneB 4 a b.length l.length = true) :
  Calls Try.prog 50 #[.agg #[.int .i64 4,.int .i64 s,.int .i64 lo,.int .i64 hi,.int .i64 st,.slice A0 P.length c0],.agg #[.int .u64 a,.slice A1 b.length c1,.slice A2 l.length c2]] w fun e w' => e = .returned (.tuple #[.int .i64 (b.length : Int),.int .i64 (mayR b.length lo hi 1)]) ∧ Kp (fun _ => False) w w' := by
 have HM := Lib.hid (fun W => vmay_any b.length lo hi 1 (by decide) W)
 have hkw : (Lit.int .i64 4).wf = true := i64_wf6 hf.wf_k
 have ka : Kp (fun _ => False) w ((w.alloc (.cells #[.int .i64 4,.int .i64 s,.int .i64 lo,.int .i64 hi,.int .i64 st,.slice A0 P.length c0] 24)).alloc (.cells #[.int .u64 a,.slice A1 b.length c1,.slice A2 l.length c2] 29)) := ((Kp.refl _ w).alloc _).alloc _
 have q2 := (Blk.new w 24 #[.int .i64 4,.int .i64 s,.int .i64 lo,.int .i64 hi,.int .i64 st,.slice A0 P.length c0]).alloc (.cells #[.int .u64 a,.slice A1 b.length c1,.slice A2 l.length c2] 29)
 have q3 := Blk.new (w.alloc (.cells #[.int .i64 4,.int .i64 s,.int .i64 lo,.int .i64 hi,.int .i64 st,.slice A0 P.length c0] 24)) 29 #[.int .u64 a,.slice A1 b.length c1,.slice A2 l.length c2]
 simp only [World.size_alloc] at q3
 have HKA := Lib.hid ka
 have HQ2 := Lib.hid q2
 have HQ3 := Lib.hid q3
 have HAL := Lib.hid (fun W => alone_any 4 a hkw A1 A2 b.length l.length c1 c2 W)
 rw [hal] at HAL
 clear ka q2 q3 hkw hal hf
 generalize mayR b.length lo hi 1 = r2 at HM ⊢
 go_enter Try.func50,Try.ntmps50
 go_upto_region 1 with fail
 generalize (w.alloc (.cells #[.int .i64 4,.int .i64 s,.int .i64 lo,.int .i64 hi,.int .i64 st,.slice A0 P.length c0] 24)).alloc (.cells #[.int .u64 a,.slice A1 b.length c1,.slice A2 l.length c2] 29) = W0 at HKA HQ2 HQ3 ⊢
 have x0 := HQ2.out.cell 0
 have x1 := HQ2.out.cell 1
 have x2 := HQ2.out.cell 2
 have x3 := HQ2.out.cell 3
 have x4 := HQ2.out.cell 4
 have x5 := HQ2.out.cell 5
 have y0 := HQ3.out.cell 0
 have y1 := HQ3.out.cell 1
 have y2 := HQ3.out.cell 2
 simp at x0 x1 x2 x3 x4 x5 y0 y1 y2
 go_wp2_with fail
 refine (HAL.out W0).mono ?_
 rintro e w1 ⟨rfl,hk1⟩
 have HK1 := Lib.hid (HKA.out.then_ hk1 (fun _ h => h.elim))
 have q2 := HQ2.out.kp hk1 (fun h => h)
 have q3 := HQ3.out.kp hk1 (fun h => h)
 clear x0 x1 x2 x3 x4 x5 y0 y1 y2 hk1 HAL HKA HQ2 HQ3
 have HQ2 := Lib.hid q2
 have HQ3 := Lib.hid q3
 clear q2 q3
 have x0 := HQ2.out.cell 0
 have x1 := HQ2.out.cell 1
 have x2 := HQ2.out.cell 2
 have x3 := HQ2.out.cell 3
 have x4 := HQ2.out.cell 4
 have x5 := HQ2.out.cell 5
 have y0 := HQ3.out.cell 0
 have y1 := HQ3.out.cell 1
 have y2 := HQ3.out.cell 2
 simp at x0 x1 x2 x3 x4 x5 y0 y1 y2
 go_upto_region 11 with fail
 go_quiet ((go_at_call 57;exact Calls.quiet_of_same (HM.out _)))
 have HK2 := Lib.hid (HK1.out.drewN nq)
 clear HK1
 go_wp2_with fail
 go_ret2
 exact ⟨rfl,HK2.out⟩

set_option maxHeartbeats 3200000 in
theorem vfit_fixed (ok : Nat → Prop) (s lo hi st : Int) (P : List Fm) (a : Int) (b : List UInt8) (l : List Vt) (A0 A1 A2 : Option Addr) (c0 c1 c2 : Nat) (w : World) (hf : FmR w ok (.agg #[.int .i64 5,.int .i64 s,.int .i64 lo,.int .i64 hi,.int .i64 st,.slice A0 P.length c0]) (.mk ⟨5,s,lo,hi,st⟩ P)) (hal : aloneB 5 a b.length l.length = true) :
  Calls Try.prog 50 #[.agg #[.int .i64 5,.int .i64 s,.int .i64 lo,.int .i64 hi,.int .i64 st,.slice A0 P.length c0],.agg #[.int .u64 a,.slice A1 b.length c1,.slice A2 l.length c2]] w fun e w' => e = .returned (.tuple #[.int .i64 lo,.int .i64 (mayR b.length lo lo 1)]) ∧ Kp (fun _ => False) w w' := by
 have HM := Lib.hid (fun W => vmay_any b.length lo lo 1 (by decide) W)
 have hkw : (Lit.int .i64 5).wf = true := i64_wf6 hf.wf_k
 have ka : Kp (fun _ => False) w ((w.alloc (.cells #[.int .i64 5,.int .i64 s,.int .i64 lo,.int .i64 hi,.int .i64 st,.slice A0 P.length c0] 24)).alloc (.cells #[.int .u64 a,.slice A1 b.length c1,.slice A2 l.length c2] 29)) := ((Kp.refl _ w).alloc _).alloc _
 have q2 := (Blk.new w 24 #[.int .i64 5,.int .i64 s,.int .i64 lo,.int .i64 hi,.int .i64 st,.slice A0 P.length c0]).alloc (.cells #[.int .u64 a,.slice A1 b.length c1,.slice A2 l.length c2] 29)
 have q3 := Blk.new (w.alloc (.cells #[.int .i64 5,.int .i64 s,.int .i64 lo,.int .i64 hi,.int .i64 st,.slice A0 P.length c0] 24)) 29 #[.int .u64 a,.slice A1 b.length c1,.slice A2 l.length c2]
 simp only [World.size_alloc] at q3
 have HKA := Lib.hid ka
 have HQ2 := Lib.hid q2
 have HQ3 := Lib.hid q3
 have HAL := Lib.hid (fun W => alone_any 5 a hkw A1 A2 b.length l.length c1 c2 W)
 rw [hal] at HAL
 clear ka q2 q3 hkw hal hf
 generalize mayR b.length lo lo 1 = r2 at HM ⊢
 go_enter Try.func50,Try.ntmps50
 go_upto_region 1 with fail
 generalize (w.alloc (.cells #[.int .i64 5,.int .i64 s,.int .i64 lo,.int .i64 hi,.int .i64 st,.slice A0 P.length c0] 24)).alloc (.cells #[.int .u64 a,.slice A1 b.length c1,.slice A2 l.length c2] 29) = W0 at HKA HQ2 HQ3 ⊢
 have x0 := HQ2.out.cell 0
 have x1 := HQ2.out.cell 1
 have x2 := HQ2.out.cell 2
 have x3 := HQ2.out.cell 3
 have x4 := HQ2.out.cell 4
 have x5 := HQ2.out.cell 5
 have y0 := HQ3.out.cell 0
 have y1 := HQ3.out.cell 1
 have y2 := HQ3.out.cell 2
 simp at x0 x1 x2 x3 x4 x5 y0 y1 y2
 go_wp2_with fail
 refine (HAL.out W0).mono ?_
 rintro e w1 ⟨rfl,hk1⟩
 have HK1 := Lib.hid (HKA.out.then_ hk1 (fun _ h => h.elim))
 have q2 := HQ2.out.kp hk1 (fun h => h)
 have q3 := HQ3.out.kp hk1 (fun h => h)
 clear x0 x1 x2 x3 x4 x5 y0 y1 y2 hk1 HAL HKA HQ2 HQ3
 have HQ2 := Lib.hid q2
 have HQ3 := Lib.hid q3
 clear q2 q3
 have x0 := HQ2.out.cell 0
 have x1 := HQ2.out.cell 1
 have x2 := HQ2.out.cell 2
 have x3 := HQ2.out.cell 3
 have x4 := HQ2.out.cell 4
 have x5 := HQ2.out.cell 5
 have y0 := HQ3.out.cell 0
 have y1 := HQ3.out.cell 1
 have y2 := HQ3.out.cell 2
 simp at x0 x1 x2 x3 x4 x5 y0 y1 y2
 go_upto_region 13 with fail
 go_quiet ((go_at_call 57;exact Calls.quiet_of_same (HM.out _)))
 have HK2 := Lib.hid (HK1.out.drewN nq)
 clear HK1
 go_wp2_with fail
 go_ret2
 exact ⟨rfl,HK2.out⟩

/-- What fitting tells of a form. -/
def FitC (f : Fm) : Prop := ∀ (ok ok2 : Nat → Prop) (x : Vt) (fv vv : Value) (w : World),FmR w ok fv f → VtR w ok2 vv x →
 Calls Try.prog 50 #[fv,vv] w fun e w' => e = .returned (.tuple #[.int .i64 (fitR f x).1,.int .i64 (fitR f x).2]) ∧ Kp (fun _ => False) w w'

set_option maxHeartbeats 3200000 in
theorem vfit_len (ok : Nat → Prop) (s lo hi st : Int) (P : List Fm) (a : Int) (b : List UInt8) (l : List Vt) (A0 A1 A2 : Option Addr) (c0 c1 c2 : Nat) (w : World) (hf : FmR w ok (.agg #[.int .i64 3,.int .i64 s,.int .i64 lo,.int .i64 hi,.int .i64 st,.slice A0 P.length c0]) (.mk ⟨3,s,lo,hi,st⟩ P)) (hal : aloneB 3 a b.length l.length = true) (hne : l.length ≠ P.length) :
  Calls Try.prog 50 #[.agg #[.int .i64 3,.int .i64 s,.int .i64 lo,.int .i64 hi,.int .i64 st,.slice A0 P.length c0],.agg #[.int .u64 a,.slice A1 b.length c1,.slice A2 l.length c2]] w fun e w' => e = .returned (.tuple #[.int .i64 0,.int .i64 15]) ∧ Kp (fun _ => False) w w' := by
 have hd : ((l.length : Int) != (P.length : Int)) = true := by simp;omega
 have hkw : (Lit.int .i64 3).wf = true := i64_wf6 hf.wf_k
 have ka : Kp (fun _ => False) w ((w.alloc (.cells #[.int .i64 3,.int .i64 s,.int .i64 lo,.int .i64 hi,.int .i64 st,.slice A0 P.length c0] 24)).alloc (.cells #[.int .u64 a,.slice A1 b.length c1,.slice A2 l.length c2] 29)) := ((Kp.refl _ w).alloc _).alloc _
 have q2 := (Blk.new w 24 #[.int .i64 3,.int .i64 s,.int .i64 lo,.int .i64 hi,.int .i64 st,.slice A0 P.length c0]).alloc (.cells #[.int .u64 a,.slice A1 b.length c1,.slice A2 l.length c2] 29)
 have q3 := Blk.new (w.alloc (.cells #[.int .i64 3,.int .i64 s,.int .i64 lo,.int .i64 hi,.int .i64 st,.slice A0 P.length c0] 24)) 29 #[.int .u64 a,.slice A1 b.length c1,.slice A2 l.length c2]
 simp only [World.size_alloc] at q3
 have HKA := Lib.hid ka
 have HQ2 := Lib.hid q2
 have HQ3 := Lib.hid q3
 have HAL := Lib.hid (fun W => alone_any 3 a hkw A1 A2 b.length l.length c1 c2 W)
 rw [hal] at HAL
 clear ka q2 q3 hkw hal hf
 clear hne
 go_enter Try.func50,Try.ntmps50
 go_upto_region 1 with fail
 generalize (w.alloc (.cells #[.int .i64 3,.int .i64 s,.int .i64 lo,.int .i64 hi,.int .i64 st,.slice A0 P.length c0] 24)).alloc (.cells #[.int .u64 a,.slice A1 b.length c1,.slice A2 l.length c2] 29) = W0 at HKA HQ2 HQ3 ⊢
 have x0 := HQ2.out.cell 0
 have x1 := HQ2.out.cell 1
 have x2 := HQ2.out.cell 2
 have x3 := HQ2.out.cell 3
 have x4 := HQ2.out.cell 4
 have x5 := HQ2.out.cell 5
 have y0 := HQ3.out.cell 0
 have y1 := HQ3.out.cell 1
 have y2 := HQ3.out.cell 2
 simp at x0 x1 x2 x3 x4 x5 y0 y1 y2
 go_wp2_with fail
 refine (HAL.out W0).mono ?_
 rintro e w1 ⟨rfl,hk1⟩
 have HK1 := Lib.hid (HKA.out.then_ hk1 (fun _ h => h.elim))
 have q2 := HQ2.out.kp hk1 (fun h => h)
 have q3 := HQ3.out.kp hk1 (fun h => h)
 clear x0 x1 x2 x3 x4 x5 y0 y1 y2 hk1 HAL HKA HQ2 HQ3
 have HQ2 := Lib.hid q2
 have HQ3 := Lib.hid q3
 clear q2 q3
 have x0 := HQ2.out.cell 0
 have x1 := HQ2.out.cell 1
 have x2 := HQ2.out.cell 2
 have x3 := HQ2.out.cell 3
 have x4 := HQ2.out.cell 4
 have x5 := HQ2.out.cell 5
 have y0 := HQ3.out.cell 0
 have y1 := HQ3.out.cell 1
 have y2 := HQ3.out.cell 2
 simp at x0 x1 x2 x3 x4 x5 y0 y1 y2
 go_wp2_with fail
 go_ret2
 exact ⟨rfl,HK1.out⟩

set_option maxHeartbeats 6400000 in
theorem vfit_all2 (ok : Nat → Prop) (s lo hi st : Int) (P : List Fm) (a : Int) (b : List UInt8) (l : List Vt) (A0 A1 A2 : Option Addr) (c0 c1 c2 : Nat) (w : World) (hf : FmR w ok (.agg #[.int .i64 2,.int .i64 s,.int .i64 lo,.int .i64 hi,.int .i64 st,.slice A0 P.length c0]) (.mk ⟨2,s,lo,hi,st⟩ P)) (ok2 : Nat → Prop) (hv : VtR w ok2 (.agg #[.int .u64 a,.slice A1 b.length c1,.slice A2 l.length c2]) (.mk ⟨a,b⟩ l)) (hal : aloneB 2 a b.length l.length = true) (hst : st ≠ 0) (hC : ∀ y ∈ P,FitC y) (hP : 0 < l.length → 0 < P.length) :
  Calls Try.prog 50 #[.agg #[.int .i64 2,.int .i64 s,.int .i64 lo,.int .i64 hi,.int .i64 st,.slice A0 P.length c0],.agg #[.int .u64 a,.slice A1 b.length c1,.slice A2 l.length c2]] w fun e w' => e = .returned (.tuple #[.int .i64 (fitL (.mk ⟨2,s,lo,hi,st⟩ P) 0 0 l).1,.int .i64 (fitL (.mk ⟨2,s,lo,hi,st⟩ P) 0 0 l).2]) ∧ Kp (fun _ => False) w w' := by
 have hl : VsR w ok2 (.slice A2 l.length c2) l := by
  obtain ⟨A1',c1',A2',c2',e,_,_,_,_,_,_,h⟩ := hv.parts
  simp at e
  obtain ⟨_,rfl,rfl⟩ := e
  exact h
 obtain ⟨hl0,hl1,hl2⟩ := hl.len
 have hfs := hf.here6
 have HL := Lib.hid (fun W (hk : Kp (fun _ => False) w W) => hl.kp hk (fun _ _ h => h))
 have HF := Lib.hid (fun W (hk : Kp (fun _ => False) w W) => hfs.kp hk (fun _ _ h => h))
 have HC := Lib.hid hC
 have HP := Lib.hid hP
 have hkw : (Lit.int .i64 2).wf = true := i64_wf6 hf.wf_k
 have ka : Kp (fun _ => False) w ((w.alloc (.cells #[.int .i64 2,.int .i64 s,.int .i64 lo,.int .i64 hi,.int .i64 st,.slice A0 P.length c0] 24)).alloc (.cells #[.int .u64 a,.slice A1 b.length c1,.slice A2 l.length c2] 29)) := ((Kp.refl _ w).alloc _).alloc _
 have q2 := (Blk.new w 24 #[.int .i64 2,.int .i64 s,.int .i64 lo,.int .i64 hi,.int .i64 st,.slice A0 P.length c0]).alloc (.cells #[.int .u64 a,.slice A1 b.length c1,.slice A2 l.length c2] 29)
 have q3 := Blk.new (w.alloc (.cells #[.int .i64 2,.int .i64 s,.int .i64 lo,.int .i64 hi,.int .i64 st,.slice A0 P.length c0] 24)) 29 #[.int .u64 a,.slice A1 b.length c1,.slice A2 l.length c2]
 simp only [World.size_alloc] at q3
 have HKA := Lib.hid ka
 have HQ2 := Lib.hid q2
 have HQ3 := Lib.hid q3
 have HAL := Lib.hid (fun W => alone_any 2 a hkw A1 A2 b.length l.length c1 c2 W)
 rw [hal] at HAL
 clear ka q2 q3 hkw hal hf hl hl0 hv hfs hC hP
 obtain ⟨r,hr⟩ : ∃ r,fitL (.mk ⟨2,s,lo,hi,st⟩ P) 0 0 l = r := ⟨_,rfl⟩
 have HR := Lib.hid hr
 rw [hr]
 clear hr
 go_enter Try.func50,Try.ntmps50
 go_upto_region 1 with fail
 generalize (w.alloc (.cells #[.int .i64 2,.int .i64 s,.int .i64 lo,.int .i64 hi,.int .i64 st,.slice A0 P.length c0] 24)).alloc (.cells #[.int .u64 a,.slice A1 b.length c1,.slice A2 l.length c2] 29) = W0 at HKA HQ2 HQ3 ⊢
 have x0 := HQ2.out.cell 0
 have x1 := HQ2.out.cell 1
 have x2 := HQ2.out.cell 2
 have x3 := HQ2.out.cell 3
 have x4 := HQ2.out.cell 4
 have x5 := HQ2.out.cell 5
 have y0 := HQ3.out.cell 0
 have y1 := HQ3.out.cell 1
 have y2 := HQ3.out.cell 2
 simp at x0 x1 x2 x3 x4 x5 y0 y1 y2
 go_wp2_with fail
 refine (HAL.out W0).mono ?_
 rintro e w1 ⟨rfl,hk1⟩
 have HK1 := Lib.hid (HKA.out.then_ hk1 (fun _ h => h.elim))
 have q2 := HQ2.out.kp hk1 (fun h => h)
 have q3 := HQ3.out.kp hk1 (fun h => h)
 clear x0 x1 x2 x3 x4 x5 y0 y1 y2 hk1 HAL HKA HQ2 HQ3
 have HQ2 := Lib.hid q2
 have HQ3 := Lib.hid q3
 clear q2 q3
 have x0 := HQ2.out.cell 0
 have x1 := HQ2.out.cell 1
 have x2 := HQ2.out.cell 2
 have x3 := HQ2.out.cell 3
 have x4 := HQ2.out.cell 4
 have x5 := HQ2.out.cell 5
 have y0 := HQ3.out.cell 0
 have y1 := HQ3.out.cell 1
 have y2 := HQ3.out.cell 2
 simp at x0 x1 x2 x3 x4 x5 y0 y1 y2
 go_upto_region 18 with fail
 go_loopw [6,92] (fun qv i wr => ∃ (j : Nat) (q : Int),j ≤ l.length ∧ i = .int .i64 j ∧ qv = .int .i64 q ∧ r = fitL (.mk ⟨2,s,lo,hi,st⟩ P) q j (l.drop j) ∧ Kp (fun _ => False) w1 wr) (fun _ i _ => l.length - (intOf i).toNat)
 case atStart => exact ⟨0,0,Nat.zero_le _,rfl,rfl,HR.out.symm,Kp.refl _ _⟩
 case round =>
  obtain ⟨j,q,hj,rfl,rfl,he,hkr⟩ := hrel
  have HE := Lib.hid he
  have HKR := Lib.hid hkr
  have HKW := Lib.hid (HK1.out.then_ hkr (fun _ h => h.elim))
  have q2 := HQ2.out.kp hkr (fun h => h)
  have q3 := HQ3.out.kp hkr (fun h => h)
  have HQ4 := Lib.hid q2
  have HQ5 := Lib.hid q3
  clear he hkr q2 q3 x0 x1 x2 x3 x4 x5 y0 y1 y2
  by_cases hlt : j < l.length
  ·have hP0 : 0 < P.length := HP.out (by omega)
   obtain ⟨p,hp,hpe⟩ : ∃ p,p < P.length ∧ j % P.length = p := ⟨_,Nat.mod_lt _ hP0,rfl⟩
   have hstep := fitL_step ⟨2,s,lo,hi,st⟩ P q l j hlt p hp hpe
   have hmod : ((j : Int)).tmod (P.length : Int) = (p : Int) := by rw [Int.tmod_eq_emod_of_nonneg (by omega),← hpe];rfl
   obtain ⟨bo,off,A3,c3,A4,c4,rfl,hob,hvx,x0,x1,x2⟩ := (HL.out wr HKW.out).at_ hlt
   have hmem : P[p] ∈ P := List.getElem_mem hp
   have HLC := Lib.hid (HC.out _ hmem)
   have HS := Lib.hid (show r = if (fitR P[p] l[j]).2 = 0 then fitL (.mk ⟨2,s,lo,hi,st⟩ P) (wrap64 (q + (fitR P[p] l[j]).1)) (j + 1) (l.drop (j + 1)) else (0,(fitR P[p] l[j]).2) from HE.out.trans hstep)
   have HVX := Lib.hid hvx
   have hi0 : (0 : Int) ≤ (j : Int) := by omega
   have hi1 : (j : Int) < (l.length : Int) := by omega
   clear hvx hmem hstep hpe HE
   go_upto_region 20 with fail
   have hk5 : Kp (fun _ => False) wr (wr.alloc (.cells #[.int .u64 (l[j]).a.n,.slice A3 (l[j]).a.b.length c3,.slice A4 (l[j]).l.length c4] 29)) := (Kp.refl _ wr).alloc _
   have hq8 := Blk.new wr 29 #[.int .u64 (l[j]).a.n,.slice A3 (l[j]).a.b.length c3,.slice A4 (l[j]).l.length c4]
   have hv5 := VtR.kp HVX.out hk5 (fun _ _ h => h)
   generalize wr.alloc (.cells #[.int .u64 (l[j]).a.n,.slice A3 (l[j]).a.b.length c3,.slice A4 (l[j]).l.length c4] 29) = W5 at hk5 hq8 hv5 ⊢
   generalize wr.heap.size = b8 at hq8 ⊢
   have HK5 := Lib.hid (HKR.out.then_ hk5 (fun _ h => h.elim))
   have HQ6 := Lib.hid (HQ4.out.kp hk5 (fun h => h))
   have HQ7 := Lib.hid (HQ5.out.kp hk5 (fun h => h))
   have HV5 := Lib.hid hv5
   have hkw := HKW.out.then_ hk5 (fun _ h => h.elim)
   clear x0 x1 x2 hk5 hv5 HVX HKR HKW HQ4 HQ5
   obtain ⟨bp,offp,A5,c5,rfl,hop,hfp,p0,p1,p2,p3,p4,p5⟩ := (HF.out W5 hkw).at_ hp
   have HFP := Lib.hid hfp
   have g5 := HQ6.out.cell 5
   have y0 := hq8.cell 0
   have y1 := hq8.cell 1
   have y2 := hq8.cell 2
   simp at g5 y0 y1 y2
   generalize hpq : P[p] = pq at hfp HFP p0 p1 p2 p3 p4 p5 HLC HS
   clear hfp hkw hq8 hpq
   have hpne : ¬ P = [] := fun h => by rw [h] at hP0;simp at hP0
   have hpl : (P.length : Int) ≠ 0 := by omega
   have hq0 : (0 : Int) ≤ (p : Int) := by omega
   have hq1 : (p : Int) < (P.length : Int) := by omega
   have HCE := Lib.hid (fun W (hk : Kp (fun _ => False) W5 W) => show (fun w' : World => w'.cell? ⟨w.heap.size,5,none⟩ = some (.slice (some ⟨bp,offp,none⟩) P.length c0) ∧ w'.cell? ⟨b8,0,none⟩ = some (.int .u64 (l[j]).a.n) ∧ w'.cell? ⟨b8,1,none⟩ = some (.slice A3 (l[j]).a.b.length c3) ∧ w'.cell? ⟨b8,2,none⟩ = some (.slice A4 (l[j]).l.length c4) ∧
    w'.cell? ⟨bp,offp + p * 6,none⟩ = some (.int .i64 pq.a.k) ∧ w'.cell? ⟨bp,offp + p * 6 + 1,none⟩ = some (.int .i64 pq.a.s) ∧ w'.cell? ⟨bp,offp + p * 6 + 2,none⟩ = some (.int .i64 pq.a.lo) ∧ w'.cell? ⟨bp,offp + p * 6 + 3,none⟩ = some (.int .i64 pq.a.hi) ∧ w'.cell? ⟨bp,offp + p * 6 + 4,none⟩ = some (.int .i64 pq.a.st) ∧ w'.cell? ⟨bp,offp + p * 6 + 5,none⟩ = some (.slice A5 pq.l.length c5)) W from
    ⟨hk.cell g5 (fun h => h),hk.cell y0 (fun h => h),hk.cell y1 (fun h => h),hk.cell y2 (fun h => h),hk.cell p0 (fun h => h),hk.cell p1 (fun h => h),hk.cell p2 (fun h => h),hk.cell p3 (fun h => h),hk.cell p4 (fun h => h),hk.cell p5 (fun h => h)⟩)
   have HLD := Lib.hid (fun W (hk : Kp (fun _ => False) W5 W) => HLC.out _ _ l[j] _ _ W (FmR.kp HFP.out hk (fun _ _ h => h)) (VtR.kp HV5.out hk (fun _ _ h => h)))
   have HKZ := Lib.hid (Kp.refl (fun _ => False) W5)
   clear g5 y0 y1 y2 p0 p1 p2 p3 p4 p5 HFP HV5 HLC
   obtain ⟨⟨kv,ev⟩,hke⟩ : ∃ r,fitR pq l[j] = r := ⟨_,rfl⟩
   rw [hke] at HLD HS
   clear hke
   go_cut [9,10] (fun c d wx => c = .int .i64 kv ∧ d = .int .i64 ev ∧ Kp (fun _ => False) W5 wx)
   case first =>
    go_region_held3 (fun w' => w'.cell? ⟨w.heap.size,5,none⟩ = some (.slice (some ⟨bp,offp,none⟩) P.length c0) ∧ w'.cell? ⟨b8,0,none⟩ = some (.int .u64 (l[j]).a.n) ∧ w'.cell? ⟨b8,1,none⟩ = some (.slice A3 (l[j]).a.b.length c3) ∧ w'.cell? ⟨b8,2,none⟩ = some (.slice A4 (l[j]).l.length c4) ∧
     w'.cell? ⟨bp,offp + p * 6,none⟩ = some (.int .i64 pq.a.k) ∧ w'.cell? ⟨bp,offp + p * 6 + 1,none⟩ = some (.int .i64 pq.a.s) ∧ w'.cell? ⟨bp,offp + p * 6 + 2,none⟩ = some (.int .i64 pq.a.lo) ∧ w'.cell? ⟨bp,offp + p * 6 + 3,none⟩ = some (.int .i64 pq.a.hi) ∧ w'.cell? ⟨bp,offp + p * 6 + 4,none⟩ = some (.int .i64 pq.a.st) ∧ w'.cell? ⟨bp,offp + p * 6 + 5,none⟩ = some (.slice A5 pq.l.length c5)) (first | exact HCE.out _ HKZ.out | exact HCE.out _ HKZ.out.drew) (first | (go_at_call 50;refine (HLD.out _ (by first | exact HKZ.out | exact HKZ.out.drew)).mono ?_;rintro e w5 ⟨rfl,hk5⟩;have hq := Kp.then_ (a := W5) (S := fun _ => False) (by first | exact HKZ.out | exact HKZ.out.drew) hk5 (fun _ h => h.elim);clear HKZ;have HKZ := Lib.hid hq;clear hq hk5))
    go_wp2_with fail
    go_meet
    exact ⟨rfl,rfl,HKZ.out⟩
   case rest =>
   obtain ⟨rfl,rfl,hkc⟩ := hcut
   have HK7 := Lib.hid (HK5.out.then_ hkc (fun _ h => h.elim))
   clear hkc HCE HLD HKZ hpne hmod HQ6 HQ7
   by_cases hev : ev = 0
   ·subst hev
    have HS2 := Lib.hid (show r = fitL (.mk ⟨2,s,lo,hi,st⟩ P) (wrap64 (q + kv)) (j + 1) (l.drop (j + 1)) from by have := HS.out;rwa [if_pos rfl] at this)
    clear HS
    go_wp2_with fail
    go_roundw
    case rel => exact ⟨j + 1,_,by omega,by go_num,rfl,HS2.out,HK7.out⟩
    case measure => simp [intOf];omega
   ·have t0 : (ev != 0) = true := by simpa using hev
    have hS := HS.out
    simp only [if_neg hev] at hS
    subst hS
    have HK8 := Lib.hid (HK1.out.then_ HK7.out (fun _ h => h.elim))
    clear HS HR HK7
    go_wp2_with fail
    go_ret2
    exact ⟨rfl,HK8.out⟩
  ·obtain rfl : j = l.length := by omega
   have hE := HE.out
   rw [List.drop_length,fitL_nil] at hE
   simp at hE
   subst hE
   have x0 := HQ4.out.cell 0
   have x1 := HQ4.out.cell 1
   have x2 := HQ4.out.cell 2
   have x3 := HQ4.out.cell 3
   have x4 := HQ4.out.cell 4
   simp at x0 x1 x2 x3 x4
   clear HE HR
   have HM := Lib.hid (fun W => vmay_any q lo hi st hst W)
   go_upto_region 27 with fail
   go_quiet ((go_at_call 57;exact Calls.quiet_of_same (HM.out _)))
   have HK2 := Lib.hid (HKW.out.drewN nq)
   go_wp2_with fail
   go_ret2
   exact ⟨rfl,HK2.out⟩

set_option maxHeartbeats 6400000 in
theorem vfit_all3 (ok : Nat → Prop) (s lo hi st : Int) (P : List Fm) (a : Int) (b : List UInt8) (l : List Vt) (A0 A1 A2 : Option Addr) (c0 c1 c2 : Nat) (w : World) (hf : FmR w ok (.agg #[.int .i64 3,.int .i64 s,.int .i64 lo,.int .i64 hi,.int .i64 st,.slice A0 P.length c0]) (.mk ⟨3,s,lo,hi,st⟩ P)) (ok2 : Nat → Prop) (hv : VtR w ok2 (.agg #[.int .u64 a,.slice A1 b.length c1,.slice A2 l.length c2]) (.mk ⟨a,b⟩ l)) (hal : aloneB 3 a b.length l.length = true) (hlen : l.length = P.length) (hC : ∀ y ∈ P,FitC y) (hP : 0 < l.length → 0 < P.length) :
  Calls Try.prog 50 #[.agg #[.int .i64 3,.int .i64 s,.int .i64 lo,.int .i64 hi,.int .i64 st,.slice A0 P.length c0],.agg #[.int .u64 a,.slice A1 b.length c1,.slice A2 l.length c2]] w fun e w' => e = .returned (.tuple #[.int .i64 (fitL (.mk ⟨3,s,lo,hi,st⟩ P) 0 0 l).1,.int .i64 (fitL (.mk ⟨3,s,lo,hi,st⟩ P) 0 0 l).2]) ∧ Kp (fun _ => False) w w' := by
 have hd : ((l.length : Int) != (P.length : Int)) = false := by simp;omega
 have hl : VsR w ok2 (.slice A2 l.length c2) l := by
  obtain ⟨A1',c1',A2',c2',e,_,_,_,_,_,_,h⟩ := hv.parts
  simp at e
  obtain ⟨_,rfl,rfl⟩ := e
  exact h
 obtain ⟨hl0,hl1,hl2⟩ := hl.len
 have hfs := hf.here6
 have HL := Lib.hid (fun W (hk : Kp (fun _ => False) w W) => hl.kp hk (fun _ _ h => h))
 have HF := Lib.hid (fun W (hk : Kp (fun _ => False) w W) => hfs.kp hk (fun _ _ h => h))
 have HC := Lib.hid hC
 have HP := Lib.hid hP
 have hkw : (Lit.int .i64 3).wf = true := i64_wf6 hf.wf_k
 have ka : Kp (fun _ => False) w ((w.alloc (.cells #[.int .i64 3,.int .i64 s,.int .i64 lo,.int .i64 hi,.int .i64 st,.slice A0 P.length c0] 24)).alloc (.cells #[.int .u64 a,.slice A1 b.length c1,.slice A2 l.length c2] 29)) := ((Kp.refl _ w).alloc _).alloc _
 have q2 := (Blk.new w 24 #[.int .i64 3,.int .i64 s,.int .i64 lo,.int .i64 hi,.int .i64 st,.slice A0 P.length c0]).alloc (.cells #[.int .u64 a,.slice A1 b.length c1,.slice A2 l.length c2] 29)
 have q3 := Blk.new (w.alloc (.cells #[.int .i64 3,.int .i64 s,.int .i64 lo,.int .i64 hi,.int .i64 st,.slice A0 P.length c0] 24)) 29 #[.int .u64 a,.slice A1 b.length c1,.slice A2 l.length c2]
 simp only [World.size_alloc] at q3
 have HKA := Lib.hid ka
 have HQ2 := Lib.hid q2
 have HQ3 := Lib.hid q3
 have HAL := Lib.hid (fun W => alone_any 3 a hkw A1 A2 b.length l.length c1 c2 W)
 rw [hal] at HAL
 clear ka q2 q3 hkw hal hf hl hl0 hv hfs hC hP
 clear hlen
 obtain ⟨r,hr⟩ : ∃ r,fitL (.mk ⟨3,s,lo,hi,st⟩ P) 0 0 l = r := ⟨_,rfl⟩
 have HR := Lib.hid hr
 rw [hr]
 clear hr
 go_enter Try.func50,Try.ntmps50
 go_upto_region 1 with fail
 generalize (w.alloc (.cells #[.int .i64 3,.int .i64 s,.int .i64 lo,.int .i64 hi,.int .i64 st,.slice A0 P.length c0] 24)).alloc (.cells #[.int .u64 a,.slice A1 b.length c1,.slice A2 l.length c2] 29) = W0 at HKA HQ2 HQ3 ⊢
 have x0 := HQ2.out.cell 0
 have x1 := HQ2.out.cell 1
 have x2 := HQ2.out.cell 2
 have x3 := HQ2.out.cell 3
 have x4 := HQ2.out.cell 4
 have x5 := HQ2.out.cell 5
 have y0 := HQ3.out.cell 0
 have y1 := HQ3.out.cell 1
 have y2 := HQ3.out.cell 2
 simp at x0 x1 x2 x3 x4 x5 y0 y1 y2
 go_wp2_with fail
 refine (HAL.out W0).mono ?_
 rintro e w1 ⟨rfl,hk1⟩
 have HK1 := Lib.hid (HKA.out.then_ hk1 (fun _ h => h.elim))
 have q2 := HQ2.out.kp hk1 (fun h => h)
 have q3 := HQ3.out.kp hk1 (fun h => h)
 clear x0 x1 x2 x3 x4 x5 y0 y1 y2 hk1 HAL HKA HQ2 HQ3
 have HQ2 := Lib.hid q2
 have HQ3 := Lib.hid q3
 clear q2 q3
 have x0 := HQ2.out.cell 0
 have x1 := HQ2.out.cell 1
 have x2 := HQ2.out.cell 2
 have x3 := HQ2.out.cell 3
 have x4 := HQ2.out.cell 4
 have x5 := HQ2.out.cell 5
 have y0 := HQ3.out.cell 0
 have y1 := HQ3.out.cell 1
 have y2 := HQ3.out.cell 2
 simp at x0 x1 x2 x3 x4 x5 y0 y1 y2
 go_upto_region 18 with fail
 go_loopw [6,92] (fun qv i wr => ∃ (j : Nat) (q : Int),j ≤ l.length ∧ i = .int .i64 j ∧ qv = .int .i64 q ∧ r = fitL (.mk ⟨3,s,lo,hi,st⟩ P) q j (l.drop j) ∧ Kp (fun _ => False) w1 wr) (fun _ i _ => l.length - (intOf i).toNat)
 case atStart => exact ⟨0,0,Nat.zero_le _,rfl,rfl,HR.out.symm,Kp.refl _ _⟩
 case round =>
  obtain ⟨j,q,hj,rfl,rfl,he,hkr⟩ := hrel
  have HE := Lib.hid he
  have HKR := Lib.hid hkr
  have HKW := Lib.hid (HK1.out.then_ hkr (fun _ h => h.elim))
  have q2 := HQ2.out.kp hkr (fun h => h)
  have q3 := HQ3.out.kp hkr (fun h => h)
  have HQ4 := Lib.hid q2
  have HQ5 := Lib.hid q3
  clear he hkr q2 q3 x0 x1 x2 x3 x4 x5 y0 y1 y2
  by_cases hlt : j < l.length
  ·have hP0 : 0 < P.length := HP.out (by omega)
   obtain ⟨p,hp,hpe⟩ : ∃ p,p < P.length ∧ j % P.length = p := ⟨_,Nat.mod_lt _ hP0,rfl⟩
   have hstep := fitL_step ⟨3,s,lo,hi,st⟩ P q l j hlt p hp hpe
   have hmod : ((j : Int)).tmod (P.length : Int) = (p : Int) := by rw [Int.tmod_eq_emod_of_nonneg (by omega),← hpe];rfl
   obtain ⟨bo,off,A3,c3,A4,c4,rfl,hob,hvx,x0,x1,x2⟩ := (HL.out wr HKW.out).at_ hlt
   have hmem : P[p] ∈ P := List.getElem_mem hp
   have HLC := Lib.hid (HC.out _ hmem)
   have HS := Lib.hid (show r = if (fitR P[p] l[j]).2 = 0 then fitL (.mk ⟨3,s,lo,hi,st⟩ P) (wrap64 (q + (fitR P[p] l[j]).1)) (j + 1) (l.drop (j + 1)) else (0,(fitR P[p] l[j]).2) from HE.out.trans hstep)
   have HVX := Lib.hid hvx
   have hi0 : (0 : Int) ≤ (j : Int) := by omega
   have hi1 : (j : Int) < (l.length : Int) := by omega
   clear hvx hmem hstep hpe HE
   go_upto_region 20 with fail
   have hk5 : Kp (fun _ => False) wr (wr.alloc (.cells #[.int .u64 (l[j]).a.n,.slice A3 (l[j]).a.b.length c3,.slice A4 (l[j]).l.length c4] 29)) := (Kp.refl _ wr).alloc _
   have hq8 := Blk.new wr 29 #[.int .u64 (l[j]).a.n,.slice A3 (l[j]).a.b.length c3,.slice A4 (l[j]).l.length c4]
   have hv5 := VtR.kp HVX.out hk5 (fun _ _ h => h)
   generalize wr.alloc (.cells #[.int .u64 (l[j]).a.n,.slice A3 (l[j]).a.b.length c3,.slice A4 (l[j]).l.length c4] 29) = W5 at hk5 hq8 hv5 ⊢
   generalize wr.heap.size = b8 at hq8 ⊢
   have HK5 := Lib.hid (HKR.out.then_ hk5 (fun _ h => h.elim))
   have HQ6 := Lib.hid (HQ4.out.kp hk5 (fun h => h))
   have HQ7 := Lib.hid (HQ5.out.kp hk5 (fun h => h))
   have HV5 := Lib.hid hv5
   have hkw := HKW.out.then_ hk5 (fun _ h => h.elim)
   clear x0 x1 x2 hk5 hv5 HVX HKR HKW HQ4 HQ5
   obtain ⟨bp,offp,A5,c5,rfl,hop,hfp,p0,p1,p2,p3,p4,p5⟩ := (HF.out W5 hkw).at_ hp
   have HFP := Lib.hid hfp
   have g5 := HQ6.out.cell 5
   have y0 := hq8.cell 0
   have y1 := hq8.cell 1
   have y2 := hq8.cell 2
   simp at g5 y0 y1 y2
   generalize hpq : P[p] = pq at hfp HFP p0 p1 p2 p3 p4 p5 HLC HS
   clear hfp hkw hq8 hpq
   have hpne : ¬ P = [] := fun h => by rw [h] at hP0;simp at hP0
   have hpl : (P.length : Int) ≠ 0 := by omega
   have hq0 : (0 : Int) ≤ (p : Int) := by omega
   have hq1 : (p : Int) < (P.length : Int) := by omega
   have HCE := Lib.hid (fun W (hk : Kp (fun _ => False) W5 W) => show (fun w' : World => w'.cell? ⟨w.heap.size,5,none⟩ = some (.slice (some ⟨bp,offp,none⟩) P.length c0) ∧ w'.cell? ⟨b8,0,none⟩ = some (.int .u64 (l[j]).a.n) ∧ w'.cell? ⟨b8,1,none⟩ = some (.slice A3 (l[j]).a.b.length c3) ∧ w'.cell? ⟨b8,2,none⟩ = some (.slice A4 (l[j]).l.length c4) ∧
    w'.cell? ⟨bp,offp + p * 6,none⟩ = some (.int .i64 pq.a.k) ∧ w'.cell? ⟨bp,offp + p * 6 + 1,none⟩ = some (.int .i64 pq.a.s) ∧ w'.cell? ⟨bp,offp + p * 6 + 2,none⟩ = some (.int .i64 pq.a.lo) ∧ w'.cell? ⟨bp,offp + p * 6 + 3,none⟩ = some (.int .i64 pq.a.hi) ∧ w'.cell? ⟨bp,offp + p * 6 + 4,none⟩ = some (.int .i64 pq.a.st) ∧ w'.cell? ⟨bp,offp + p * 6 + 5,none⟩ = some (.slice A5 pq.l.length c5)) W from
    ⟨hk.cell g5 (fun h => h),hk.cell y0 (fun h => h),hk.cell y1 (fun h => h),hk.cell y2 (fun h => h),hk.cell p0 (fun h => h),hk.cell p1 (fun h => h),hk.cell p2 (fun h => h),hk.cell p3 (fun h => h),hk.cell p4 (fun h => h),hk.cell p5 (fun h => h)⟩)
   have HLD := Lib.hid (fun W (hk : Kp (fun _ => False) W5 W) => HLC.out _ _ l[j] _ _ W (FmR.kp HFP.out hk (fun _ _ h => h)) (VtR.kp HV5.out hk (fun _ _ h => h)))
   have HKZ := Lib.hid (Kp.refl (fun _ => False) W5)
   clear g5 y0 y1 y2 p0 p1 p2 p3 p4 p5 HFP HV5 HLC
   obtain ⟨⟨kv,ev⟩,hke⟩ : ∃ r,fitR pq l[j] = r := ⟨_,rfl⟩
   rw [hke] at HLD HS
   clear hke
   go_cut [9,10] (fun c d wx => c = .int .i64 kv ∧ d = .int .i64 ev ∧ Kp (fun _ => False) W5 wx)
   case first =>
    go_region_held3 (fun w' => w'.cell? ⟨w.heap.size,5,none⟩ = some (.slice (some ⟨bp,offp,none⟩) P.length c0) ∧ w'.cell? ⟨b8,0,none⟩ = some (.int .u64 (l[j]).a.n) ∧ w'.cell? ⟨b8,1,none⟩ = some (.slice A3 (l[j]).a.b.length c3) ∧ w'.cell? ⟨b8,2,none⟩ = some (.slice A4 (l[j]).l.length c4) ∧
     w'.cell? ⟨bp,offp + p * 6,none⟩ = some (.int .i64 pq.a.k) ∧ w'.cell? ⟨bp,offp + p * 6 + 1,none⟩ = some (.int .i64 pq.a.s) ∧ w'.cell? ⟨bp,offp + p * 6 + 2,none⟩ = some (.int .i64 pq.a.lo) ∧ w'.cell? ⟨bp,offp + p * 6 + 3,none⟩ = some (.int .i64 pq.a.hi) ∧ w'.cell? ⟨bp,offp + p * 6 + 4,none⟩ = some (.int .i64 pq.a.st) ∧ w'.cell? ⟨bp,offp + p * 6 + 5,none⟩ = some (.slice A5 pq.l.length c5)) (first | exact HCE.out _ HKZ.out | exact HCE.out _ HKZ.out.drew) (first | (go_at_call 50;refine (HLD.out _ (by first | exact HKZ.out | exact HKZ.out.drew)).mono ?_;rintro e w5 ⟨rfl,hk5⟩;have hq := Kp.then_ (a := W5) (S := fun _ => False) (by first | exact HKZ.out | exact HKZ.out.drew) hk5 (fun _ h => h.elim);clear HKZ;have HKZ := Lib.hid hq;clear hq hk5))
    go_wp2_with fail
    go_meet
    exact ⟨rfl,rfl,HKZ.out⟩
   case rest =>
   obtain ⟨rfl,rfl,hkc⟩ := hcut
   have HK7 := Lib.hid (HK5.out.then_ hkc (fun _ h => h.elim))
   clear hkc HCE HLD HKZ hpne hmod HQ6 HQ7
   by_cases hev : ev = 0
   ·subst hev
    have HS2 := Lib.hid (show r = fitL (.mk ⟨3,s,lo,hi,st⟩ P) (wrap64 (q + kv)) (j + 1) (l.drop (j + 1)) from by have := HS.out;rwa [if_pos rfl] at this)
    clear HS
    go_wp2_with fail
    go_roundw
    case rel => exact ⟨j + 1,_,by omega,by go_num,rfl,HS2.out,HK7.out⟩
    case measure => simp [intOf];omega
   ·have t0 : (ev != 0) = true := by simpa using hev
    have hS := HS.out
    simp only [if_neg hev] at hS
    subst hS
    have HK8 := Lib.hid (HK1.out.then_ HK7.out (fun _ h => h.elim))
    clear HS HR HK7
    go_wp2_with fail
    go_ret2
    exact ⟨rfl,HK8.out⟩
  ·obtain rfl : j = l.length := by omega
   have hE := HE.out
   rw [List.drop_length,fitL_nil] at hE
   simp at hE
   subst hE
   have x0 := HQ4.out.cell 0
   have x1 := HQ4.out.cell 1
   have x2 := HQ4.out.cell 2
   have x3 := HQ4.out.cell 3
   have x4 := HQ4.out.cell 4
   simp at x0 x1 x2 x3 x4
   clear HE HR
   go_wp2_with fail
   go_ret2
   exact ⟨rfl,HKW.out⟩

end Go.Proofs.Ytdhnfccgojgehaa

namespace Go.Proofs.Ytdhnfccgojgehaa
open Go.RowKit
set_option maxRecDepth 100000

theorem vfit_any (f : Fm) : checkR f = 0 → FitC f := by
 induction f using RT.induct with
 | h h P ih =>
 intro hc ok ok2 x fv vv w hf hv
 obtain ⟨hown,hone,h32,hch⟩ := check_ok hc
 obtain ⟨k,s,lo,hi,st⟩ := h
 obtain ⟨⟨a,b⟩,l⟩ := x
 obtain ⟨A0,c0,rfl⟩ := hf.form6
 obtain ⟨A1,c1,A2,c2,rfl,hu,_,_,_,_,_,_⟩ := hv.parts
 unfold u64B at hu
 rw [fitR_mk]
 simp only
 by_cases hal : aloneB k a b.length l.length = false
 ·rw [if_pos hal]
  exact vfit_not ok k s lo hi st P a b l A0 A1 A2 c0 c1 c2 w hf hal
 rw [if_neg hal]
 rw [Bool.not_eq_false] at hal
 by_cases k0 : k = 0
 ·rw [if_pos k0]
  subst k0
  have hs := hown.k0 rfl
  simp only at hs
  by_cases hr : s < 8 ∧ (2 : Int) ^ (8 * s.toNat) ≤ a
  ·rw [if_pos hr]
   have e : (8 * s).toNat = 8 * s.toNat := by omega
   have hp : (0 : Int) < 2 ^ (8 * s.toNat) := Int.pow_pos (by decide)
   have hd : (a / 2 ^ (8 * s).toNat != 0) = true := by
    rw [e]
    have := (Int.le_ediv_iff_mul_le hp).2 (show (1 : Int) * 2 ^ (8 * s.toNat) ≤ a by rw [Int.one_mul];exact hr.2)
    simp
    omega
   exact vfit_numx ok s lo hi st P a b l A0 A1 A2 c0 c1 c2 w hf hal (by omega) hr.1 hd
  ·rw [if_neg hr]
   by_cases h8 : s < 8
   ·have e : (8 * s).toNat = 8 * s.toNat := by omega
    have hd : (a / 2 ^ (8 * s).toNat != 0) = false := by
     rw [e]
     have := Int.ediv_eq_zero_of_lt (b := (2 : Int) ^ (8 * s.toNat)) hu.1 (by
      have : ¬ (2 : Int) ^ (8 * s.toNat) ≤ a := fun hh => hr ⟨h8,hh⟩
      omega)
     simp [this]
    exact vfit_num ok s lo hi st P a b l A0 A1 A2 c0 c1 c2 w hf hal (by omega) h8 hd
   ·have : s = 8 := by omega
    subst this
    exact vfit_n8 ok lo hi st P a b l A0 A1 A2 c0 c1 c2 w hf hal
 rw [if_neg k0]
 by_cases k1 : k = 1
 ·rw [if_pos k1]
  obtain ⟨hs1,hs2,hl1,hl2,hl3,hl4,hl5,hl6⟩ := hown.k12 (.inl k1)
  subst k1
  exact vfit_opq ok s lo hi st P a b l A0 A1 A2 c0 c1 c2 w hf hal (by simp only at hl5;omega)
 rw [if_neg k1]
 have hk := hown.k
 simp only at hk
 by_cases k4 : k = 4
 ·rw [if_pos k4]
  subst k4
  exact vfit_rest ok s lo hi st P a b l A0 A1 A2 c0 c1 c2 w hf hal
 rw [if_neg k4]
 by_cases k5 : k = 5
 ·rw [if_pos k5]
  subst k5
  exact vfit_fixed ok s lo hi st P a b l A0 A1 A2 c0 c1 c2 w hf hal
 rw [if_neg k5]
 have hk23 : k = 2 ∨ k = 3 := by omega
 have hC : ∀ y ∈ P,FitC y := fun y hy => ih y hy ((hch hk23).1 y hy)
 by_cases k3 : k = 3
 ·subst k3
  by_cases hlen : l.length = P.length
  ·rw [if_neg (fun hh => hh.2 hlen)]
   exact vfit_all3 ok s lo hi st P a b l A0 A1 A2 c0 c1 c2 w hf ok2 hv hal hlen hC (fun h => by omega)
  ·rw [if_pos ⟨rfl,hlen⟩]
   exact vfit_len ok s lo hi st P a b l A0 A1 A2 c0 c1 c2 w hf hal hlen
 ·have k2 : k = 2 := by omega
  rw [if_neg (fun hh => k3 hh.1)]
  obtain ⟨hs1,hs2,hl1,hl2,hl3,hl4,hl5,hl6⟩ := hown.k12 (.inr k2)
  subst k2
  have := hone rfl
  exact vfit_all2 ok s lo hi st P a b l A0 A1 A2 c0 c1 c2 w hf ok2 hv hal (by simp only at hl5;omega) hC (fun _ => by omega)

set_option maxHeartbeats 3200000 in
theorem vsize6_any (ok ok2 : Nat → Prop) (f : Fm) (x : Vt) (fv vv : Value) (w : World) (hokl : ∀ i,ok i → i < w.heap.size) (hf : FmR w ok fv f) (hv : VtR w ok2 vv x) : Calls Try.prog 36 #[fv,vv] w fun e w' => e = .returned (.tuple #[.int .i64 (sizeR f x).1,.int .i64 (sizeR f x).2]) ∧ Kp (fun _ => False) w w' := by
 have HCK := Lib.hid (fun W (hk : Kp (fun _ => False) w W) => check_any ok f fv W (fun i hi => Nat.lt_of_lt_of_le (hokl i hi) hk.size) (hf.kp hk (fun _ _ h => h)))
 have HFI := Lib.hid (fun (h : checkR f = 0) W (hk : Kp (fun _ => False) w W) => vfit_any f h ok ok2 x fv vv W (hf.kp hk (fun _ _ h => h)) (hv.kp hk (fun _ _ h => h)))
 obtain ⟨cr,hcr⟩ : ∃ c,(if deepB 8 f then 14 else checkR f) = c := ⟨_,rfl⟩
 obtain ⟨⟨n,e⟩,hne⟩ : ∃ r,fitR f x = r := ⟨_,rfl⟩
 have hsz : sizeR f x = if cr = 0 then (if e = 0 then (n,0) else (0,e)) else (0,cr) := by
  unfold sizeR
  rw [hcr,hne]
 have hc0 : cr = 0 → checkR f = 0 := by
  intro h
  rw [h] at hcr
  split at hcr
  ·simp at hcr
  ·exact hcr
 rw [hcr] at HCK
 rw [hne] at HFI
 rw [hsz]
 have HC0 := Lib.hid hc0
 obtain ⟨⟨k,s,lo,hi,st⟩,P⟩ := f
 obtain ⟨⟨a,b⟩,l⟩ := x
 obtain ⟨A0,c0,rfl⟩ := hf.form6
 obtain ⟨A1,c1,A2,c2,rfl,_,_,_,_,_,_,_⟩ := hv.parts
 have ka : Kp (fun _ => False) w ((w.alloc (.cells #[.int .i64 k,.int .i64 s,.int .i64 lo,.int .i64 hi,.int .i64 st,.slice A0 P.length c0] 24)).alloc (.cells #[.int .u64 a,.slice A1 b.length c1,.slice A2 l.length c2] 29)) := ((Kp.refl _ w).alloc _).alloc _
 have q2 := (Blk.new w 24 #[.int .i64 k,.int .i64 s,.int .i64 lo,.int .i64 hi,.int .i64 st,.slice A0 P.length c0]).alloc (.cells #[.int .u64 a,.slice A1 b.length c1,.slice A2 l.length c2] 29)
 have q3 := Blk.new (w.alloc (.cells #[.int .i64 k,.int .i64 s,.int .i64 lo,.int .i64 hi,.int .i64 st,.slice A0 P.length c0] 24)) 29 #[.int .u64 a,.slice A1 b.length c1,.slice A2 l.length c2]
 simp only [World.size_alloc] at q3
 have HKA := Lib.hid ka
 have HQ2 := Lib.hid q2
 have HQ3 := Lib.hid q3
 clear ka q2 q3 hf hv hcr hne hsz hc0 hokl
 by_cases hcz : cr = 0
 rotate_left
 ·have t0 : (cr != 0) = true := by simpa using hcz
  rw [if_neg hcz]
  clear hcz
  go_enter Try.func36,Try.ntmps36
  go_wp2_with fail
  refine (HCK.out _ HKA.out).mono ?_
  rintro en w1 ⟨rfl,hk1⟩
  have HK1 := Lib.hid (HKA.out.then_ hk1 (fun _ h => h.elim))
  clear hk1
  go_wp2_with fail
  go_ret2
  exact ⟨rfl,HK1.out⟩
 subst hcz
 rw [if_pos rfl]
 have HF := Lib.hid (HFI.out (HC0.out rfl))
 clear HFI HC0
 by_cases hez : e = 0
 ·subst hez
  rw [if_pos rfl]
  go_enter Try.func36,Try.ntmps36
  go_wp2_with fail
  refine (HCK.out _ HKA.out).mono ?_
  rintro en w1 ⟨rfl,hk1⟩
  have HK1 := Lib.hid (HKA.out.then_ hk1 (fun _ h => h.elim))
  have q2 := HQ2.out.kp hk1 (fun h => h)
  have q3 := HQ3.out.kp hk1 (fun h => h)
  have x0 := q2.cell 0
  have x1 := q2.cell 1
  have x2 := q2.cell 2
  have x3 := q2.cell 3
  have x4 := q2.cell 4
  have x5 := q2.cell 5
  have y0 := q3.cell 0
  have y1 := q3.cell 1
  have y2 := q3.cell 2
  simp at x0 x1 x2 x3 x4 x5 y0 y1 y2
  clear hk1 q2 q3 HQ2 HQ3
  go_wp2_with fail
  refine (HF.out _ HK1.out).mono ?_
  rintro en w2 ⟨rfl,hk2⟩
  have HK2 := Lib.hid (HK1.out.then_ hk2 (fun _ h => h.elim))
  clear hk2 x0 x1 x2 x3 x4 x5 y0 y1 y2
  go_wp2_with fail
  go_ret2
  exact ⟨rfl,HK2.out⟩
 ·have t0 : (e != 0) = true := by simpa using hez
  rw [if_neg hez]
  clear hez
  go_enter Try.func36,Try.ntmps36
  go_wp2_with fail
  refine (HCK.out _ HKA.out).mono ?_
  rintro en w1 ⟨rfl,hk1⟩
  have HK1 := Lib.hid (HKA.out.then_ hk1 (fun _ h => h.elim))
  have q2 := HQ2.out.kp hk1 (fun h => h)
  have q3 := HQ3.out.kp hk1 (fun h => h)
  have x0 := q2.cell 0
  have x1 := q2.cell 1
  have x2 := q2.cell 2
  have x3 := q2.cell 3
  have x4 := q2.cell 4
  have x5 := q2.cell 5
  have y0 := q3.cell 0
  have y1 := q3.cell 1
  have y2 := q3.cell 2
  simp at x0 x1 x2 x3 x4 x5 y0 y1 y2
  clear hk1 q2 q3 HQ2 HQ3
  go_wp2_with fail
  refine (HF.out _ HK1.out).mono ?_
  rintro en w2 ⟨rfl,hk2⟩
  have HK2 := Lib.hid (HK1.out.then_ hk2 (fun _ h => h.elim))
  clear hk2 x0 x1 x2 x3 x4 x5 y0 y1 y2
  go_wp2_with fail
  go_ret2
  exact ⟨rfl,HK2.out⟩

set_option maxHeartbeats 3200000 in
theorem vfits6_any (ok ok2 : Nat → Prop) (f : Fm) (x : Vt) (v u : Value) (w : World) (hokl : ∀ i,ok i → i < w.heap.size) (hf : FmR w ok v f) (hv : VtR w ok2 u x) : Calls Try.prog 22 #[v,u] w fun e w' => e = .returned (.int .i64 (sizeR f x).2) ∧ Kp (fun _ => False) w w' := by
 have HSZ := Lib.hid (fun W (hk : Kp (fun _ => False) w W) => vsize6_any ok ok2 f x v u W (fun i hi => Nat.lt_of_lt_of_le (hokl i hi) hk.size) (hf.kp hk (fun _ _ h => h)) (hv.kp hk (fun _ _ h => h)))
 obtain ⟨⟨n,e⟩,hne⟩ : ∃ r,sizeR f x = r := ⟨_,rfl⟩
 rw [hne] at HSZ ⊢
 obtain ⟨⟨k,s,lo,hi,st⟩,P⟩ := f
 obtain ⟨⟨a,b⟩,l⟩ := x
 obtain ⟨A0,c0,rfl⟩ := hf.form6
 obtain ⟨A1,c1,A2,c2,rfl,_,_,_,_,_,_,_⟩ := hv.parts
 have HKA := Lib.hid (show Kp (fun _ => False) w ((w.alloc (.cells #[.int .i64 k,.int .i64 s,.int .i64 lo,.int .i64 hi,.int .i64 st,.slice A0 P.length c0] 24)).alloc (.cells #[.int .u64 a,.slice A1 b.length c1,.slice A2 l.length c2] 29)) from ((Kp.refl _ w).alloc _).alloc _)
 clear hf hv hne hokl
 go_enter Try.func22,Try.ntmps22
 go_wp2_with fail
 refine (HSZ.out _ HKA.out).mono ?_
 rintro en w1 ⟨rfl,hk1⟩
 have HK1 := Lib.hid (HKA.out.then_ hk1 (fun _ h => h.elim))
 clear hk1
 go_wp2_with fail
 go_ret
 exact ⟨rfl,HK1.out⟩
end Go.Proofs.Ytdhnfccgojgehaa

namespace Go.Proofs.Ytdhnfccgojgehaa
open Go.RowKit
set_option maxRecDepth 100000

theorem FmR.form_ {w : World} {ok : Nat → Prop} {v : Value} {k s lo hi st : Int} {P : List Fm} (h : FmR w ok v (.mk ⟨k,s,lo,hi,st⟩ P)) : ∃ A c,v = .agg #[.int .i64 k,.int .i64 s,.int .i64 lo,.int .i64 hi,.int .i64 st,.slice A P.length c] := by
 obtain ⟨sv,e,_,A,c,e2,_⟩ := h
 subst e2
 exact ⟨A,c,e⟩

set_option maxHeartbeats 3200000 in
/-- What does not fit is not written. -/
theorem wwrite_bad (ok ok2 : Nat → Prop) (f : Fm) (x : Vt) (fv vv : Value) (w : World) (hokl : ∀ i,ok i → i < w.heap.size) (hf : FmR w ok fv f) (hv : VtR w ok2 vv x) (n e : Int) (he : sizeR f x = (n,e)) (hne : e ≠ 0) :
  Calls Try.prog 9 #[fv,vv] w fun en w' => en = .returned (.tuple #[.slice none 0 0,.int .i64 e]) ∧ Kp (fun _ => False) w w' := by
 obtain ⟨⟨k,s,lo,hi,st⟩,P⟩ := f
 obtain ⟨⟨a,b⟩,l⟩ := x
 obtain ⟨A0,c0,rfl⟩ := hf.form_
 obtain ⟨A1,c1,A2,c2,rfl,_,_,_,_,_,_,_⟩ := hv.parts
 have ka := ((Kp.refl (fun _ => False) w).alloc (.cells #[.int .i64 k,.int .i64 s,.int .i64 lo,.int .i64 hi,.int .i64 st,.slice A0 P.length c0] 24)).alloc (.cells #[.int .u64 a,.slice A1 b.length c1,.slice A2 l.length c2] 29)
 have HF := Lib.hid (fun W (hk : Kp (fun _ => False) w W) => vfits6_any ok ok2 _ _ _ _ W (fun i hi => Nat.lt_of_lt_of_le (hokl i hi) hk.size) (hf.kp hk (fun _ _ h => h)) (hv.kp hk (fun _ _ h => h)))
 rw [he] at HF
 have HKA := Lib.hid ka
 have hne' : (e != 0) = true := by simpa using hne
 clear ka hf hv he hne hokl
 go_enter Try.func9,Try.ntmps9
 go_wp2_with fail
 refine (HF.out _ HKA.out).mono ?_
 rintro en w1 ⟨rfl,hk1⟩
 have HK1 := Lib.hid (HKA.out.then_ hk1 (fun _ h => h.elim))
 clear hk1 HKA HF
 go_wp2_with fail
 go_ret2
 exact ⟨rfl,HK1.out⟩

set_option maxHeartbeats 3200000 in
/-- What fits is written. -/
theorem wwrite_ok (f : Fm) (x : Vt) (fv vv : Value) (w : World) (hz : szF f ≤ 100000) (hf : FmR w (· < w.heap.size) fv f) (hv : VtR w (· < w.heap.size) vv x) (n : Int) (he : sizeR f x = (n,0)) (hw : wfV x = true) (hbd : (writeR f x).length ≤ 1073741824) :
  Calls Try.prog 9 #[fv,vv] w fun en w' => ∃ A c,en = .returned (.tuple #[.slice A (writeR f x).length c,.int .i64 0]) ∧ BR w' (fun i => w.heap.size ≤ i) (.slice A (writeR f x).length c) (writeR f x) ∧ Kp (fun _ => False) w w' := by
 obtain ⟨hd,hck,hft,hfn⟩ := sizeR_ok (f := f) (x := x) (by rw [he])
 have hfit : fitR f x = (n,0) := by
  rw [he] at hfn
  exact Prod.ext hfn.symm hft
 have HLY := Lib.hid (fun (W : World) (g : Nat) (hg : w.heap.size ≤ g) (hk : Kp (fun _ => False) w W) (hb : Bld W (· = g) g [] 1073741824 []) => wlay_any f hz (· = g) (· < w.heap.size) g [] 1073741824 [] x n fv vv W hck hfit hw hb (hf.kp hk (fun _ _ h => h)) (hv.kp hk (fun _ _ h => h))
  (fun i hi => ⟨Nat.lt_of_lt_of_le hi hk.size,fun h => by subst h;exact absurd hi (Nat.not_lt.2 hg)⟩) (by simpa using hbd) (by simp;omega))
 obtain ⟨u,hu⟩ : ∃ u,writeR f x = u := ⟨_,rfl⟩
 rw [hu] at HLY hbd ⊢
 have HF := Lib.hid (fun W (hk : Kp (fun _ => False) w W) => vfits6_any (· < w.heap.size) (· < w.heap.size) f x fv vv W (fun i hi => Nat.lt_of_lt_of_le hi hk.size) (hf.kp hk (fun _ _ h => h)) (hv.kp hk (fun _ _ h => h)))
 rw [he] at HF
 obtain ⟨⟨k,s,lo,hi,st⟩,P⟩ := f
 obtain ⟨⟨a,b⟩,l⟩ := x
 obtain ⟨A0,c0,rfl⟩ := hf.form_
 obtain ⟨A1,c1,A2,c2,rfl,_,_,_,_,_,_,_⟩ := hv.parts
 have ka := ((Kp.refl (fun _ => False) w).alloc (.cells #[.int .i64 k,.int .i64 s,.int .i64 lo,.int .i64 hi,.int .i64 st,.slice A0 P.length c0] 24)).alloc (.cells #[.int .u64 a,.slice A1 b.length c1,.slice A2 l.length c2] 29)
 have q2 := (Blk.new w 24 #[.int .i64 k,.int .i64 s,.int .i64 lo,.int .i64 hi,.int .i64 st,.slice A0 P.length c0]).alloc (.cells #[.int .u64 a,.slice A1 b.length c1,.slice A2 l.length c2] 29)
 have q3 := Blk.new (w.alloc (.cells #[.int .i64 k,.int .i64 s,.int .i64 lo,.int .i64 hi,.int .i64 st,.slice A0 P.length c0] 24)) 29 #[.int .u64 a,.slice A1 b.length c1,.slice A2 l.length c2]
 simp only [World.size_alloc] at q3
 have HKA := Lib.hid ka
 have HQ2 := Lib.hid q2
 have HQ3 := Lib.hid q3
 have HBD := Lib.hid hbd
 clear ka q2 q3 hf hv he hbd hd hck hft hfn hfit hw hz hu
 go_enter Try.func9,Try.ntmps9
 go_upto_region 1 with fail
 generalize (w.alloc (.cells #[.int .i64 k,.int .i64 s,.int .i64 lo,.int .i64 hi,.int .i64 st,.slice A0 P.length c0] 24)).alloc (.cells #[.int .u64 a,.slice A1 b.length c1,.slice A2 l.length c2] 29) = W1 at HKA HQ2 HQ3 ⊢
 have x0 := HQ2.out.cell 0
 have x1 := HQ2.out.cell 1
 have x2 := HQ2.out.cell 2
 have x3 := HQ2.out.cell 3
 have x4 := HQ2.out.cell 4
 have x5 := HQ2.out.cell 5
 have y0 := HQ3.out.cell 0
 have y1 := HQ3.out.cell 1
 have y2 := HQ3.out.cell 2
 simp at x0 x1 x2 x3 x4 x5 y0 y1 y2
 have HFI := Lib.hid (HF.out _ HKA.out)
 clear HF
 go_wp2_with fail
 refine HFI.out.mono ?_
 rintro en w1 ⟨rfl,hk1⟩
 have HK1 := Lib.hid (HKA.out.then_ hk1 (fun _ h => h.elim))
 have HP2 := Lib.hid (HQ2.out.kp hk1 (fun h => h))
 have HP3 := Lib.hid (HQ3.out.kp hk1 (fun h => h))
 have HNW := Lib.hid (bnew_ok 1073741824 (Nat.le_refl _) w1)
 clear hk1 HFI HQ2 HQ3 HKA x0 x1 x2 x3 x4 x5 y0 y1 y2
 go_wp2_with fail
 refine HNW.out.mono ?_
 rintro en w2 ⟨g,rfl,hg,hb2,hk2⟩
 have hg' : w.heap.size ≤ g := Nat.le_trans HK1.out.size hg
 have hkw := HK1.out.then_ hk2 (fun _ h => h.elim)
 have HL := Lib.hid (HLY.out w2 g hg' hkw hb2)
 have HK2 := Lib.hid hkw
 have HP4 := Lib.hid (HP2.out.kp hk2 (fun h => h))
 have HP5 := Lib.hid (HP3.out.kp hk2 (fun h => h))
 have HG := Lib.hid hg'
 clear hg hb2 hk2 hg' hkw HNW HP2 HP3 HLY
 have x0 := HP4.out.cell 0
 have x1 := HP4.out.cell 1
 have x2 := HP4.out.cell 2
 have x3 := HP4.out.cell 3
 have x4 := HP4.out.cell 4
 have x5 := HP4.out.cell 5
 have y0 := HP5.out.cell 0
 have y1 := HP5.out.cell 1
 have y2 := HP5.out.cell 2
 simp at x0 x1 x2 x3 x4 x5 y0 y1 y2
 go_wp2_with fail
 refine HL.out.mono ?_
 rintro en w3 ⟨rfl,hb3,hk3⟩
 have hkw := HK2.out.then_ hk3 (fun i (h : i = g) => .inr (h ▸ HG.out))
 have HD := Lib.hid (bdone_any _ g _ 1073741824 w3 hb3)
 have HK3 := Lib.hid hkw
 clear hb3 hk3 hkw HL HP4 HP5 x0 x1 x2 x3 x4 x5 y0 y1 y2 HK2 HK1
 go_wp2_with fail
 refine HD.out.mono ?_
 rintro en w4 ⟨A,c,rfl,hc4,hr4,_,hk4⟩
 simp only [List.nil_append] at hr4 hc4 ⊢
 have HR := Lib.hid (hr4.mono (fun i hi => Nat.le_trans HK3.out.size hi))
 have HK4 := Lib.hid (HK3.out.then_ hk4 (fun _ h => h.elim))
 clear hr4 hk4 HD HK3
 obtain ⟨m,hm⟩ : ∃ m,u.length = m := ⟨_,rfl⟩
 have HM := Lib.hid hm
 rw [hm] at HR hc4
 rw [hm]
 clear hm
 go_wp2_with fail
 go_ret2
 obtain rfl := HM.out
 exact ⟨_,_,rfl,HR.out,HK4.out⟩
end Go.Proofs.Ytdhnfccgojgehaa

namespace Go.Proofs.Ytdhnfccgojgehaa
open Go.RowKit
set_option maxRecDepth 100000

theorem tr_form {W : World} {ok : Nat → Prop} (a : FH) (ha : a.ok) (P : List Fm) (A : Option Addr) (n c : Nat) (hn : n = P.length) (hc : n ≤ c) (hP : n ≤ 140737488355328) (ht : TL FHd 6 W ok P A) : TR FHd 6 W ok (.mk a P) [.int .i64 a.k,.int .i64 a.s,.int .i64 a.lo,.int .i64 a.hi,.int .i64 a.st,.slice A n c] := by
 subst hn
 exact (TR_def _ _ _ _ _ _).2 ⟨[.int .i64 a.k,.int .i64 a.s,.int .i64 a.lo,.int .i64 a.hi,.int .i64 a.st],A,c,rfl,rfl,⟨rfl,ha⟩,hc,hP,ht⟩
theorem tr_value {W : World} {ok : Nat → Prop} (x : Int) (hx : u64B x) (P : List Vt) (A : Option Addr) (n c : Nat) (hn : n = P.length) (hc : n ≤ c) (hP : n ≤ 140737488355328) (ht : TL VHd 3 W ok P A) : TR VHd 3 W ok (.mk ⟨x,[]⟩ P) [.int .u64 x,.slice none 0 0,.slice A n c] := by
 subst hn
 exact (TR_def _ _ _ _ _ _).2 ⟨[.int .u64 x,.slice none 0 0],A,c,rfl,rfl,⟨_,rfl,hx,BR.nil,Nat.zero_le _⟩,hc,hP,ht⟩
theorem tl_none {α : Type} {H : Head α} {m : Nat} {W : World} {ok : Nat → Prop} {A : Option Addr} : TL H m W ok [] A := fun h => absurd h (Nat.lt_irrefl 0)
/-- One, two things in a block. -/
theorem tl_one {α : Type} {H : Head α} {W : World} {ok : Nat → Prop} {g m : Nat} {t : TypeId} {cs : Array Value} (hb : Blk W g t cs) (hok : ok g) (x : RT α) (l : List Value) (hx : TR H m W ok x l) (he : cs.toList = l) : TL H m W ok [x] (some ⟨g,0,none⟩) := by
 refine fun _ => ⟨g,0,rfl,hok,?_⟩
 rw [TRs,TRs]
 refine ⟨⟨_,hx,fun j u hu => ?_⟩,trivial⟩
 rw [hb.cell,Nat.zero_add,← Array.getElem?_toList,he]
 exact hu
theorem tl_two {α : Type} {H : Head α} {W : World} {ok : Nat → Prop} {g m : Nat} {t : TypeId} {cs : Array Value} (hb : Blk W g t cs) (hok : ok g) (x y : RT α) (l k : List Value) (hx : TR H m W ok x l) (hy : TR H m W ok y k) (hm : l.length = m) (he : cs.toList = l ++ k) : TL H m W ok [x,y] (some ⟨g,0,none⟩) := by
 refine fun _ => ⟨g,0,rfl,hok,?_⟩
 rw [TRs,TRs,TRs]
 refine ⟨⟨_,hx,fun j u hu => ?_⟩,⟨_,hy,fun j u hu => ?_⟩,trivial⟩
 ·rw [hb.cell,Nat.zero_add,← Array.getElem?_toList,he]
  rw [List.getElem?_append_left (by rcases Nat.lt_or_ge j l.length with h | h;exact h;rw [List.getElem?_eq_none h] at hu;cases hu)]
  exact hu
 ·rw [hb.cell,Nat.zero_add,← Array.getElem?_toList,he,List.getElem?_append_right (by omega),show m + j - l.length = j from by omega]
  exact hu

theorem i64_small (i : Int) (h1 : -100 ≤ i) (h2 : i ≤ 1000) : i64B i := by unfold i64B;omega
theorem u64_small (i : Int) (h1 : 0 ≤ i) (h2 : i ≤ 1000) : u64B i := by unfold u64B;omega
theorem fh_small (k s lo hi st : Int) (h : ∀ i ∈ [k,s,lo,hi,st], -100 ≤ i ∧ i ≤ 1000) : FH.ok ⟨k,s,lo,hi,st⟩ := by
 have : ∀ i ∈ [k,s,lo,hi,st],i64B i := fun i hi => i64_small i (h i hi).1 (h i hi).2
 exact ⟨this _ (by simp),this _ (by simp),this _ (by simp),this _ (by simp),this _ (by simp)⟩
end Go.Proofs.Ytdhnfccgojgehaa

namespace Go.Proofs.Ytdhnfccgojgehaa
open Go.RowKit
set_option maxRecDepth 100000

def fB : Fm := .mk ⟨3,0,0,0,0⟩ [.mk ⟨0,2,0,0,0⟩ [],.mk ⟨2,1,0,9,1⟩ [.mk ⟨0,1,0,0,0⟩ []]]
def xB : Vt := .mk ⟨0,[]⟩ [.mk ⟨258,[]⟩ [],.mk ⟨0,[]⟩ [.mk ⟨5,[]⟩ [],.mk ⟨6,[]⟩ []]]
theorem sB : sizeR fB xB = (5,0) := by kernel_rfl
theorem wB : writeR fB xB = [1,2,2,5,6] := by kernel_rfl
theorem fB_R {W : World} {g1 g2 : Nat} (h1 : Blk W g1 24 #[.int .i64 0,.int .i64 1,.int .i64 0,.int .i64 0,.int .i64 0,.slice none 0 0])
  (h2 : Blk W g2 24 #[.int .i64 0,.int .i64 2,.int .i64 0,.int .i64 0,.int .i64 0,.slice none 0 0,.int .i64 2,.int .i64 1,.int .i64 0,.int .i64 9,.int .i64 1,.slice (some ⟨g1,0,none⟩) 1 1]) :
  FmR W (· < W.heap.size) (.agg #[.int .i64 3,.int .i64 0,.int .i64 0,.int .i64 0,.int .i64 0,.slice (some ⟨g2,0,none⟩) 2 2]) fB := by
 have t0 := tr_form (W := W) (ok := (· < W.heap.size)) ⟨0,1,0,0,0⟩ (fh_small _ _ _ _ _ (by simp)) [] none 0 0 rfl (Nat.le_refl _) (by simp) tl_none
 have t1 := tl_one h1 h1.lt _ _ t0 rfl
 have t2 := tr_form (W := W) (ok := (· < W.heap.size)) ⟨0,2,0,0,0⟩ (fh_small _ _ _ _ _ (by simp)) [] none 0 0 rfl (Nat.le_refl _) (by simp) tl_none
 have t3 := tr_form ⟨2,1,0,9,1⟩ (fh_small _ _ _ _ _ (by simp)) _ _ 1 1 rfl (Nat.le_refl _) (by simp) t1
 have t4 := tl_two h2 h2.lt _ _ _ _ t2 t3 rfl rfl
 exact (FmR.of_tr (tr_form ⟨3,0,0,0,0⟩ (fh_small _ _ _ _ _ (by simp)) _ _ 2 2 rfl (Nat.le_refl _) (by simp) t4)).1
theorem xB_R {W : World} {g1 g2 : Nat} (h1 : Blk W g1 29 #[.int .u64 5,.slice none 0 0,.slice none 0 0,.int .u64 6,.slice none 0 0,.slice none 0 0])
  (h2 : Blk W g2 29 #[.int .u64 258,.slice none 0 0,.slice none 0 0,.int .u64 0,.slice none 0 0,.slice (some ⟨g1,0,none⟩) 2 2]) :
  VtR W (· < W.heap.size) (.agg #[.int .u64 0,.slice none 0 0,.slice (some ⟨g2,0,none⟩) 2 2]) xB := by
 have h0 : ∀ x : Int,0 ≤ x → x ≤ 1000 → TR VHd 3 W (· < W.heap.size) (.mk ⟨x,[]⟩ []) [.int .u64 x,.slice none 0 0,.slice none 0 0] := fun x h1 h2 => tr_value x (u64_small x h1 h2) [] none 0 0 rfl (Nat.le_refl _) (by simp) tl_none
 have t1 := tl_two h1 h1.lt _ _ _ _ (h0 5 (by decide) (by decide)) (h0 6 (by decide) (by decide)) rfl rfl
 have t3 := tr_value 0 (u64_small 0 (by decide) (by decide)) _ _ 2 2 rfl (Nat.le_refl _) (by simp) t1
 have t4 := tl_two h2 h2.lt _ _ _ _ (h0 258 (by decide) (by decide)) t3 rfl rfl
 exact (VtR.of_tr (tr_value 0 (u64_small 0 (by decide) (by decide)) _ _ 2 2 rfl (Nat.le_refl _) (by simp) t4)).1

set_option maxHeartbeats 3200000 in
theorem alive07_any (w : World) : Calls Try.prog 6 #[] w fun e w' => e = .returned (.bool true) ∧ Kp (fun _ => False) w w' := by
 have ka := ((((((Kp.refl (fun _ => False) w).alloc (.cells #[.int .i64 0,.int .i64 1,.int .i64 0,.int .i64 0,.int .i64 0,.slice none 0 0] 24)).alloc (.cells #[.int .i64 0,.int .i64 2,.int .i64 0,.int .i64 0,.int .i64 0,.slice none 0 0,.int .i64 2,.int .i64 1,.int .i64 0,.int .i64 9,.int .i64 1,.slice (some ⟨w.heap.size,0,none⟩) 1 1] 24)).alloc (.cells #[.int .i64 3,.int .i64 0,.int .i64 0,.int .i64 0,.int .i64 0,.slice (some ⟨w.heap.size + 1,0,none⟩) 2 2] 24)).alloc (.cells #[.int .u64 5,.slice none 0 0,.slice none 0 0,.int .u64 6,.slice none 0 0,.slice none 0 0] 29)).alloc (.cells #[.int .u64 258,.slice none 0 0,.slice none 0 0,.int .u64 0,.slice none 0 0,.slice (some ⟨w.heap.size + 1 + 1 + 1,0,none⟩) 2 2] 29))
 have q1 := (((((Blk.new w 24 #[.int .i64 0,.int .i64 1,.int .i64 0,.int .i64 0,.int .i64 0,.slice none 0 0]).alloc (.cells #[.int .i64 0,.int .i64 2,.int .i64 0,.int .i64 0,.int .i64 0,.slice none 0 0,.int .i64 2,.int .i64 1,.int .i64 0,.int .i64 9,.int .i64 1,.slice (some ⟨w.heap.size,0,none⟩) 1 1] 24)).alloc (.cells #[.int .i64 3,.int .i64 0,.int .i64 0,.int .i64 0,.int .i64 0,.slice (some ⟨w.heap.size + 1,0,none⟩) 2 2] 24)).alloc (.cells #[.int .u64 5,.slice none 0 0,.slice none 0 0,.int .u64 6,.slice none 0 0,.slice none 0 0] 29)).alloc (.cells #[.int .u64 258,.slice none 0 0,.slice none 0 0,.int .u64 0,.slice none 0 0,.slice (some ⟨w.heap.size + 1 + 1 + 1,0,none⟩) 2 2] 29))
 have q2 := ((((Blk.new (w.alloc (.cells #[.int .i64 0,.int .i64 1,.int .i64 0,.int .i64 0,.int .i64 0,.slice none 0 0] 24)) 24 #[.int .i64 0,.int .i64 2,.int .i64 0,.int .i64 0,.int .i64 0,.slice none 0 0,.int .i64 2,.int .i64 1,.int .i64 0,.int .i64 9,.int .i64 1,.slice (some ⟨w.heap.size,0,none⟩) 1 1]).alloc (.cells #[.int .i64 3,.int .i64 0,.int .i64 0,.int .i64 0,.int .i64 0,.slice (some ⟨w.heap.size + 1,0,none⟩) 2 2] 24)).alloc (.cells #[.int .u64 5,.slice none 0 0,.slice none 0 0,.int .u64 6,.slice none 0 0,.slice none 0 0] 29)).alloc (.cells #[.int .u64 258,.slice none 0 0,.slice none 0 0,.int .u64 0,.slice none 0 0,.slice (some ⟨w.heap.size + 1 + 1 + 1,0,none⟩) 2 2] 29))
 have q4 := ((Blk.new (((w.alloc (.cells #[.int .i64 0,.int .i64 1,.int .i64 0,.int .i64 0,.int .i64 0,.slice none 0 0] 24)).alloc (.cells #[.int .i64 0,.int .i64 2,.int .i64 0,.int .i64 0,.int .i64 0,.slice none 0 0,.int .i64 2,.int .i64 1,.int .i64 0,.int .i64 9,.int .i64 1,.slice (some ⟨w.heap.size,0,none⟩) 1 1] 24)).alloc (.cells #[.int .i64 3,.int .i64 0,.int .i64 0,.int .i64 0,.int .i64 0,.slice (some ⟨w.heap.size + 1,0,none⟩) 2 2] 24)) 29 #[.int .u64 5,.slice none 0 0,.slice none 0 0,.int .u64 6,.slice none 0 0,.slice none 0 0]).alloc (.cells #[.int .u64 258,.slice none 0 0,.slice none 0 0,.int .u64 0,.slice none 0 0,.slice (some ⟨w.heap.size + 1 + 1 + 1,0,none⟩) 2 2] 29))
 have q5 := (Blk.new ((((w.alloc (.cells #[.int .i64 0,.int .i64 1,.int .i64 0,.int .i64 0,.int .i64 0,.slice none 0 0] 24)).alloc (.cells #[.int .i64 0,.int .i64 2,.int .i64 0,.int .i64 0,.int .i64 0,.slice none 0 0,.int .i64 2,.int .i64 1,.int .i64 0,.int .i64 9,.int .i64 1,.slice (some ⟨w.heap.size,0,none⟩) 1 1] 24)).alloc (.cells #[.int .i64 3,.int .i64 0,.int .i64 0,.int .i64 0,.int .i64 0,.slice (some ⟨w.heap.size + 1,0,none⟩) 2 2] 24)).alloc (.cells #[.int .u64 5,.slice none 0 0,.slice none 0 0,.int .u64 6,.slice none 0 0,.slice none 0 0] 29)) 29 #[.int .u64 258,.slice none 0 0,.slice none 0 0,.int .u64 0,.slice none 0 0,.slice (some ⟨w.heap.size + 1 + 1 + 1,0,none⟩) 2 2])
 simp only [World.size_alloc] at q1 q2 q4 q5
 have HK := Lib.hid ka
 have HQ1 := Lib.hid q1
 have HQ2 := Lib.hid q2
 have HQ4 := Lib.hid q4
 have HQ5 := Lib.hid q5
 clear ka q1 q2 q4 q5
 go_enter Try.func6,Try.ntmps6
 go_wp2_with fail
 generalize (((((w.alloc (.cells #[.int .i64 0,.int .i64 1,.int .i64 0,.int .i64 0,.int .i64 0,.slice none 0 0] 24)).alloc (.cells #[.int .i64 0,.int .i64 2,.int .i64 0,.int .i64 0,.int .i64 0,.slice none 0 0,.int .i64 2,.int .i64 1,.int .i64 0,.int .i64 9,.int .i64 1,.slice (some ⟨w.heap.size,0,none⟩) 1 1] 24)).alloc (.cells #[.int .i64 3,.int .i64 0,.int .i64 0,.int .i64 0,.int .i64 0,.slice (some ⟨w.heap.size + 1,0,none⟩) 2 2] 24)).alloc (.cells #[.int .u64 5,.slice none 0 0,.slice none 0 0,.int .u64 6,.slice none 0 0,.slice none 0 0] 29)).alloc (.cells #[.int .u64 258,.slice none 0 0,.slice none 0 0,.int .u64 0,.slice none 0 0,.slice (some ⟨w.heap.size + 1 + 1 + 1,0,none⟩) 2 2] 29)) = W5 at HK HQ1 HQ2 HQ4 HQ5 ⊢
 have hc := wwrite_ok fB xB _ _ W5 (by decide) (fB_R HQ1.out HQ2.out) (xB_R HQ4.out HQ5.out) 5 sB (by decide) (by rw [wB];decide)
 rw [wB] at hc
 have HC := Lib.hid hc
 clear hc HQ1 HQ2 HQ4 HQ5
 refine HC.out.mono ?_
 rintro e w1 ⟨A,c,rfl,hbr,hk1⟩
 have hbr5 : BR w1 (fun i => W5.heap.size ≤ i) (.slice A 5 c) [1,2,2,5,6] := hbr
 have hstr := run_str (P := Try.prog) (src := 26) (dst := 9) (e := 5) Try.underlying26 Try.underlying5 Try.underlying9 hbr5
 have hse : (str [1,2,2,5,6]).toList = [1,2,2,5,6] := by simp [str]
 have HK1 := Lib.hid (HK.out.then_ hk1 (fun _ h => h.elim))
 clear hbr hbr5 hk1 HC HK
 go_wp2_with fail
 go_ret
 exact ⟨rfl,HK1.out⟩
end Go.Proofs.Ytdhnfccgojgehaa

namespace Go.Proofs.Ytdhnfccgojgehaa
open Go.RowKit YtdhnfccgojgehaaW.PrintWords

end Go.Proofs.Ytdhnfccgojgehaa

namespace Go.Proofs.Ytdhnfccgojgehaa.QP
open Go.RowKit Go.Proofs.YtdhnfccgojgehaaW.PrintWords Go.Proofs.YtdhnfccgojgehaaW.PrintLast Go.Proofs.YtdhnfccgojgehaaW.PrintMore
attribute [local go_sem] max2_int min2_int max_two min_two max_three min_three max_four min_four   -- for this text's walks alone
set_option linter.unusedVariables false
set_option linter.unusedSimpArgs false

/-! ### passepartoutref05_Count: function 18 -/
mutual
def passepartoutref05_Count.l0 : Nat → Int → Int → Int → Int → List Int → List (S29) → Option (Int)
 | 0,_,_,_,_,_,_ => none
 | k + 1,x1,x5,x6,x135000,x135001,x135002 => if x6 < (x135002.length : Int) then (if x5 ≤ x1 then (if 0 ≤ x6 then ((passepartoutref05_Count.f k ((rd_T29 x135002 x6).f0) ((rd_T29 x135002 x6).f1) ((rd_T29 x135002 x6).f2) (wrap64 (x1 - x5))).bind fun t136 => (passepartoutref05_Count.l0 k x1 (wrap64 (x5 + t136)) (wrap64 (x6 + 1)) x135000 x135001 x135002)) else (none)) else (some x5)) else (some x5)
def passepartoutref05_Count.f : Nat → Int → List Int → List (S29) → Int → Option (Int)
 | 0,_,_,_,_ => none
 | k + 1,a0_0,l0_1,l0_2,a1 => passepartoutref05_Count.l0 k a1 1 0 a0_0 l0_1 l0_2
end
theorem passepartoutref05_Count.mono_l : ∀ k,(∀ y0 y1 y2 y3,LeO (passepartoutref05_Count.f k y0 y1 y2 y3) (passepartoutref05_Count.f (k + 1) y0 y1 y2 y3)) ∧ (∀ y0 y1 y2 y3 y4 y5,LeO (passepartoutref05_Count.l0 k y0 y1 y2 y3 y4 y5) (passepartoutref05_Count.l0 (k + 1) y0 y1 y2 y3 y4 y5))
 | 0 => ⟨fun _ _ _ _ r h => by simp [passepartoutref05_Count.f] at h,fun _ _ _ _ _ _ r h => by simp [passepartoutref05_Count.l0] at h⟩
 | k + 1 => by
  obtain ⟨ih0,ih1⟩ := passepartoutref05_Count.mono_l k
  refine ⟨?_,?_⟩
  ·intro y0 y1 y2 y3
   unfold passepartoutref05_Count.f
   repeat' first
   | (with_reducible exact ih0 _ _ _ _)
   | (with_reducible exact ih1 _ _ _ _ _ _)
   | (with_reducible exact LeO.refl _)
   | (with_reducible exact LeO.none _)
   | (with_reducible refine LeO.ite ?_ ?_)
   | (with_reducible refine LeO.bind ?_ (fun _ => ?_))
   | exact ih0 _ _ _ _
   | exact ih1 _ _ _ _ _ _
   | exact LeO.none _
   | refine LeO.ite ?_ ?_
   | refine LeO.bind ?_ (fun _ => ?_)
  ·intro y0 y1 y2 y3 y4 y5
   unfold passepartoutref05_Count.l0
   repeat' first
   | (with_reducible exact ih0 _ _ _ _)
   | (with_reducible exact ih1 _ _ _ _ _ _)
   | (with_reducible exact LeO.refl _)
   | (with_reducible exact LeO.none _)
   | (with_reducible refine LeO.ite ?_ ?_)
   | (with_reducible refine LeO.bind ?_ (fun _ => ?_))
   | exact ih0 _ _ _ _
   | exact ih1 _ _ _ _ _ _
   | exact LeO.none _
   | refine LeO.ite ?_ ?_
   | refine LeO.bind ?_ (fun _ => ?_)
theorem passepartoutref05_Count.mono : ∀ a0 a1 a2 a3 k,LeO (passepartoutref05_Count.f k a0 a1 a2 a3) (passepartoutref05_Count.f (k + 1) a0 a1 a2 a3) := by
 intro a0 a1 a2 a3 k
 obtain ⟨ih0,ih1⟩ := passepartoutref05_Count.mono_l k
 exact ih0 a0 a1 a2 a3
set_option maxHeartbeats 8000000 in
set_option maxRecDepth 100000 in
theorem passepartoutref05_Count.calls (k : Nat) : ∀ (a0_0 : Int) (A0_1 : Option Addr) (c0_1 : Nat) (l0_1 : List Int) (A0_2 : Option Addr) (c0_2 : Nat) (l0_2 : List (S29)) (a1 : Int) (r : Int) (w : World) (hr0_1 : Kd.C (Kd.int .u8) w A0_1 l0_1.length l0_1) (hc0_1 : l0_1.length ≤ c0_1) (hr0_2 : Kd.C k29 w A0_2 l0_2.length l0_2) (hc0_2 : l0_2.length ≤ c0_2) (h : passepartoutref05_Count.f k a0_0 l0_1 l0_2 a1 = some r),
  Calls Try.prog 18 #[.agg #[.int .u64 a0_0,.slice A0_1 l0_1.length c0_1,.slice A0_2 l0_2.length c0_2],.int .i64 a1] w fun e w' => e = .returned (.int .i64 r) ∧ Below w.heap.size w w' := by
 induction k using Nat.strongRecOn with
 | _ k ih =>
 intro a0_0 A0_1 c0_1 l0_1 A0_2 c0_2 l0_2 a1 r w hr0_1 hc0_1 hr0_2 hc0_2 h
 cases k with
 | zero => exact absurd h (by simp [passepartoutref05_Count.f])
 | succ k =>
 simp only [passepartoutref05_Count.f] at h
 have hu29 := Try.underlying29
 have HR0_1 := Aside0.mk hr0_1
 have HC0_1 := Aside0.mk hc0_1
 clear hr0_1 hc0_1
 have HR0_2 := Aside0.mk hr0_2
 have HC0_2 := Aside0.mk hc0_2
 clear hr0_2 hc0_2
 have HB := Aside0.mk (Below.refl w.heap.size w)
 have H : (passepartoutref05_Count.l0 k a1 1 0 a0_0 l0_1 l0_2) = some r := h
 clear h
 have H' := Aside0.mk H
 clear H
 go_enter Try.func18,Try.ntmps18
 go_wp2_with (first | ((with_reducible refine gate_dst (N := 2) rfl ?_);refine box_event ?hg (N := 2) ?hd (cs := #[.int .u64 a0_0,.slice A0_1 l0_1.length c0_1,.slice A0_2 l0_2.length c0_2]) (t := 29) ?hr ?_;(case hd => rfl);(case hg => rfl);(case hr => first | (go_simp;done) | (go_simp;rfl));intro gb134 hg w3 hbox hb;have n0_ := Aside0.mk (below_step (by repeat (first | (with_reducible first | exact HB.out | apply below_alloc | apply pw_below_drewN | apply below_drew1) | exact HB.out)) hb);have n1_ := Aside0.mk (hbox);have n2_ := Aside0.mk ((by rw [hg];exact (below_size (by repeat (first | (with_reducible first | exact HB.out | apply below_alloc | apply pw_below_drewN | apply below_drew1) | exact HB.out))) : w.heap.size ≤ gb134));have n3_ := Aside0.mk ((by rw [hg];exact (below_size (by repeat (first | (with_reducible first | exact HB.out | apply below_alloc | apply pw_below_drewN | apply below_drew1) | exact HB.out))) : w.heap.size ≤ gb134));clear HB;have HB := n0_;have BK134 := n1_;have GW134 := n2_;have GE134 := n3_;clear n0_ n1_ n2_ n3_;clear hb hbox hg))
 go_loopg [5,6] k (fun kq v5 v6 w' => ∃ (x5_1 : Int) (x6_1 : Int),v5 = .int .i64 x5_1 ∧ v6 = .int .i64 x6_1 ∧ Aside0 (passepartoutref05_Count.l0 kq a1 x5_1 x6_1 a0_0 l0_1 l0_2 = some r) ∧ Aside0 (kq ≤ k) ∧ Aside0 (w'.heap[gb134]? = some (.cells #[.int .u64 a0_0,(.slice A0_1 l0_1.length c0_1),(.slice A0_2 l0_2.length c0_2)] 29 (0,0))) ∧ Aside0 (Below w.heap.size w w'))
 case atStart => exact ⟨(1),(0),(by first | rfl | (simp;done) | (simp [*];done)),(by first | rfl | (simp;done) | (simp [*];done)),H',⟨Nat.le_refl _⟩,⟨by (with_reducible repeat (first | refine blk_drewN ?_ _ | refine blk_drew ?_ | refine blk_alloc ?_ _));exact BK134.out⟩,⟨by repeat (first | (with_reducible first | exact HB.out | apply below_alloc | apply pw_below_drewN | apply below_drew1 | refine below_set ?_ GE134.out) | exact HB.out)⟩⟩
 case round =>
  clear H'
  try clear c1
  try clear p2
  obtain ⟨x5_1,x6_1,rfl,rfl,HA,HK1,BK134,HB⟩ := hrel
  cases gk with
  | zero => exact absurd HA.out (by simp [passepartoutref05_Count.l0])
  | succ k1 =>
   have H := HA.out
   clear HA
   simp only [passepartoutref05_Count.l0] at H
   by_cases c4 : x6_1 < (l0_2.length : Int)
   ·rw [if_pos c4] at H
    have c4b0 : decide (x6_1 < (l0_2.length : Int)) = true := decide_eq_true c4
    clear c4
    by_cases c5 : x5_1 ≤ a1
    ·rw [if_pos c5] at H
     have c5b0 : decide (x5_1 ≤ a1) = true := decide_eq_true c5
     clear c5
     by_cases c6 : 0 ≤ x6_1
     ·rw [if_pos c6] at H
      have c6b0 : decide (0 ≤ x6_1) = true := decide_eq_true c6
      clear c6
      replace H := Option.bind_eq_some_iff.mp H
      obtain ⟨t136,A70,H⟩ := H
      replace H : (passepartoutref05_Count.l0 k1 a1 (wrap64 (x5_1 + t136)) (wrap64 (x6_1 + 1)) a0_0 l0_1 l0_2) = some r := H
      have A7 := Aside0.mk A70
      clear A70
      have H' := Aside0.mk H
      clear H
      have hcz8_0 : wr.cell? ⟨gb134,0,none⟩ = some (.int .u64 a0_0) := (blk_cell BK134.out 0).trans rfl
      have hcz8_1 : wr.cell? ⟨gb134,1,none⟩ = some (.slice A0_1 l0_1.length c0_1) := (blk_cell BK134.out 1).trans rfl
      have hcz8_2 : wr.cell? ⟨gb134,2,none⟩ = some (.slice A0_2 l0_2.length c0_2) := (blk_cell BK134.out 2).trans rfl
      have hfz8_0 := blk_frozen BK134.out 0
      have hfz8_1 := blk_frozen BK134.out 1
      have hfz8_2 := blk_frozen BK134.out 2
      have p135 : 0 ≤ (x6_1 : Int) := of_decide_eq_true (by first | (with_reducible assumption) | assumption)
      have q135 : x6_1 < (l0_2.length : Int) := of_decide_eq_true (by first | (with_reducible assumption) | assumption)
      obtain ⟨ad135,A135_1,c135_1,A135_2,c135_2,e135,hx135_0,hx135_1,hx135_2,hl135_1,hi135_1,hl135_2,hi135_2⟩ := at_T29 HR0_2.out x6_1 p135 q135
      cases e135
      replace hx135_0 := (HB.out.cell (World.block_lt_of_cell? w _ hx135_0)).trans hx135_0
      replace hx135_1 := (HB.out.cell (World.block_lt_of_cell? w _ hx135_1)).trans hx135_1
      replace hx135_2 := (HB.out.cell (World.block_lt_of_cell? w _ hx135_2)).trans hx135_2
      have HR135_1 := Aside0.mk hi135_1
      have HC135_1 := Aside0.mk hl135_1
      clear hi135_1 hl135_1
      have HR135_2 := Aside0.mk hi135_2
      have HC135_2 := Aside0.mk hl135_2
      clear hi135_2 hl135_2
      replace p135 := eq_true p135
      replace q135 := eq_true q135
      go_wp2_with (first | ((with_reducible refine gate_callee (f := 18) rfl ?_);refine goesL_ (some 28) rfl rfl Try.func18 (by kernel_rfl) rfl #[.agg #[.int .u64 ((rd_T29 l0_2 x6_1).f0),.slice A135_1 ((rd_T29 l0_2 x6_1).f1).length c135_1,.slice A135_2 ((rd_T29 l0_2 x6_1).f2).length c135_2],.int .i64 (wrap64 (a1 - x5_1))] rfl (by (try simp only [List.map_toArray,List.map_cons,List.map_nil]);first | done | rfl | (simp only [List.length_drop,List.length_take];rfl)) ?_;(with_reducible refine (ih k1 (by have := HK1.out;omega) ((rd_T29 l0_2 x6_1).f0) _ _ ((rd_T29 l0_2 x6_1).f1) _ _ ((rd_T29 l0_2 x6_1).f2) (wrap64 (a1 - x5_1)) t136 _ ?side1 ?side2 ?side3 ?side4 A7.out).mono ?_);(case side1 => repeat (first | exact (Kd.C_below HR135_1.out HB.out) | (with_reducible refine Kd.C_alloc ?_ _) | (with_reducible refine Kd.C_drewN ?_ _) | (with_reducible refine Kd.C_drew ?_)));(case side2 => exact HC135_1.out);(case side3 => repeat (first | exact (Kd.C_below HR135_2.out HB.out) | (with_reducible refine Kd.C_alloc ?_ _) | (with_reducible refine Kd.C_drewN ?_ _) | (with_reducible refine Kd.C_drew ?_)));(case side4 => exact HC135_2.out);rintro e w9 ⟨rfl,hb⟩;refine ⟨_,rfl,?_⟩;have n0_ := Aside0.mk (blk_below (g := gb134) (o := .cells #[.int .u64 a0_0,.slice A0_1 l0_1.length c0_1,.slice (some ad135) l0_2.length c0_2] 29 (0,0)) (by (with_reducible repeat (first | refine blk_drewN ?_ _ | refine blk_drew ?_ | refine blk_alloc ?_ _));exact BK134.out) hb);have n1_ := Aside0.mk (below_step (by repeat (first | (with_reducible first | exact HB.out | apply below_alloc | apply pw_below_drewN | apply below_drew1 | refine below_set ?_ GE134.out) | exact HB.out)) hb);clear BK134;clear HB;have BK134 := n0_;have HB := n1_;clear n0_ n1_;(try clear hb);(try clear hb2);(try clear hk);(try clear hi)))
      go_roundg k1
      case measure => have := HK1.out;omega
      case rel => exact ⟨(wrap64 (x5_1 + t136)),(wrap64 (x6_1 + 1)),(by first | rfl | (simp;done) | (simp [*];done)),(by first | rfl | (simp;done) | (simp [*];done)),H',⟨by have := HK1.out;omega⟩,⟨by (with_reducible repeat (first | refine blk_drewN ?_ _ | refine blk_drew ?_ | refine blk_alloc ?_ _));exact BK134.out⟩,⟨by repeat (first | (with_reducible first | exact HB.out | apply below_alloc | apply pw_below_drewN | apply below_drew1 | refine below_set ?_ GE134.out) | exact HB.out)⟩⟩
     ·rw [if_neg c6] at H
      exact absurd H (by simp)
    ·rw [if_neg c5] at H
     have c5b0 : decide (x5_1 ≤ a1) = false := decide_eq_false c5
     clear c5
     obtain rfl := Option.some.inj H
     have hcz10_0 : wr.cell? ⟨gb134,0,none⟩ = some (.int .u64 a0_0) := (blk_cell BK134.out 0).trans rfl
     have hcz10_1 : wr.cell? ⟨gb134,1,none⟩ = some (.slice A0_1 l0_1.length c0_1) := (blk_cell BK134.out 1).trans rfl
     have hcz10_2 : wr.cell? ⟨gb134,2,none⟩ = some (.slice A0_2 l0_2.length c0_2) := (blk_cell BK134.out 2).trans rfl
     have hfz10_0 := blk_frozen BK134.out 0
     have hfz10_1 := blk_frozen BK134.out 1
     have hfz10_2 := blk_frozen BK134.out 2
     go_wp2
     go_ret
     exact ⟨by first | rfl | (simp [errW_none,errW_some] <;> rfl) | (simp [*,errW_none,errW_some] <;> rfl),by repeat (first | (with_reducible first | exact HB.out | apply below_alloc | apply pw_below_drewN | apply below_drew1 | refine below_set ?_ GE134.out) | exact HB.out)⟩
   ·rw [if_neg c4] at H
    have c4b0 : decide (x6_1 < (l0_2.length : Int)) = false := decide_eq_false c4
    clear c4
    obtain rfl := Option.some.inj H
    have hcz11_0 : wr.cell? ⟨gb134,0,none⟩ = some (.int .u64 a0_0) := (blk_cell BK134.out 0).trans rfl
    have hcz11_1 : wr.cell? ⟨gb134,1,none⟩ = some (.slice A0_1 l0_1.length c0_1) := (blk_cell BK134.out 1).trans rfl
    have hcz11_2 : wr.cell? ⟨gb134,2,none⟩ = some (.slice A0_2 l0_2.length c0_2) := (blk_cell BK134.out 2).trans rfl
    have hfz11_0 := blk_frozen BK134.out 0
    have hfz11_1 := blk_frozen BK134.out 1
    have hfz11_2 := blk_frozen BK134.out 2
    go_wp2
    go_ret
    exact ⟨by first | rfl | (simp [errW_none,errW_some] <;> rfl) | (simp [*,errW_none,errW_some] <;> rfl),by repeat (first | (with_reducible first | exact HB.out | apply below_alloc | apply pw_below_drewN | apply below_drew1 | refine below_set ?_ GE134.out) | exact HB.out)⟩

end Go.Proofs.Ytdhnfccgojgehaa.QP

namespace Go.Proofs.Ytdhnfccgojgehaa.QP
open Go.RowKit Go.Proofs.YtdhnfccgojgehaaW.PrintWords Go.Proofs.YtdhnfccgojgehaaW.PrintLast Go.Proofs.YtdhnfccgojgehaaW.PrintMore
attribute [local go_sem] max2_int min2_int max_two min_two max_three min_three max_four min_four   -- for this text's walks alone
set_option linter.unusedVariables false
set_option linter.unusedSimpArgs false

/-! ### passepartoutref05_Bytes: function 19 -/
mutual
def passepartoutref05_Bytes.l0 : Nat → Int → Int → Int → Int → List Int → List (S29) → Option (Int)
 | 0,_,_,_,_,_,_ => none
 | k + 1,x1,x5,x6,x138000,x138001,x138002 => if x6 < (x138002.length : Int) then (if x5 ≤ x1 then (if 0 ≤ x6 then ((passepartoutref05_Bytes.f k ((rd_T29 x138002 x6).f0) ((rd_T29 x138002 x6).f1) ((rd_T29 x138002 x6).f2) (wrap64 (x1 - x5))).bind fun t139 => (passepartoutref05_Bytes.l0 k x1 (wrap64 (x5 + t139)) (wrap64 (x6 + 1)) x138000 x138001 x138002)) else (none)) else (some x5)) else (some x5)
def passepartoutref05_Bytes.f : Nat → Int → List Int → List (S29) → Int → Option (Int)
 | 0,_,_,_,_ => none
 | k + 1,a0_0,l0_1,l0_2,a1 => passepartoutref05_Bytes.l0 k a1 (l0_1.length : Int) 0 a0_0 l0_1 l0_2
end
theorem passepartoutref05_Bytes.mono_l : ∀ k,(∀ y0 y1 y2 y3,LeO (passepartoutref05_Bytes.f k y0 y1 y2 y3) (passepartoutref05_Bytes.f (k + 1) y0 y1 y2 y3)) ∧ (∀ y0 y1 y2 y3 y4 y5,LeO (passepartoutref05_Bytes.l0 k y0 y1 y2 y3 y4 y5) (passepartoutref05_Bytes.l0 (k + 1) y0 y1 y2 y3 y4 y5))
 | 0 => ⟨fun _ _ _ _ r h => by simp [passepartoutref05_Bytes.f] at h,fun _ _ _ _ _ _ r h => by simp [passepartoutref05_Bytes.l0] at h⟩
 | k + 1 => by
  obtain ⟨ih0,ih1⟩ := passepartoutref05_Bytes.mono_l k
  refine ⟨?_,?_⟩
  ·intro y0 y1 y2 y3
   unfold passepartoutref05_Bytes.f
   repeat' first
   | (with_reducible exact ih0 _ _ _ _)
   | (with_reducible exact ih1 _ _ _ _ _ _)
   | (with_reducible exact LeO.refl _)
   | (with_reducible exact LeO.none _)
   | (with_reducible refine LeO.ite ?_ ?_)
   | (with_reducible refine LeO.bind ?_ (fun _ => ?_))
   | exact ih0 _ _ _ _
   | exact ih1 _ _ _ _ _ _
   | exact LeO.none _
   | refine LeO.ite ?_ ?_
   | refine LeO.bind ?_ (fun _ => ?_)
  ·intro y0 y1 y2 y3 y4 y5
   unfold passepartoutref05_Bytes.l0
   repeat' first
   | (with_reducible exact ih0 _ _ _ _)
   | (with_reducible exact ih1 _ _ _ _ _ _)
   | (with_reducible exact LeO.refl _)
   | (with_reducible exact LeO.none _)
   | (with_reducible refine LeO.ite ?_ ?_)
   | (with_reducible refine LeO.bind ?_ (fun _ => ?_))
   | exact ih0 _ _ _ _
   | exact ih1 _ _ _ _ _ _
   | exact LeO.none _
   | refine LeO.ite ?_ ?_
   | refine LeO.bind ?_ (fun _ => ?_)
theorem passepartoutref05_Bytes.mono : ∀ a0 a1 a2 a3 k,LeO (passepartoutref05_Bytes.f k a0 a1 a2 a3) (passepartoutref05_Bytes.f (k + 1) a0 a1 a2 a3) := by
 intro a0 a1 a2 a3 k
 obtain ⟨ih0,ih1⟩ := passepartoutref05_Bytes.mono_l k
 exact ih0 a0 a1 a2 a3
set_option maxHeartbeats 8000000 in
set_option maxRecDepth 100000 in
theorem passepartoutref05_Bytes.calls (k : Nat) : ∀ (a0_0 : Int) (A0_1 : Option Addr) (c0_1 : Nat) (l0_1 : List Int) (A0_2 : Option Addr) (c0_2 : Nat) (l0_2 : List (S29)) (a1 : Int) (r : Int) (w : World) (hr0_1 : Kd.C (Kd.int .u8) w A0_1 l0_1.length l0_1) (hc0_1 : l0_1.length ≤ c0_1) (hr0_2 : Kd.C k29 w A0_2 l0_2.length l0_2) (hc0_2 : l0_2.length ≤ c0_2) (h : passepartoutref05_Bytes.f k a0_0 l0_1 l0_2 a1 = some r),
  Calls Try.prog 19 #[.agg #[.int .u64 a0_0,.slice A0_1 l0_1.length c0_1,.slice A0_2 l0_2.length c0_2],.int .i64 a1] w fun e w' => e = .returned (.int .i64 r) ∧ Below w.heap.size w w' := by
 induction k using Nat.strongRecOn with
 | _ k ih =>
 intro a0_0 A0_1 c0_1 l0_1 A0_2 c0_2 l0_2 a1 r w hr0_1 hc0_1 hr0_2 hc0_2 h
 cases k with
 | zero => exact absurd h (by simp [passepartoutref05_Bytes.f])
 | succ k =>
 simp only [passepartoutref05_Bytes.f] at h
 have hu29 := Try.underlying29
 have HR0_1 := Aside0.mk hr0_1
 have HC0_1 := Aside0.mk hc0_1
 clear hr0_1 hc0_1
 have HR0_2 := Aside0.mk hr0_2
 have HC0_2 := Aside0.mk hc0_2
 clear hr0_2 hc0_2
 have HB := Aside0.mk (Below.refl w.heap.size w)
 have H : (passepartoutref05_Bytes.l0 k a1 (l0_1.length : Int) 0 a0_0 l0_1 l0_2) = some r := h
 clear h
 have H' := Aside0.mk H
 clear H
 go_enter Try.func19,Try.ntmps19
 go_wp2_with (first | ((with_reducible refine gate_dst (N := 2) rfl ?_);refine box_event ?hg (N := 2) ?hd (cs := #[.int .u64 a0_0,.slice A0_1 l0_1.length c0_1,.slice A0_2 l0_2.length c0_2]) (t := 29) ?hr ?_;(case hd => rfl);(case hg => rfl);(case hr => first | (go_simp;done) | (go_simp;rfl));intro gb137 hg w3 hbox hb;have n0_ := Aside0.mk (below_step (by repeat (first | (with_reducible first | exact HB.out | apply below_alloc | apply pw_below_drewN | apply below_drew1) | exact HB.out)) hb);have n1_ := Aside0.mk (hbox);have n2_ := Aside0.mk ((by rw [hg];exact (below_size (by repeat (first | (with_reducible first | exact HB.out | apply below_alloc | apply pw_below_drewN | apply below_drew1) | exact HB.out))) : w.heap.size ≤ gb137));have n3_ := Aside0.mk ((by rw [hg];exact (below_size (by repeat (first | (with_reducible first | exact HB.out | apply below_alloc | apply pw_below_drewN | apply below_drew1) | exact HB.out))) : w.heap.size ≤ gb137));clear HB;have HB := n0_;have BK137 := n1_;have GW137 := n2_;have GE137 := n3_;clear n0_ n1_ n2_ n3_;clear hb hbox hg;have hcz4_0 : w3.cell? ⟨gb137,0,none⟩ = some (.int .u64 a0_0) := (blk_cell BK137.out 0).trans rfl;have hcz4_1 : w3.cell? ⟨gb137,1,none⟩ = some (.slice A0_1 l0_1.length c0_1) := (blk_cell BK137.out 1).trans rfl;have hcz4_2 : w3.cell? ⟨gb137,2,none⟩ = some (.slice A0_2 l0_2.length c0_2) := (blk_cell BK137.out 2).trans rfl;have hfz4_0 := blk_frozen BK137.out 0;have hfz4_1 := blk_frozen BK137.out 1;have hfz4_2 := blk_frozen BK137.out 2))
 go_loopg [5,6] k (fun kq v5 v6 w' => ∃ (x5_1 : Int) (x6_1 : Int),v5 = .int .i64 x5_1 ∧ v6 = .int .i64 x6_1 ∧ Aside0 (passepartoutref05_Bytes.l0 kq a1 x5_1 x6_1 a0_0 l0_1 l0_2 = some r) ∧ Aside0 (kq ≤ k) ∧ Aside0 (w'.heap[gb137]? = some (.cells #[.int .u64 a0_0,(.slice A0_1 l0_1.length c0_1),(.slice A0_2 l0_2.length c0_2)] 29 (0,0))) ∧ Aside0 (Below w.heap.size w w'))
 case atStart => exact ⟨((l0_1.length : Int)),(0),(by first | rfl | (simp;done) | (simp [*];done)),(by first | rfl | (simp;done) | (simp [*];done)),H',⟨Nat.le_refl _⟩,⟨by (with_reducible repeat (first | refine blk_drewN ?_ _ | refine blk_drew ?_ | refine blk_alloc ?_ _));exact BK137.out⟩,⟨by repeat (first | (with_reducible first | exact HB.out | apply below_alloc | apply pw_below_drewN | apply below_drew1 | refine below_set ?_ GE137.out) | exact HB.out)⟩⟩
 case round =>
  clear H'
  try clear c1
  try clear p2
  try clear hcz4_0
  try clear hcz4_1
  try clear hcz4_2
  try clear hfz4_0
  try clear hfz4_1
  try clear hfz4_2
  obtain ⟨x5_1,x6_1,rfl,rfl,HA,HK1,BK137,HB⟩ := hrel
  cases gk with
  | zero => exact absurd HA.out (by simp [passepartoutref05_Bytes.l0])
  | succ k1 =>
   have H := HA.out
   clear HA
   simp only [passepartoutref05_Bytes.l0] at H
   by_cases c5 : x6_1 < (l0_2.length : Int)
   ·rw [if_pos c5] at H
    have c5b0 : decide (x6_1 < (l0_2.length : Int)) = true := decide_eq_true c5
    clear c5
    by_cases c6 : x5_1 ≤ a1
    ·rw [if_pos c6] at H
     have c6b0 : decide (x5_1 ≤ a1) = true := decide_eq_true c6
     clear c6
     by_cases c7 : 0 ≤ x6_1
     ·rw [if_pos c7] at H
      have c7b0 : decide (0 ≤ x6_1) = true := decide_eq_true c7
      clear c7
      replace H := Option.bind_eq_some_iff.mp H
      obtain ⟨t139,A80,H⟩ := H
      replace H : (passepartoutref05_Bytes.l0 k1 a1 (wrap64 (x5_1 + t139)) (wrap64 (x6_1 + 1)) a0_0 l0_1 l0_2) = some r := H
      have A8 := Aside0.mk A80
      clear A80
      have H' := Aside0.mk H
      clear H
      have hcz9_0 : wr.cell? ⟨gb137,0,none⟩ = some (.int .u64 a0_0) := (blk_cell BK137.out 0).trans rfl
      have hcz9_1 : wr.cell? ⟨gb137,1,none⟩ = some (.slice A0_1 l0_1.length c0_1) := (blk_cell BK137.out 1).trans rfl
      have hcz9_2 : wr.cell? ⟨gb137,2,none⟩ = some (.slice A0_2 l0_2.length c0_2) := (blk_cell BK137.out 2).trans rfl
      have hfz9_0 := blk_frozen BK137.out 0
      have hfz9_1 := blk_frozen BK137.out 1
      have hfz9_2 := blk_frozen BK137.out 2
      have p138 : 0 ≤ (x6_1 : Int) := of_decide_eq_true (by first | (with_reducible assumption) | assumption)
      have q138 : x6_1 < (l0_2.length : Int) := of_decide_eq_true (by first | (with_reducible assumption) | assumption)
      obtain ⟨ad138,A138_1,c138_1,A138_2,c138_2,e138,hx138_0,hx138_1,hx138_2,hl138_1,hi138_1,hl138_2,hi138_2⟩ := at_T29 HR0_2.out x6_1 p138 q138
      cases e138
      replace hx138_0 := (HB.out.cell (World.block_lt_of_cell? w _ hx138_0)).trans hx138_0
      replace hx138_1 := (HB.out.cell (World.block_lt_of_cell? w _ hx138_1)).trans hx138_1
      replace hx138_2 := (HB.out.cell (World.block_lt_of_cell? w _ hx138_2)).trans hx138_2
      have HR138_1 := Aside0.mk hi138_1
      have HC138_1 := Aside0.mk hl138_1
      clear hi138_1 hl138_1
      have HR138_2 := Aside0.mk hi138_2
      have HC138_2 := Aside0.mk hl138_2
      clear hi138_2 hl138_2
      replace p138 := eq_true p138
      replace q138 := eq_true q138
      go_wp2_with (first | ((with_reducible refine gate_callee (f := 19) rfl ?_);refine goesL_ (some 31) rfl rfl Try.func19 (by kernel_rfl) rfl #[.agg #[.int .u64 ((rd_T29 l0_2 x6_1).f0),.slice A138_1 ((rd_T29 l0_2 x6_1).f1).length c138_1,.slice A138_2 ((rd_T29 l0_2 x6_1).f2).length c138_2],.int .i64 (wrap64 (a1 - x5_1))] rfl (by (try simp only [List.map_toArray,List.map_cons,List.map_nil]);first | done | rfl | (simp only [List.length_drop,List.length_take];rfl)) ?_;(with_reducible refine (ih k1 (by have := HK1.out;omega) ((rd_T29 l0_2 x6_1).f0) _ _ ((rd_T29 l0_2 x6_1).f1) _ _ ((rd_T29 l0_2 x6_1).f2) (wrap64 (a1 - x5_1)) t139 _ ?side1 ?side2 ?side3 ?side4 A8.out).mono ?_);(case side1 => repeat (first | exact (Kd.C_below HR138_1.out HB.out) | (with_reducible refine Kd.C_alloc ?_ _) | (with_reducible refine Kd.C_drewN ?_ _) | (with_reducible refine Kd.C_drew ?_)));(case side2 => exact HC138_1.out);(case side3 => repeat (first | exact (Kd.C_below HR138_2.out HB.out) | (with_reducible refine Kd.C_alloc ?_ _) | (with_reducible refine Kd.C_drewN ?_ _) | (with_reducible refine Kd.C_drew ?_)));(case side4 => exact HC138_2.out);rintro e w10 ⟨rfl,hb⟩;refine ⟨_,rfl,?_⟩;have n0_ := Aside0.mk (blk_below (g := gb137) (o := .cells #[.int .u64 a0_0,.slice A0_1 l0_1.length c0_1,.slice (some ad138) l0_2.length c0_2] 29 (0,0)) (by (with_reducible repeat (first | refine blk_drewN ?_ _ | refine blk_drew ?_ | refine blk_alloc ?_ _));exact BK137.out) hb);have n1_ := Aside0.mk (below_step (by repeat (first | (with_reducible first | exact HB.out | apply below_alloc | apply pw_below_drewN | apply below_drew1 | refine below_set ?_ GE137.out) | exact HB.out)) hb);clear BK137;clear HB;have BK137 := n0_;have HB := n1_;clear n0_ n1_;(try clear hb);(try clear hb2);(try clear hk);(try clear hi)))
      go_roundg k1
      case measure => have := HK1.out;omega
      case rel => exact ⟨(wrap64 (x5_1 + t139)),(wrap64 (x6_1 + 1)),(by first | rfl | (simp;done) | (simp [*];done)),(by first | rfl | (simp;done) | (simp [*];done)),H',⟨by have := HK1.out;omega⟩,⟨by (with_reducible repeat (first | refine blk_drewN ?_ _ | refine blk_drew ?_ | refine blk_alloc ?_ _));exact BK137.out⟩,⟨by repeat (first | (with_reducible first | exact HB.out | apply below_alloc | apply pw_below_drewN | apply below_drew1 | refine below_set ?_ GE137.out) | exact HB.out)⟩⟩
     ·rw [if_neg c7] at H
      exact absurd H (by simp)
    ·rw [if_neg c6] at H
     have c6b0 : decide (x5_1 ≤ a1) = false := decide_eq_false c6
     clear c6
     obtain rfl := Option.some.inj H
     have hcz11_0 : wr.cell? ⟨gb137,0,none⟩ = some (.int .u64 a0_0) := (blk_cell BK137.out 0).trans rfl
     have hcz11_1 : wr.cell? ⟨gb137,1,none⟩ = some (.slice A0_1 l0_1.length c0_1) := (blk_cell BK137.out 1).trans rfl
     have hcz11_2 : wr.cell? ⟨gb137,2,none⟩ = some (.slice A0_2 l0_2.length c0_2) := (blk_cell BK137.out 2).trans rfl
     have hfz11_0 := blk_frozen BK137.out 0
     have hfz11_1 := blk_frozen BK137.out 1
     have hfz11_2 := blk_frozen BK137.out 2
     go_wp2
     go_ret
     exact ⟨by first | rfl | (simp [errW_none,errW_some] <;> rfl) | (simp [*,errW_none,errW_some] <;> rfl),by repeat (first | (with_reducible first | exact HB.out | apply below_alloc | apply pw_below_drewN | apply below_drew1 | refine below_set ?_ GE137.out) | exact HB.out)⟩
   ·rw [if_neg c5] at H
    have c5b0 : decide (x6_1 < (l0_2.length : Int)) = false := decide_eq_false c5
    clear c5
    obtain rfl := Option.some.inj H
    have hcz12_0 : wr.cell? ⟨gb137,0,none⟩ = some (.int .u64 a0_0) := (blk_cell BK137.out 0).trans rfl
    have hcz12_1 : wr.cell? ⟨gb137,1,none⟩ = some (.slice A0_1 l0_1.length c0_1) := (blk_cell BK137.out 1).trans rfl
    have hcz12_2 : wr.cell? ⟨gb137,2,none⟩ = some (.slice A0_2 l0_2.length c0_2) := (blk_cell BK137.out 2).trans rfl
    have hfz12_0 := blk_frozen BK137.out 0
    have hfz12_1 := blk_frozen BK137.out 1
    have hfz12_2 := blk_frozen BK137.out 2
    go_wp2
    go_ret
    exact ⟨by first | rfl | (simp [errW_none,errW_some] <;> rfl) | (simp [*,errW_none,errW_some] <;> rfl),by repeat (first | (with_reducible first | exact HB.out | apply below_alloc | apply pw_below_drewN | apply below_drew1 | refine below_set ?_ GE137.out) | exact HB.out)⟩

end Go.Proofs.Ytdhnfccgojgehaa.QP

namespace Go.Proofs.Ytdhnfccgojgehaa.QP
open Go.RowKit Go.Proofs.YtdhnfccgojgehaaW.PrintWords Go.Proofs.YtdhnfccgojgehaaW.PrintLast Go.Proofs.YtdhnfccgojgehaaW.PrintMore
attribute [local go_sem] max2_int min2_int max_two min_two max_three min_three max_four min_four   -- for this text's walks alone
set_option linter.unusedVariables false
set_option linter.unusedSimpArgs false

/-! ### passepartoutlaw05_Great: function 7 -/
def passepartoutlaw05_Great.l0 : Nat → List (S29) → Int → Int → Option (Int)
 | 0,_,_,_ => none
 | k + 1,x10,x11,x12 => if x12 < x11 then (if 0 ≤ x12 then (if x12 < (x10.length : Int) then ((passepartoutref05_Count.f k ((rd_T29 x10 x12).f0) ((rd_T29 x10 x12).f1) ((rd_T29 x10 x12).f2) 2000).bind fun t144 => (if t144 > 2000 then (some 1) else ((passepartoutref05_Bytes.f k ((rd_T29 x10 x12).f0) ((rd_T29 x10 x12).f1) ((rd_T29 x10 x12).f2) 20000).bind fun t145 => (if t145 > 20000 then (some 1) else (passepartoutlaw05_Great.l0 k x10 x11 (wrap64 (x12 + 1))))))) else (none)) else (none)) else (some 0)
def passepartoutlaw05_Great.f (k : Nat) (a0_0 : Int) (a0_1 : Int) (a0_2 : Int) (a0_3 : Int) (a0_4 : Int) (l0_5 : List (S24)) (l1 : List (S29)) : Option (Int) := (passepartoutref04_Count.f k a0_0 a0_1 a0_2 a0_3 a0_4 l0_5 500).bind fun t141 => (if t141 > 500 then (some 1) else (passepartoutlaw05_Great.l0 k l1 (l1.length : Int) 0))
theorem passepartoutlaw05_Great.mono_l : ∀ k,(∀ y0 y1 y2,LeO (passepartoutlaw05_Great.l0 k y0 y1 y2) (passepartoutlaw05_Great.l0 (k + 1) y0 y1 y2))
 | 0 => fun _ _ _ r h => by simp [passepartoutlaw05_Great.l0] at h
 | k + 1 => by
  have ih0 := passepartoutlaw05_Great.mono_l k
  ·intro y0 y1 y2
   unfold passepartoutlaw05_Great.l0
   repeat' first
   | (with_reducible exact ih0 _ _ _)
   | (with_reducible exact passepartoutref04_Count.mono _ _ _ _ _ _ _ _)
   | (with_reducible exact passepartoutref05_Bytes.mono _ _ _ _ _)
   | (with_reducible exact passepartoutref05_Count.mono _ _ _ _ _)
   | (with_reducible exact LeO.refl _)
   | (with_reducible exact LeO.none _)
   | (with_reducible refine LeO.ite ?_ ?_)
   | (with_reducible refine LeO.bind ?_ (fun _ => ?_))
   | exact ih0 _ _ _
   | exact passepartoutref04_Count.mono _ _ _ _ _ _ _ _
   | exact passepartoutref05_Bytes.mono _ _ _ _ _
   | exact passepartoutref05_Count.mono _ _ _ _ _
   | exact LeO.none _
   | refine LeO.ite ?_ ?_
   | refine LeO.bind ?_ (fun _ => ?_)
theorem passepartoutlaw05_Great.mono : ∀ a0 a1 a2 a3 a4 a5 a6 k,LeO (passepartoutlaw05_Great.f k a0 a1 a2 a3 a4 a5 a6) (passepartoutlaw05_Great.f (k + 1) a0 a1 a2 a3 a4 a5 a6) := by
 intro a0 a1 a2 a3 a4 a5 a6 k
 have ih0 := passepartoutlaw05_Great.mono_l k
 unfold passepartoutlaw05_Great.f
 repeat' first
   | (with_reducible exact ih0 _ _ _)
   | (with_reducible exact passepartoutref04_Count.mono _ _ _ _ _ _ _ _)
   | (with_reducible exact passepartoutref05_Bytes.mono _ _ _ _ _)
   | (with_reducible exact passepartoutref05_Count.mono _ _ _ _ _)
   | (with_reducible exact LeO.refl _)
   | (with_reducible exact LeO.none _)
   | (with_reducible refine LeO.ite ?_ ?_)
   | (with_reducible refine LeO.bind ?_ (fun _ => ?_))
   | exact ih0 _ _ _
   | exact passepartoutref04_Count.mono _ _ _ _ _ _ _ _
   | exact passepartoutref05_Bytes.mono _ _ _ _ _
   | exact passepartoutref05_Count.mono _ _ _ _ _
   | exact LeO.none _
   | refine LeO.ite ?_ ?_
   | refine LeO.bind ?_ (fun _ => ?_)
set_option maxHeartbeats 8000000 in
set_option maxRecDepth 100000 in
theorem passepartoutlaw05_Great.calls (k : Nat) (a0_0 : Int) (a0_1 : Int) (a0_2 : Int) (a0_3 : Int) (a0_4 : Int) (A0_5 : Option Addr) (c0_5 : Nat) (l0_5 : List (S24)) (A1 : Option Addr) (c1 : Nat) (l1 : List (S29)) (r : Int) (w : World) (hr0_5 : Kd.C k24 w A0_5 l0_5.length l0_5) (hc0_5 : l0_5.length ≤ c0_5) (hr1 : Kd.C k29 w A1 l1.length l1) (hc1 : l1.length ≤ c1) (h : passepartoutlaw05_Great.f k a0_0 a0_1 a0_2 a0_3 a0_4 l0_5 l1 = some r) :
  Calls Try.prog 7 #[.agg #[.int .i64 a0_0,.int .i64 a0_1,.int .i64 a0_2,.int .i64 a0_3,.int .i64 a0_4,.slice A0_5 l0_5.length c0_5],.slice A1 l1.length c1] w fun e w' => e = .returned (.int .i64 r) ∧ Below w.heap.size w w' := by
 have hu24 := Try.underlying24
 have hu29 := Try.underlying29
 have HR0_5 := Aside0.mk hr0_5
 have HC0_5 := Aside0.mk hc0_5
 clear hr0_5 hc0_5
 have HR1 := Aside0.mk hr1
 have HC1 := Aside0.mk hc1
 clear hr1 hc1
 have HB := Aside0.mk (Below.refl w.heap.size w)
 have H : ((passepartoutref04_Count.f k a0_0 a0_1 a0_2 a0_3 a0_4 l0_5 500).bind fun t141 => (if t141 > 500 then (some 1) else (passepartoutlaw05_Great.l0 k l1 (l1.length : Int) 0))) = some r := h
 clear h
 replace H := Option.bind_eq_some_iff.mp H
 obtain ⟨t141,A30,H⟩ := H
 replace H : (if t141 > 500 then (some 1) else (passepartoutlaw05_Great.l0 k l1 (l1.length : Int) 0)) = some r := H
 have A3 := Aside0.mk A30
 clear A30
 by_cases c4 : t141 > 500
 ·rw [if_pos c4] at H
  have c4b0 : decide (500 < t141) = true := decide_eq_true c4
  clear c4
  obtain rfl := Option.some.inj H
  go_enter Try.func7,Try.ntmps7
  go_wp2_with (first | ((with_reducible refine gate_dst (N := 2) rfl ?_);refine box_event ?hg (N := 2) ?hd (cs := #[.int .i64 a0_0,.int .i64 a0_1,.int .i64 a0_2,.int .i64 a0_3,.int .i64 a0_4,.slice A0_5 l0_5.length c0_5]) (t := 24) ?hr ?_;(case hd => rfl);(case hg => rfl);(case hr => first | (go_simp;done) | (go_simp;rfl));intro gb140 hg w5 hbox hb;have n0_ := Aside0.mk (below_step (by repeat (first | (with_reducible first | exact HB.out | apply below_alloc | apply pw_below_drewN | apply below_drew1) | exact HB.out)) hb);have n1_ := Aside0.mk (hbox);have n2_ := Aside0.mk ((by rw [hg];exact (below_size (by repeat (first | (with_reducible first | exact HB.out | apply below_alloc | apply pw_below_drewN | apply below_drew1) | exact HB.out))) : w.heap.size ≤ gb140));have n3_ := Aside0.mk ((by rw [hg];exact (below_size (by repeat (first | (with_reducible first | exact HB.out | apply below_alloc | apply pw_below_drewN | apply below_drew1) | exact HB.out))) : w.heap.size ≤ gb140));clear HB;have HB := n0_;have BK140 := n1_;have GW140 := n2_;have GE140 := n3_;clear n0_ n1_ n2_ n3_;clear hb hbox hg;have hcz6_0 : w5.cell? ⟨gb140,0,none⟩ = some (.int .i64 a0_0) := (blk_cell BK140.out 0).trans rfl;have hcz6_1 : w5.cell? ⟨gb140,1,none⟩ = some (.int .i64 a0_1) := (blk_cell BK140.out 1).trans rfl;have hcz6_2 : w5.cell? ⟨gb140,2,none⟩ = some (.int .i64 a0_2) := (blk_cell BK140.out 2).trans rfl;have hcz6_3 : w5.cell? ⟨gb140,3,none⟩ = some (.int .i64 a0_3) := (blk_cell BK140.out 3).trans rfl;have hcz6_4 : w5.cell? ⟨gb140,4,none⟩ = some (.int .i64 a0_4) := (blk_cell BK140.out 4).trans rfl;have hcz6_5 : w5.cell? ⟨gb140,5,none⟩ = some (.slice A0_5 l0_5.length c0_5) := (blk_cell BK140.out 5).trans rfl;have hfz6_0 := blk_frozen BK140.out 0;have hfz6_1 := blk_frozen BK140.out 1;have hfz6_2 := blk_frozen BK140.out 2;have hfz6_3 := blk_frozen BK140.out 3;have hfz6_4 := blk_frozen BK140.out 4;have hfz6_5 := blk_frozen BK140.out 5) | ((with_reducible refine gate_callee (f := 17) rfl ?_);refine goesL_ (some 8) rfl rfl Try.func17 (by kernel_rfl) rfl #[.agg #[.int .i64 a0_0,.int .i64 a0_1,.int .i64 a0_2,.int .i64 a0_3,.int .i64 a0_4,.slice A0_5 l0_5.length c0_5],.int .i64 500] rfl (by (try simp only [List.map_toArray,List.map_cons,List.map_nil]);first | done | rfl | (simp only [List.length_drop,List.length_take];rfl)) ?_;(with_reducible refine (passepartoutref04_Count.calls k a0_0 a0_1 a0_2 a0_3 a0_4 _ _ l0_5 500 t141 _ ?side1 ?side2 A3.out).mono ?_);(case side1 => repeat (first | exact (Kd.C_below HR0_5.out HB.out) | (with_reducible refine Kd.C_alloc ?_ _) | (with_reducible refine Kd.C_drewN ?_ _) | (with_reducible refine Kd.C_drew ?_)));(case side2 => exact HC0_5.out);rintro e w7 ⟨rfl,hb⟩;refine ⟨_,rfl,?_⟩;have n0_ := Aside0.mk (blk_below (g := gb140) (o := .cells #[.int .i64 a0_0,.int .i64 a0_1,.int .i64 a0_2,.int .i64 a0_3,.int .i64 a0_4,.slice A0_5 l0_5.length c0_5] 24 (0,0)) (by (with_reducible repeat (first | refine blk_drewN ?_ _ | refine blk_drew ?_ | refine blk_alloc ?_ _));exact BK140.out) hb);have n1_ := Aside0.mk (below_step (by repeat (first | (with_reducible first | exact HB.out | apply below_alloc | apply pw_below_drewN | apply below_drew1 | refine below_set ?_ GE140.out) | exact HB.out)) hb);clear BK140;clear HB;have BK140 := n0_;have HB := n1_;clear n0_ n1_;(try clear hb);(try clear hb2);(try clear hk);(try clear hi)))
  go_ret
  exact ⟨by first | rfl | (simp [errW_none,errW_some] <;> rfl) | (simp [*,errW_none,errW_some] <;> rfl),by repeat (first | (with_reducible first | exact HB.out | apply below_alloc | apply pw_below_drewN | apply below_drew1 | refine below_set ?_ GE140.out) | exact HB.out)⟩
 ·rw [if_neg c4] at H
  have c4b0 : decide (500 < t141) = false := decide_eq_false c4
  clear c4
  have H' := Aside0.mk H
  clear H
  go_enter Try.func7,Try.ntmps7
  go_wp2_with (first | ((with_reducible refine gate_dst (N := 2) rfl ?_);refine box_event ?hg (N := 2) ?hd (cs := #[.int .i64 a0_0,.int .i64 a0_1,.int .i64 a0_2,.int .i64 a0_3,.int .i64 a0_4,.slice A0_5 l0_5.length c0_5]) (t := 24) ?hr ?_;(case hd => rfl);(case hg => rfl);(case hr => first | (go_simp;done) | (go_simp;rfl));intro gb140 hg w8 hbox hb;have n0_ := Aside0.mk (below_step (by repeat (first | (with_reducible first | exact HB.out | apply below_alloc | apply pw_below_drewN | apply below_drew1) | exact HB.out)) hb);have n1_ := Aside0.mk (hbox);have n2_ := Aside0.mk ((by rw [hg];exact (below_size (by repeat (first | (with_reducible first | exact HB.out | apply below_alloc | apply pw_below_drewN | apply below_drew1) | exact HB.out))) : w.heap.size ≤ gb140));have n3_ := Aside0.mk ((by rw [hg];exact (below_size (by repeat (first | (with_reducible first | exact HB.out | apply below_alloc | apply pw_below_drewN | apply below_drew1) | exact HB.out))) : w.heap.size ≤ gb140));clear HB;have HB := n0_;have BK140 := n1_;have GW140 := n2_;have GE140 := n3_;clear n0_ n1_ n2_ n3_;clear hb hbox hg;have hcz9_0 : w8.cell? ⟨gb140,0,none⟩ = some (.int .i64 a0_0) := (blk_cell BK140.out 0).trans rfl;have hcz9_1 : w8.cell? ⟨gb140,1,none⟩ = some (.int .i64 a0_1) := (blk_cell BK140.out 1).trans rfl;have hcz9_2 : w8.cell? ⟨gb140,2,none⟩ = some (.int .i64 a0_2) := (blk_cell BK140.out 2).trans rfl;have hcz9_3 : w8.cell? ⟨gb140,3,none⟩ = some (.int .i64 a0_3) := (blk_cell BK140.out 3).trans rfl;have hcz9_4 : w8.cell? ⟨gb140,4,none⟩ = some (.int .i64 a0_4) := (blk_cell BK140.out 4).trans rfl;have hcz9_5 : w8.cell? ⟨gb140,5,none⟩ = some (.slice A0_5 l0_5.length c0_5) := (blk_cell BK140.out 5).trans rfl;have hfz9_0 := blk_frozen BK140.out 0;have hfz9_1 := blk_frozen BK140.out 1;have hfz9_2 := blk_frozen BK140.out 2;have hfz9_3 := blk_frozen BK140.out 3;have hfz9_4 := blk_frozen BK140.out 4;have hfz9_5 := blk_frozen BK140.out 5) | ((with_reducible refine gate_callee (f := 17) rfl ?_);refine goesL_ (some 8) rfl rfl Try.func17 (by kernel_rfl) rfl #[.agg #[.int .i64 a0_0,.int .i64 a0_1,.int .i64 a0_2,.int .i64 a0_3,.int .i64 a0_4,.slice A0_5 l0_5.length c0_5],.int .i64 500] rfl (by (try simp only [List.map_toArray,List.map_cons,List.map_nil]);first | done | rfl | (simp only [List.length_drop,List.length_take];rfl)) ?_;(with_reducible refine (passepartoutref04_Count.calls k a0_0 a0_1 a0_2 a0_3 a0_4 _ _ l0_5 500 t141 _ ?side1 ?side2 A3.out).mono ?_);(case side1 => repeat (first | exact (Kd.C_below HR0_5.out HB.out) | (with_reducible refine Kd.C_alloc ?_ _) | (with_reducible refine Kd.C_drewN ?_ _) | (with_reducible refine Kd.C_drew ?_)));(case side2 => exact HC0_5.out);rintro e w10 ⟨rfl,hb⟩;refine ⟨_,rfl,?_⟩;have n0_ := Aside0.mk (blk_below (g := gb140) (o := .cells #[.int .i64 a0_0,.int .i64 a0_1,.int .i64 a0_2,.int .i64 a0_3,.int .i64 a0_4,.slice A0_5 l0_5.length c0_5] 24 (0,0)) (by (with_reducible repeat (first | refine blk_drewN ?_ _ | refine blk_drew ?_ | refine blk_alloc ?_ _));exact BK140.out) hb);have n1_ := Aside0.mk (below_step (by repeat (first | (with_reducible first | exact HB.out | apply below_alloc | apply pw_below_drewN | apply below_drew1 | refine below_set ?_ GE140.out) | exact HB.out)) hb);clear BK140;clear HB;have BK140 := n0_;have HB := n1_;clear n0_ n1_;(try clear hb);(try clear hb2);(try clear hk);(try clear hi)))
  go_loopg [12] k (fun kq v12 w' => ∃ (x12_1 : Int),v12 = .int .i64 x12_1 ∧ Aside0 (passepartoutlaw05_Great.l0 kq l1 (l1.length : Int) x12_1 = some r) ∧ Aside0 (kq ≤ k) ∧ Aside0 (w'.heap[gb140]? = some (.cells #[.int .i64 a0_0,.int .i64 a0_1,.int .i64 a0_2,.int .i64 a0_3,.int .i64 a0_4,(.slice A0_5 l0_5.length c0_5)] 24 (0,0))) ∧ Aside0 (Below w.heap.size w w'))
  case atStart => exact ⟨(0),(by first | rfl | (simp;done) | (simp [*];done)),H',⟨Nat.le_refl _⟩,⟨by (with_reducible repeat (first | refine blk_drewN ?_ _ | refine blk_drew ?_ | refine blk_alloc ?_ _));exact BK140.out⟩,⟨by repeat (first | (with_reducible first | exact HB.out | apply below_alloc | apply pw_below_drewN | apply below_drew1 | refine below_set ?_ GE140.out) | exact HB.out)⟩⟩
  case round =>
   clear H'
   try clear c1
   try clear p2
   try clear c4
   try clear c4b0
   try clear c7
   try clear hcz6_0
   try clear hcz6_1
   try clear hcz6_2
   try clear hcz6_3
   try clear hcz6_4
   try clear hcz6_5
   try clear hcz9_0
   try clear hcz9_1
   try clear hcz9_2
   try clear hcz9_3
   try clear hcz9_4
   try clear hcz9_5
   try clear hfz6_0
   try clear hfz6_1
   try clear hfz6_2
   try clear hfz6_3
   try clear hfz6_4
   try clear hfz6_5
   try clear hfz9_0
   try clear hfz9_1
   try clear hfz9_2
   try clear hfz9_3
   try clear hfz9_4
   try clear hfz9_5
   obtain ⟨x12_1,rfl,HA,HK1,BK140,HB⟩ := hrel
   cases gk with
   | zero => exact absurd HA.out (by simp [passepartoutlaw05_Great.l0])
   | succ k1 =>
    have H := HA.out
    clear HA
    simp only [passepartoutlaw05_Great.l0] at H
    by_cases c11 : x12_1 < (l1.length : Int)
    ·rw [if_pos c11] at H
     have c11b0 : decide (x12_1 < (l1.length : Int)) = true := decide_eq_true c11
     clear c11
     by_cases c12 : 0 ≤ x12_1
     ·rw [if_pos c12] at H
      have c12b0 : decide (0 ≤ x12_1) = true := decide_eq_true c12
      clear c12
      by_cases c13 : x12_1 < (l1.length : Int)
      ·rw [if_pos c13] at H
       have c13b0 : decide (x12_1 < (l1.length : Int)) = true := decide_eq_true c13
       clear c13
       replace H := Option.bind_eq_some_iff.mp H
       obtain ⟨t144,A140,H⟩ := H
       replace H : (if t144 > 2000 then (some 1) else ((passepartoutref05_Bytes.f k1 ((rd_T29 l1 x12_1).f0) ((rd_T29 l1 x12_1).f1) ((rd_T29 l1 x12_1).f2) 20000).bind fun t145 => (if t145 > 20000 then (some 1) else (passepartoutlaw05_Great.l0 k1 l1 (l1.length : Int) (wrap64 (x12_1 + 1)))))) = some r := H
       have A14 := Aside0.mk A140
       clear A140
       by_cases c15 : t144 > 2000
       ·rw [if_pos c15] at H
        have c15b0 : decide (2000 < t144) = true := decide_eq_true c15
        clear c15
        obtain rfl := Option.some.inj H
        have p142 : 0 ≤ (x12_1 : Int) := of_decide_eq_true (by first | (with_reducible assumption) | assumption)
        have q142 : x12_1 < (l1.length : Int) := of_decide_eq_true (by first | (with_reducible assumption) | assumption)
        obtain ⟨ad142,A142_1,c142_1,A142_2,c142_2,e142,hx142_0,hx142_1,hx142_2,hl142_1,hi142_1,hl142_2,hi142_2⟩ := at_T29 HR1.out x12_1 p142 q142
        cases e142
        replace hx142_0 := (HB.out.cell (World.block_lt_of_cell? w _ hx142_0)).trans hx142_0
        replace hx142_1 := (HB.out.cell (World.block_lt_of_cell? w _ hx142_1)).trans hx142_1
        replace hx142_2 := (HB.out.cell (World.block_lt_of_cell? w _ hx142_2)).trans hx142_2
        have HR142_1 := Aside0.mk hi142_1
        have HC142_1 := Aside0.mk hl142_1
        clear hi142_1 hl142_1
        have HR142_2 := Aside0.mk hi142_2
        have HC142_2 := Aside0.mk hl142_2
        clear hi142_2 hl142_2
        replace p142 := eq_true p142
        replace q142 := eq_true q142
        go_wp2_with (first | ((with_reducible refine gate_dst (N := 6) rfl ?_);refine box_event ?hg (N := 6) ?hd (cs := #[.int .u64 0,.slice none 0 0,.slice none 0 0]) (t := 29) ?hr ?_;(case hd => rfl);(case hg => rfl);(case hr => first | (go_simp;done) | (go_simp;rfl));intro gb143 hg w16 hbox hb;have n0_ := Aside0.mk (blk_below (g := gb140) (o := .cells #[.int .i64 a0_0,.int .i64 a0_1,.int .i64 a0_2,.int .i64 a0_3,.int .i64 a0_4,.slice A0_5 l0_5.length c0_5] 24 (0,0)) (by (with_reducible repeat (first | refine blk_drewN ?_ _ | refine blk_drew ?_ | refine blk_alloc ?_ _));exact BK140.out) hb);have n1_ := Aside0.mk (below_step (by repeat (first | (with_reducible first | exact HB.out | apply below_alloc | apply pw_below_drewN | apply below_drew1 | refine below_set ?_ GE140.out) | exact HB.out)) hb);have n2_ := Aside0.mk (hbox);have n3_ := Aside0.mk ((by rw [hg];exact (below_size (by repeat (first | (with_reducible first | exact HB.out | apply below_alloc | apply pw_below_drewN | apply below_drew1 | refine below_set ?_ GE140.out) | exact HB.out))) : w.heap.size ≤ gb143));have n4_ := Aside0.mk ((by rw [hg];exact (below_size (by repeat (first | (with_reducible first | exact HB.out | apply below_alloc | apply pw_below_drewN | apply below_drew1 | refine below_set ?_ GE140.out) | exact HB.out))) : w.heap.size ≤ gb143));have n5_ := Aside0.mk ((by rw [hg];exact Nat.ne_of_lt (blk_lt (g := gb140) (o := .cells #[.int .i64 a0_0,.int .i64 a0_1,.int .i64 a0_2,.int .i64 a0_3,.int .i64 a0_4,.slice A0_5 l0_5.length c0_5] 24 (0,0)) (by (with_reducible repeat (first | refine blk_drewN ?_ _ | refine blk_drew ?_ | refine blk_alloc ?_ _));exact BK140.out)) : gb140 ≠ gb143));have n6_ := Aside0.mk ((by rw [hg];exact Nat.ne_of_gt (blk_lt (g := gb140) (o := .cells #[.int .i64 a0_0,.int .i64 a0_1,.int .i64 a0_2,.int .i64 a0_3,.int .i64 a0_4,.slice A0_5 l0_5.length c0_5] 24 (0,0)) (by (with_reducible repeat (first | refine blk_drewN ?_ _ | refine blk_drew ?_ | refine blk_alloc ?_ _));exact BK140.out)) : gb143 ≠ gb140));clear BK140;clear HB;have BK140 := n0_;have HB := n1_;have BK143 := n2_;have GW143 := n3_;have GE143 := n4_;have NB140_143 := n5_;have NB143_140 := n6_;clear n0_ n1_ n2_ n3_ n4_ n5_ n6_;clear hb hbox hg;have hnb17 := NB143_140.out;have hnc17 := NB140_143.out;have hcz18_0 : w16.cell? ⟨gb143,0,none⟩ = some (.int .u64 0) := (blk_cell BK143.out 0).trans rfl;have hcz18_1 : w16.cell? ⟨gb143,1,none⟩ = some (.slice none 0 0) := (blk_cell BK143.out 1).trans rfl;have hcz18_2 : w16.cell? ⟨gb143,2,none⟩ = some (.slice none 0 0) := (blk_cell BK143.out 2).trans rfl;have hfz18_0 := blk_frozen BK143.out 0;have hfz18_1 := blk_frozen BK143.out 1;have hfz18_2 := blk_frozen BK143.out 2) | ((with_reducible refine gate_callee (f := 18) rfl ?_);refine goesL_ (some 17) rfl rfl Try.func18 (by kernel_rfl) rfl #[.agg #[.int .u64 ((rd_T29 l1 x12_1).f0),.slice A142_1 ((rd_T29 l1 x12_1).f1).length c142_1,.slice A142_2 ((rd_T29 l1 x12_1).f2).length c142_2],.int .i64 2000] rfl (by (try simp only [List.map_toArray,List.map_cons,List.map_nil]);first | done | rfl | (simp only [List.length_drop,List.length_take];rfl)) ?_;(with_reducible refine (passepartoutref05_Count.calls k1 ((rd_T29 l1 x12_1).f0) _ _ ((rd_T29 l1 x12_1).f1) _ _ ((rd_T29 l1 x12_1).f2) 2000 t144 _ ?side1 ?side2 ?side3 ?side4 A14.out).mono ?_);(case side1 => exact Kd.C_below HR142_1.out (by repeat (first | (with_reducible first | exact HB.out | apply below_alloc | apply pw_below_drewN | apply below_drew1 | refine below_set ?_ GE140.out | refine below_set ?_ GE143.out) | exact HB.out)));(case side2 => exact HC142_1.out);(case side3 => exact Kd.C_below HR142_2.out (by repeat (first | (with_reducible first | exact HB.out | apply below_alloc | apply pw_below_drewN | apply below_drew1 | refine below_set ?_ GE140.out | refine below_set ?_ GE143.out) | exact HB.out)));(case side4 => exact HC142_2.out);rintro e w19 ⟨rfl,hb⟩;refine ⟨_,rfl,?_⟩;have n0_ := Aside0.mk (blk_below (g := gb140) (o := .cells #[.int .i64 a0_0,.int .i64 a0_1,.int .i64 a0_2,.int .i64 a0_3,.int .i64 a0_4,.slice A0_5 l0_5.length c0_5] 24 (0,0)) (by (with_reducible repeat (first | refine blk_drewN ?_ _ | refine blk_drew ?_ | refine blk_alloc ?_ _));refine blk_far ?_ NB140_143.out _;(with_reducible repeat (first | refine blk_drewN ?_ _ | refine blk_drew ?_ | refine blk_alloc ?_ _));refine blk_far ?_ NB140_143.out _;(with_reducible repeat (first | refine blk_drewN ?_ _ | refine blk_drew ?_ | refine blk_alloc ?_ _));refine blk_far ?_ NB140_143.out _;(with_reducible repeat (first | refine blk_drewN ?_ _ | refine blk_drew ?_ | refine blk_alloc ?_ _));exact BK140.out) hb);have n1_ := Aside0.mk (blk_below (g := gb143) (o := .cells #[.int .u64 ((rd_T29 l1 x12_1).f0),.slice A142_1 ((rd_T29 l1 x12_1).f1).length c142_1,.slice A142_2 ((rd_T29 l1 x12_1).f2).length c142_2] 29 (0,0)) (by (with_reducible repeat (first | refine blk_drewN ?_ _ | refine blk_drew ?_ | refine blk_alloc ?_ _));refine blk_put (cs := #[.int .u64 ((rd_T29 l1 x12_1).f0),.slice A142_1 ((rd_T29 l1 x12_1).f1).length c142_1,.slice none 0 0]) ?_ 2 _ rfl;(with_reducible repeat (first | refine blk_drewN ?_ _ | refine blk_drew ?_ | refine blk_alloc ?_ _));refine blk_put (cs := #[.int .u64 ((rd_T29 l1 x12_1).f0),.slice none 0 0,.slice none 0 0]) ?_ 1 _ rfl;(with_reducible repeat (first | refine blk_drewN ?_ _ | refine blk_drew ?_ | refine blk_alloc ?_ _));refine blk_put (cs := #[.int .u64 0,.slice none 0 0,.slice none 0 0]) ?_ 0 _ rfl;(with_reducible repeat (first | refine blk_drewN ?_ _ | refine blk_drew ?_ | refine blk_alloc ?_ _));exact BK143.out) hb);have n2_ := Aside0.mk (below_step (by repeat (first | (with_reducible first | exact HB.out | apply below_alloc | apply pw_below_drewN | apply below_drew1 | refine below_set ?_ GE140.out | refine below_set ?_ GE143.out) | exact HB.out)) hb);clear BK140;clear BK143;clear HB;have BK140 := n0_;have BK143 := n1_;have HB := n2_;clear n0_ n1_ n2_;(try clear hb);(try clear hb2);(try clear hk);(try clear hi)))
        go_ret
        exact ⟨by first | rfl | (simp [errW_none,errW_some] <;> rfl) | (simp [*,errW_none,errW_some] <;> rfl),by repeat (first | (with_reducible first | exact HB.out | apply below_alloc | apply pw_below_drewN | apply below_drew1 | refine below_set ?_ GE140.out | refine below_set ?_ GE143.out) | exact HB.out)⟩
       ·rw [if_neg c15] at H
        have c15b0 : decide (2000 < t144) = false := decide_eq_false c15
        clear c15
        replace H := Option.bind_eq_some_iff.mp H
        obtain ⟨t145,A200,H⟩ := H
        replace H : (if t145 > 20000 then (some 1) else (passepartoutlaw05_Great.l0 k1 l1 (l1.length : Int) (wrap64 (x12_1 + 1)))) = some r := H
        have A20 := Aside0.mk A200
        clear A200
        by_cases c21 : t145 > 20000
        ·rw [if_pos c21] at H
         have c21b0 : decide (20000 < t145) = true := decide_eq_true c21
         clear c21
         obtain rfl := Option.some.inj H
         have p142 : 0 ≤ (x12_1 : Int) := of_decide_eq_true (by first | (with_reducible assumption) | assumption)
         have q142 : x12_1 < (l1.length : Int) := of_decide_eq_true (by first | (with_reducible assumption) | assumption)
         obtain ⟨ad142,A142_1,c142_1,A142_2,c142_2,e142,hx142_0,hx142_1,hx142_2,hl142_1,hi142_1,hl142_2,hi142_2⟩ := at_T29 HR1.out x12_1 p142 q142
         cases e142
         replace hx142_0 := (HB.out.cell (World.block_lt_of_cell? w _ hx142_0)).trans hx142_0
         replace hx142_1 := (HB.out.cell (World.block_lt_of_cell? w _ hx142_1)).trans hx142_1
         replace hx142_2 := (HB.out.cell (World.block_lt_of_cell? w _ hx142_2)).trans hx142_2
         have HR142_1 := Aside0.mk hi142_1
         have HC142_1 := Aside0.mk hl142_1
         clear hi142_1 hl142_1
         have HR142_2 := Aside0.mk hi142_2
         have HC142_2 := Aside0.mk hl142_2
         clear hi142_2 hl142_2
         replace p142 := eq_true p142
         replace q142 := eq_true q142
         go_wp2_with (first | ((with_reducible refine gate_dst (N := 6) rfl ?_);refine box_event ?hg (N := 6) ?hd (cs := #[.int .u64 0,.slice none 0 0,.slice none 0 0]) (t := 29) ?hr ?_;(case hd => rfl);(case hg => rfl);(case hr => first | (go_simp;done) | (go_simp;rfl));intro gb143 hg w22 hbox hb;have n0_ := Aside0.mk (blk_below (g := gb140) (o := .cells #[.int .i64 a0_0,.int .i64 a0_1,.int .i64 a0_2,.int .i64 a0_3,.int .i64 a0_4,.slice A0_5 l0_5.length c0_5] 24 (0,0)) (by (with_reducible repeat (first | refine blk_drewN ?_ _ | refine blk_drew ?_ | refine blk_alloc ?_ _));exact BK140.out) hb);have n1_ := Aside0.mk (below_step (by repeat (first | (with_reducible first | exact HB.out | apply below_alloc | apply pw_below_drewN | apply below_drew1 | refine below_set ?_ GE140.out) | exact HB.out)) hb);have n2_ := Aside0.mk (hbox);have n3_ := Aside0.mk ((by rw [hg];exact (below_size (by repeat (first | (with_reducible first | exact HB.out | apply below_alloc | apply pw_below_drewN | apply below_drew1 | refine below_set ?_ GE140.out) | exact HB.out))) : w.heap.size ≤ gb143));have n4_ := Aside0.mk ((by rw [hg];exact (below_size (by repeat (first | (with_reducible first | exact HB.out | apply below_alloc | apply pw_below_drewN | apply below_drew1 | refine below_set ?_ GE140.out) | exact HB.out))) : w.heap.size ≤ gb143));have n5_ := Aside0.mk ((by rw [hg];exact Nat.ne_of_lt (blk_lt (g := gb140) (o := .cells #[.int .i64 a0_0,.int .i64 a0_1,.int .i64 a0_2,.int .i64 a0_3,.int .i64 a0_4,.slice A0_5 l0_5.length c0_5] 24 (0,0)) (by (with_reducible repeat (first | refine blk_drewN ?_ _ | refine blk_drew ?_ | refine blk_alloc ?_ _));exact BK140.out)) : gb140 ≠ gb143));have n6_ := Aside0.mk ((by rw [hg];exact Nat.ne_of_gt (blk_lt (g := gb140) (o := .cells #[.int .i64 a0_0,.int .i64 a0_1,.int .i64 a0_2,.int .i64 a0_3,.int .i64 a0_4,.slice A0_5 l0_5.length c0_5] 24 (0,0)) (by (with_reducible repeat (first | refine blk_drewN ?_ _ | refine blk_drew ?_ | refine blk_alloc ?_ _));exact BK140.out)) : gb143 ≠ gb140));clear BK140;clear HB;have BK140 := n0_;have HB := n1_;have BK143 := n2_;have GW143 := n3_;have GE143 := n4_;have NB140_143 := n5_;have NB143_140 := n6_;clear n0_ n1_ n2_ n3_ n4_ n5_ n6_;clear hb hbox hg;have hnb23 := NB143_140.out;have hnc23 := NB140_143.out;have hcz24_0 : w22.cell? ⟨gb143,0,none⟩ = some (.int .u64 0) := (blk_cell BK143.out 0).trans rfl;have hcz24_1 : w22.cell? ⟨gb143,1,none⟩ = some (.slice none 0 0) := (blk_cell BK143.out 1).trans rfl;have hcz24_2 : w22.cell? ⟨gb143,2,none⟩ = some (.slice none 0 0) := (blk_cell BK143.out 2).trans rfl;have hfz24_0 := blk_frozen BK143.out 0;have hfz24_1 := blk_frozen BK143.out 1;have hfz24_2 := blk_frozen BK143.out 2) | ((with_reducible refine gate_callee (f := 18) rfl ?_);refine goesL_ (some 17) rfl rfl Try.func18 (by kernel_rfl) rfl #[.agg #[.int .u64 ((rd_T29 l1 x12_1).f0),.slice A142_1 ((rd_T29 l1 x12_1).f1).length c142_1,.slice A142_2 ((rd_T29 l1 x12_1).f2).length c142_2],.int .i64 2000] rfl (by (try simp only [List.map_toArray,List.map_cons,List.map_nil]);first | done | rfl | (simp only [List.length_drop,List.length_take];rfl)) ?_;(with_reducible refine (passepartoutref05_Count.calls k1 ((rd_T29 l1 x12_1).f0) _ _ ((rd_T29 l1 x12_1).f1) _ _ ((rd_T29 l1 x12_1).f2) 2000 t144 _ ?side1 ?side2 ?side3 ?side4 A14.out).mono ?_);(case side1 => exact Kd.C_below HR142_1.out (by repeat (first | (with_reducible first | exact HB.out | apply below_alloc | apply pw_below_drewN | apply below_drew1 | refine below_set ?_ GE140.out | refine below_set ?_ GE143.out) | exact HB.out)));(case side2 => exact HC142_1.out);(case side3 => exact Kd.C_below HR142_2.out (by repeat (first | (with_reducible first | exact HB.out | apply below_alloc | apply pw_below_drewN | apply below_drew1 | refine below_set ?_ GE140.out | refine below_set ?_ GE143.out) | exact HB.out)));(case side4 => exact HC142_2.out);rintro e w25 ⟨rfl,hb⟩;refine ⟨_,rfl,?_⟩;have n0_ := Aside0.mk (blk_below (g := gb140) (o := .cells #[.int .i64 a0_0,.int .i64 a0_1,.int .i64 a0_2,.int .i64 a0_3,.int .i64 a0_4,.slice A0_5 l0_5.length c0_5] 24 (0,0)) (by (with_reducible repeat (first | refine blk_drewN ?_ _ | refine blk_drew ?_ | refine blk_alloc ?_ _));refine blk_far ?_ NB140_143.out _;(with_reducible repeat (first | refine blk_drewN ?_ _ | refine blk_drew ?_ | refine blk_alloc ?_ _));refine blk_far ?_ NB140_143.out _;(with_reducible repeat (first | refine blk_drewN ?_ _ | refine blk_drew ?_ | refine blk_alloc ?_ _));refine blk_far ?_ NB140_143.out _;(with_reducible repeat (first | refine blk_drewN ?_ _ | refine blk_drew ?_ | refine blk_alloc ?_ _));exact BK140.out) hb);have n1_ := Aside0.mk (blk_below (g := gb143) (o := .cells #[.int .u64 ((rd_T29 l1 x12_1).f0),.slice A142_1 ((rd_T29 l1 x12_1).f1).length c142_1,.slice A142_2 ((rd_T29 l1 x12_1).f2).length c142_2] 29 (0,0)) (by (with_reducible repeat (first | refine blk_drewN ?_ _ | refine blk_drew ?_ | refine blk_alloc ?_ _));refine blk_put (cs := #[.int .u64 ((rd_T29 l1 x12_1).f0),.slice A142_1 ((rd_T29 l1 x12_1).f1).length c142_1,.slice none 0 0]) ?_ 2 _ rfl;(with_reducible repeat (first | refine blk_drewN ?_ _ | refine blk_drew ?_ | refine blk_alloc ?_ _));refine blk_put (cs := #[.int .u64 ((rd_T29 l1 x12_1).f0),.slice none 0 0,.slice none 0 0]) ?_ 1 _ rfl;(with_reducible repeat (first | refine blk_drewN ?_ _ | refine blk_drew ?_ | refine blk_alloc ?_ _));refine blk_put (cs := #[.int .u64 0,.slice none 0 0,.slice none 0 0]) ?_ 0 _ rfl;(with_reducible repeat (first | refine blk_drewN ?_ _ | refine blk_drew ?_ | refine blk_alloc ?_ _));exact BK143.out) hb);have n2_ := Aside0.mk (below_step (by repeat (first | (with_reducible first | exact HB.out | apply below_alloc | apply pw_below_drewN | apply below_drew1 | refine below_set ?_ GE140.out | refine below_set ?_ GE143.out) | exact HB.out)) hb);clear BK140;clear BK143;clear HB;have BK140 := n0_;have BK143 := n1_;have HB := n2_;clear n0_ n1_ n2_;(try clear hb);(try clear hb2);(try clear hk);(try clear hi);have hcz26_0 : w25.cell? ⟨gb143,0,none⟩ = some (.int .u64 ((rd_T29 l1 x12_1).f0)) := (blk_cell BK143.out 0).trans rfl;have hcz26_1 : w25.cell? ⟨gb143,1,none⟩ = some (.slice A142_1 ((rd_T29 l1 x12_1).f1).length c142_1) := (blk_cell BK143.out 1).trans rfl;have hcz26_2 : w25.cell? ⟨gb143,2,none⟩ = some (.slice A142_2 ((rd_T29 l1 x12_1).f2).length c142_2) := (blk_cell BK143.out 2).trans rfl;have hfz26_0 := blk_frozen BK143.out 0;have hfz26_1 := blk_frozen BK143.out 1;have hfz26_2 := blk_frozen BK143.out 2) | (go_at_call 19;(with_reducible refine (passepartoutref05_Bytes.calls k1 ((rd_T29 l1 x12_1).f0) _ _ ((rd_T29 l1 x12_1).f1) _ _ ((rd_T29 l1 x12_1).f2) 20000 t145 _ ?side1 ?side2 ?side3 ?side4 A20.out).mono ?_);(case side1 => repeat (first | exact (Kd.C_below HR142_1.out HB.out) | (with_reducible refine Kd.C_alloc ?_ _) | (with_reducible refine Kd.C_drewN ?_ _) | (with_reducible refine Kd.C_drew ?_)));(case side2 => exact HC142_1.out);(case side3 => repeat (first | exact (Kd.C_below HR142_2.out HB.out) | (with_reducible refine Kd.C_alloc ?_ _) | (with_reducible refine Kd.C_drewN ?_ _) | (with_reducible refine Kd.C_drew ?_)));(case side4 => exact HC142_2.out);rintro e w27 ⟨rfl,hb⟩;have n0_ := Aside0.mk (blk_below (g := gb140) (o := .cells #[.int .i64 a0_0,.int .i64 a0_1,.int .i64 a0_2,.int .i64 a0_3,.int .i64 a0_4,.slice A0_5 l0_5.length c0_5] 24 (0,0)) (by (with_reducible repeat (first | refine blk_drewN ?_ _ | refine blk_drew ?_ | refine blk_alloc ?_ _));exact BK140.out) hb);have n1_ := Aside0.mk (blk_below (g := gb143) (o := .cells #[.int .u64 ((rd_T29 l1 x12_1).f0),.slice A142_1 ((rd_T29 l1 x12_1).f1).length c142_1,.slice A142_2 ((rd_T29 l1 x12_1).f2).length c142_2] 29 (0,0)) (by (with_reducible repeat (first | refine blk_drewN ?_ _ | refine blk_drew ?_ | refine blk_alloc ?_ _));exact BK143.out) hb);have n2_ := Aside0.mk (below_step (by repeat (first | (with_reducible first | exact HB.out | apply below_alloc | apply pw_below_drewN | apply below_drew1 | refine below_set ?_ GE140.out | refine below_set ?_ GE143.out) | exact HB.out)) hb);clear BK140;clear BK143;clear HB;have BK140 := n0_;have BK143 := n1_;have HB := n2_;clear n0_ n1_ n2_;(try clear hb);(try clear hb2);(try clear hk);(try clear hi)))
         go_ret
         exact ⟨by first | rfl | (simp [errW_none,errW_some] <;> rfl) | (simp [*,errW_none,errW_some] <;> rfl),by repeat (first | (with_reducible first | exact HB.out | apply below_alloc | apply pw_below_drewN | apply below_drew1 | refine below_set ?_ GE140.out | refine below_set ?_ GE143.out) | exact HB.out)⟩
        ·rw [if_neg c21] at H
         have c21b0 : decide (20000 < t145) = false := decide_eq_false c21
         clear c21
         have H' := Aside0.mk H
         clear H
         have p142 : 0 ≤ (x12_1 : Int) := of_decide_eq_true (by first | (with_reducible assumption) | assumption)
         have q142 : x12_1 < (l1.length : Int) := of_decide_eq_true (by first | (with_reducible assumption) | assumption)
         obtain ⟨ad142,A142_1,c142_1,A142_2,c142_2,e142,hx142_0,hx142_1,hx142_2,hl142_1,hi142_1,hl142_2,hi142_2⟩ := at_T29 HR1.out x12_1 p142 q142
         cases e142
         replace hx142_0 := (HB.out.cell (World.block_lt_of_cell? w _ hx142_0)).trans hx142_0
         replace hx142_1 := (HB.out.cell (World.block_lt_of_cell? w _ hx142_1)).trans hx142_1
         replace hx142_2 := (HB.out.cell (World.block_lt_of_cell? w _ hx142_2)).trans hx142_2
         have HR142_1 := Aside0.mk hi142_1
         have HC142_1 := Aside0.mk hl142_1
         clear hi142_1 hl142_1
         have HR142_2 := Aside0.mk hi142_2
         have HC142_2 := Aside0.mk hl142_2
         clear hi142_2 hl142_2
         replace p142 := eq_true p142
         replace q142 := eq_true q142
         go_wp2_with (first | ((with_reducible refine gate_dst (N := 6) rfl ?_);refine box_event ?hg (N := 6) ?hd (cs := #[.int .u64 0,.slice none 0 0,.slice none 0 0]) (t := 29) ?hr ?_;(case hd => rfl);(case hg => rfl);(case hr => first | (go_simp;done) | (go_simp;rfl));intro gb143 hg w28 hbox hb;have n0_ := Aside0.mk (blk_below (g := gb140) (o := .cells #[.int .i64 a0_0,.int .i64 a0_1,.int .i64 a0_2,.int .i64 a0_3,.int .i64 a0_4,.slice A0_5 l0_5.length c0_5] 24 (0,0)) (by (with_reducible repeat (first | refine blk_drewN ?_ _ | refine blk_drew ?_ | refine blk_alloc ?_ _));exact BK140.out) hb);have n1_ := Aside0.mk (below_step (by repeat (first | (with_reducible first | exact HB.out | apply below_alloc | apply pw_below_drewN | apply below_drew1 | refine below_set ?_ GE140.out) | exact HB.out)) hb);have n2_ := Aside0.mk (hbox);have n3_ := Aside0.mk ((by rw [hg];exact (below_size (by repeat (first | (with_reducible first | exact HB.out | apply below_alloc | apply pw_below_drewN | apply below_drew1 | refine below_set ?_ GE140.out) | exact HB.out))) : w.heap.size ≤ gb143));have n4_ := Aside0.mk ((by rw [hg];exact (below_size (by repeat (first | (with_reducible first | exact HB.out | apply below_alloc | apply pw_below_drewN | apply below_drew1 | refine below_set ?_ GE140.out) | exact HB.out))) : w.heap.size ≤ gb143));have n5_ := Aside0.mk ((by rw [hg];exact Nat.ne_of_lt (blk_lt (g := gb140) (o := .cells #[.int .i64 a0_0,.int .i64 a0_1,.int .i64 a0_2,.int .i64 a0_3,.int .i64 a0_4,.slice A0_5 l0_5.length c0_5] 24 (0,0)) (by (with_reducible repeat (first | refine blk_drewN ?_ _ | refine blk_drew ?_ | refine blk_alloc ?_ _));exact BK140.out)) : gb140 ≠ gb143));have n6_ := Aside0.mk ((by rw [hg];exact Nat.ne_of_gt (blk_lt (g := gb140) (o := .cells #[.int .i64 a0_0,.int .i64 a0_1,.int .i64 a0_2,.int .i64 a0_3,.int .i64 a0_4,.slice A0_5 l0_5.length c0_5] 24 (0,0)) (by (with_reducible repeat (first | refine blk_drewN ?_ _ | refine blk_drew ?_ | refine blk_alloc ?_ _));exact BK140.out)) : gb143 ≠ gb140));clear BK140;clear HB;have BK140 := n0_;have HB := n1_;have BK143 := n2_;have GW143 := n3_;have GE143 := n4_;have NB140_143 := n5_;have NB143_140 := n6_;clear n0_ n1_ n2_ n3_ n4_ n5_ n6_;clear hb hbox hg;have hnb29 := NB143_140.out;have hnc29 := NB140_143.out;have hcz30_0 : w28.cell? ⟨gb143,0,none⟩ = some (.int .u64 0) := (blk_cell BK143.out 0).trans rfl;have hcz30_1 : w28.cell? ⟨gb143,1,none⟩ = some (.slice none 0 0) := (blk_cell BK143.out 1).trans rfl;have hcz30_2 : w28.cell? ⟨gb143,2,none⟩ = some (.slice none 0 0) := (blk_cell BK143.out 2).trans rfl;have hfz30_0 := blk_frozen BK143.out 0;have hfz30_1 := blk_frozen BK143.out 1;have hfz30_2 := blk_frozen BK143.out 2) | ((with_reducible refine gate_callee (f := 18) rfl ?_);refine goesL_ (some 17) rfl rfl Try.func18 (by kernel_rfl) rfl #[.agg #[.int .u64 ((rd_T29 l1 x12_1).f0),.slice A142_1 ((rd_T29 l1 x12_1).f1).length c142_1,.slice A142_2 ((rd_T29 l1 x12_1).f2).length c142_2],.int .i64 2000] rfl (by (try simp only [List.map_toArray,List.map_cons,List.map_nil]);first | done | rfl | (simp only [List.length_drop,List.length_take];rfl)) ?_;(with_reducible refine (passepartoutref05_Count.calls k1 ((rd_T29 l1 x12_1).f0) _ _ ((rd_T29 l1 x12_1).f1) _ _ ((rd_T29 l1 x12_1).f2) 2000 t144 _ ?side1 ?side2 ?side3 ?side4 A14.out).mono ?_);(case side1 => exact Kd.C_below HR142_1.out (by repeat (first | (with_reducible first | exact HB.out | apply below_alloc | apply pw_below_drewN | apply below_drew1 | refine below_set ?_ GE140.out | refine below_set ?_ GE143.out) | exact HB.out)));(case side2 => exact HC142_1.out);(case side3 => exact Kd.C_below HR142_2.out (by repeat (first | (with_reducible first | exact HB.out | apply below_alloc | apply pw_below_drewN | apply below_drew1 | refine below_set ?_ GE140.out | refine below_set ?_ GE143.out) | exact HB.out)));(case side4 => exact HC142_2.out);rintro e w31 ⟨rfl,hb⟩;refine ⟨_,rfl,?_⟩;have n0_ := Aside0.mk (blk_below (g := gb140) (o := .cells #[.int .i64 a0_0,.int .i64 a0_1,.int .i64 a0_2,.int .i64 a0_3,.int .i64 a0_4,.slice A0_5 l0_5.length c0_5] 24 (0,0)) (by (with_reducible repeat (first | refine blk_drewN ?_ _ | refine blk_drew ?_ | refine blk_alloc ?_ _));refine blk_far ?_ NB140_143.out _;(with_reducible repeat (first | refine blk_drewN ?_ _ | refine blk_drew ?_ | refine blk_alloc ?_ _));refine blk_far ?_ NB140_143.out _;(with_reducible repeat (first | refine blk_drewN ?_ _ | refine blk_drew ?_ | refine blk_alloc ?_ _));refine blk_far ?_ NB140_143.out _;(with_reducible repeat (first | refine blk_drewN ?_ _ | refine blk_drew ?_ | refine blk_alloc ?_ _));exact BK140.out) hb);have n1_ := Aside0.mk (blk_below (g := gb143) (o := .cells #[.int .u64 ((rd_T29 l1 x12_1).f0),.slice A142_1 ((rd_T29 l1 x12_1).f1).length c142_1,.slice A142_2 ((rd_T29 l1 x12_1).f2).length c142_2] 29 (0,0)) (by (with_reducible repeat (first | refine blk_drewN ?_ _ | refine blk_drew ?_ | refine blk_alloc ?_ _));refine blk_put (cs := #[.int .u64 ((rd_T29 l1 x12_1).f0),.slice A142_1 ((rd_T29 l1 x12_1).f1).length c142_1,.slice none 0 0]) ?_ 2 _ rfl;(with_reducible repeat (first | refine blk_drewN ?_ _ | refine blk_drew ?_ | refine blk_alloc ?_ _));refine blk_put (cs := #[.int .u64 ((rd_T29 l1 x12_1).f0),.slice none 0 0,.slice none 0 0]) ?_ 1 _ rfl;(with_reducible repeat (first | refine blk_drewN ?_ _ | refine blk_drew ?_ | refine blk_alloc ?_ _));refine blk_put (cs := #[.int .u64 0,.slice none 0 0,.slice none 0 0]) ?_ 0 _ rfl;(with_reducible repeat (first | refine blk_drewN ?_ _ | refine blk_drew ?_ | refine blk_alloc ?_ _));exact BK143.out) hb);have n2_ := Aside0.mk (below_step (by repeat (first | (with_reducible first | exact HB.out | apply below_alloc | apply pw_below_drewN | apply below_drew1 | refine below_set ?_ GE140.out | refine below_set ?_ GE143.out) | exact HB.out)) hb);clear BK140;clear BK143;clear HB;have BK140 := n0_;have BK143 := n1_;have HB := n2_;clear n0_ n1_ n2_;(try clear hb);(try clear hb2);(try clear hk);(try clear hi);have hcz32_0 : w31.cell? ⟨gb143,0,none⟩ = some (.int .u64 ((rd_T29 l1 x12_1).f0)) := (blk_cell BK143.out 0).trans rfl;have hcz32_1 : w31.cell? ⟨gb143,1,none⟩ = some (.slice A142_1 ((rd_T29 l1 x12_1).f1).length c142_1) := (blk_cell BK143.out 1).trans rfl;have hcz32_2 : w31.cell? ⟨gb143,2,none⟩ = some (.slice A142_2 ((rd_T29 l1 x12_1).f2).length c142_2) := (blk_cell BK143.out 2).trans rfl;have hfz32_0 := blk_frozen BK143.out 0;have hfz32_1 := blk_frozen BK143.out 1;have hfz32_2 := blk_frozen BK143.out 2) | (go_at_call 19;(with_reducible refine (passepartoutref05_Bytes.calls k1 ((rd_T29 l1 x12_1).f0) _ _ ((rd_T29 l1 x12_1).f1) _ _ ((rd_T29 l1 x12_1).f2) 20000 t145 _ ?side1 ?side2 ?side3 ?side4 A20.out).mono ?_);(case side1 => repeat (first | exact (Kd.C_below HR142_1.out HB.out) | (with_reducible refine Kd.C_alloc ?_ _) | (with_reducible refine Kd.C_drewN ?_ _) | (with_reducible refine Kd.C_drew ?_)));(case side2 => exact HC142_1.out);(case side3 => repeat (first | exact (Kd.C_below HR142_2.out HB.out) | (with_reducible refine Kd.C_alloc ?_ _) | (with_reducible refine Kd.C_drewN ?_ _) | (with_reducible refine Kd.C_drew ?_)));(case side4 => exact HC142_2.out);rintro e w33 ⟨rfl,hb⟩;have n0_ := Aside0.mk (blk_below (g := gb140) (o := .cells #[.int .i64 a0_0,.int .i64 a0_1,.int .i64 a0_2,.int .i64 a0_3,.int .i64 a0_4,.slice A0_5 l0_5.length c0_5] 24 (0,0)) (by (with_reducible repeat (first | refine blk_drewN ?_ _ | refine blk_drew ?_ | refine blk_alloc ?_ _));exact BK140.out) hb);have n1_ := Aside0.mk (blk_below (g := gb143) (o := .cells #[.int .u64 ((rd_T29 l1 x12_1).f0),.slice A142_1 ((rd_T29 l1 x12_1).f1).length c142_1,.slice A142_2 ((rd_T29 l1 x12_1).f2).length c142_2] 29 (0,0)) (by (with_reducible repeat (first | refine blk_drewN ?_ _ | refine blk_drew ?_ | refine blk_alloc ?_ _));exact BK143.out) hb);have n2_ := Aside0.mk (below_step (by repeat (first | (with_reducible first | exact HB.out | apply below_alloc | apply pw_below_drewN | apply below_drew1 | refine below_set ?_ GE140.out | refine below_set ?_ GE143.out) | exact HB.out)) hb);clear BK140;clear BK143;clear HB;have BK140 := n0_;have BK143 := n1_;have HB := n2_;clear n0_ n1_ n2_;(try clear hb);(try clear hb2);(try clear hk);(try clear hi)))
         go_roundg k1
         case measure => have := HK1.out;omega
         case rel => exact ⟨(wrap64 (x12_1 + 1)),(by first | rfl | (simp;done) | (simp [*];done)),H',⟨by have := HK1.out;omega⟩,⟨by (with_reducible repeat (first | refine blk_drewN ?_ _ | refine blk_drew ?_ | refine blk_alloc ?_ _));exact BK140.out⟩,⟨by repeat (first | (with_reducible first | exact HB.out | apply below_alloc | apply pw_below_drewN | apply below_drew1 | refine below_set ?_ GE140.out | refine below_set ?_ GE143.out) | exact HB.out)⟩⟩
      ·rw [if_neg c13] at H
       exact absurd H (by simp)
     ·rw [if_neg c12] at H
      exact absurd H (by simp)
    ·rw [if_neg c11] at H
     have c11b0 : decide (x12_1 < (l1.length : Int)) = false := decide_eq_false c11
     clear c11
     obtain rfl := Option.some.inj H
     go_wp2
     go_ret
     exact ⟨by first | rfl | (simp [errW_none,errW_some] <;> rfl) | (simp [*,errW_none,errW_some] <;> rfl),by repeat (first | (with_reducible first | exact HB.out | apply below_alloc | apply pw_below_drewN | apply below_drew1 | refine below_set ?_ GE140.out) | exact HB.out)⟩

end Go.Proofs.Ytdhnfccgojgehaa.QP

namespace Go.Proofs.Ytdhnfccgojgehaa
open Go.RowKit YtdhnfccgojgehaaW.PrintWords

theorem cntv_ev (x : Vt) : ∀ m : Nat,m ≤ 2199023255552 → wfV x = true → Ev (fun k => QP.passepartoutref05_Count.f k x.a.n (bI x.a.b) (x.l.map ofV) (m : Int)) ((cntV m x : Nat) : Int) := by
 induction x using RT.induct with
 | h a l ih =>
 intro m hm hw
 obtain ⟨_,_,hl,hws⟩ := (wfV_mk _ _).1 hw
 apply Ev.step
 ·intro k
  simp only [QP.passepartoutref05_Count.f]
  rfl
 rw [cntV]
 have key : ∀ (d j q : Nat),l.length - j = d → j ≤ l.length → 1 ≤ q → q ≤ m + 1 → Ev (fun k => QP.passepartoutref05_Count.l0 k (m : Int) (q : Int) (j : Int) a.n (bI a.b) (l.map ofV)) ((cntVs m q (l.drop j) : Nat) : Int) := by
  intro d
  induction d with
  | zero =>
   intro j q hd hj hq1 hq2
   apply Ev.step
   ·intro k
    simp only [QP.passepartoutref05_Count.l0]
    rfl
   refine Ev.in_ (by simp;omega) ?_
   rw [cntVs_end (by omega)]
   exact Ev.now _
  | succ d ihd =>
   intro j q hd hj hq1 hq2
   have hlt : j < l.length := by omega
   apply Ev.step
   ·intro k
    simp only [QP.passepartoutref05_Count.l0,rd_ofV l j hlt,ofV_f0,ofV_f1,ofV_f2]
    rfl
   refine Ev.ip (by simp;omega) ?_
   refine Ev.sp (fun hqm => ?_) (fun hqm => ?_)
   ·have hqm' : q ≤ m := by omega
    have hb := cntV_bound l[j] (m - q)
    refine Ev.ip (by omega) ?_
    have h1 := ih l[j] (List.getElem_mem hlt) (m - q) (by omega) (hws _ (List.getElem_mem hlt))
    rw [w64 (by omega) (by omega),show (m : Int) - (q : Int) = ((m - q : Nat) : Int) by omega]
    refine Ev.bind h1 ?_
    rw [w64 (by omega) (by omega),w64 (by omega) (by omega),show (q : Int) + ((cntV (m - q) l[j] : Nat) : Int) = ((q + cntV (m - q) l[j] : Nat) : Int) by omega,show (j : Int) + 1 = ((j + 1 : Nat) : Int) by omega]
    refine Ev.eq_ (ihd (j + 1) (q + cntV (m - q) l[j]) (by omega) (by omega) (by omega) (by omega)) ?_
    rw [cntVs_drop (k := j) hlt,if_pos hqm']
   ·rw [cntVs_end (by omega)]
    exact Ev.now _
 have h0 := key l.length 0 1 (by omega) (by omega) (by omega) (by omega)
 rw [List.drop_zero] at h0
 exact h0

theorem bytv_ev (x : Vt) : ∀ m : Nat,m ≤ 100000 → wfV x = true → Ev (fun k => QP.passepartoutref05_Bytes.f k x.a.n (bI x.a.b) (x.l.map ofV) (m : Int)) ((bytV m x : Nat) : Int) := by
 induction x using RT.induct with
 | h a l ih =>
 intro m hm hw
 obtain ⟨_,hbl,hl,hws⟩ := (wfV_mk _ _).1 hw
 apply Ev.step
 ·intro k
  simp only [QP.passepartoutref05_Bytes.f]
  rfl
 rw [bytV]
 simp only [RT.a,RT.l,bI_len]
 have key : ∀ (d j q : Nat),l.length - j = d → j ≤ l.length → q ≤ m + 140737488355328 → Ev (fun k => QP.passepartoutref05_Bytes.l0 k (m : Int) (q : Int) (j : Int) a.n (bI a.b) (l.map ofV)) ((bytVs m q (l.drop j) : Nat) : Int) := by
  intro d
  induction d with
  | zero =>
   intro j q hd hj hq2
   apply Ev.step
   ·intro k
    simp only [QP.passepartoutref05_Bytes.l0]
    rfl
   refine Ev.in_ (by simp;omega) ?_
   rw [bytVs_end (by omega)]
   exact Ev.now _
  | succ d ihd =>
   intro j q hd hj hq2
   have hlt : j < l.length := by omega
   apply Ev.step
   ·intro k
    simp only [QP.passepartoutref05_Bytes.l0,rd_ofV l j hlt,ofV_f0,ofV_f1,ofV_f2]
    rfl
   refine Ev.ip (by simp;omega) ?_
   refine Ev.sp (fun hqm => ?_) (fun hqm => ?_)
   ·have hqm' : q ≤ m := by omega
    have hb := bytV_bound l[j] (m - q) (hws _ (List.getElem_mem hlt)) (by omega)
    refine Ev.ip (by omega) ?_
    have h1 := ih l[j] (List.getElem_mem hlt) (m - q) (by omega) (hws _ (List.getElem_mem hlt))
    rw [w64 (by omega) (by omega),show (m : Int) - (q : Int) = ((m - q : Nat) : Int) by omega]
    refine Ev.bind h1 ?_
    rw [w64 (by omega) (by omega),w64 (by omega) (by omega),show (q : Int) + ((bytV (m - q) l[j] : Nat) : Int) = ((q + bytV (m - q) l[j] : Nat) : Int) by omega,show (j : Int) + 1 = ((j + 1 : Nat) : Int) by omega]
    refine Ev.eq_ (ihd (j + 1) (q + bytV (m - q) l[j]) (by omega) (by omega) (by omega)) ?_
    rw [bytVs_drop (k := j) hlt,if_pos hqm']
   ·rw [bytVs_end (by omega)]
    exact Ev.now _
 have h0 := key l.length 0 a.b.length (by omega) (by omega) (by omega)
 rw [List.drop_zero] at h0
 exact h0

/-- Is a value greater than is looked at? -/
def bigV (x : Vt) : Bool := decide (2000 < cntV 2000 x) || decide (20000 < bytV 20000 x)
theorem Great_ev (f : Fm) (l : List Vt) (hf : wfF f = true) (hl : l.length ≤ 140737488355328) (hw : ∀ x ∈ l,wfV x = true) :
  Ev (fun k => QP.passepartoutlaw05_Great.f k f.a.k f.a.s f.a.lo f.a.hi f.a.st (f.l.map ofF) (l.map ofV)) (if decide (500 < cntR 500 f) || l.any bigV then 1 else 0) := by
 simp only [QP.passepartoutlaw05_Great.f]
 refine Ev.bind (cnt_ev f 500 (by omega) hf) ?_
 by_cases h5 : 500 < cntR 500 f
 ·refine Ev.rp (by simp [h5]) ?_
  exact Ev.ip (by omega) (Ev.now _)
 refine Ev.in_ (by omega) ?_
 rw [List.length_map]
 have key : ∀ (d j : Nat),l.length - j = d → j ≤ l.length → Ev (fun k => QP.passepartoutlaw05_Great.l0 k (l.map ofV) (l.length : Int) (j : Int)) (if (l.drop j).any bigV then 1 else 0) := by
  intro d
  induction d with
  | zero =>
   intro j hd hj
   apply Ev.step
   ·intro k
    simp only [QP.passepartoutlaw05_Great.l0]
    rfl
   refine Ev.rn (by rw [List.drop_of_length_le (by omega)];simp) ?_
   exact Ev.in_ (by omega) (Ev.now _)
  | succ d ihd =>
   intro j hd hj
   have hlt : j < l.length := by omega
   have hwj := hw _ (List.getElem_mem hlt)
   apply Ev.step
   ·intro k
    simp only [QP.passepartoutlaw05_Great.l0,rd_ofV l j hlt,ofV_f0,ofV_f1,ofV_f2]
    rfl
   refine Ev.ip (by omega) (Ev.ip (by omega) (Ev.ip (by rw [List.length_map];omega) ?_))
   refine Ev.bind (cntv_ev l[j] 2000 (by omega) hwj) ?_
   rw [List.drop_eq_getElem_cons hlt,List.any_cons]
   by_cases h1 : 2000 < cntV 2000 l[j]
   ·refine Ev.rp (by simp [bigV,h1]) (Ev.ip (by omega) (Ev.now _))
   refine Ev.in_ (by omega) (Ev.bind (bytv_ev l[j] 20000 (by omega) hwj) ?_)
   by_cases h2 : 20000 < bytV 20000 l[j]
   ·refine Ev.rp (by simp [bigV,h2]) (Ev.ip (by omega) (Ev.now _))
   refine Ev.in_ (by omega) ?_
   rw [w64 (by omega) (by omega),show (j : Int) + 1 = ((j + 1 : Nat) : Int) by omega]
   have e : bigV l[j] = false := by simp [bigV,h1,h2]
   rw [e,Bool.false_or]
   exact ihd (j + 1) (by omega) (by omega)
 have h0 := key l.length 0 (by omega) (by omega)
 rw [List.drop_zero] at h0
 rw [decide_eq_false h5,Bool.false_or]
 exact h0

end Go.Proofs.Ytdhnfccgojgehaa

namespace Go.Proofs.Ytdhnfccgojgehaa
open Go.RowKit

section
variable {w w' : World} {ok ok' S : Nat → Prop} {g : Nat} {l : List UInt8} {a : Int}
end

/-! ### Places. -/
/-! ### Numbers. -/
/-! ### Bytes taken. -/
/-! ### A cursor of its own over the next bytes. -/
end Go.Proofs.Ytdhnfccgojgehaa

namespace Go.Proofs.Ytdhnfccgojgehaa
open Go.RowKit

section
variable {w w' : World} {S : Nat → Prop} {g : Nat} {t : Value} {a e : Int}
end
/-- A value of bytes alone, of a number alone. -/
theorem VtR.bytes {w : World} {ok : Nat → Prop} {v : Value} {l : List UInt8} (h : BR w ok v l) (hl : l.length ≤ 140737488355328) : VtR w ok (.agg #[.int .u64 0,v,.slice none 0 0]) (.mk ⟨0,l⟩ []) :=
 ⟨v,_,rfl,by unfold u64B;simp only [RT.a];omega,h,hl,VsR.nil⟩
theorem VtR.num {w : World} {ok : Nat → Prop} {n : Int} (h : u64B n) : VtR w ok (.agg #[.int .u64 n,.slice none 0 0,.slice none 0 0]) (.mk ⟨n,[]⟩ []) :=
 ⟨_,_,rfl,h,BR.nil,by simp [RT.a],VsR.nil⟩
theorem VtR.zero {w : World} {ok : Nat → Prop} : VtR w ok (.agg #[.int .u64 0,.slice none 0 0,.slice none 0 0]) (.mk ⟨0,[]⟩ []) := VtR.num (by unfold u64B;omega)

def S2 (rg cg : Nat) : Nat → Prop := fun i => i = rg ∨ i = cg

section
variable {S : Nat → Prop} {w : World}
end

/-- A form's value. -/
abbrev fv (h : FH) (A : Option Addr) (n c : Nat) : Value := .agg #[.int .i64 h.k,.int .i64 h.s,.int .i64 h.lo,.int .i64 h.hi,.int .i64 h.st,.slice A n c]
end Go.Proofs.Ytdhnfccgojgehaa

namespace Go.Proofs.Ytdhnfccgojgehaa
open Go.RowKit

end Go.Proofs.Ytdhnfccgojgehaa

namespace Go.Proofs.Ytdhnfccgojgehaa
open Go.RowKit

end Go.Proofs.Ytdhnfccgojgehaa

namespace Go.Proofs.Ytdhnfccgojgehaa
open Go.RowKit

end Go.Proofs.Ytdhnfccgojgehaa

namespace Go.Proofs.Ytdhnfccgojgehaa
open Go.RowKit

end Go.Proofs.Ytdhnfccgojgehaa

namespace Go.Proofs.Ytdhnfccgojgehaa
open Go.RowKit

end Go.Proofs.Ytdhnfccgojgehaa

namespace Go.Proofs.Ytdhnfccgojgehaa
open Go.RowKit

section
variable {α : Type}
/-- Cells that read as a list of trees, one behind the other. -/
def TRl (H : Head α) (n : Nat) (w : World) (ok : Nat → Prop) : List (RT α) → List Value → Prop
 | [],xs => xs = []
 | t :: l,xs => ∃ cs rest,xs = cs ++ rest ∧ cs.length = n ∧ (∀ u ∈ cs,u.oneCell' = true) ∧ TR H n w ok t cs ∧ TRl H n w ok l rest
theorem TRl.len {H : Head α} {n : Nat} {w : World} {ok : Nat → Prop} : ∀ {l : List (RT α)} {xs : List Value},TRl H n w ok l xs → xs.length = l.length * n
 | [],xs,h => by rw [TRl] at h;simp [h]
 | t :: l,xs,h => by
  rw [TRl] at h
  obtain ⟨cs,rest,rfl,h1,_,_,h2⟩ := h
  rw [List.length_append,h1,TRl.len h2,List.length_cons,Nat.succ_mul]
  omega
theorem TRl.one {H : Head α} {n : Nat} {w : World} {ok : Nat → Prop} : ∀ {l : List (RT α)} {xs : List Value},TRl H n w ok l xs → ∀ u ∈ xs,u.oneCell' = true
 | [],xs,h => by rw [TRl] at h;simp [h]
 | t :: l,xs,h => by
  rw [TRl] at h
  obtain ⟨cs,rest,rfl,_,h1,_,h2⟩ := h
  intro u hu
  rcases List.mem_append.1 hu with hu | hu
  ·exact h1 u hu
  ·exact TRl.one h2 u hu
theorem TRl.kp_ {H : Head α} (hH : HeadKp H) {n : Nat} {w w' : World} {ok ok' S : Nat → Prop} (hk : Kp S w w') (hd : ∀ i,ok i → ¬ S i) (hm : ∀ i,ok i → ok' i) : ∀ {l : List (RT α)} {xs : List Value},TRl H n w ok l xs → TRl H n w' ok' l xs
 | [],xs,h => by rw [TRl] at h ⊢;exact h
 | t :: l,xs,h => by
  rw [TRl] at h ⊢
  obtain ⟨cs,rest,rfl,h1,h2,h3,h4⟩ := h
  exact ⟨cs,rest,rfl,h1,h2,TR.kp_ hH hk hd hm t cs h3,TRl.kp_ hH hk hd hm h4⟩
theorem TRl.snoc {H : Head α} {n : Nat} {w : World} {ok : Nat → Prop} {t : RT α} {cs : List Value} (hc : cs.length = n) (h1 : ∀ u ∈ cs,u.oneCell' = true) (ht : TR H n w ok t cs) : ∀ {l : List (RT α)} {xs : List Value},TRl H n w ok l xs → TRl H n w ok (l ++ [t]) (xs ++ cs)
 | [],xs,h => by
  rw [TRl] at h
  subst h
  rw [List.nil_append,List.nil_append,TRl]
  exact ⟨cs,[],by simp,hc,h1,ht,by rw [TRl]⟩
 | t' :: l,xs,h => by
  rw [TRl] at h
  obtain ⟨cs',rest,rfl,g1,g2,g3,g4⟩ := h
  rw [List.cons_append,TRl]
  exact ⟨cs',rest ++ cs,by rw [List.append_assoc],g1,g2,g3,TRl.snoc hc h1 ht g4⟩
theorem TRl.trs {H : Head α} {n : Nat} {w : World} {ok : Nat → Prop} : ∀ {l : List (RT α)} {xs : List Value} {b off : Nat},TRl H n w ok l xs → (∀ j u,xs[j]? = some u → w.cell? ⟨b,off + j,none⟩ = some u) → TRs H n w ok l b off
 | [],_,_,_,_,_ => by rw [TRs];trivial
 | t :: l,xs,b,off,h,hc => by
  rw [TRl] at h
  obtain ⟨cs,rest,rfl,g1,g2,g3,g4⟩ := h
  rw [TRs]
  refine ⟨⟨cs,g3,fun j u hu => hc j u ?_⟩,TRl.trs g4 (fun j u hu => ?_)⟩
  ·rw [List.getElem?_append_left (List.getElem?_eq_some_iff.1 hu).1]
   exact hu
  ·have := hc (n + j) u (by rw [List.getElem?_append_right (by omega),← hu,g1];congr 1;omega)
   rw [show off + (n + j) = off + n + j from by omega] at this
   exact this
/-- Where such cells lie, a slice reads as the list. -/
theorem TRl.tl {H : Head α} {n : Nat} {w : World} {ok : Nat → Prop} {l : List (RT α)} {xs : List Value} {A : Option Addr} (h : TRl H n w ok l xs) (hr : Rd w ok n A l.length xs) : TL H n w ok l A := by
 intro h0
 obtain ⟨⟨b,off,sp⟩,rfl,hsp,hb,hc⟩ := hr.2 h0
 obtain rfl : sp = none := hsp
 exact ⟨b,off,rfl,hb,h.trs (fun j u hu => by rw [← add_spot];exact hc j u hu)⟩
/-- A row of the call's own that reads as these trees: what they lead to lies elsewhere. -/
def OwnT (H : Head α) (n : Nat) (e : TypeId) (w : World) (ok : Nat → Prop) (v : Value) (l : List (RT α)) : Prop := ∃ xs,Own w ok e n v l.length xs ∧ TRl H n w (fun i => ok i ∧ v.ownBlock ≠ some i) l xs
theorem OwnT.nil {H : Head α} {n : Nat} {e : TypeId} {w : World} {ok : Nat → Prop} : OwnT H n e w ok (.slice none 0 0) [] := ⟨[],Own.nil,by rw [TRl]⟩
theorem OwnT.kp_ {H : Head α} (hH : HeadKp H) {n : Nat} {e : TypeId} {w w' : World} {ok S : Nat → Prop} {v : Value} {l : List (RT α)} (h : OwnT H n e w ok v l) (hk : Kp S w w') (hd : ∀ i,ok i → ¬ S i) : OwnT H n e w' ok v l := by
 obtain ⟨xs,h1,h2⟩ := h
 exact ⟨xs,h1.kp hk hd,h2.kp_ hH hk (fun i hi => hd i hi.1) (fun _ h => h)⟩
theorem OwnT.tl {H : Head α} (hH : HeadKp H) {n : Nat} {e : TypeId} {w : World} {ok : Nat → Prop} {A : Option Addr} {c : Nat} {l : List (RT α)} (h : OwnT H n e w ok (.slice A l.length c) l) : l.length ≤ c ∧ TL H n w ok l A := by
 obtain ⟨xs,h1,h2⟩ := h
 obtain ⟨A',c',e',hc⟩ := h1.shape
 injection e' with e1 e2 e3
 subst e1 e3
 exact ⟨hc,(h2.kp_ hH (Kp.refl (fun _ => False) w) (fun _ _ h => h) (ok' := ok) (fun i hi => hi.1)).tl h1.rd⟩
theorem OwnT.shape {H : Head α} {n : Nat} {e : TypeId} {w : World} {ok : Nat → Prop} {v : Value} {l : List (RT α)} (h : OwnT H n e w ok v l) : ∃ A c,v = .slice A l.length c ∧ l.length ≤ c := by
 obtain ⟨xs,h1,h2⟩ := h
 exact h1.shape
theorem OwnT.lt {H : Head α} {n : Nat} {e : TypeId} {w : World} {ok : Nat → Prop} {v : Value} {l : List (RT α)} (h : OwnT H n e w ok v l) {i : Nat} (hi : v.ownBlock = some i) : i < w.heap.size := by
 obtain ⟨xs,h1,h2⟩ := h
 exact h1.lt i hi
end
end Go.Proofs.Ytdhnfccgojgehaa

namespace Go.Proofs.Ytdhnfccgojgehaa
open Go.RowKit

theorem BR.lt_ {w : World} {ok : Nat → Prop} {v : Value} {l : List UInt8} (h : BR w ok v l) : BR w (fun i => ok i ∧ i < w.heap.size) v l := by
 obtain ⟨A,c,e,hc,hl,hr⟩ := h
 refine ⟨A,c,e,hc,hl,fun h0 => ?_⟩
 obtain ⟨ad,e1,hsp,hb,hcell⟩ := hr h0
 refine ⟨ad,e1,hsp,⟨hb,?_⟩,hcell⟩
 have h1 : (bc l)[0]? = some ((bc l)[0]'(by rw [bc_length];omega)) := List.getElem?_eq_getElem _
 have := cell_lt (hcell 0 _ h1)
 rwa [block_add] at this
theorem VtR.shape {w : World} {ok : Nat → Prop} {v : Value} {x : Vt} (h : VtR w ok v x) : ∃ A1 c1 A2 c2,v = .agg #[.int .u64 x.a.n,.slice A1 x.a.b.length c1,.slice A2 x.l.length c2] ∧ TR VHd 3 w ok x [.int .u64 x.a.n,.slice A1 x.a.b.length c1,.slice A2 x.l.length c2] := by
 obtain ⟨bv,sv,rfl,h1,⟨A1,c1,rfl,h2⟩,h3,⟨A2,c2,rfl,h4,h5,h6⟩⟩ := h
 exact ⟨A1,c1,A2,c2,rfl,(TR_def _ _ _ _ _ _).2 ⟨[.int .u64 x.a.n,.slice A1 x.a.b.length c1],A2,c2,rfl,rfl,⟨_,rfl,h1,⟨A1,c1,rfl,h2⟩,h3⟩,h4,h5,h6⟩⟩
def IsT (t : Value) : Prop := t = .pointer none ∨ ∃ g,t = .pointer (some ⟨g,0,none⟩)
def S3 (rg cg : Nat) (t : Value) : Nat → Prop := fun i => i = rg ∨ i = cg ∨ t = .pointer (some ⟨i,0,none⟩)
theorem FmR.row {w : World} {ok : Nat → Prop} {h : FH} {P : List Fm} {A : Option Addr} {c : Nat} (hv : FmR w ok (fv h A P.length c) (.mk h P)) : FsR w ok (.slice A P.length c) P := by
 obtain ⟨sv,e,_,h2⟩ := hv
 simp only [fv,RT.a,Value.agg.injEq,Array.mk.injEq,List.cons.injEq,and_true,true_and] at e
 subst e
 exact h2
end Go.Proofs.Ytdhnfccgojgehaa

namespace Go.Proofs.Ytdhnfccgojgehaa
open Go.RowKit

end Go.Proofs.Ytdhnfccgojgehaa

namespace Go.Proofs.Ytdhnfccgojgehaa
open Go.RowKit

end Go.Proofs.Ytdhnfccgojgehaa

namespace Go.Proofs.Ytdhnfccgojgehaa
open Go.RowKit

def chk8 (f : Fm) : Int := if deepB 8 f then 14 else checkR f
/-- How a reading of all ends. -/
def endAll (pre : Bool) (b : List UInt8) : RdT → Vt × Int × Int
 | .bad o e _ => (.mk ⟨0,[]⟩ [],o,e)
 | .got x r _ => if pre = false ∧ 0 < r.length then (.mk ⟨0,[]⟩ [],((b.length - r.length : Nat) : Int),6) else (x,((b.length - r.length : Nat) : Int),0)
/-- What all tells: the value, the place (from the base on), the error. -/
def readAll (pre : Bool) (f : Fm) (b : List UInt8) : Vt × Int × Int := if chk8 f ≠ 0 then (.mk ⟨0,[]⟩ [],0,chk8 f) else endAll pre b (readR f b)
def readSt (f : Fm) (b : List UInt8) : Nat := if chk8 f ≠ 0 then 0 else (readR f b).steps
def TS (t : Value) : Nat → Prop := fun i => t = .pointer (some ⟨i,0,none⟩)
end Go.Proofs.Ytdhnfccgojgehaa

namespace Go.Proofs.Ytdhnfccgojgehaa
open Go.RowKit

end Go.Proofs.Ytdhnfccgojgehaa

namespace Go.Proofs.Ytdhnfccgojgehaa
open Go.RowKit YtdhnfccgojgehaaW.PrintWords

section
variable {w : World} {ok ok2 : Nat → Prop} {f : Fm} {x y : Vt} {v u : Value}
theorem FmR.wf (h : FmR w ok v f) : wfF f = true := by
 obtain ⟨_,_,h1⟩ := h.tr
 exact tr_wfF f _ h1
theorem VtR.wf (h : VtR w ok v x) : wfV x = true := by
 obtain ⟨_,_,_,h1⟩ := h.tr
 exact tr_wfV x _ h1
theorem check04_any (ok : Nat → Prop) (f : Fm) (v : Value) (w : World) (hv : FmR w ok v f) : Calls Try.prog 8 #[v] w fun e w' => e = .returned (.int .i64 (chk8 f)) ∧ Kp (fun _ => False) w w' := by
 obtain ⟨K,hK⟩ := (Check_ev f hv.wf).rounds
 obtain ⟨⟨k,s,lo,hi,st⟩,P⟩ := f
 obtain ⟨A,c,rfl,_,_,_,_,_,_,_,h1⟩ := hv.parts
 obtain ⟨_,g1,g2⟩ := h1.c
 have := QP.passepartoutref04_Check.calls K k s lo hi st A c (P.map ofF) _ w g2 g1 hK
 simp only [List.length_map] at this
 exact this.mono fun e w' h => ⟨h.1,Kp.of_below h.2⟩
end
/-- What not too great means. -/
theorem sz_ok {f : Fm} (h : ¬ 500 < cntR 500 f) : szF f ≤ 100000 := by
 have := (cnt_sz f 500).1 (by omega)
 omega
abbrev Vt.zero_ : Vt := .mk ⟨0,[]⟩ []
theorem chk8_ok {f : Fm} (h : chk8 f = 0) : deepB 8 f = false ∧ checkR f = 0 := by
 unfold chk8 at h
 split at h
 ·omega
 ·rename_i hd
  exact ⟨by simpa using hd,h⟩
end Go.Proofs.Ytdhnfccgojgehaa

namespace Go.Proofs.Ytdhnfccgojgehaa
open Go.RowKit

end Go.Proofs.Ytdhnfccgojgehaa

namespace Go.Proofs.Ytdhnfccgojgehaa
open Go.RowKit

mutual
/-- How many values there are in one. -/
def szV : Vt → Nat
 | .mk _ l => 1 + szVs l
def szVs : List Vt → Nat
 | [] => 0
 | x :: t => szV x + szVs t
end
theorem cntVs_ge {m : Nat} : ∀ (t : List Vt) (n : Nat),n ≤ m + 1 → n ≤ cntVs m n t := by
 intro t
 induction t with
 | nil => intro n _;rw [cntVs];omega
 | cons f t ih =>
  intro n hn
  rw [cntVs]
  split
  ·have h1 := cntV_bound f (m - n)
   have := ih (n + cntV (m - n) f) (by omega)
   omega
  ·omega
theorem cntV_sz (x : Vt) : ∀ m,cntV m x ≤ m → cntV m x = szV x := by
 induction x using RT.induct with
 | h a l ih =>
 intro m hm
 have key : ∀ (t : List Vt),(∀ f ∈ t,∀ m,cntV m f ≤ m → cntV m f = szV f) → ∀ n,cntVs m n t ≤ m → cntVs m n t = n + szVs t := by
  intro t
  induction t with
  | nil => intro _ n _;rw [cntVs,szVs];rfl
  | cons f t ih2 =>
   intro hf n hn
   rw [cntVs] at hn ⊢
   split at hn
   ·rename_i hnm
    have h1 := cntV_bound f (m - n)
    have h2 := cntVs_ge (m := m) t (n + cntV (m - n) f) (by omega)
    have h3 := hf f (by simp) (m - n) (by omega)
    have h4 := ih2 (fun g hg => hf g (by simp [hg])) _ hn
    rw [if_pos hnm,h4,h3,szVs]
    omega
   ·omega
 rw [cntV] at hm ⊢
 rw [key l ih 1 hm,szV]
end Go.Proofs.Ytdhnfccgojgehaa

namespace Go.Proofs.Ytdhnfccgojgehaa
open Go.RowKit

mutual
/-- How many bytes a value holds. -/
def btV : Vt → Nat
 | .mk a l => a.b.length + btVs l
def btVs : List Vt → Nat
 | [] => 0
 | x :: t => btV x + btVs t
end
theorem bytVs_ge {m : Nat} : ∀ (t : List Vt) (n : Nat),n ≤ bytVs m n t := by
 intro t
 induction t with
 | nil => intro n;rw [bytVs];omega
 | cons f t ih =>
  intro n
  rw [bytVs]
  split
  ·have := ih (n + bytV (m - n) f)
   omega
  ·omega
theorem bytV_sz (x : Vt) : ∀ m,bytV m x ≤ m → bytV m x = btV x := by
 induction x using RT.induct with
 | h a l ih =>
 intro m hm
 have key : ∀ (t : List Vt),(∀ f ∈ t,∀ m,bytV m f ≤ m → bytV m f = btV f) → ∀ n,bytVs m n t ≤ m → bytVs m n t = n + btVs t := by
  intro t
  induction t with
  | nil => intro _ n _;rw [bytVs,btVs];rfl
  | cons f t ih2 =>
   intro hf n hn
   rw [bytVs] at hn ⊢
   split at hn
   ·rename_i hnm
    have h2 := bytVs_ge (m := m) t (n + bytV (m - n) f)
    have h3 := hf f (by simp) (m - n) (by omega)
    have h4 := ih2 (fun g hg => hf g (by simp [hg])) _ hn
    rw [if_pos hnm,h4,h3,btVs]
    omega
   ·omega
 rw [bytV] at hm ⊢
 rw [key l ih _ hm,btV]
/-- What is written: its bytes, and eight for each value. -/
theorem wr_len2 (f : Fm) : checkR f = 0 → ∀ x n,fitR f x = (n,0) → (writeR f x).length ≤ btV x + 8 * szV x := by
 induction f using RT.induct with
 | h h P ih =>
 intro hck x n hfit
 obtain ⟨hown,hone,h32,hch⟩ := check_ok hck
 obtain ⟨⟨a,b⟩,l⟩ := x
 rw [fitR_mk] at hfit
 rw [szV,btV]
 by_cases hal : aloneB h.k a b.length l.length = false
 ·rw [if_pos hal] at hfit
  simp at hfit
 rw [if_neg hal] at hfit
 simp only at hfit
 by_cases k0 : h.k = 0
 ·have hs := hown.k0 k0
  rw [writeR_mk,if_pos k0,beB_length]
  omega
 rw [if_neg k0] at hfit
 by_cases k1 : h.k = 1
 ·rw [if_pos k1] at hfit
  obtain ⟨hs1,hs2,hl1,hl2,hl3,_⟩ := hown.k12 (.inl k1)
  injection hfit with _ hm
  obtain ⟨m1,m2,m3⟩ := mayR_ok hm
  rw [writeR_mk,if_neg k0,if_pos k1,List.length_append,beB_length]
  simp only
  omega
 rw [if_neg k1] at hfit
 by_cases k4 : h.k = 4
 ·rw [if_pos k4] at hfit
  have hl := hown.k4 k4
  injection hfit with _ hm
  obtain ⟨m1,m2,m3⟩ := mayR_ok hm
  rw [writeR_mk,if_neg k0,if_neg k1,if_pos (.inl k4)]
  simp only
  omega
 rw [if_neg k4] at hfit
 by_cases k5 : h.k = 5
 ·rw [if_pos k5] at hfit
  have hl := hown.k5 k5
  injection hfit with _ hm
  obtain ⟨m1,m2,m3⟩ := mayR_ok hm
  rw [writeR_mk,if_neg k0,if_neg k1,if_pos (.inr k5)]
  simp only
  omega
 rw [if_neg k5] at hfit
 have hk := hown.k
 have hk23 : h.k = 2 ∨ h.k = 3 := by omega
 have hPc : ∀ y ∈ P,checkR y = 0 := (hch hk23).1
 have hin : ∀ i,0 < P.length → P.getD (i % P.length) nilF ∈ P := by
  intro i hp
  have : i % P.length < P.length := Nat.mod_lt _ hp
  simp [this]
 have key : 0 < P.length → ∀ (ys : List Vt) (i : Nat) (c0 n : Int),fitL (.mk h P) c0 i ys = (n,0) → (writeL (.mk h P) i ys).length ≤ btVs ys + 8 * szVs ys := by
  intro hp ys
  induction ys with
  | nil => intro i c0 n _;rw [writeL];exact Nat.zero_le _
  | cons y t iht =>
   intro i c0 n hft
   rw [fitL] at hft
   obtain ⟨⟨k,e⟩,hke⟩ : ∃ r,fitR ((RT.mk h P).l.getD (i % (RT.mk h P).l.length) nilF) y = r := ⟨_,rfl⟩
   rw [hke] at hft
   simp only at hft
   by_cases he : e = 0
   rotate_left
   ·rw [if_neg he] at hft
    injection hft with _ h2
    exact absurd h2 he
   subst he
   rw [if_pos rfl] at hft
   have h1 := ih _ (hin i hp) (hPc _ (hin i hp)) y k hke
   have h2 := iht _ _ _ hft
   rw [writeL,List.length_append,szVs,btVs]
   simp only [RT.l]
   omega
 by_cases k3 : h.k = 3
 ·by_cases hlen : l.length = P.length
  rotate_left
  ·rw [if_pos ⟨k3,hlen⟩] at hfit
   simp at hfit
  rw [if_neg (fun hh => hh.2 hlen)] at hfit
  rw [writeR_mk,if_neg k0,if_neg k1,if_neg (by omega),if_neg (by omega)]
  by_cases hp : 0 < P.length
  ·have := key hp l 0 0 n hfit
   omega
  ·obtain rfl : l = [] := List.eq_nil_of_length_eq_zero (by omega)
   rw [writeL]
   simp
 rw [if_neg (fun hh => k3 hh.1)] at hfit
 have k2 : h.k = 2 := by omega
 obtain ⟨g,rfl,_⟩ := list_item hck k2
 obtain ⟨hs1,hs2,_⟩ := hown.k12 (.inr k2)
 have := key (by simp) l 0 0 n hfit
 rw [writeR_mk,if_neg k0,if_neg k1,if_neg (by omega),if_pos k2,List.length_append,beB_length]
 omega
end Go.Proofs.Ytdhnfccgojgehaa

namespace Go.Proofs.Ytdhnfccgojgehaa
open Go.RowKit YtdhnfccgojgehaaW.PrintWords

theorem greatL_any (ok ok2 : Nat → Prop) (f : Fm) (l : List Vt) (v u : Value) (w : World) (hv : FmR w ok v f) (hu : VsR w ok2 u l) (hw : ∀ x ∈ l,wfV x = true) : Calls Try.prog 7 #[v,u] w fun e w' => e = .returned (.int .i64 (if decide (500 < cntR 500 f) || l.any bigV then 1 else 0)) ∧ Kp (fun _ => False) w w' := by
 obtain ⟨A2,c2,rfl,hlc,hl,ht⟩ := id hu
 obtain ⟨K,hK⟩ := (Great_ev f l hv.wf hl hw).rounds
 obtain ⟨⟨k,s,lo,hi,st⟩,P⟩ := f
 obtain ⟨A,c,rfl,_,_,_,_,_,_,_,h1⟩ := hv.parts
 obtain ⟨_,g1,g2⟩ := h1.c
 obtain ⟨_,g5,g6⟩ := hu.c
 have := QP.passepartoutlaw05_Great.calls K k s lo hi st A c (P.map ofF) A2 c2 (l.map ofV) _ w g2 g1 g6 g5 hK
 simp only [List.length_map] at this
 exact this.mono fun e w' h => ⟨h.1,Kp.of_below h.2⟩
theorem VtR.one_ {W : World} {ok : Nat → Prop} {a : Int} {b : List UInt8} {l : List Vt} {A1 A2 : Option Addr} {c1 c2 g : Nat} (h : VtR W ok (.agg #[.int .u64 a,.slice A1 b.length c1,.slice A2 l.length c2]) (.mk ⟨a,b⟩ l)) (hb : Blk W g 29 #[.int .u64 a,.slice A1 b.length c1,.slice A2 l.length c2]) (ho : ok g) :
  VsR W ok (.slice (some ⟨g,0,none⟩) 1 1) [.mk ⟨a,b⟩ l] := by
 obtain ⟨bv,sv,e,ht⟩ := h.tr
 simp only [RT.a,Value.agg.injEq,Array.mk.injEq,List.cons.injEq,and_true,true_and] at e
 obtain ⟨rfl,rfl⟩ := e
 exact ⟨_,_,rfl,Nat.le_refl _,by simp,tl_one hb ho _ _ ht rfl⟩
end Go.Proofs.Ytdhnfccgojgehaa

namespace Go.Proofs.Ytdhnfccgojgehaa
open Go.RowKit

/-- What is not too great has few bytes. -/
theorem wr_small {f : Fm} {x : Vt} {n : Int} (hs : sizeR f x = (n,0)) (hb : bigV x = false) : (writeR f x).length ≤ 36000 ∧ cntV 2000 x ≤ 2000 := by
 obtain ⟨hd,hck,hft,hfn⟩ := sizeR_ok (f := f) (x := x) (by rw [hs])
 unfold bigV at hb
 rw [Bool.or_eq_false_iff,decide_eq_false_iff_not,decide_eq_false_iff_not] at hb
 have h1 := cntV_sz x 2000 (by omega)
 have h2 := bytV_sz x 20000 (by omega)
 have h3 := wr_len2 f hck x (fitR f x).1 (Prod.ext rfl hft)
 omega

end Go.Proofs.Ytdhnfccgojgehaa

namespace Go.Proofs.Ytdhnfccgojgehaa
open Go.RowKit

theorem deep_partW {f : Fm} (h : deepB 7 f = false) : deepB 8 f = false := by
 rw [dep_deep f 7 9 (by omega)] at h
 rw [dep_deep f 8 9 (by omega)]
 simp only [decide_eq_false_iff_not] at h ⊢
 omega
abbrev rowW (f g : Fm) : Fm := .mk ⟨3,0,0,0,0⟩ [f,g]
abbrev pairW (x y : Vt) : Vt := .mk ⟨0,[]⟩ [x,y]
theorem row_parts {f g : Fm} (h : chk8 (rowW f g) = 0) : chk8 f = 0 ∧ chk8 g = 0 := by
 obtain ⟨hd,hc⟩ := chk8_ok h
 obtain ⟨_,_,_,hch⟩ := check_ok hc
 have hPc := (hch (.inr rfl)).1
 have h1 : ([f,g].any (deepB 7)) = false := by
  have e : deepB 8 (rowW f g) = (partsF (rowW f g)).any (deepB 7) := by rw [deepB]
  rw [e] at hd
  exact hd
 have hf : deepB 7 f = false ∧ deepB 7 g = false := by simpa using h1
 have key : ∀ y,deepB 7 y = false → checkR y = 0 → chk8 y = 0 := by
  intro y h1 h2
  unfold chk8
  rw [deep_partW h1,if_neg (by simp),h2]
 exact ⟨key f hf.1 (hPc f (by simp)),key g hf.2 (hPc g (by simp))⟩
theorem size_chk {f : Fm} {x : Vt} (h : chk8 f = 0) : sizeR f x = if (fitR f x).2 = 0 then ((fitR f x).1,0) else (0,(fitR f x).2) := sizeR_eq (chk8_ok h).1 (chk8_ok h).2
theorem fit_pair (f g : Fm) (x y : Vt) : fitR (rowW f g) (pairW x y) = if (fitR f x).2 = 0 then (if (fitR g y).2 = 0 then (wrap64 (wrap64 (fitR f x).1 + (fitR g y).1),0) else (0,(fitR g y).2)) else (0,(fitR f x).2) := by
 have e : fld 3 = 2 := by decide
 rw [fitR_mk]
 simp only []
 rw [if_neg (by simp [aloneB,e]),if_neg (by decide),if_neg (by decide),if_neg (by decide),if_neg (by decide),if_neg (by simp)]
 have e1 := fitL_cons ⟨3,0,0,0,0⟩ [f,g] 0 0 x [y]
 have e2 := fun q => fitL_cons ⟨3,0,0,0,0⟩ [f,g] q 1 y []
 have e3 := fun q => fitL_nil ⟨3,0,0,0,0⟩ [f,g] q 2
 have d0 : ([f,g] : List Fm).getD (0 % ([f,g] : List Fm).length) nilF = f := rfl
 have d1 : ([f,g] : List Fm).getD (1 % ([f,g] : List Fm).length) nilF = g := rfl
 simp only [d0,Int.zero_add] at e1
 simp only [d1] at e2
 rw [e1,e2,e3]
 rfl
theorem write_pair (f g : Fm) (x y : Vt) : writeR (rowW f g) (pairW x y) = writeR f x ++ writeR g y := by
 rw [writeR_mk,if_neg (by decide),if_neg (by decide),if_neg (by decide),if_neg (by decide),writeL,writeL,writeL]
 simp [RT.l]
/-- One that doesn't fit its form: the row doesn't. -/
theorem pair_bad {f g : Fm} {x y : Vt} (h : chk8 (rowW f g) = 0) (hn : (sizeR f x).2 ≠ 0 ∨ (sizeR g y).2 ≠ 0) : (sizeR (rowW f g) (pairW x y)).2 ≠ 0 := by
 obtain ⟨h1,h2⟩ := row_parts h
 rw [size_chk h1,size_chk h2] at hn
 rw [size_chk h,fit_pair]
 by_cases a : (fitR f x).2 = 0
 ·by_cases b : (fitR g y).2 = 0
  ·simp [a,b] at hn
  ·simp [a,b]
 ·simp [a]
/-- Both fit: the row does. -/
theorem pair_good {f g : Fm} {x y : Vt} {n m : Int} (h : chk8 (rowW f g) = 0) (h1 : sizeR f x = (n,0)) (h2 : sizeR g y = (m,0)) : ∃ q,sizeR (rowW f g) (pairW x y) = (q,0) := by
 obtain ⟨c1,c2⟩ := row_parts h
 rw [size_chk c1] at h1
 rw [size_chk c2] at h2
 rw [size_chk h,fit_pair]
 by_cases a : (fitR f x).2 = 0
 ·by_cases b : (fitR g y).2 = 0
  ·exact ⟨_,by rw [if_pos a,if_pos b,if_pos rfl]⟩
  ·rw [if_neg b] at h2
   simp at h2
   exact absurd h2.2 b
 ·rw [if_neg a] at h1
  simp at h1
  exact absurd h1.2 a
theorem FmR.two {W : World} {ok : Nat → Prop} {k s lo hi st k' s' lo' hi' st' : Int} {P P' : List Fm} {A A' : Option Addr} {n n' c c' g : Nat} {t : TypeId}
  (h1 : FmR W ok (.agg #[.int .i64 k,.int .i64 s,.int .i64 lo,.int .i64 hi,.int .i64 st,.slice A n c]) (.mk ⟨k,s,lo,hi,st⟩ P)) (h2 : FmR W ok (.agg #[.int .i64 k',.int .i64 s',.int .i64 lo',.int .i64 hi',.int .i64 st',.slice A' n' c']) (.mk ⟨k',s',lo',hi',st'⟩ P'))
  (hb : Blk W g t #[.int .i64 k,.int .i64 s,.int .i64 lo,.int .i64 hi,.int .i64 st,.slice A n c,.int .i64 k',.int .i64 s',.int .i64 lo',.int .i64 hi',.int .i64 st',.slice A' n' c']) (ho : ok g) :
  FmR W ok (.agg #[.int .i64 3,.int .i64 0,.int .i64 0,.int .i64 0,.int .i64 0,.slice (some ⟨g,0,none⟩) 2 2]) (rowW (.mk ⟨k,s,lo,hi,st⟩ P) (.mk ⟨k',s',lo',hi',st'⟩ P')) := by
 obtain ⟨sv,e,t1⟩ := h1.tr
 simp only [RT.a,Value.agg.injEq,Array.mk.injEq,List.cons.injEq,and_true,true_and] at e
 subst e
 obtain ⟨sv,e,t2⟩ := h2.tr
 simp only [RT.a,Value.agg.injEq,Array.mk.injEq,List.cons.injEq,and_true,true_and] at e
 subst e
 exact (FmR.of_tr (tr_form ⟨3,0,0,0,0⟩ (fh_small _ _ _ _ _ (by simp)) _ _ 2 2 rfl (Nat.le_refl _) (by simp) (tl_two hb ho _ _ _ _ t1 t2 rfl rfl))).1
theorem VtR.two {W : World} {ok : Nat → Prop} {a a' : Int} {b b' : List UInt8} {l l' : List Vt} {A1 A2 A1' A2' : Option Addr} {c1 c2 c1' c2' g : Nat} {t : TypeId}
  (h1 : VtR W ok (.agg #[.int .u64 a,.slice A1 b.length c1,.slice A2 l.length c2]) (.mk ⟨a,b⟩ l)) (h2 : VtR W ok (.agg #[.int .u64 a',.slice A1' b'.length c1',.slice A2' l'.length c2']) (.mk ⟨a',b'⟩ l'))
  (hb : Blk W g t #[.int .u64 a,.slice A1 b.length c1,.slice A2 l.length c2,.int .u64 a',.slice A1' b'.length c1',.slice A2' l'.length c2']) (ho : ok g) :
  VsR W ok (.slice (some ⟨g,0,none⟩) 2 2) [.mk ⟨a,b⟩ l,.mk ⟨a',b'⟩ l'] ∧ VtR W ok (.agg #[.int .u64 0,.slice none 0 0,.slice (some ⟨g,0,none⟩) 2 2]) (pairW (.mk ⟨a,b⟩ l) (.mk ⟨a',b'⟩ l')) := by
 obtain ⟨bv,sv,e,t1⟩ := h1.tr
 simp only [RT.a,Value.agg.injEq,Array.mk.injEq,List.cons.injEq,and_true,true_and] at e
 obtain ⟨rfl,rfl⟩ := e
 obtain ⟨bv,sv,e,t2⟩ := h2.tr
 simp only [RT.a,Value.agg.injEq,Array.mk.injEq,List.cons.injEq,and_true,true_and] at e
 obtain ⟨rfl,rfl⟩ := e
 have h := tl_two hb ho _ _ _ _ t1 t2 rfl rfl
 exact ⟨⟨_,_,rfl,Nat.le_refl _,by simp,h⟩,(VtR.of_tr (tr_value 0 (u64_small 0 (by decide) (by decide)) _ _ 2 2 rfl (Nat.le_refl _) (by simp) h)).1⟩
end Go.Proofs.Ytdhnfccgojgehaa

namespace Go.Proofs.Ytdhnfccgojgehaa
open Go.Joins Go.ChangeShapes Go.WideShapes Go.ChangeAt Go.RowKit Go.Deep

theorem i64B_of {n : Int} (h : (Lit.int .i64 n).wf = true) : i64B n := by
 obtain ⟨h0,h1⟩ := bounds_i64 h
 exact ⟨h0,by omega⟩
section
variable {H : Type} {enc : TypeId × Value → H} {w : World} {sp : Nat → Bool} {held : Bool} {r : Reach} {b0 : Nat}
end
end Go.Proofs.Ytdhnfccgojgehaa

namespace Go.Proofs.Ytdhnfccgojgehaa
set_option maxRecDepth 100000
open Go.Joins Go.ChangeShapes Go.WideShapes Go.ChangeAt Go.RowKit Go.Deep

theorem okWide_struct_ {P : Program} {w : World} {r : Reach} {b : Nat} {t : TypeId} {fs : Array Field} {v : Value} (ht : P.underlying t = some (.struct fs)) (h : Value.okWide P w r b t v) : ∃ cs,v = .agg cs := by
 simp only [Value.okWide,ht] at h
 obtain ⟨cs,h1,_⟩ := h
 exact ⟨cs,h1⟩
theorem form_type : TreeType Try.prog 24 22 (match Try.prog.underlying 24 with | some (.struct fs) => fs | _ => #[]) 5 where
 ht := by rw [Try.underlying24]
 hone := by rw [Try.underlying24];kernel_rfl
 hC := by kernel_rfl
 hn := by rw [Try.underlying24];rfl
 hlast := by rw [Try.underlying24];rfl
 hts := Try.underlying22
 hB := by rw [show Try.prog.bytesOf 24 = 64 from by kernel_rfl];omega
section
variable {H : Type} {enc : TypeId × Value → H} {w : World} {sp : Nat → Bool} {held : Bool} {r : Reach} {b0 : Nat}
theorem sized_at {P : Program} {ts : List TypeId} {ds : List (DataW H)} (hsz : (DataW.weightsEach P ts ds).all (· ≤ reachBytes) = true) {j : Nat} {t : TypeId} {d : DataW H} (ht : ts[j]? = some t) (hd : ds[j]? = some d) : (d.weights P t).all (· ≤ reachBytes) = true :=
 List.all_eq_true.2 fun n hn => List.all_eq_true.1 hsz n (DataW.weights_mem_each ht hd n hn)
theorem form_head : HeadOpen enc Try.prog w sp held (match Try.prog.underlying 24 with | some (.struct fs) => fs | _ => #[]) 5 FHd := by
 intro vs ds hl hf
 have each : ∀ i,i < 5 → ∃ n : Int,vs[i]? = some (.int .i64 n) ∧ i64B n := by
  intro i hi
  obtain ⟨f,v,d,ps,fuel,hfi,hv,_,ht,_⟩ := hf i hi
  have hft : f.type = 3 := by
   rw [Try.underlying24] at hfi
   rcases (show i = 0 ∨ i = 1 ∨ i = 2 ∨ i = 3 ∨ i = 4 by omega) with rfl | rfl | rfl | rfl | rfl <;>
    ·simp at hfi
     rw [← hfi]
  rw [hft] at ht
  obtain ⟨k0,e0,_,hw0⟩ := DataW.trod_int Try.underlying3 ht
  simp only [List.cons.injEq,and_true] at e0
  exact ⟨k0,by rw [hv,e0],i64B_of hw0⟩
 obtain ⟨a,ha,b0⟩ := each 0 (by omega)
 obtain ⟨b,hb,b1⟩ := each 1 (by omega)
 obtain ⟨c,hc,b2⟩ := each 2 (by omega)
 obtain ⟨d,hd,b3⟩ := each 3 (by omega)
 obtain ⟨e,he,b4⟩ := each 4 (by omega)
 refine ⟨⟨a,b,c,d,e⟩,?_,⟨b0,b1,b2,b3,b4⟩⟩
 rcases vs with _ | ⟨v0,_ | ⟨v1,_ | ⟨v2,_ | ⟨v3,_ | ⟨v4,_ | ⟨v5,vs⟩⟩⟩⟩⟩⟩ <;> simp_all
theorem open_form {v : Value} {d : DataW H} {ps : List MemPlace} {ts : List TypeId} {ds : List (DataW H)} (hv : Value.okWide Try.prog w r b0 24 v) (h : DataW.Trod enc Try.prog w 0 sp held 24 v d ps)
  (_hsz : (DataW.weightsEach Try.prog ts ds).all (· ≤ reachBytes) = true) {j : Nat} (_ht : ts[j]? = some 24) (_hd : ds[j]? = some d) : ∃ x : Fm,FmR w (· < w.heap.size) v x := by
 obtain ⟨cs,rfl⟩ := okWide_struct_ Try.underlying24 hv
 obtain ⟨fuel,hf⟩ := h
 obtain ⟨x,hx⟩ := (open_tree_ form_type form_head fuel).1 _ _ _ hf (sized_at _hsz _ht _hd)
 have h1 := (FmR.of_tr hx).1
 rw [show (Value.agg cs).cells.toList.toArray = cs from by simp [Value.cells]] at h1
 exact ⟨x,h1⟩
end
end Go.Proofs.Ytdhnfccgojgehaa

namespace Go.Proofs.Ytdhnfccgojgehaa
open Go.ChangeShapes Go.WideShapes Go.ChangeAt Go.RowKit Go.Deep

section
variable {H : Type} {enc : TypeId × Value → H} {P : Program} {w : World} {spare : Nat → Bool} {held : Bool}

theorem cells_ir {t e : TypeId} {k : IntKind} {v : Value} {fuel : Nat} {x : DataW H × List MemPlace} (ht : P.underlying t = some (.slice e)) (he : P.underlying e = some (.int k)) (hC : P.cellsOf e = 1)
  (hf : DataW.trod enc P w 0 spare held fuel t [v] = some x) :
  ∃ l : List Int,IR k w (· < w.heap.size) v l ∧ (∀ n ∈ l,(Lit.int k n).wf = true) ∧ lenD x.1 = l.length ∧ l.length ≤ maxLen := by
 rcases open_ints ht he hC hf with ⟨hcs,hx⟩ | ⟨x,l,c,zs,hcs,_,hl,hm,hz,hx,hcell,hwz⟩
 ·simp only [List.cons.injEq,and_true] at hcs
  subst hcs hx
  exact ⟨[],⟨none,0,rfl,Nat.le_refl _,Rd.none_⟩,fun n hn => by simp at hn,rfl,Nat.zero_le _⟩
 ·simp only [List.cons.injEq,and_true] at hcs
  subst hcs hx
  have hlz : l ≤ zs.length := by rw [hz];split <;> omega
  have hlt : (zs.take l).length = l := by simp;omega
  refine ⟨zs.take l,⟨some x,c,?_,?_,?_,fun hn => ?_⟩,fun n hn => hwz n (List.mem_of_mem_take hn),?_,by rw [hlt];omega⟩
  ·rw [hlt]
  ·rw [hlt];exact hl
  ·simp [ic]
  ·have h0 := hcell 0 (by rw [hlt] at hn;omega)
   have hsp : x.spot = none := by simpa [Addr.add] using World.cell?_spot h0
   have hb := cell_lt h0
   rw [block_add] at hb
   refine ⟨x,rfl,hsp,hb,fun j u hu => ?_⟩
   simp only [ic,List.getElem?_map,List.getElem?_take] at hu
   split at hu
   ·rename_i hj
    have hj' : j < zs.length := by omega
    rw [List.getElem?_eq_getElem hj'] at hu
    simp at hu
    subst hu
    have h1 := hcell j hj'
    rw [h1]
    simp [List.getElem?_eq_getElem hj']
   ·simp at hu
  ·simp [lenD,lits]

theorem cells_br {t e : TypeId} {v : Value} {fuel : Nat} {x : DataW H × List MemPlace} (ht : P.underlying t = some (.slice e)) (he : P.underlying e = some (.int .u8)) (hC : P.cellsOf e = 1)
  (hf : DataW.trod enc P w 0 spare held fuel t [v] = some x) :
  ∃ l : List UInt8,BR w (· < w.heap.size) v l ∧ lenD x.1 = l.length ∧ l.length ≤ maxLen := by
 obtain ⟨l,⟨A,c,rfl,hc,hr⟩,hw,hd,hm⟩ := cells_ir ht he hC hf
 obtain ⟨m,hme,hl⟩ := bytes_of hw
 refine ⟨m,⟨A,c,by rw [hl],by omega,?_⟩,by omega,by omega⟩
 rw [← hme,hl]
 exact hr
end
end Go.Proofs.Ytdhnfccgojgehaa

namespace Go.Proofs.Ytdhnfccgojgehaa
set_option maxRecDepth 100000
open Go.Joins Go.ChangeShapes Go.WideShapes Go.ChangeAt Go.RowKit Go.Deep

theorem value_type : TreeType Try.prog 29 27 (match Try.prog.underlying 29 with | some (.struct fs) => fs | _ => #[]) 2 where
 ht := by rw [Try.underlying29]
 hone := by rw [Try.underlying29];kernel_rfl
 hC := by kernel_rfl
 hn := by rw [Try.underlying29];rfl
 hlast := by rw [Try.underlying29];rfl
 hts := Try.underlying27
 hB := by rw [show Try.prog.bytesOf 29 = 56 from by kernel_rfl];omega
section
variable {H : Type} {enc : TypeId × Value → H} {w : World} {sp : Nat → Bool} {held : Bool} {r : Reach} {b0 : Nat}
theorem weights_lenD {P : Program} {t e : TypeId} {d : DataW H} (ht : P.underlying t = some (.slice e)) (h : (d.weights P t).all (· ≤ reachBytes) = true) : lenD d * P.bytesOf e ≤ 140737488351232 := by
 cases d with
 | slice es rest => exact weights_len ht h
 | _ => simp [lenD]
theorem value_head : HeadOpen enc Try.prog w sp held (match Try.prog.underlying 29 with | some (.struct fs) => fs | _ => #[]) 2 VHd := by
 intro vs ds hl hf
 obtain ⟨f0,v0,d0,ps0,fuel0,hf0,hv0,_,ht0,_⟩ := hf 0 (by omega)
 obtain ⟨f1,v1,d1,ps1,fuel1,hf1,hv1,_,ht1,hw1⟩ := hf 1 (by omega)
 have e0 : f0.type = 25 := by
  rw [Try.underlying29] at hf0
  simp at hf0
  rw [← hf0]
 have e1 : f1.type = 26 := by
  rw [Try.underlying29] at hf1
  simp at hf1
  rw [← hf1]
 rw [e0] at ht0
 rw [e1] at ht1 hw1
 obtain ⟨k0,x0,_,hk0⟩ := DataW.trod_int Try.underlying25 ht0
 simp only [List.cons.injEq,and_true] at x0
 obtain ⟨b,hb,hb2,_⟩ := cells_br Try.underlying26 Try.underlying5 (by kernel_rfl) ht1
 have hlen := weights_lenD Try.underlying26 hw1
 rw [show Try.prog.bytesOf 5 = 1 from by kernel_rfl,Nat.mul_one] at hlen
 obtain ⟨q0,q1⟩ := bounds_u64 hk0
 refine ⟨⟨k0,b⟩,v1,?_,⟨q0,by show k0 < _;omega⟩,hb,by show b.length ≤ _;simp only at hb2;omega⟩
 rcases vs with _ | ⟨y0,_ | ⟨y1,_ | ⟨y2,vs⟩⟩⟩ <;> simp_all
end
end Go.Proofs.Ytdhnfccgojgehaa

namespace Go.Proofs.Ytdhnfccgojgehaa
set_option maxRecDepth 100000
open Go.Joins Go.ChangeShapes Go.WideShapes Go.ChangeAt Go.RowKit Go.Deep

theorem okWide_arr2 {P : Program} {w : World} {r : Reach} {b : Nat} {t e : TypeId} {n : Nat} {v : Value} (ht : P.underlying t = some (.array n e)) (h : Value.okWide P w r b t v) : ∃ cs,v = .agg cs ∧ cs.size = P.cellsOf t := by
 simp only [Value.okWide,ht] at h
 obtain ⟨cs,h1,h2,_⟩ := h
 exact ⟨cs,h1,h2⟩
section
variable {H : Type} {enc : TypeId × Value → H} {w : World} {sp : Nat → Bool} {held : Bool} {r : Reach} {b0 : Nat}
/-- Two values, as the cells of one array. -/
def TwoR (w : World) (v : Value) (x : Vt × Vt) : Prop :=
 ∃ n0 v0 v1 n1 v2 v3,v = .agg #[n0,v0,v1,n1,v2,v3] ∧ VtR w (· < w.heap.size) (.agg #[n0,v0,v1]) x.1 ∧ VtR w (· < w.heap.size) (.agg #[n1,v2,v3]) x.2
theorem open_two {v : Value} {d : DataW H} {ps : List MemPlace} {ts : List TypeId} {ds : List (DataW H)} (hv : Value.okWide Try.prog w r b0 30 v) (h : DataW.Trod enc Try.prog w 0 sp held 30 v d ps)
  (_hsz : (DataW.weightsEach Try.prog ts ds).all (· ≤ reachBytes) = true) {j : Nat} (_ht : ts[j]? = some 30) (_hd : ds[j]? = some d) : ∃ x : Vt × Vt,TwoR w v x := by
 obtain ⟨cs,rfl,hsz⟩ := okWide_arr2 Try.underlying30 hv
 rw [show Try.prog.cellsOf 30 = 6 from by kernel_rfl] at hsz
 obtain ⟨c0,c1,c2,c3,c4,c5,rfl⟩ : ∃ c0 c1 c2 c3 c4 c5,cs = #[c0,c1,c2,c3,c4,c5] := by
  obtain ⟨l⟩ := cs
  rcases l with _ | ⟨c0,_ | ⟨c1,_ | ⟨c2,_ | ⟨c3,_ | ⟨c4,_ | ⟨c5,_ | ⟨c6,l⟩⟩⟩⟩⟩⟩⟩ <;> simp at hsz
  exact ⟨_,_,_,_,_,_,rfl⟩
 have hw := sized_at _hsz _ht _hd
 obtain ⟨fuel,hf⟩ := h
 obtain ⟨xs,m,_,e2,_,hl,hat⟩ := DataW.trod_array Try.underlying30 hf
 rw [show Try.prog.cellsOf 29 = 3 from by kernel_rfl] at hat
 injection e2 with e2 _
 subst e2
 rw [DataW.weights,Try.underlying30] at hw
 have each : ∀ (i : Nat) (hi : i < xs.length) (l : List Value),(([c0,c1,c2,c3,c4,c5] : List Value).drop (i * 3)).take 3 = l → ∃ x : Vt,TR VHd 3 w (· < w.heap.size) x l := by
  intro i hi l hle
  have h1 := hat i (by omega)
  have h2 : ((Value.agg #[c0,c1,c2,c3,c4,c5]).cells.toList.drop (i * 3)).take 3 = l := hle
  rw [h2,List.getElem?_eq_getElem hi] at h1
  refine (open_tree_ value_type value_head m).1 _ _ _ h1 ?_
  refine List.all_eq_true.2 fun n hn => List.all_eq_true.1 hw n (weights_mem_all (i := i) ?_ n hn)
  rw [List.getElem?_map,List.getElem?_eq_getElem hi]
  rfl
 obtain ⟨x0,h0⟩ := each 0 (by omega) [c0,c1,c2] rfl
 obtain ⟨x1,h1⟩ := each 1 (by omega) [c3,c4,c5] rfl
 exact ⟨(x0,x1),c0,c1,c2,c3,c4,c5,rfl,(VtR.of_tr h0).1,(VtR.of_tr h1).1⟩
end
end Go.Proofs.Ytdhnfccgojgehaa

namespace Go.Proofs.Ytdhnfccgojgehaa
open Go.RowKit

theorem add_strW (W : World) (a b : List UInt8) (h : a.length + b.length ≤ 1000000) : (Op.stringOp .add (str a) (str b)).run Try.prog W = .ok (.string (str (a ++ b))) W := by
 have h1 : ¬ (((str a).size + (str b).size : Nat) : Int) > IntKind.i64.max := by
  rw [str_size,str_size,show IntKind.i64.max = 9223372036854775807 by decide]
  omega
 simp only [Op.stringOp,if_neg h1,str_append]
 rfl
theorem pair_len {f g : Fm} {x y : Vt} {n : Int} (he : sizeR (rowW f g) (pairW x y) = (n,0)) : sizeR f x = ((sizeR f x).1,0) ∧ sizeR g y = ((sizeR g y).1,0) := by
 have h : chk8 (rowW f g) = 0 := by
  obtain ⟨hd,hc,_,_⟩ := sizeR_ok (f := rowW f g) (x := pairW x y) (by rw [he])
  unfold chk8
  rw [hd,if_neg (by simp),hc]
 have h1 : (sizeR f x).2 = 0 := Decidable.byContradiction fun hn => pair_bad (y := y) h (.inl hn) (by rw [he])
 have h2 : (sizeR g y).2 = 0 := Decidable.byContradiction fun hn => pair_bad (x := x) h (.inr hn) (by rw [he])
 exact ⟨Prod.ext rfl h1,Prod.ext rfl h2⟩
/-- What write.Write answers, whether it fits or not. -/
theorem wwrite_at (f : Fm) (x : Vt) (fv vv : Value) (w : World) (hz : szF f ≤ 100000) (hf : FmR w (· < w.heap.size) fv f) (hv : VtR w (· < w.heap.size) vv x) (n e : Int) (he : sizeR f x = (n,e)) (hbd : bigV x = false) :
  Calls Try.prog 9 #[fv,vv] w fun en w' => ∃ A c,en = .returned (.tuple #[.slice A (if e = 0 then writeR f x else []).length c,.int .i64 e]) ∧ BR w' (fun i => w.heap.size ≤ i) (.slice A (if e = 0 then writeR f x else []).length c) (if e = 0 then writeR f x else []) ∧ Kp (fun _ => False) w w' := by
 by_cases h : e = 0
 ·subst h
  rw [if_pos rfl]
  exact wwrite_ok f x fv vv w hz hf hv n he hv.wf (by have := (wr_small he hbd).1;omega)
 ·rw [if_neg h]
  refine (wwrite_bad _ _ f x fv vv w (fun _ h => h) hf hv n e he h).mono ?_
  rintro en w' ⟨rfl,hk⟩
  exact ⟨none,0,rfl,BR.nil,hk⟩
theorem bad_len {f : Fm} {x : Vt} {n e : Int} (hb : bigV x = false) (he : sizeR f x = (n,e)) : (if e = 0 then writeR f x else []).length ≤ 36000 := by
 by_cases h : e = 0
 ·subst h
  rw [if_pos rfl]
  exact (wr_small he hb).1
 ·rw [if_neg h]
  simp

theorem wrow_at (w : World) (f g : Fm) (x y : Vt) {fv vv : Value} (hz : szF (rowW f g) ≤ 100000) (hf : FmR w (· < w.heap.size) fv (rowW f g)) (hv : VtR w (· < w.heap.size) vv (pairW x y)) (n e : Int) (he : sizeR (rowW f g) (pairW x y) = (n,e)) (u : List UInt8) (hu : (if e = 0 then writeR (rowW f g) (pairW x y) else []) = u) (hx : bigV x = false) (hy : bigV y = false) :
  Calls Try.prog 9 #[fv,vv] w fun en w' => ∃ A c,en = .returned (.tuple #[.slice A u.length c,.int .i64 e]) ∧ BR w' (fun i => w.heap.size ≤ i) (.slice A u.length c) u ∧ Kp (fun _ => False) w w' := by
 by_cases h : e = 0
 ·subst h
  rw [if_pos rfl] at hu
  subst hu
  refine wwrite_ok _ _ fv vv w hz hf hv n he hv.wf ?_
  rw [write_pair]
  obtain ⟨h1,h2⟩ := pair_len he
  have := (wr_small h1 hx).1
  have := (wr_small h2 hy).1
  rw [List.length_append]
  omega
 ·rw [if_neg h] at hu
  subst hu
  refine (wwrite_bad _ _ _ _ fv vv w (fun _ h => h) hf hv n e he h).mono ?_
  rintro en w' ⟨rfl,hk⟩
  exact ⟨none,0,rfl,BR.nil,hk⟩

set_option maxRecDepth 100000 in
set_option maxHeartbeats 12800000 in
theorem wrows_walk (w : World) (v : Value) (f : Fm) (hv : FmR w (· < w.heap.size) v f) (v' : Value) (f' : Fm) (hv' : FmR w (· < w.heap.size) v' f') (u : Value) (x : Vt × Vt) (hu : TwoR w u x) :
  Calls Try.prog 3 #[v,v',u] w fun e w' => e = .returned (.bool true) ∧ Below w.heap.size w w' := by
 refine Calls.mono (R := fun e w' => e = .returned (.bool true) ∧ Kp (fun _ => False) w w') ?_ fun _ _ ⟨h1,h2⟩ => ⟨h1,h2.below⟩
 obtain ⟨⟨⟨a,b⟩,l⟩,⟨⟨a',b'⟩,l'⟩⟩ := x
 obtain ⟨_,_,_,_,_,_,rfl,hx,hy⟩ := hu
 obtain ⟨⟨k,s,lo,hi,st⟩,P⟩ := f
 obtain ⟨⟨k',s',lo',hi',st'⟩,P'⟩ := f'
 obtain ⟨A0,c0,rfl⟩ := hv.form_
 obtain ⟨A0',c0',rfl⟩ := hv'.form_
 obtain ⟨A1,c1,A2,c2,e,_,_,_,_,_,_,_⟩ := hx.parts
 simp only [Value.agg.injEq,Array.mk.injEq,List.cons.injEq,and_true] at e
 obtain ⟨rfl,rfl,rfl⟩ := e
 obtain ⟨A1',c1',A2',c2',e,_,_,_,_,_,_,_⟩ := hy.parts
 simp only [Value.agg.injEq,Array.mk.injEq,List.cons.injEq,and_true] at e
 obtain ⟨rfl,rfl,rfl⟩ := e
 have ka := ((((((Kp.refl (fun _ => False) w).alloc (.cells #[.int .i64 k,.int .i64 s,.int .i64 lo,.int .i64 hi,.int .i64 st,.slice A0 P.length c0] 24)).alloc (.cells #[.int .i64 k',.int .i64 s',.int .i64 lo',.int .i64 hi',.int .i64 st',.slice A0' P'.length c0'] 24)).alloc (.cells #[.int .u64 a,.slice A1 b.length c1,.slice A2 l.length c2,.int .u64 a',.slice A1' b'.length c1',.slice A2' l'.length c2'] 30)).alloc (.cells #[.int .i64 k,.int .i64 s,.int .i64 lo,.int .i64 hi,.int .i64 st,.slice A0 P.length c0,.int .i64 k',.int .i64 s',.int .i64 lo',.int .i64 hi',.int .i64 st',.slice A0' P'.length c0'] 24)).alloc (.cells #[.int .i64 3,.int .i64 0,.int .i64 0,.int .i64 0,.int .i64 0,.slice (some ⟨w.heap.size + 1 + 1 + 1,0,none⟩) 2 2] 24))
 have q0 := (((((Blk.new w 24 #[.int .i64 k,.int .i64 s,.int .i64 lo,.int .i64 hi,.int .i64 st,.slice A0 P.length c0]).alloc (.cells #[.int .i64 k',.int .i64 s',.int .i64 lo',.int .i64 hi',.int .i64 st',.slice A0' P'.length c0'] 24)).alloc (.cells #[.int .u64 a,.slice A1 b.length c1,.slice A2 l.length c2,.int .u64 a',.slice A1' b'.length c1',.slice A2' l'.length c2'] 30)).alloc (.cells #[.int .i64 k,.int .i64 s,.int .i64 lo,.int .i64 hi,.int .i64 st,.slice A0 P.length c0,.int .i64 k',.int .i64 s',.int .i64 lo',.int .i64 hi',.int .i64 st',.slice A0' P'.length c0'] 24)).alloc (.cells #[.int .i64 3,.int .i64 0,.int .i64 0,.int .i64 0,.int .i64 0,.slice (some ⟨w.heap.size + 1 + 1 + 1,0,none⟩) 2 2] 24))
 have q1 := ((((Blk.new (w.alloc (.cells #[.int .i64 k,.int .i64 s,.int .i64 lo,.int .i64 hi,.int .i64 st,.slice A0 P.length c0] 24)) 24 #[.int .i64 k',.int .i64 s',.int .i64 lo',.int .i64 hi',.int .i64 st',.slice A0' P'.length c0']).alloc (.cells #[.int .u64 a,.slice A1 b.length c1,.slice A2 l.length c2,.int .u64 a',.slice A1' b'.length c1',.slice A2' l'.length c2'] 30)).alloc (.cells #[.int .i64 k,.int .i64 s,.int .i64 lo,.int .i64 hi,.int .i64 st,.slice A0 P.length c0,.int .i64 k',.int .i64 s',.int .i64 lo',.int .i64 hi',.int .i64 st',.slice A0' P'.length c0'] 24)).alloc (.cells #[.int .i64 3,.int .i64 0,.int .i64 0,.int .i64 0,.int .i64 0,.slice (some ⟨w.heap.size + 1 + 1 + 1,0,none⟩) 2 2] 24))
 have q2 := (((Blk.new ((w.alloc (.cells #[.int .i64 k,.int .i64 s,.int .i64 lo,.int .i64 hi,.int .i64 st,.slice A0 P.length c0] 24)).alloc (.cells #[.int .i64 k',.int .i64 s',.int .i64 lo',.int .i64 hi',.int .i64 st',.slice A0' P'.length c0'] 24)) 30 #[.int .u64 a,.slice A1 b.length c1,.slice A2 l.length c2,.int .u64 a',.slice A1' b'.length c1',.slice A2' l'.length c2']).alloc (.cells #[.int .i64 k,.int .i64 s,.int .i64 lo,.int .i64 hi,.int .i64 st,.slice A0 P.length c0,.int .i64 k',.int .i64 s',.int .i64 lo',.int .i64 hi',.int .i64 st',.slice A0' P'.length c0'] 24)).alloc (.cells #[.int .i64 3,.int .i64 0,.int .i64 0,.int .i64 0,.int .i64 0,.slice (some ⟨w.heap.size + 1 + 1 + 1,0,none⟩) 2 2] 24))
 have q3 := ((Blk.new (((w.alloc (.cells #[.int .i64 k,.int .i64 s,.int .i64 lo,.int .i64 hi,.int .i64 st,.slice A0 P.length c0] 24)).alloc (.cells #[.int .i64 k',.int .i64 s',.int .i64 lo',.int .i64 hi',.int .i64 st',.slice A0' P'.length c0'] 24)).alloc (.cells #[.int .u64 a,.slice A1 b.length c1,.slice A2 l.length c2,.int .u64 a',.slice A1' b'.length c1',.slice A2' l'.length c2'] 30)) 24 #[.int .i64 k,.int .i64 s,.int .i64 lo,.int .i64 hi,.int .i64 st,.slice A0 P.length c0,.int .i64 k',.int .i64 s',.int .i64 lo',.int .i64 hi',.int .i64 st',.slice A0' P'.length c0']).alloc (.cells #[.int .i64 3,.int .i64 0,.int .i64 0,.int .i64 0,.int .i64 0,.slice (some ⟨w.heap.size + 1 + 1 + 1,0,none⟩) 2 2] 24))
 have q4 := (Blk.new ((((w.alloc (.cells #[.int .i64 k,.int .i64 s,.int .i64 lo,.int .i64 hi,.int .i64 st,.slice A0 P.length c0] 24)).alloc (.cells #[.int .i64 k',.int .i64 s',.int .i64 lo',.int .i64 hi',.int .i64 st',.slice A0' P'.length c0'] 24)).alloc (.cells #[.int .u64 a,.slice A1 b.length c1,.slice A2 l.length c2,.int .u64 a',.slice A1' b'.length c1',.slice A2' l'.length c2'] 30)).alloc (.cells #[.int .i64 k,.int .i64 s,.int .i64 lo,.int .i64 hi,.int .i64 st,.slice A0 P.length c0,.int .i64 k',.int .i64 s',.int .i64 lo',.int .i64 hi',.int .i64 st',.slice A0' P'.length c0'] 24)) 24 #[.int .i64 3,.int .i64 0,.int .i64 0,.int .i64 0,.int .i64 0,.slice (some ⟨w.heap.size + 1 + 1 + 1,0,none⟩) 2 2])
 simp only [World.size_alloc] at q1 q2 q3 q4
 have HKA := Lib.hid ka
 have HQ0 := Lib.hid q0
 have HQ1 := Lib.hid q1
 have HQ2 := Lib.hid q2
 have HQ3 := Lib.hid q3
 have HQ4 := Lib.hid q4
 have HV := Lib.hid (fun W (hk : Kp (fun _ => False) w W) => hv.kp hk (fun _ _ h => h))
 have HV' := Lib.hid (fun W (hk : Kp (fun _ => False) w W) => hv'.kp hk (fun _ _ h => h))
 have HX := Lib.hid (fun W (hk : Kp (fun _ => False) w W) => hx.kp hk (fun _ _ h => h))
 have HY := Lib.hid (fun W (hk : Kp (fun _ => False) w W) => hy.kp hk (fun _ _ h => h))
 have HUP := Lib.hid (fun (W : World) (hk : Kp (fun _ => False) w W) i (hi : i < w.heap.size) => Nat.lt_of_lt_of_le hi hk.size)
 have HWX := Lib.hid (And.intro hx.wf hy.wf)
 clear ka q0 q1 q2 q3 q4 hv hv' hx hy
 obtain ⟨gr,hgr⟩ : ∃ gr : Int,(if decide (500 < cntR 500 (rowW (.mk ⟨k,s,lo,hi,st⟩ P) (.mk ⟨k',s',lo',hi',st'⟩ P'))) || [((.mk ⟨a,b⟩ l) : Vt),(.mk ⟨a',b'⟩ l')].any bigV then 1 else 0) = gr := ⟨_,rfl⟩
 obtain ⟨ck,hck⟩ : ∃ ck,chk8 (rowW (.mk ⟨k,s,lo,hi,st⟩ P) (.mk ⟨k',s',lo',hi',st'⟩ P')) = ck := ⟨_,rfl⟩
 have hgc : gr = 1 ∨ (gr = 0 ∧ szF (rowW (.mk ⟨k,s,lo,hi,st⟩ P) (.mk ⟨k',s',lo',hi',st'⟩ P')) ≤ 100000 ∧ bigV (.mk ⟨a,b⟩ l) = false ∧ bigV (.mk ⟨a',b'⟩ l') = false) := by
  by_cases h : 500 < cntR 500 (rowW (.mk ⟨k,s,lo,hi,st⟩ P) (.mk ⟨k',s',lo',hi',st'⟩ P'))
  ·simp [h] at hgr
   exact .inl hgr.symm
  ·cases hb : bigV (.mk ⟨a,b⟩ l) with
   | true =>
    simp [hb] at hgr
    exact .inl hgr.symm
   | false =>
    cases hb2 : bigV (.mk ⟨a',b'⟩ l') with
    | true =>
     simp [hb2] at hgr
     exact .inl hgr.symm
    | false =>
     simp [h,hb,hb2] at hgr
     exact .inr ⟨hgr.symm,sz_ok h,rfl,rfl⟩
 -- the row, the two values, as they lie
 have HRW := Lib.hid (fun W (hk : Kp (fun _ => False) w W) (hb : Blk W (w.heap.size + 1 + 1 + 1) 24 #[.int .i64 k,.int .i64 s,.int .i64 lo,.int .i64 hi,.int .i64 st,.slice A0 P.length c0,.int .i64 k',.int .i64 s',.int .i64 lo',.int .i64 hi',.int .i64 st',.slice A0' P'.length c0']) => FmR.two ((HV.out W hk).mono (HUP.out W hk)) ((HV'.out W hk).mono (HUP.out W hk)) hb hb.lt)
 have HPR := Lib.hid (fun W (hk : Kp (fun _ => False) w W) (hb : Blk W (w.heap.size + 1 + 1) 30 #[.int .u64 a,.slice A1 b.length c1,.slice A2 l.length c2,.int .u64 a',.slice A1' b'.length c1',.slice A2' l'.length c2']) => VtR.two ((HX.out W hk).mono (HUP.out W hk)) ((HY.out W hk).mono (HUP.out W hk)) hb hb.lt)
 have HGR := Lib.hid (fun W (hk : Kp (fun _ => False) w W) (hb : Blk W (w.heap.size + 1 + 1 + 1) 24 #[.int .i64 k,.int .i64 s,.int .i64 lo,.int .i64 hi,.int .i64 st,.slice A0 P.length c0,.int .i64 k',.int .i64 s',.int .i64 lo',.int .i64 hi',.int .i64 st',.slice A0' P'.length c0']) (hb2 : Blk W (w.heap.size + 1 + 1) 30 #[.int .u64 a,.slice A1 b.length c1,.slice A2 l.length c2,.int .u64 a',.slice A1' b'.length c1',.slice A2' l'.length c2']) => greatL_any _ _ (rowW (.mk ⟨k,s,lo,hi,st⟩ P) (.mk ⟨k',s',lo',hi',st'⟩ P')) [(.mk ⟨a,b⟩ l),(.mk ⟨a',b'⟩ l')] _ _ W (HRW.out W hk hb) (HPR.out W hk hb2).1 (fun x hx => by
  rcases List.mem_cons.1 hx with rfl | hx
  ·exact HWX.out.1
  ·rw [List.mem_singleton] at hx
   subst hx
   exact HWX.out.2))
 have HCH := Lib.hid (fun W (hk : Kp (fun _ => False) w W) (hb : Blk W (w.heap.size + 1 + 1 + 1) 24 #[.int .i64 k,.int .i64 s,.int .i64 lo,.int .i64 hi,.int .i64 st,.slice A0 P.length c0,.int .i64 k',.int .i64 s',.int .i64 lo',.int .i64 hi',.int .i64 st',.slice A0' P'.length c0']) => check04_any _ (rowW (.mk ⟨k,s,lo,hi,st⟩ P) (.mk ⟨k',s',lo',hi',st'⟩ P')) _ W (HRW.out W hk hb))
 rw [hgr] at HGR
 rw [hck] at HCH
 have HCK := Lib.hid hck
 have HAL := Lib.hid alive07_any
 clear hgr hck
 go_enter Try.func3,Try.ntmps3
 go_upto_region 2 with fail
 generalize (((((w.alloc (.cells #[.int .i64 k,.int .i64 s,.int .i64 lo,.int .i64 hi,.int .i64 st,.slice A0 P.length c0] 24)).alloc (.cells #[.int .i64 k',.int .i64 s',.int .i64 lo',.int .i64 hi',.int .i64 st',.slice A0' P'.length c0'] 24)).alloc (.cells #[.int .u64 a,.slice A1 b.length c1,.slice A2 l.length c2,.int .u64 a',.slice A1' b'.length c1',.slice A2' l'.length c2'] 30)).alloc (.cells #[.int .i64 k,.int .i64 s,.int .i64 lo,.int .i64 hi,.int .i64 st,.slice A0 P.length c0,.int .i64 k',.int .i64 s',.int .i64 lo',.int .i64 hi',.int .i64 st',.slice A0' P'.length c0'] 24)).alloc (.cells #[.int .i64 3,.int .i64 0,.int .i64 0,.int .i64 0,.int .i64 0,.slice (some ⟨w.heap.size + 1 + 1 + 1,0,none⟩) 2 2] 24)) = W0 at HKA HQ0 HQ1 HQ2 HQ3 HQ4 ⊢
 have HKZ := Lib.hid (Kp.refl (fun _ => False) W0)
 have HKW := Lib.hid (fun W (hk : Kp (fun _ => False) W0 W) => HKA.out.then_ hk (fun _ h => h.elim))
 have HCE := Lib.hid (fun W (hk : Kp (fun _ => False) W0 W) => show (fun w' : World => w'.cell? ⟨w.heap.size + 1 + 1 + 1 + 1,0,none⟩ = some (.int .i64 3) ∧ w'.cell? ⟨w.heap.size + 1 + 1 + 1 + 1,1,none⟩ = some (.int .i64 0) ∧ w'.cell? ⟨w.heap.size + 1 + 1 + 1 + 1,2,none⟩ = some (.int .i64 0) ∧ w'.cell? ⟨w.heap.size + 1 + 1 + 1 + 1,3,none⟩ = some (.int .i64 0) ∧ w'.cell? ⟨w.heap.size + 1 + 1 + 1 + 1,4,none⟩ = some (.int .i64 0) ∧ w'.cell? ⟨w.heap.size + 1 + 1 + 1 + 1,5,none⟩ = some (.slice (some ⟨w.heap.size + 1 + 1 + 1,0,none⟩) 2 2)) W from by have hb := HQ4.out.kp hk (fun h => h);exact ⟨hb.cell 0,hb.cell 1,hb.cell 2,hb.cell 3,hb.cell 4,hb.cell 5⟩)
 have HG0 := Lib.hid (fun W (hk : Kp (fun _ => False) W0 W) => HGR.out W (HKW.out W hk) (HQ3.out.kp hk (fun h => h)) (HQ2.out.kp hk (fun h => h)))
 have HC0 := Lib.hid (fun W (hk : Kp (fun _ => False) W0 W) => HCH.out W (HKW.out W hk) (HQ3.out.kp hk (fun h => h)))
 clear HGR HCH
 have hcut : gr = 1 ∨ ck ≠ 0 ∨ (gr = 0 ∧ ck = 0) := by omega
 have hguard : (decide (gr > 0) || (ck != 0)) = true ∨ (gr = 0 ∧ ck = 0) := by
  rcases hgc with h | h
  ·exact .inl (by simp [h])
  ·by_cases h2 : ck = 0
   ·exact .inr ⟨h.1,h2⟩
   ·exact .inl (by simp [h2])
 obtain ⟨gd,hgd⟩ : ∃ gd,(decide (gr > 0) || (ck != 0)) = gd := ⟨_,rfl⟩
 go_cut [30] (fun c wx => c = .bool gd ∧ Kp (fun _ => False) W0 wx)
 case first =>
  have hgc2 : gr = 1 ∨ gr = 0 := hgc.imp id (·.1)
  clear hgc hcut hguard
  rcases hgc2 with rfl | rfl
  ·simp at hgd
   subst hgd
   obtain ⟨_,_,_,_,_,_⟩ := HCE.out _ HKZ.out
   go_region_with (first
    | (go_at_call 6;refine (HAL.out _).mono ?_;rintro e w5 ⟨rfl,hk5⟩;have hq := Kp.then_ (a := W0) (S := fun _ => False) (by first | exact HKZ.out | exact HKZ.out.drew) hk5 (fun _ h => h.elim);clear HKZ;have HKZ := Lib.hid hq;clear hq hk5;obtain ⟨_,_,_,_,_,_⟩ := HCE.out _ HKZ.out)
    | (go_at_call 7;refine (HG0.out _ (by first | exact HKZ.out | exact HKZ.out.drew)).mono ?_;rintro e w5 ⟨rfl,hk5⟩;have hq := Kp.then_ (a := W0) (S := fun _ => False) (by first | exact HKZ.out | exact HKZ.out.drew) hk5 (fun _ h => h.elim);clear HKZ;have HKZ := Lib.hid hq;clear hq hk5;obtain ⟨_,_,_,_,_,_⟩ := HCE.out _ HKZ.out))
   all_goals
    go_wp2_with fail
    go_meet
    exact ⟨rfl,by first | exact HKZ.out | exact HKZ.out.drew⟩
  ·simp at hgd
   cases gd
   all_goals
    go_region_held3 (fun w' : World => w'.cell? ⟨w.heap.size + 1 + 1 + 1 + 1,0,none⟩ = some (.int .i64 3) ∧ w'.cell? ⟨w.heap.size + 1 + 1 + 1 + 1,1,none⟩ = some (.int .i64 0) ∧ w'.cell? ⟨w.heap.size + 1 + 1 + 1 + 1,2,none⟩ = some (.int .i64 0) ∧ w'.cell? ⟨w.heap.size + 1 + 1 + 1 + 1,3,none⟩ = some (.int .i64 0) ∧ w'.cell? ⟨w.heap.size + 1 + 1 + 1 + 1,4,none⟩ = some (.int .i64 0) ∧ w'.cell? ⟨w.heap.size + 1 + 1 + 1 + 1,5,none⟩ = some (.slice (some ⟨w.heap.size + 1 + 1 + 1,0,none⟩) 2 2)) (first | exact HCE.out _ HKZ.out | exact HCE.out _ HKZ.out.drew) (first
     | (go_at_call 6;refine (HAL.out _).mono ?_;rintro e w5 ⟨rfl,hk5⟩;have hq := Kp.then_ (a := W0) (S := fun _ => False) (by first | exact HKZ.out | exact HKZ.out.drew) hk5 (fun _ h => h.elim);clear HKZ;have HKZ := Lib.hid hq;clear hq hk5)
     | (go_at_call 7;refine (HG0.out _ (by first | exact HKZ.out | exact HKZ.out.drew)).mono ?_;rintro e w5 ⟨rfl,hk5⟩;have hq := Kp.then_ (a := W0) (S := fun _ => False) (by first | exact HKZ.out | exact HKZ.out.drew) hk5 (fun _ h => h.elim);clear HKZ;have HKZ := Lib.hid hq;clear hq hk5)
     | (go_at_call 8;refine (HC0.out _ (by first | exact HKZ.out | exact HKZ.out.drew)).mono ?_;rintro e w5 ⟨rfl,hk5⟩;have hq := Kp.then_ (a := W0) (S := fun _ => False) (by first | exact HKZ.out | exact HKZ.out.drew) hk5 (fun _ h => h.elim);clear HKZ;have HKZ := Lib.hid hq;clear hq hk5))
    go_wp2_with fail
    go_meet
    exact ⟨rfl,HKZ.out⟩
 case rest =>
 obtain ⟨rfl,hkc⟩ := hcut
 generalize wc = wr at hkc ⊢
 cases gd with
 | true =>
  have HA1 := Lib.hid (HAL.out wr)
  have HK1 := Lib.hid (HKW.out _ hkc)
  clear hkc
  go_wp2_with fail
  refine HA1.out.mono ?_
  rintro e w9 ⟨rfl,hk9⟩
  have HK9 := Lib.hid (HK1.out.then_ hk9 (fun _ h => h.elim))
  clear hk9
  go_wp2_with fail
  go_ret
  exact ⟨rfl,HK9.out⟩
 | false =>
  rw [Bool.or_eq_false_iff] at hgd
  have hck0 : ck = 0 := by simpa using hgd.2
  have hgr0 : gr = 0 := by
   have := of_decide_eq_false hgd.1
   omega
  subst hck0 hgr0
  obtain ⟨hsz,hbx,hby⟩ : szF (rowW (.mk ⟨k,s,lo,hi,st⟩ P) (.mk ⟨k',s',lo',hi',st'⟩ P')) ≤ 100000 ∧ bigV (.mk ⟨a,b⟩ l) = false ∧ bigV (.mk ⟨a',b'⟩ l') = false := by
   rcases hgc with h | h
   ·omega
   ·exact h.2
  clear hgd hguard hcut hgc HKZ HG0 HC0
  have hszf : szF (.mk ⟨k,s,lo,hi,st⟩ P) ≤ 100000 ∧ szF (.mk ⟨k',s',lo',hi',st'⟩ P') ≤ 100000 := by
   rw [szF_mk,if_pos (.inr rfl)] at hsz
   have h1 := szL_mem (l := [((.mk ⟨k,s,lo,hi,st⟩ P) : Fm),(.mk ⟨k',s',lo',hi',st'⟩ P')]) (f := (.mk ⟨k,s,lo,hi,st⟩ P)) (by simp)
   have h2 := szL_mem (l := [((.mk ⟨k,s,lo,hi,st⟩ P) : Fm),(.mk ⟨k',s',lo',hi',st'⟩ P')]) (f := (.mk ⟨k',s',lo',hi',st'⟩ P')) (by simp)
   omega
  obtain ⟨⟨n0,e0⟩,hs0⟩ : ∃ r,sizeR (.mk ⟨k,s,lo,hi,st⟩ P) (.mk ⟨a,b⟩ l) = r := ⟨_,rfl⟩
  obtain ⟨⟨n1,e1⟩,hs1⟩ : ∃ r,sizeR (.mk ⟨k',s',lo',hi',st'⟩ P') (.mk ⟨a',b'⟩ l') = r := ⟨_,rfl⟩
  obtain ⟨⟨n2,e2⟩,hs2⟩ : ∃ r,sizeR (rowW (.mk ⟨k,s,lo,hi,st⟩ P) (.mk ⟨k',s',lo',hi',st'⟩ P')) (pairW (.mk ⟨a,b⟩ l) (.mk ⟨a',b'⟩ l')) = r := ⟨_,rfl⟩
  obtain ⟨u0,hu0⟩ : ∃ u,(if e0 = 0 then writeR (.mk ⟨k,s,lo,hi,st⟩ P) (.mk ⟨a,b⟩ l) else []) = u := ⟨_,rfl⟩
  obtain ⟨u1,hu1⟩ : ∃ u,(if e1 = 0 then writeR (.mk ⟨k',s',lo',hi',st'⟩ P') (.mk ⟨a',b'⟩ l') else []) = u := ⟨_,rfl⟩
  obtain ⟨u2,hu2⟩ : ∃ u,(if e2 = 0 then writeR (rowW (.mk ⟨k,s,lo,hi,st⟩ P) (.mk ⟨k',s',lo',hi',st'⟩ P')) (pairW (.mk ⟨a,b⟩ l) (.mk ⟨a',b'⟩ l')) else []) = u := ⟨_,rfl⟩
  have hl0 : u0.length ≤ 36000 := by rw [← hu0];exact bad_len hbx hs0
  have hl1 : u1.length ≤ 36000 := by rw [← hu1];exact bad_len hby hs1
  have hend : (e0 = 0 ∧ e1 = 0 ∧ e2 = 0 ∧ u2 = u0 ++ u1) ∨ ((e0 ≠ 0 ∨ e1 ≠ 0) ∧ e2 ≠ 0 ∧ u2 = []) := by
   by_cases h : e0 = 0 ∧ e1 = 0
   ·obtain ⟨rfl,rfl⟩ := h
    obtain ⟨q,hq⟩ := pair_good HCK.out hs0 hs1
    rw [hs2] at hq
    injection hq with _ h2
    subst h2
    rw [if_pos rfl] at hu0 hu1 hu2
    exact .inl ⟨rfl,rfl,rfl,by rw [← hu2,write_pair,hu0,hu1]⟩
   ·have hn : e0 ≠ 0 ∨ e1 ≠ 0 := by omega
    have h2 := pair_bad (x := (.mk ⟨a,b⟩ l)) (y := (.mk ⟨a',b'⟩ l')) HCK.out (by rw [hs0,hs1];exact hn)
    rw [hs2] at h2
    rw [if_neg h2] at hu2
    exact .inr ⟨hn,h2,hu2.symm⟩
  have HW0 := Lib.hid (fun W (hk : Kp (fun _ => False) w W) => by have := wwrite_at _ _ _ _ W hszf.1 ((HV.out W hk).mono (HUP.out W hk)) ((HX.out W hk).mono (HUP.out W hk)) n0 e0 hs0 hbx;rw [hu0] at this;exact this)
  have HW1 := Lib.hid (fun W (hk : Kp (fun _ => False) w W) => by have := wwrite_at _ _ _ _ W hszf.2 ((HV'.out W hk).mono (HUP.out W hk)) ((HY.out W hk).mono (HUP.out W hk)) n1 e1 hs1 hby;rw [hu1] at this;exact this)
  have HW2 := Lib.hid (fun W (hk : Kp (fun _ => False) w W) (hb : Blk W (w.heap.size + 1 + 1 + 1) 24 #[.int .i64 k,.int .i64 s,.int .i64 lo,.int .i64 hi,.int .i64 st,.slice A0 P.length c0,.int .i64 k',.int .i64 s',.int .i64 lo',.int .i64 hi',.int .i64 st',.slice A0' P'.length c0']) (hb2 : Blk W (w.heap.size + 1 + 1) 30 #[.int .u64 a,.slice A1 b.length c1,.slice A2 l.length c2,.int .u64 a',.slice A1' b'.length c1',.slice A2' l'.length c2']) => wrow_at W _ _ _ _ hsz (HRW.out W hk hb) (HPR.out W hk hb2).2 n2 e2 hs2 u2 hu2 hbx hby)
  have HEND := Lib.hid hend
  clear hs0 hs1 hs2 hu0 hu1 hu2 hend hsz hszf hbx hby HCK
  have HQ0a := Lib.hid (HQ0.out.kp hkc (fun h => h))
  have HQ1a := Lib.hid (HQ1.out.kp hkc (fun h => h))
  have HQ2a := Lib.hid (HQ2.out.kp hkc (fun h => h))
  have HQ3a := Lib.hid (HQ3.out.kp hkc (fun h => h))
  have HQ4a := Lib.hid (HQ4.out.kp hkc (fun h => h))
  have HKa := Lib.hid (HKW.out _ hkc)
  have g0 := HQ0a.out.cell 0
  have g1 := HQ0a.out.cell 1
  have g2 := HQ0a.out.cell 2
  have g3 := HQ0a.out.cell 3
  have g4 := HQ0a.out.cell 4
  have g5 := HQ0a.out.cell 5
  have y0 := HQ2a.out.cell 0
  have y1 := HQ2a.out.cell 1
  have y2 := HQ2a.out.cell 2
  have y3 := HQ2a.out.cell 3
  have y4 := HQ2a.out.cell 4
  have y5 := HQ2a.out.cell 5
  simp at g0 g1 g2 g3 g4 g5 y0 y1 y2 y3 y4 y5
  have HWa := Lib.hid (HW0.out _ HKa.out)
  clear hkc HQ0 HQ1 HQ2 HQ3 HQ4 HW0 HCE HKA HKW
  go_wp2_with fail
  refine HWa.out.mono ?_
  rintro e w1 ⟨A5,c5,rfl,hbr5,hk1⟩
  have HQ1b := Lib.hid (HQ1a.out.kp hk1 (fun h => h))
  have HQ2b := Lib.hid (HQ2a.out.kp hk1 (fun h => h))
  have HQ3b := Lib.hid (HQ3a.out.kp hk1 (fun h => h))
  have HQ4b := Lib.hid (HQ4a.out.kp hk1 (fun h => h))
  have HKb := Lib.hid (HKa.out.then_ hk1 (fun _ h => h.elim))
  have HBR5 := Lib.hid hbr5.lt_
  have HWb := Lib.hid (HW1.out _ HKb.out)
  clear g0 g1 g2 g3 g4 g5 y0 y1 y2 y3 y4 y5 hk1 HQ0a HQ1a HQ2a HQ3a HQ4a HWa HW1 hbr5
  have g0 := HQ1b.out.cell 0
  have g1 := HQ1b.out.cell 1
  have g2 := HQ1b.out.cell 2
  have g3 := HQ1b.out.cell 3
  have g4 := HQ1b.out.cell 4
  have g5 := HQ1b.out.cell 5
  have y0 := HQ2b.out.cell 0
  have y1 := HQ2b.out.cell 1
  have y2 := HQ2b.out.cell 2
  have y3 := HQ2b.out.cell 3
  have y4 := HQ2b.out.cell 4
  have y5 := HQ2b.out.cell 5
  simp at g0 g1 g2 g3 g4 g5 y0 y1 y2 y3 y4 y5
  go_wp2_with fail
  refine HWb.out.mono ?_
  rintro e w2 ⟨A6,c6,rfl,hbr6,hk2⟩
  have HQ2c := Lib.hid (HQ2b.out.kp hk2 (fun h => h))
  have HQ3c := Lib.hid (HQ3b.out.kp hk2 (fun h => h))
  have HQ4c := Lib.hid (HQ4b.out.kp hk2 (fun h => h))
  have HKc := Lib.hid (HKb.out.then_ hk2 (fun _ h => h.elim))
  have HBR6 := Lib.hid hbr6.lt_
  have HBR5c := Lib.hid (HBR5.out.kp hk2 (fun _ _ h => h))
  clear g0 g1 g2 g3 g4 g5 y0 y1 y2 y3 y4 y5 hk2 HQ1b HQ2b HQ3b HQ4b HWb hbr6 HBR5
  have HKZ := Lib.hid (Kp.refl (fun _ => False) w2)
  have HCE := Lib.hid (fun W (hk : Kp (fun _ => False) w2 W) => show (fun w' : World => w'.cell? ⟨w.heap.size + 1 + 1 + 1 + 1,0,none⟩ = some (.int .i64 3) ∧ w'.cell? ⟨w.heap.size + 1 + 1 + 1 + 1,1,none⟩ = some (.int .i64 0) ∧ w'.cell? ⟨w.heap.size + 1 + 1 + 1 + 1,2,none⟩ = some (.int .i64 0) ∧ w'.cell? ⟨w.heap.size + 1 + 1 + 1 + 1,3,none⟩ = some (.int .i64 0) ∧ w'.cell? ⟨w.heap.size + 1 + 1 + 1 + 1,4,none⟩ = some (.int .i64 0) ∧ w'.cell? ⟨w.heap.size + 1 + 1 + 1 + 1,5,none⟩ = some (.slice (some ⟨w.heap.size + 1 + 1 + 1,0,none⟩) 2 2)) W from by have hb := HQ4c.out.kp hk (fun h => h);exact ⟨hb.cell 0,hb.cell 1,hb.cell 2,hb.cell 3,hb.cell 4,hb.cell 5⟩)
  have HWc := Lib.hid (fun W (hk : Kp (fun _ => False) w2 W) => HW2.out W (HKc.out.then_ hk (fun _ h => h.elim)) (HQ3c.out.kp hk (fun h => h)) (HQ2c.out.kp hk (fun h => h)))
  clear HW2
  go_upto_region 6 with fail
  go_cut [12,13] (fun p q wx => ∃ A7 c7,p = .slice A7 u2.length c7 ∧ q = .int .i64 e2 ∧ (∃ okz,BR wx okz (.slice A7 u2.length c7) u2) ∧ Kp (fun _ => False) w2 wx)
  case first =>
   go_region_held3 (fun w' : World => w'.cell? ⟨w.heap.size + 1 + 1 + 1 + 1,0,none⟩ = some (.int .i64 3) ∧ w'.cell? ⟨w.heap.size + 1 + 1 + 1 + 1,1,none⟩ = some (.int .i64 0) ∧ w'.cell? ⟨w.heap.size + 1 + 1 + 1 + 1,2,none⟩ = some (.int .i64 0) ∧ w'.cell? ⟨w.heap.size + 1 + 1 + 1 + 1,3,none⟩ = some (.int .i64 0) ∧ w'.cell? ⟨w.heap.size + 1 + 1 + 1 + 1,4,none⟩ = some (.int .i64 0) ∧ w'.cell? ⟨w.heap.size + 1 + 1 + 1 + 1,5,none⟩ = some (.slice (some ⟨w.heap.size + 1 + 1 + 1,0,none⟩) 2 2)) (first | exact HCE.out _ HKZ.out | exact HCE.out _ HKZ.out.drew) (first
    | (go_at_call 9;refine (HWc.out _ (by first | exact HKZ.out | exact HKZ.out.drew)).mono ?_;rintro e w5 ⟨A7,c7,rfl,hbr7,hk5⟩;have HBZ := Lib.hid hbr7;have hq := Kp.then_ (a := w2) (S := fun _ => False) (by first | exact HKZ.out | exact HKZ.out.drew) hk5 (fun _ h => h.elim);clear HKZ;have HKZ := Lib.hid hq;clear hq hk5 hbr7))
   go_wp2_with fail
   go_meet
   exact ⟨A7,c7,rfl,rfl,⟨_,HBZ.out⟩,HKZ.out⟩
  case rest =>
  obtain ⟨A7,c7,rfl,rfl,⟨okz,hbr7⟩,hkc⟩ := hcut
  generalize wc = w3 at hkc hbr7 ⊢
  have HKd := Lib.hid (HKc.out.then_ hkc (fun _ h => h.elim))
  have cv0 := run_str (P := Try.prog) (src := 26) (dst := 9) (e := 5) Try.underlying26 Try.underlying5 Try.underlying9 (HBR5c.out.kp hkc (fun _ _ h => h))
  have cv1 := run_str (P := Try.prog) (src := 26) (dst := 9) (e := 5) Try.underlying26 Try.underlying5 Try.underlying9 (HBR6.out.kp hkc (fun _ _ h => h))
  have cv2 := run_str (P := Try.prog) (src := 26) (dst := 9) (e := 5) Try.underlying26 Try.underlying5 Try.underlying9 hbr7
  clear hkc hbr7 HCE HWc HKZ HBR5c HBR6 HQ2c HQ3c HQ4c
  rcases HEND.out with ⟨rfl,rfl,rfl,hu⟩ | ⟨hn,h2,hu⟩
  ·have hadd := add_strW w3 u0 u1 (by omega)
   rw [← hu] at hadd
   clear hu HEND
   generalize u2.length = m2 at cv2 ⊢
   generalize str u0 = z0 at cv0 hadd
   generalize str u1 = z1 at cv1 hadd
   generalize str u2 = z2 at cv2 hadd
   go_wp2_with fail
   go_ret
   exact ⟨rfl,HKd.out⟩
  ·subst hu
   have t2 : (e2 != 0) = true := by simpa using h2
   have t3 : ([] : List UInt8).length = 0 := rfl
   rw [t3] at cv2 ⊢
   by_cases hz : e0 = 0
   ·have t1 : (e1 != 0) = true := by
     rcases hn with h | h
     ·exact absurd hz h
     ·simpa using h
    subst hz
    clear hn h2 HEND cv0 cv1 cv2
    go_wp2_with fail
    go_ret
    exact ⟨rfl,HKd.out⟩
   ·have t1 : (e0 != 0) = true := by simpa using hz
    clear hn h2 HEND cv0 cv1 cv2 hz
    go_wp2_with fail
    go_ret
    exact ⟨rfl,HKd.out⟩
end Go.Proofs.Ytdhnfccgojgehaa
