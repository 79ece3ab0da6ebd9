/-
  The law DerOne: for every input it returns true, and its arguments read behind the call as before it. No condition.
-/
import Derived.Test.YtgjbfgkcbehjnaaDoorRows
import Derived.Test.YtgjbfgkcbehjnaaDoorCards
import Derived.Test.YtgjbfgkcbehjnaaDoorTie
import Derived.SevenTiedAt
import Derived.ProofKit
import Derived.LaidMore
import Derived.Stop.Joined
import Derived.Test.YtgjbfgkcbehjnaaDoorBX1
import Derived.Test.YtgjbfgkcbehjnaaDoorBY1

set_option linter.unusedVariables false
set_option linter.unusedSimpArgs false
namespace Go.Proofs.YtgjbfgkcbehjnaaDoor
open Go.RowKit

theorem rd_putN {c t : Int} {m : Bool} {N : Nat} (h : kindB c t m = true) (hN : N ≤ 16777215) (r : List UInt8) :
    rd ((hb c t m :: lenB N) ++ r) = ((c, t, m, (N : Int)), (((hb c t m :: lenB N).length : Nat) : Int), 0) := by
  rw [List.cons_append, rd_put h hN r, List.length_cons]
/-- All bytes of these. -/
def flatN (l : List Nd) : List UInt8 := l.flatMap fun y => (wrN y).1
theorem wrNs_ok : ∀ (l : List Nd) (acc : List UInt8), (wrNs l acc).2 = 0 → (wrNs l acc).1 = acc ++ flatN l ∧ ∀ y ∈ l, (wrN y).2 = 0 := by
  intro l
  induction l with
  | nil => intro acc _; rw [wrNs]; simp [flatN]
  | cons x l ih =>
    intro acc h
    rw [wrNs] at h ⊢
    by_cases hx : (wrN x).2 = 0
    · rw [if_neg (by simpa using hx)] at h ⊢
      obtain ⟨h1, h2⟩ := ih _ h
      refine ⟨by rw [h1, List.append_assoc]; rfl, fun y hy => ?_⟩
      rcases List.mem_cons.1 hy with rfl | hy
      · exact hx
      · exact h2 y hy
    · rw [if_pos hx] at h
      exact absurd h hx
theorem wrNs_all : ∀ (l : List Nd) (acc : List UInt8), (∀ y ∈ l, (wrN y).2 = 0) → wrNs l acc = (acc ++ flatN l, 0) := by
  intro l
  induction l with
  | nil => intro acc _; rw [wrNs]; simp [flatN]
  | cons x l ih =>
    intro acc h
    rw [wrNs, if_neg (by simpa using h x (by simp)), ih _ (fun y hy => h y (by simp [hy])), List.append_assoc]
    rfl
/-- What a thing that is right is. -/
theorem wrN_parts {c t : Int} {m : Bool} {B : List UInt8} {l : List Nd} (h : (wrN (.mk ⟨c, t, m, B⟩ l)).2 = 0) :
    kindB c t m = true ∧ (m = true → B = []) ∧ (m = false → l = []) ∧ mayB c t m B = true ∧ (∀ y ∈ l, (wrN y).2 = 0) ∧
      (wrN (.mk ⟨c, t, m, B⟩ l)).1 = hb c t m :: lenB (B ++ flatN l).length ++ (B ++ flatN l) := by
  rw [wrN_mk] at h ⊢
  simp only at h ⊢
  by_cases h1 : kindB c t m = false
  · rw [if_pos h1] at h; simp at h
  by_cases h2 : ((m && decide (0 < B.length)) || (!m && decide (0 < l.length))) = true
  · rw [if_neg h1, if_pos h2] at h; simp at h
  by_cases h3 : mayB c t m B = false
  · rw [if_neg h1, if_neg h2, if_pos h3] at h; simp at h
  by_cases h4 : (wrNs l B).2 ≠ 0
  · rw [if_neg h1, if_neg h2, if_neg h3, if_pos h4] at h; exact absurd h h4
  · rw [if_neg h1, if_neg h2, if_neg h3, if_neg h4]
    obtain ⟨h5, h6⟩ := wrNs_ok l B (by simpa using h4)
    refine ⟨by simpa using h1, ?_, ?_, by simpa using h3, h6, by rw [h5]⟩
    · rintro rfl
      simp at h2
      exact h2
    · rintro rfl
      simp at h2
      exact h2
/-- A thing that is right, put together. -/
theorem wrN_make {c t : Int} {m : Bool} {B : List UInt8} {l : List Nd} (h1 : kindB c t m = true) (h2 : m = true → B = []) (h3 : m = false → l = []) (h4 : mayB c t m B = true) (h5 : ∀ y ∈ l, (wrN y).2 = 0) :
    wrN (.mk ⟨c, t, m, B⟩ l) = (hb c t m :: lenB (B ++ flatN l).length ++ (B ++ flatN l), 0) := by
  rw [wrN_mk]
  simp only
  have hf : ¬ (((m && decide (0 < B.length)) || (!m && decide (0 < l.length))) = true) := by
    cases m
    · rw [h3 rfl]; simp
    · rw [h2 rfl]; simp
  rw [if_neg (by simp [h1]), if_neg hf, if_neg (by simp [h4]), wrNs_all l B h5, if_neg (fun h => h rfl)]
theorem flatN_cons (x : Nd) (l : List Nd) : flatN (x :: l) = (wrN x).1 ++ flatN l := rfl
/-- As many bytes at least as it counts. -/
theorem tot_len : ∀ x : Nd, (wrN x).2 = 0 → totN x + 1 ≤ (wrN x).1.length := by
  intro x
  induction x using RT.induct with
  | h a l ih =>
  intro h
  obtain ⟨c, t, m, B⟩ := a
  obtain ⟨_, _, _, _, h5, h6⟩ := wrN_parts h
  rw [h6, totN_mk]
  have key : ∀ l' : List Nd, (∀ y ∈ l', totN y ≤ (wrN y).1.length) → totNs l' ≤ (flatN l').length := by
    intro l'
    induction l' with
    | nil => intro _; rw [totNs]; exact Nat.zero_le _
    | cons y l' ih2 =>
      intro hy
      rw [totNs, flatN_cons, List.length_append]
      have h1 := hy y (by simp)
      have h2 := ih2 (fun z hz => hy z (by simp [hz]))
      omega
  have hk := key l (fun y hy => by have := ih y hy (h5 y hy); omega)
  have hl := lenB_len (B ++ flatN l).length
  simp only [List.cons_append, List.length_cons, List.length_append] at hl ⊢
  omega
theorem flat_len : ∀ l : List Nd, (∀ y ∈ l, (wrN y).2 = 0) → l.length ≤ (flatN l).length
  | [], _ => Nat.zero_le _
  | x :: l, h => by
    rw [flatN_cons, List.length_append, List.length_cons]
    have h1 := tot_len x (h x (by simp))
    have h2 := flat_len l (fun y hy => h y (by simp [hy]))
    have h3 := totN_pos x
    omega
theorem iter_back {f : List UInt8 → RnT} : ∀ (l : List Nd) (n d : Nat) (acc : List Nd), (∀ y ∈ l, ∀ r, f ((wrN y).1 ++ r) = .got y r) → (∀ y ∈ l, (wrN y).2 = 0) → l.length ≤ n →
    iterN f n (flatN l) d acc = .got (.mk ⟨0, 0, false, []⟩ (acc ++ l)) []
  | [], n, d, acc, _, _, _ => by rw [iterN_end (by rfl), List.append_nil]; rfl
  | x :: l, n, d, acc, hf, he, hn => by
    obtain ⟨n, rfl⟩ : ∃ q, n = q + 1 := ⟨n - 1, by rw [List.length_cons] at hn; omega⟩
    have h1 := tot_len x (he x (by simp))
    have h2 := totN_pos x
    rw [flatN_cons, iterN_step (by rw [List.length_append]; omega), hf x (by simp) (flatN l)]
    simp only
    rw [iter_back l n _ _ (fun y hy => hf y (by simp [hy])) (fun y hy => he y (by simp [hy])) (by rw [List.length_cons] at hn; omega), List.append_assoc]
    rfl
/-- What is written is read as it was, and what stands behind it is left. -/
theorem one_back : ∀ (x : Nd) (k : Nat) (r : List UInt8), depN x ≤ k → (wrN x).2 = 0 → 5 * totN x ≤ 16777215 → oneN k ((wrN x).1 ++ r) = .got x r := by
  intro x
  induction x using RT.induct with
  | h a l ih =>
  intro k r hk h htot
  obtain ⟨c, t, m, B⟩ := a
  obtain ⟨h1, h2, h3, h4, h5, h6⟩ := wrN_parts h
  have hlen := wrN_len (.mk ⟨c, t, m, B⟩ l)
  have hall : (B ++ flatN l).length ≤ 16777215 := by
    rw [h6] at hlen
    simp only [List.cons_append, List.length_cons, List.length_append] at hlen ⊢
    omega
  obtain ⟨k, rfl⟩ : ∃ q, k = q + 1 := ⟨k - 1, by rw [depN_mk] at hk; omega⟩
  generalize hA : B ++ flatN l = A at h6 hall
  have hq := rd_putN h1 hall (A ++ r)
  rw [h6, List.append_assoc]
  generalize hb c t m :: lenB A.length = H at hq
  rw [oneN_good hq, bodyN]
  have hd1 : (H ++ (A ++ r)).drop H.length = A ++ r := List.drop_left
  have hd2 : (H ++ (A ++ r)).drop (H.length + A.length) = r := by rw [← List.drop_drop, hd1, List.drop_left]
  rw [if_neg (by simp only [List.length_append]; omega), hd1, hd2, List.take_left]
  cases m
  · rw [if_neg (by decide)]
    have hl := h3 rfl
    subst hl
    have hBA : A = B := by rw [← hA]; simp [flatN]
    rw [hBA, if_neg ?_]
    rintro ⟨hc, hck⟩
    rw [mayB] at h4
    simp [hc, hck] at h4
  · rw [if_pos rfl]
    have hB := h2 rfl
    subst hB
    rw [List.nil_append] at hA
    subst hA
    rw [iter_back l _ _ [] (fun y hy r' => ih y hy k r' (by have := depN_kid (a := ⟨c, t, true, []⟩) hy; omega) (h5 y hy) (by have := totNs_mem hy; rw [totN_mk] at htot; omega)) h5 (flat_len l h5)]
    rfl
theorem write_ok {x : Nd} (h : (writeN x).2 = 0) : depN x ≤ 8 ∧ (wrN x).2 = 0 ∧ writeN x = wrN x := by
  by_cases hd : 8 < depN x
  · rw [writeN_deep hd] at h
    simp at h
  · rw [writeN_flat hd] at h
    exact ⟨by omega, h, writeN_flat hd⟩
theorem write_read_more {x : Nd} (h : (writeN x).2 = 0) (htot : totN x ≤ 100000) (c : UInt8) : readN ((writeN x).1 ++ [c]) = (.mk ⟨0, 0, false, []⟩ [], (writeN x).1.length, 6) := by
  obtain ⟨h1, h2, h3⟩ := write_ok h
  have hb := one_back x 8 [c] h1 h2 (by omega)
  rw [h3, readN, hb]
  simp
/-- With less it isn't read: it is told that it is too short, at its end. -/
theorem one_cut {x : Nd} {k i : Nat} (h : (wrN x).2 = 0) (htot : 5 * totN x ≤ 16777215) (hi : i < (wrN x).1.length) : oneN (k + 1) ((wrN x).1.take i) = .bad i 4 := by
  obtain ⟨⟨c, t, m, B⟩, l⟩ := x
  obtain ⟨h1, _, _, _, _, h6⟩ := wrN_parts h
  have hlen := wrN_len (.mk ⟨c, t, m, B⟩ l)
  have hall : (B ++ flatN l).length ≤ 16777215 := by
    rw [h6] at hlen
    simp only [List.cons_append, List.length_cons, List.length_append] at hlen ⊢
    omega
  rw [h6] at hi ⊢
  generalize B ++ flatN l = A at hi hall
  by_cases hh : i < (lenB A.length).length + 1
  · have hc := rd_cut h1 (N := A.length) i hh
    have he : (hb c t m :: lenB A.length ++ A).take i = (hb c t m :: lenB A.length).take i := by
      rw [List.take_append_of_le_length (by rw [List.length_cons]; omega)]
    rw [he, oneN_fail hc (by decide)]
    rfl
  · have hql : (hb c t m :: lenB A.length).length = (lenB A.length).length + 1 := by rw [List.length_cons]
    have he : (hb c t m :: lenB A.length ++ A).take i = hb c t m :: lenB A.length ++ A.take (i - ((lenB A.length).length + 1)) := by
      rw [List.take_append, List.take_of_length_le (by omega), hql]
    have hq := rd_putN h1 hall (A.take (i - ((lenB A.length).length + 1)))
    rw [List.length_append, hql] at hi
    rw [he, oneN_good hq, bodyN, if_pos ?_]
    · congr 1
      rw [List.length_append, hql, List.length_take]
      omega
    · rw [List.length_append, hql, List.length_take]
      omega
theorem iter_one {f : List UInt8 → RnT} {k : Nat} (hf : ∀ b x r, f b = .got x r → (wrN x).2 = 0 ∧ b = (wrN x).1 ++ r ∧ depN x ≤ k) : ∀ (n : Nat) (b : List UInt8) (d : Nat) (acc : List Nd) (x : Nd) (r : List UInt8), iterN f n b d acc = .got x r → b.length ≤ n →
    ∃ l2, x.l = acc ++ l2 ∧ b = flatN l2 ∧ (∀ y ∈ l2, (wrN y).2 = 0) ∧ ∀ y ∈ l2, depN y ≤ k := by
  intro n
  induction n with
  | zero =>
    intro b d acc x r h hn
    rw [iterN] at h
    injection h with h1 h2
    subst h1
    exact ⟨[], by simp [RT.l], List.eq_nil_of_length_eq_zero (by omega), by simp, by simp⟩
  | succ n ih =>
    intro b d acc x r h hn
    by_cases h0 : b.length = 0
    · rw [iterN_end h0] at h
      injection h with h1 h2
      subst h1
      exact ⟨[], by simp [RT.l], List.eq_nil_of_length_eq_zero h0, by simp, by simp⟩
    · rw [iterN_step h0] at h
      split at h
      · cases h
      · rename_i y r' hy
        obtain ⟨h1, h2, h3⟩ := hf _ _ _ hy
        have h4 := tot_len y h1
        have h5 := totN_pos y
        have hbl : b.length = (wrN y).1.length + r'.length := by rw [h2, List.length_append]
        obtain ⟨l2, e1, e2, e3, e4⟩ := ih _ _ _ _ _ h (by omega)
        refine ⟨y :: l2, by rw [e1, List.append_assoc]; rfl, by rw [flatN_cons, ← e2]; exact h2, ?_, ?_⟩
        · intro z hz
          rcases List.mem_cons.1 hz with rfl | hz
          · exact h1
          · exact e3 z hz
        · intro z hz
          rcases List.mem_cons.1 hz with rfl | hz
          · exact h3
          · exact e4 z hz
/-- What is read is right, and written as those bytes. -/
theorem one_one : ∀ (k : Nat) (b : List UInt8) (x : Nd) (r : List UInt8), oneN k b = .got x r → (wrN x).2 = 0 ∧ b = (wrN x).1 ++ r ∧ depN x ≤ k := by
  intro k
  induction k with
  | zero => intro b x r h; rw [oneN] at h; cases h
  | succ k ih =>
    intro b x r h
    obtain ⟨c, t, m, n, kk, er, hq⟩ : ∃ c t m n kk er, rd b = ((c, t, m, n), kk, er) := ⟨_, _, _, _, _, _, rfl⟩
    by_cases he : er = 0
    · subst he
      obtain ⟨N, K, rfl, rfl, hN, hK2, hK, hkd, htk⟩ := rd_good hq
      rw [oneN_good hq, bodyN] at h
      split at h
      · cases h
      rename_i hlen
      have hol : ((b.drop K).take N).length = N := by rw [List.length_take, List.length_drop]; omega
      have hcut : b = (hb c t m :: lenB N) ++ ((b.drop K).take N ++ b.drop (K + N)) := by
        rw [← htk, ← List.drop_drop, List.take_append_drop, List.take_append_drop]
      generalize (b.drop K).take N = own at h hol hcut
      generalize b.drop (K + N) = rest at h hcut
      cases m
      · rw [if_neg (by decide)] at h
        split at h
        · cases h
        rename_i hck
        injection h with h1 h2
        subst h1 h2
        have hmk := wrN_make (c := c) (t := t) (m := false) (B := own) (l := []) hkd (by simp) (fun _ => rfl) (by
          rw [mayB]
          by_cases hc : c = 0
          · have : checkR t own = 0 := by
              by_cases h9 : checkR t own = 0
              · exact h9
              · exact absurd ⟨hc, h9⟩ hck
            simp [this]
          · simp [hc]) (by simp)
        rw [hmk]
        have hfl : own ++ flatN [] = own := by simp [flatN]
        rw [hfl, hol]
        refine ⟨rfl, ?_, by rw [depN_mk, depNs]; omega⟩
        rw [List.append_assoc]
        exact hcut
      · rw [if_pos rfl] at h
        split at h
        · cases h
        rename_i x0 r0 hit
        injection h with h1 h2
        subst h1 h2
        obtain ⟨l2, e1, e2, e3, e4⟩ := iter_one ih _ _ _ _ _ _ hit (by omega)
        rw [List.nil_append] at e1
        rw [e1]
        have hmk := wrN_make (c := c) (t := t) (m := true) (B := []) (l := l2) hkd (fun _ => rfl) (by simp) (by simp [mayB]) e3
        rw [hmk, List.nil_append, ← e2, hol]
        refine ⟨rfl, ?_, ?_⟩
        · rw [List.append_assoc]
          exact hcut
        · rw [depN_mk]
          have hds : ∀ (l' : List Nd) (d : Nat), d ≤ k → (∀ y ∈ l', depN y ≤ k) → depNs l' d ≤ k := by
            intro l'
            induction l' with
            | nil => intro d hd _; rw [depNs]; exact hd
            | cons y l' ih2 => intro d hd hy; rw [depNs]; exact ih2 _ (by have := hy y (by simp); omega) (fun z hz => hy z (by simp [hz]))
          have := hds l2 0 (Nat.zero_le _) e4
          omega
    · rw [oneN_fail hq he] at h
      cases h
theorem read_write {b : List UInt8} {x : Nd} {n : Nat} (h : readN b = (x, n, 0)) : writeN x = (b, 0) ∧ depN x ≤ 8 ∧ totN x + 1 ≤ b.length ∧ n = b.length := by
  rw [readN] at h
  cases hR : oneN 8 b with
  | bad a e =>
    rw [hR] at h
    simp only [Prod.mk.injEq] at h
    obtain ⟨_, _, rfl⟩ := h
    exact absurd rfl ((oneN_sound 8 b).2 _ _ hR).2
  | got y r =>
    rw [hR] at h
    simp only at h
    split at h
    · rename_i h0
      simp only [Prod.mk.injEq, and_true] at h
      obtain ⟨rfl, rfl⟩ := h
      obtain ⟨h1, h2, h3⟩ := one_one 8 b y r hR
      have hr : r = [] := List.eq_nil_of_length_eq_zero h0
      rw [hr, List.append_nil] at h2
      have h4 := tot_len y h1
      rw [← h2] at h4
      refine ⟨?_, h3, h4, rfl⟩
      rw [writeN_flat (by omega), h2]
      exact Prod.ext rfl h1
    · simp at h
end Go.Proofs.YtgjbfgkcbehjnaaDoor

namespace Go.Proofs.YtgjbfgkcbehjnaaDoor
open Go.RowKit

theorem readN_bad {b : List UInt8} {x : Nd} {n : Nat} {er : Int} (h : readN b = (x, n, er)) (he : er ≠ 0) : x = .mk ⟨0, 0, false, []⟩ [] ∧ n ≤ b.length := by
  have hs := oneN_sound 8 b
  rw [readN] at h
  cases h8 : oneN 8 b with
  | bad a e =>
    rw [h8] at h hs
    have := (hs.2 _ _ rfl).1
    simp only [Prod.mk.injEq] at h
    exact ⟨h.1.symm, by omega⟩
  | got y r =>
    rw [h8] at h
    simp only at h
    split at h
    · simp only [Prod.mk.injEq] at h
      exact absurd h.2.2.symm he
    · simp only [Prod.mk.injEq] at h
      exact ⟨h.1.symm, by omega⟩
/-- A read whose answer is known. -/
theorem readD_got (ok : Nat → Prop) (v : Value) (b : List UInt8) (x : Nd) (k : Nat) (er : Int) (hr : readN b = (x, k, er)) (W : World) (hb : BR W ok v b) (hl : b.length ≤ 1000000) (tab : TabN W) :
    Calls Tryd.prog 21 #[v, .int .i64 0] W fun e w' => ∃ A1 c1 A2 c2, e = .returned (.tuple #[.agg #[.int .i64 x.a.c, .int .i64 x.a.t, .bool x.a.m, .slice A1 x.a.b.length c1, .slice A2 x.l.length c2], .int .i64 (k : Int), .int .i64 er]) ∧
      NdR w' (fun _ => True) (.agg #[.int .i64 x.a.c, .int .i64 x.a.t, .bool x.a.m, .slice A1 x.a.b.length c1, .slice A2 x.l.length c2]) x ∧ Kp (fun _ => False) W w' := by
  refine (readD_any ok v b 0 W hb tab (by omega) (by decide) (by omega)).mono ?_
  rintro e w' ⟨u, rfl, hv, hk⟩
  rw [hr] at hv
  obtain ⟨A1, c1, A2, c2, rfl, _⟩ := hv.shape
  refine ⟨A1, c1, A2, c2, ?_, hv.mono (fun _ _ => trivial), hk⟩
  rw [hr, Int.zero_add]
theorem slice_headN {W : World} {ok : Nat → Prop} {A : Option Addr} {cp K : Nat} {b : List UInt8} (hb : BR W ok (.slice A b.length cp) b) (h : K ≤ b.length) :
    ∃ A' d, (∀ W', (Instr.slice 22 (.slice A b.length cp) none (some (.int .i64 (K : Int))) none).run Tryd.prog W' = .ok (.slice A' K d) W') ∧ BR W ok (.slice A' K d) (b.take K) := by
  obtain ⟨A9, c9, e9, h9, hr9⟩ := hb
  injection e9 with e9 _ e10
  subst e9 e10
  have hs : ∀ W' : World, (sizeOf (Tryd.prog.elem 22)).run Tryd.prog W' = .ok 1 W' := fun W' => by kernel_rfl
  have hl : (b.take K).length = K := by rw [List.length_take]; omega
  have hzero : (if cp = 0 then A else A.map (·.add 0)) = A := by
    split
    · rfl
    · cases A with
      | none => rfl
      | some a => simp [Addr.add]
  refine ⟨A, cp, fun W' => ?_, ?_⟩
  · rw [run_slice_h W' 22 A b.length cp (by kernel_rfl) _ _ (by omega) (by omega), hs]
    simp only [Result.andThen, sliced]
    rw [show (K : Int).toNat = K by omega, Nat.zero_mul, Nat.sub_zero, Nat.sub_zero, hzero]
  · have h2 := hr9.take (k := K) (by omega)
    rw [Nat.mul_one, bc_take] at h2
    exact ⟨A, cp, by rw [hl], by omega, by rw [hl]; exact h2⟩

set_option maxRecDepth 100000 in
set_option maxHeartbeats 3200000 in
theorem done11_walk (w : World) (tab : TabN w) (v : Value) (l : List UInt8) (hv : BR w (· < w.heap.size) v l) (hl : l.length ≤ 140737488351232) (n : Int) (hn : (Lit.int .u8 n).wf = true) :
    Calls Tryd.prog 14 #[v, .int .u8 n] w fun e w' => e = .returned (.bool true) ∧ Below w.heap.size w w' := by
  refine Calls.mono (R := fun e w' => e = .returned (.bool true) ∧ Kp (fun _ => False) w w') ?_ fun _ _ ⟨h1, h2⟩ => ⟨h1, h2.below⟩
  obtain ⟨hn0, hn1⟩ := bounds_u8 hn
  obtain ⟨ch, hch⟩ : ∃ ch : UInt8, (ch.toNat : Int) = n := ⟨UInt8.ofNat n.toNat, by rw [UInt8.toNat_ofNat']; omega⟩
  obtain ⟨A, cp, rfl, hcp, _⟩ := id hv
  have HAL := Lib.hid (alive11 w tab)
  have HT := Lib.hid (fun W (hk : Kp (fun _ => False) w W) => tab.kp0 hk)
  have HV := Lib.hid (fun W (hk : Kp (fun _ => False) w W) => hv.kp hk (fun _ _ h => h))
  have HL2 := Lib.hid (fun W (hk : Kp (fun _ => False) w W) => alive11 W (tab.kp0 hk))
  clear tab hv hn hn0 hn1
  by_cases hg : 3000 < l.length
  · have hgI : decide ((3000 : Int) < (l.length : Int)) = true := by simp; omega
    go_enter Tryd.func14, Tryd.ntmps14
    go_upto_region 2 with (go_at_call 20; refine HAL.out.mono ?_; rintro e w1 ⟨rfl, hk1⟩; have HK1 := Lib.hid hk1; clear hk1)
    have HL3 := Lib.hid (HL2.out _ HK1.out)
    go_wp2_with (go_at_call 20; refine HL3.out.mono ?_; rintro e w2 ⟨rfl, hk2⟩; have HK2 := Lib.hid (HK1.out.then_ hk2 (fun _ h => h.elim)); clear hk2)
    go_ret
    exact ⟨rfl, HK2.out⟩
  · have hgI : decide ((3000 : Int) < (l.length : Int)) = false := by simp; omega
    have hg2 : l.length ≤ 3000 := by omega
    clear hg
    obtain ⟨x, kk, er, hR⟩ : ∃ x k er, readN l = (x, k, er) := ⟨_, _, _, rfl⟩
    have HRG := Lib.hid (fun W (hk : Kp (fun _ => False) w W) => readD_got _ _ l x kk er hR W (HV.out W hk) (by omega) (HT.out W hk))
    have hbad := readN_bad hR
    have hgood := fun (he : er = 0) => read_write (b := l) (x := x) (n := kk) (by rw [hR, he])
    clear hR
    go_enter Tryd.func14, Tryd.ntmps14
    go_upto_region 3 with (go_at_call 20; refine HAL.out.mono ?_; rintro e w1 ⟨rfl, hk1⟩; have HK1 := Lib.hid hk1; clear hk1)
    have HC := Lib.hid (HRG.out _ HK1.out)
    go_upto_region 4 with (go_at_call 21; refine HC.out.mono ?_; rintro e w2 ⟨A1, c1, A2, c2, rfl, hvx, hk2⟩; have HVX := Lib.hid hvx; have HK2 := Lib.hid (HK1.out.then_ hk2 (fun _ h => h.elim)); clear hvx hk2)
    have ka : Kp (fun _ => False) w2 (w2.alloc (.cells #[.int .i64 x.a.c, .int .i64 x.a.t, .bool x.a.m, .slice A1 x.a.b.length c1, .slice A2 x.l.length c2] 25)) := (Kp.refl _ _).alloc _
    have HX3 := Lib.hid (Blk.new w2 25 #[.int .i64 x.a.c, .int .i64 x.a.t, .bool x.a.m, .slice A1 x.a.b.length c1, .slice A2 x.l.length c2])
    have HK3 := Lib.hid (HK2.out.then_ ka (fun _ h => h.elim))
    have HV3 := Lib.hid (HVX.out.kp ka (fun _ _ h => h))
    clear ka HVX HK2 HC HRG HK1 HAL HL2
    generalize w2.alloc (.cells #[.int .i64 x.a.c, .int .i64 x.a.t, .bool x.a.m, .slice A1 x.a.b.length c1, .slice A2 x.l.length c2] 25) = W3 at HX3 HK3 HV3 ⊢
    generalize w2.heap.size = bx at HX3 ⊢
    have p0 := HX3.out.cell 0
    have p1 := HX3.out.cell 1
    have p2 := HX3.out.cell 2
    have p3 := HX3.out.cell 3
    have p4 := HX3.out.cell 4
    simp at p0 p1 p2 p3 p4
    by_cases he : er = 0
    · have heb : (er != 0) = false := by simpa using he
      obtain ⟨hw, hdp, htot, hkk⟩ := hgood he
      subst he hkk
      have hw2 : (writeN x).2 = 0 := by rw [hw]
      have hm1 := write_read_more hw2 (by omega) ch
      rw [hw] at hm1
      have hwo := write_ok hw2
      have hws : wrN x = (l, 0) := by rw [← hwo.2.2, hw]
      have hct : readN (l.take (l.length - 1)) = (.mk ⟨0, 0, false, []⟩ [], l.length - 1, 4) := by
        have h9 := one_cut (x := x) (k := 7) (i := l.length - 1) hwo.2.1 (by omega) (by rw [hws]; simp only; omega)
        rw [hws] at h9
        rw [readN, h9]
      have hxw := fun W (hk : Kp (fun _ => False) W3 W) => write_any _ x _ W (HV3.out.kp hk (fun _ _ h => h)) (by omega) ((HT.out W3 HK3.out).kp0 hk)
      have hxc := fun W (hk : Kp (fun _ => False) W3 W) => checkD_any _ x _ W (HV3.out.kp hk (fun _ _ h => h)) (by omega) ((HT.out W3 HK3.out).kp0 hk)
      have hxd := fun W (hk : Kp (fun _ => False) W3 W) => depth_anyN _ x _ W (HV3.out.kp hk (fun _ _ h => h)) (by omega)
      unfold WrP at hxw
      rw [hw] at hxw hxc
      simp only at hxw hxc
      have HXW := Lib.hid (hxw W3 (Kp.refl _ _))
      have HXC := Lib.hid hxc
      have HXD := Lib.hid hxd
      have HM1 := Lib.hid hm1
      have HCT := Lib.hid hct
      have hdI : depN x ≤ 8 := hdp
      clear hgood hbad hw hw2 hm1 hwo hws hct hxw hxc hxd hdp
      generalize depN x = dp at HXD hdI
      go_upto_region 7 with (go_at_call 29; refine HXW.out.mono ?_; rintro e w4 ⟨A3, c3, rfl, ho4, hk4⟩; have HO4 := Lib.hid ho4; have HK4' := Lib.hid hk4; clear ho4 hk4)
      have HK4 := Lib.hid (HK3.out.then_ HK4'.out (fun _ h => h.elim))
      have HB4 := Lib.hid (HO4.out.br rfl)
      have HX4 := Lib.hid (HX3.out.kp HK4'.out (fun h => h))
      have HK34 := Lib.hid HK4'.out
      clear HXW HO4 HK4' HX3 p0 p1 p2 p3 p4
      -- one byte more
      have ke : Kp (fun _ => False) w4 (w4.alloc (.cells #[] 5)) := (Kp.refl _ _).alloc _
      have HN := Lib.hid (Own.lit w4 [] #[] 0 w4.heap.size rfl rfl (Nat.le_refl _) (by simp [maxLen]))
      have HQ := Lib.hid ((HV.out w4 HK4.out).kp ke (fun _ _ h => h))
      have HKE := Lib.hid ke
      have hze := ke.size
      clear ke
      have HLIT := Lib.hid (fun W : World => BR.lit W 5 [ch] #[.int .u8 n] 1 rfl (by simp [bc, hch]))
      have HRD1 := Lib.hid (fun W (hk : Kp (fun _ => False) w W) A' c' (hb : BR W (w4.heap.size ≤ ·) (.slice A' (l.length + 1) c') (l ++ [ch])) => readD_got _ _ (l ++ [ch]) _ _ _ HM1.out W hb (by rw [List.length_append, List.length_singleton]; omega) (HT.out W hk))
      simp only [RT.a, RT.l, List.length_nil] at HRD1
      clear hch
      go_upto_region 8 with (first
        | (at_builtin; refine app_bytes rfl (.tmp 51) (.tmp 52) rfl w4.heap.size _ 0 _ [] rfl rfl HN.out _ A l.length cp l rfl rfl HQ.out l.length (by omega) (by omega) hze ?_; intro A5 c5 w5 o5 q5; have HO5 := Lib.hid o5; have HK5 := Lib.hid (HKE.out.then_ q5 (fun i hi => .inr hi)); clear o5 q5; have HO5b := Lib.hid (HO5.out.kp ((Kp.refl (fun _ => False) w5).alloc (.cells #[.int .u8 n] 5)) (fun _ _ h => h)); have HL5 := Lib.hid (HLIT.out w5))
        | (at_builtin; refine app_bytes rfl (.tmp 53) (.tmp 55) rfl w4.heap.size _ l.length _ l rfl rfl HO5b.out _ _ 1 1 [ch] rfl rfl HL5.out (l.length + 1) rfl (by omega) (by have := HK5.out.size; simp; omega) ?_; intro A6 c6 w6 o6 q6; have HO6 := Lib.hid o6; have HK6 := Lib.hid ((HK5.out.alloc (.cells #[.int .u8 n] 5)).then_ q6 (fun i hi => .inr hi)); clear o6 q6; have HR6 := Lib.hid (HRD1.out w6 (HK4.out.then_ HK6.out (fun _ h => h.elim)) A6 c6 (by have h := HO6.out.br (by simp); exact h)))
        | (go_at_call 21; refine HR6.out.mono ?_; rintro e w7 ⟨A7, c7, A8, c8, rfl, _, hk7⟩; have HK7 := Lib.hid (HK6.out.then_ hk7 (fun _ h => h.elim)); clear hk7))
      have HK8 := Lib.hid (HK7.out.alloc (.cells #[.int .i64 0, .int .i64 0, .bool false, .slice A7 0 c7, .slice A8 0 c8] 25))
      clear HK7 HR6 HK6 HO6 HO5b HL5 HO5 HK5 HRD1 HLIT HKE HQ HN
      generalize w7.alloc (.cells #[.int .i64 0, .int .i64 0, .bool false, .slice A7 0 c7, .slice A8 0 c8] 25) = W8 at HK8 ⊢
      -- a byte less
      obtain ⟨q, hq⟩ : ∃ q, q = l.length - 1 := ⟨_, rfl⟩
      rw [← hq] at HCT
      obtain ⟨A9, d9, hsl, hb9⟩ := slice_headN (K := q) (HV.out W8 (HK4.out.then_ HK8.out (fun _ h => h.elim))) (by omega)
      have hqI : (l.length : Int) - 1 = (q : Int) := by omega
      have hrd2 := readD_got _ _ _ _ _ _ HCT.out W8 hb9 (by rw [List.length_take]; omega) (HT.out W8 (HK4.out.then_ HK8.out (fun _ h => h.elim)))
      simp only [RT.a, RT.l, List.length_nil] at hrd2
      have HRD2 := Lib.hid hrd2
      clear hrd2 hb9 hq
      go_upto_region 9 with (go_at_call 21; refine HRD2.out.mono ?_; rintro e w9 ⟨A7, c7, A8, c8, rfl, _, hk9⟩; have HK9 := Lib.hid (HK8.out.then_ hk9 (fun _ h => h.elim)); clear hk9)
      have HK10 := Lib.hid (HK9.out.alloc (.cells #[.int .i64 0, .int .i64 0, .bool false, .slice A7 0 c7, .slice A8 0 c8] 25))
      clear HK9 HRD2 HK8 hsl
      generalize w9.alloc (.cells #[.int .i64 0, .int .i64 0, .bool false, .slice A7 0 c7, .slice A8 0 c8] 25) = W10 at HK10 ⊢
      have HX10 := Lib.hid (HX4.out.kp HK10.out (fun h => h))
      have v0 := HX10.out.cell 0
      have v1 := HX10.out.cell 1
      have v2 := HX10.out.cell 2
      have v3 := HX10.out.cell 3
      have v4 := HX10.out.cell 4
      simp at v0 v1 v2 v3 v4
      have hs1 := run_str (P := Tryd.prog) (src := 22) (dst := 9) (e := 5) Tryd.underlying22 Tryd.underlying5 Tryd.underlying9 (HB4.out.kp HK10.out (fun _ _ h => h))
      have hs2 := run_str (P := Tryd.prog) (src := 22) (dst := 9) (e := 5) Tryd.underlying22 Tryd.underlying5 Tryd.underlying9 (HV.out W10 (HK4.out.then_ HK10.out (fun _ h => h.elim)))
      generalize str l = gs at hs1 hs2
      have hgg : (gs.toList == gs.toList) = true := by simp
      have hqq : ((q : Int) == (q : Int)) = true := by simp
      have hll : ((l.length : Int) == (l.length : Int)) = true := by simp
      have HC10 := Lib.hid (HXC.out W10 (HK34.out.then_ HK10.out (fun _ h => h.elim)))
      have HKT := Lib.hid (HK4.out.then_ HK10.out (fun _ h => h.elim))
      go_wp2_with (first
        | (go_at_call 30; refine HC10.out.mono ?_; rintro e w11 ⟨rfl, hk11⟩; have HK11 := Lib.hid (HKT.out.then_ hk11 (fun _ h => h.elim)); have HX11 := Lib.hid (HX10.out.kp hk11 (fun h => h)); have HD11 := Lib.hid (HXD.out w11 ((HK34.out.then_ HK10.out (fun _ h => h.elim)).then_ hk11 (fun _ h => h.elim))); clear hk11; have u0 := HX11.out.cell 0; have u1 := HX11.out.cell 1; have u2 := HX11.out.cell 2; have u3 := HX11.out.cell 3; have u4 := HX11.out.cell 4; simp at u0 u1 u2 u3 u4)
        | (go_at_call 24; refine HD11.out.mono ?_; rintro e w12 ⟨rfl, hk12⟩; have HK12 := Lib.hid (HK11.out.then_ hk12 (fun _ h => h.elim)); clear hk12))
      go_ret
      exact ⟨rfl, HK12.out⟩
    · have heb : (er != 0) = true := by simpa using he
      obtain ⟨rfl, hkl⟩ := hbad he
      simp only [RT.a, RT.l, List.length_nil] at HV3 HX3 p0 p1 p2 p3 p4
      have hsm := rsame_anyN _ (fun _ => False) (.mk ⟨0, 0, false, []⟩ []) (.mk ⟨0, 0, false, []⟩ []) _ (.agg #[.int .i64 0, .int .i64 0, .bool false, .slice none 0 0, .slice none 0 0]) W3 HV3.out NdR.zero
      rw [sameN_refl] at hsm
      have HSM := Lib.hid hsm
      have hk0 : (0 : Int) ≤ (kk : Int) := by omega
      have hk1 : (kk : Int) ≤ (l.length : Int) := by omega
      clear hgood hbad he hsm
      go_wp2_with (go_at_call 23; refine HSM.out.mono ?_; rintro e w5 ⟨rfl, hk5⟩; have HK5 := Lib.hid (HK3.out.then_ hk5 (fun _ h => h.elim)); clear hk5)
      go_ret
      exact ⟨rfl, HK5.out⟩
end Go.Proofs.YtgjbfgkcbehjnaaDoor

namespace Go.Proofs.YtgjbfgkcbehjnaaDoor.derOne
open Go.ChangeShapes Go.WideShapes Go.ChangeAt Go.RowKit
set_option linter.unusedVariables false

theorem own : ownKnob Tryd.prog.godebug = none := by kernel_rfl
theorem laidOut : laidOutB Tryd.prog = true := by kernel_rfl

theorem door_met (os : Os) (args : Array Value) : laidMetH Tryd.prog Rows.derOneRow.laid ((World.doorLaid Tryd.prog 77 os).forCall (fun _ _ => 0) ⟨#[], args, []⟩).memory :=
  laidMetH_of_parts3 (fuel := 8) (laidMet_of_run' 8 (by kernel_rfl) (by kernel_rfl)) (by kernel_rfl) (by kernel_rfl)

set_option maxRecDepth 100000 in
theorem lifted (os : Os) (started : os.Started) (H : Type) (enc : TypeId × Value → H) :
    ReturnsInHanded {} Tryd.checked os 14 .any (fun w args => (Rows.derOneSpec.pre enc Tryd.prog Tryd.f14 [] false w args ∧ laidMetH Tryd.prog Rows.derOneRow.laid w) ∧ sizedMet enc Tryd.prog Tryd.f14 (OpenSpec.ofChange Rows.derOneSpec) false w args) (Rows.derOneSpec.post enc Tryd.prog Tryd.f14 false true false false) := by
  refine returnsInHanded_of_change_and (C := Tryd.checked) (X := fun w _ => laidMetH Tryd.prog Rows.derOneRow.laid w) (fun _ _ _ hh h => h.of_heap hh) own started (by kernel_rfl) Tryd.func14
    (ChangeSpec.witness_shaped (enc := enc) (C := Tryd.checked) (os := os) (X := fun w _ => laidMetH Tryd.prog Rows.derOneRow.laid w) false (World.doorLaid Tryd.prog 77 os) #[.slice none 0 0, .int .u8 0] 8 rfl (World.shaped_of_RefB (by kernel_rfl) (by kernel_rfl)) (by kernel_rfl) (by kernel_rfl) (by kernel_rfl) (door_met os _)) ?_
  intro W base args ds gs before hval0 hW hcnd hsz0 hL _
  have tab := tabN (hf := by kernel_rfl) (hg := by kernel_rfl) hL
  have hval : ∀ (j : Nat) t v, Tryd.f14.params[j]? = some t → args[j]? = some v → Value.okWide Tryd.prog W .any base t v := hval0
  have hW' := hW
  obtain ⟨p, q, hA0, hV, rfl, hfz, hnd⟩ := hW
  have hA : DataW.TrodAll enc Tryd.prog W 0 (fun _ => true) true Tryd.f14.params.toList args.toList ds p := hA0
  obtain ⟨rfl, rfl⟩ := trodVars_none hV
  have hsz : (DataW.weightsEach Tryd.prog (Tryd.f14.params.toList ++ []) (ds ++ [])).all (· ≤ reachBytes) = true := hsz0
  rw [List.append_nil, List.append_nil] at hsz
  rw [Tryd.params14] at hA hval hsz
  obtain ⟨v0, vs0, d0, ds0, p0, q0, hargs, rfl, rfl, h0, r0⟩ := trodAll_cons hA
  obtain ⟨v1, vs1, d1, ds1, p1, q1, rfl, rfl, rfl, h1, r1⟩ := trodAll_cons r0
  obtain ⟨rfl, rfl, rfl⟩ := trodAll_nil r1
  obtain rfl : args = #[v0, v1] := by cases args; simp_all
  have k0 := h0
  have lt0 : ∀ x ∈ p0, x.block < W.heap.size := by obtain ⟨m, hm⟩ := k0; exact DataW.trod_lt m _ _ _ hm
  have k1 := h1
  have lt1 : ∀ x ∈ p1, x.block < W.heap.size := by obtain ⟨m, hm⟩ := k1; exact DataW.trod_lt m _ _ _ hm
  obtain ⟨l0, b0, e0⟩ := open_br Tryd.underlying22 Tryd.underlying5 (by kernel_rfl) (hval 0 22 v0 rfl rfl) h0
  have s0 := sized_len hsz (j := 0) (t := 22) (e := 5) rfl rfl Tryd.underlying22 e0
  rw [show Tryd.prog.bytesOf 5 = 1 from by kernel_rfl] at s0
  obtain ⟨a1, rfl, rfl, rfl, w1⟩ := open_int Tryd.underlying5 (hval 1 5 v1 rfl rfl) h1
  clear hA0 hval0 hsz0
  refine (done11_walk W tab v0 l0 b0 (by omega) a1 w1).mono fun e W' ⟨he, bel⟩ => ?_
  subst he
  exact ⟨_, rfl, _, _, _, [], _, [], hW', trodAll_mk1 (shut_bool Tryd.underlying4 _), (trodAll_cons_mk (Below.trod laidOut (by kernel_rfl) (of_decide_eq_true (by kernel_rfl)) k0 bel lt0) (trodAll_cons_mk (Below.trod laidOut (by kernel_rfl) (of_decide_eq_true (by kernel_rfl)) k1 bel lt1) trodAll_mk0)), rfl, bel.frame _, fun h => by cases h⟩

theorem over : Rows.derOneRow.holds Tryd.pinned (OpenSpec.ofChange Rows.derOneSpec) :=
  OpenClaim.holds_of_wide 14 Tryd.f14 rfl rfl rfl rfl rfl rfl rfl ⟨rfl, rfl, rfl, rfl, rfl⟩ rfl rfl rfl rfl rfl (by kernel_rfl) Tryd.func14 (by kernel_rfl)
    (of_decide_eq_true (by kernel_rfl)) (by unfold Func.isWrapper; first | (rw [if_pos (by decide +kernel)]; kernel_rfl) | (rw [if_neg (by decide +kernel)]; exact ⟨rfl, rfl⟩))
    (fun os started H enc _ => lifted os started H enc)

/-- The tied card. -/
theorem proved : Rows.DerOneCardSaid :=
  Claim7.holds_tied_plain_at .later [] [.data, .data, .data, .sentinel, .sentinel, .widerDeep, .widerDeep, .data] true (true, "0ab74d96bed3506d8a76af22bf9d6f6d114eadcc4072f4d921186855ad1623b7") true
    over (fun _ h => by cases h) (by kernel_rfl) (fun _ h => by cases h) derOne_row_tie rfl ⟨rfl, rfl⟩ (by kernel_rfl) rfl
    (fun f fn hf hfn => by
      obtain rfl : f = 14 := Option.some.inj ((show Tryd.prog.funcNamed "passepartout/passepartoutlaw11.DerOne" = some 14 by kernel_rfl).symm.trans hf) |>.symm
      obtain rfl : fn = Tryd.f14 := (Option.some.inj (Tryd.func14.symm.trans hfn)).symm
      exact ⟨by kernel_rfl, fun j t ht => by
        rw [Tryd.params14] at ht
        have hm : t ∈ [22, 5] := by simpa using Array.mem_of_getElem? ht
        have hall : ([22, 5].all fun u => !Tryd.prog.wantsStandIn u) = true := by kernel_rfl
        exact (show Tryd.prog.wantsStandIn t = false by simpa using List.all_eq_true.1 hall t hm)⟩)
    (by kernel_rfl)
#print axioms proved
end Go.Proofs.YtgjbfgkcbehjnaaDoor.derOne
