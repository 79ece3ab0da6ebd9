/-
  Forms (api.Form), as trees.
-/
import Derived.Test.YtfcghajnnllmhaaProg
import Derived.Test.YtfcghajnnllmhaaTree
import Derived.Test.YtfcghajnnllmhaaTreeOpen
namespace Go.Proofs.Ytfcghajnnllmhaa
open Go.RowKit

/-- A form's numbers. -/
structure FH where
  (k s lo hi st : Int)
deriving DecidableEq
def i64B (x : Int) : Prop := -9223372036854775808 ≤ x ∧ x < 9223372036854775808
structure FH.ok (a : FH) : Prop where
  (k : i64B a.k)
  (s : i64B a.s)
  (lo : i64B a.lo)
  (hi : i64B a.hi)
  (st : i64B a.st)
def FHd : Head FH := fun _ _ a hd => hd = [.int .i64 a.k, .int .i64 a.s, .int .i64 a.lo, .int .i64 a.hi, .int .i64 a.st] ∧ a.ok
theorem FHd_kp : HeadKp FHd := ⟨fun h _ _ => h, fun h _ => h⟩
abbrev Fm := RT FH
/-- A slice value that reads as these forms. -/
def FsR (w : World) (ok : Nat → Prop) (v : Value) (l : List Fm) : Prop := ∃ A c, v = .slice A l.length c ∧ l.length ≤ c ∧ l.length ≤ 140737488355328 ∧ TL FHd 6 w ok l A
/-- A value that reads as a form. -/
def FmR (w : World) (ok : Nat → Prop) (v : Value) (f : Fm) : Prop :=
  ∃ sv, v = .agg #[.int .i64 f.a.k, .int .i64 f.a.s, .int .i64 f.a.lo, .int .i64 f.a.hi, .int .i64 f.a.st, sv] ∧ f.a.ok ∧ FsR w ok sv f.l
section
variable {w w' : World} {ok ok' S : Nat → Prop} {v : Value} {l : List Fm} {f : Fm}
theorem FsR.kp (h : FsR w ok v l) (hk : Kp S w w') (hd : ∀ i, ok i → ¬ S i) : FsR w' ok v l := by
  obtain ⟨A, c, e, h1, h2, h3⟩ := h
  exact ⟨A, c, e, h1, h2, h3.kp_ FHd_kp hk hd (fun _ h => h)⟩
theorem FsR.mono (h : FsR w ok v l) (hm : ∀ i, ok i → ok' i) : FsR w ok' v l := by
  obtain ⟨A, c, e, h1, h2, h3⟩ := h
  exact ⟨A, c, e, h1, h2, h3.kp_ FHd_kp (Kp.refl (fun _ => False) w) (fun _ _ h => h) hm⟩
theorem FmR.kp (h : FmR w ok v f) (hk : Kp S w w') (hd : ∀ i, ok i → ¬ S i) : FmR w' ok v f := by
  obtain ⟨sv, e, h1, h2⟩ := h
  exact ⟨sv, e, h1, h2.kp hk hd⟩
theorem FmR.mono (h : FmR w ok v f) (hm : ∀ i, ok i → ok' i) : FmR w ok' v f := by
  obtain ⟨sv, e, h1, h2⟩ := h
  exact ⟨sv, e, h1, h2.mono hm⟩
theorem FsR.nil : FsR w ok (.slice none 0 0) [] := ⟨none, 0, rfl, Nat.le_refl _, by simp, fun h => by simp at h⟩
theorem FmR.of_tr {cs : List Value} (h : TR FHd 6 w ok f cs) : FmR w ok (.agg cs.toArray) f ∧ cs.length = 6 := by
  obtain ⟨hd, A, c, e, hl, ⟨hh, ho⟩, h1, h2, h3⟩ := (TR_def _ _ _ _ _ _).1 h
  subst hh
  subst e
  exact ⟨⟨_, rfl, ho, A, c, rfl, h1, h2, h3⟩, by simp⟩
theorem FmR.tr (h : FmR w ok v f) : ∃ sv, v = .agg #[.int .i64 f.a.k, .int .i64 f.a.s, .int .i64 f.a.lo, .int .i64 f.a.hi, .int .i64 f.a.st, sv] ∧ TR FHd 6 w ok f [.int .i64 f.a.k, .int .i64 f.a.s, .int .i64 f.a.lo, .int .i64 f.a.hi, .int .i64 f.a.st, sv] := by
  obtain ⟨sv, e, h1, A, c, e2, h2, h3, h4⟩ := h
  subst e2
  exact ⟨_, e, (TR_def _ _ _ _ _ _).2 ⟨[.int .i64 f.a.k, .int .i64 f.a.s, .int .i64 f.a.lo, .int .i64 f.a.hi, .int .i64 f.a.st], A, c, rfl, rfl, ⟨rfl, h1⟩, h2, h3, h4⟩⟩
/-- An element: its value, and its cells. -/
theorem FsR.at_ {A : Option Addr} {n c : Nat} (h : FsR w ok (.slice A n c) l) {i : Nat} (hi : i < l.length) :
    ∃ b off A2 c2, A = some ⟨b, off, none⟩ ∧ ok b ∧ FmR w ok (.agg #[.int .i64 (l[i]'hi).a.k, .int .i64 (l[i]'hi).a.s, .int .i64 (l[i]'hi).a.lo, .int .i64 (l[i]'hi).a.hi, .int .i64 (l[i]'hi).a.st, .slice A2 (l[i]'hi).l.length c2]) (l[i]'hi) ∧
      w.cell? ⟨b, off + i * 6, none⟩ = some (.int .i64 (l[i]'hi).a.k) ∧ w.cell? ⟨b, off + i * 6 + 1, none⟩ = some (.int .i64 (l[i]'hi).a.s) ∧ w.cell? ⟨b, off + i * 6 + 2, none⟩ = some (.int .i64 (l[i]'hi).a.lo) ∧
      w.cell? ⟨b, off + i * 6 + 3, none⟩ = some (.int .i64 (l[i]'hi).a.hi) ∧ w.cell? ⟨b, off + i * 6 + 4, none⟩ = some (.int .i64 (l[i]'hi).a.st) ∧ w.cell? ⟨b, off + i * 6 + 5, none⟩ = some (.slice A2 (l[i]'hi).l.length c2) := by
  obtain ⟨A', c', e, _, _, h3⟩ := h
  injection e with e1 e2 e3
  subst e1
  obtain ⟨b, off, cs, hA, hb, ht, hc⟩ := h3.at_ hi
  have h1 := (FmR.of_tr ht).1
  obtain ⟨hd, A2, c2, e, hl, ⟨hh, ho⟩, _, _, _⟩ := (TR_def _ _ _ _ _ _).1 ht
  subst hh
  subst e
  exact ⟨b, off, _, _, hA, hb, h1, hc 0 _ rfl, hc 1 _ rfl, hc 2 _ rfl, hc 3 _ rfl, hc 4 _ rfl, hc 5 _ rfl⟩
end

/-- Those that play a part. -/
def partsF (f : Fm) : List Fm := if f.a.k = 2 ∨ f.a.k = 3 then f.l else []
/-- Is a form deeper than so much? -/
def deepB : Nat → Fm → Bool
  | 0, _ => true
  | n + 1, f => (partsF f).any (deepB n)
def boundsR (lo hi most : Int) : Int := if lo < 0 ∨ hi < lo ∨ most < hi then 5 else 0
/-- What is wrong with a form itself. -/
def ownN (k s lo hi st : Int) (n : Nat) : Int :=
  if k = 0 then (if s < 1 ∨ (4 < s ∧ s ≠ 8) then 3 else 0)
  else if k = 2 ∨ k = 1 then
    (if s < 1 ∨ 3 < s then 3 else if boundsR lo hi (256 ^ s.toNat - 1) ≠ 0 ∨ st < 1 ∨ 65536 < st then 5 else if k = 2 ∧ n ≠ 1 then 15 else 0)
  else if k = 3 then (if 32 < n then 15 else 0)
  else if k = 4 then boundsR lo hi 16777215
  else if k = 5 then boundsR lo lo 16777215
  else 2
def ownR (f : Fm) : Int := ownN f.a.k f.a.s f.a.lo f.a.hi f.a.st f.l.length
end Go.Proofs.Ytfcghajnnllmhaa
