/-
  Texts for the law ValueRows: part 3.
-/
import Derived.Test.YtfcghajnnllmhaaProg
import Derived.Maps.OwnSet
import Derived.Maps.OwnOps
import Derived.Laws.EntriesVeiled
import Derived.Test.YtfcghajnnllmhaaMValueRows1
import Derived.Test.YtfcghajnnllmhaaMValueRows2

namespace Go.Proofs.Ytfcghajnnllmhaa
open Go.RowKit Go.Maps

/-- A store at a map's making, at the operation. -/
theorem wpList_insert_own {H : Type} {P : Program} (w : World) {ops : Array Oper} {rest : List Oper} {o : Oper} {a : Act} {Q : Exit → Act → World → Prop}
    (hg : o.guard = none) (m x v : Operand) (t : TypeId) (hop : o.op = Op.insert t m x v)
    (k e : TypeId) (K : Keyed P k) (ht : P.underlying t = some (.map k e)) (R : Value → Option (DataW H × List MemPlace)) (b n : Nat) (D : DataW H)
    (hm : a.eval m = .map (some b)) (hown : w.ownsMap P k R b n D) (hn : n < maxLen) (key val : Value) (kl : Lit) (hx : a.eval x = key) (hv : a.eval v = val) (hkey : keyOf P k key = some kl)
    (d : DataW H) (ps : List MemPlace) (hval : R val = some (d, ps))
    (hK : ∀ w', w'.ownsMap P k R b (n + 1) (D.put kl d) → w.grownBy w' (some b) → wpList P ops Q rest (a.put o.dst undef) w') :
    wpList P ops Q (o :: rest) a w := by
  refine wpList_plain hg fun K' hK' => ?_
  obtain ⟨w', hrun, r1, r2⟩ := hown.update K ht hn hkey hval
  unfold Oper.wp
  simp [execOp, hop, hm, hx, hv, hrun, Result.andThen]
  exact hK' _ _ (hK w' r1 r2)
theorem lawInt : Keyed Try.prog 3 := int_keyed Try.underlying3
/-- Which field is a kind's own. -/
def fld (k : Int) : Int := if k = 1 ∨ k = 4 ∨ k = 5 then 1 else if k = 2 ∨ k = 3 then 2 else 0
def fieldsD : DataW Unit := ((((((.map [] : DataW Unit).put (.int .i64 0) (.lit (.int .i64 0))).put (.int .i64 1) (.lit (.int .i64 1))).put (.int .i64 4) (.lit (.int .i64 1))).put (.int .i64 5) (.lit (.int .i64 1))).put (.int .i64 2) (.lit (.int .i64 2))).put (.int .i64 3) (.lit (.int .i64 2))
theorem fields_at (k : Int) : fieldsD.atKey (.int .i64 k) (.lit (.int .i64 0)) = .lit (.int .i64 (fld k)) := by
  by_cases h0 : k = 0
  · subst h0; rfl
  by_cases h1 : k = 1
  · subst h1; rfl
  by_cases h2 : k = 2
  · subst h2; rfl
  by_cases h3 : k = 3
  · subst h3; rfl
  by_cases h4 : k = 4
  · subst h4; rfl
  by_cases h5 : k = 5
  · subst h5; rfl
  have ne : ∀ q : Int, k ≠ q → (Lit.int .i64 k) ≠ .int .i64 q := fun q h e => h (by injection e)
  unfold fieldsD
  iterate 6 rw [atKey_put_other (ne _ (by assumption))]
  rw [fld, if_neg (by omega), if_neg (by omega)]
  rfl
set_option maxRecDepth 100000 in
theorem fields_any (w : World) : Calls Try.prog 72 #[] w fun e w' => ∃ b, e = .returned (.map (some b)) ∧ w'.ownsMap Try.prog 3 (plainElem Try.prog 81) b 6 fieldsD ∧ Kp (fun _ => False) w w' := by
  have hmm := @run_makeMap Try.prog
  have HM := Lib.hid (by simpa using World.ownsMap_made (H := Unit) w Try.prog 3 (plainElem Try.prog 81))
  have hk0 := (Kp.refl (fun _ => False) w).alloc (.map #[] 0)
  obtain ⟨W0, hW0⟩ : ∃ W0, w.alloc (.map #[] 0) = W0 := ⟨_, rfl⟩
  have hsz : W0.heap.size = w.heap.size + 1 := by rw [← hW0]; simp
  rw [hW0] at HM hk0
  have kr := Kp.refl (fun j => j = w.heap.size) W0
  have HW := Lib.hid hW0
  clear hW0
  go_enter Try.func72, Try.ntmps72
  go_wp2_with (first
    | (rw [HW.out]; refine wpList_insert_own _ rfl _ _ _ 82 rfl 3 81 lawInt Try.underlying82 (plainElem Try.prog 81) _ _ _ rfl HM.out (by unfold maxLen; omega) _ _ _ rfl rfl (keyOf_int_mk Try.underlying3 (by decide)) _ _ (plainElem_int Try.underlying81 (by decide)) ?_; intro w1 hown1 hg1; have hk1 := kr.grown hg1 (fun j hj => by cases hj; exact .inl rfl); clear hg1)
    | (refine wpList_insert_own _ rfl _ _ _ 82 rfl 3 81 lawInt Try.underlying82 (plainElem Try.prog 81) _ _ _ rfl hown1 (by unfold maxLen; omega) _ _ _ rfl rfl (keyOf_int_mk Try.underlying3 (by decide)) _ _ (plainElem_int Try.underlying81 (by decide)) ?_; clear hown1; intro w2 hown1 hg1; have hk2 := hk1.grown hg1 (fun j hj => by cases hj; exact .inl rfl); clear hg1 hk1; have hk1 := hk2; clear hk2)
    | fail)
  go_ret
  exact ⟨_, rfl, hown1, hk0.then_ hk1 (fun j hj => .inr (by omega))⟩

/-- Is only a kind's field filled? -/
def aloneB (k n : Int) (b l : Nat) : Bool := (decide (fld k = 0) || decide (n = 0)) && ((decide (fld k = 1) || decide (b = 0)) && (decide (fld k = 2) || decide (l = 0)))
set_option maxRecDepth 100000 in
set_option maxHeartbeats 3200000 in
theorem alone_any (k n : Int) (hk : (Lit.int .i64 k).wf = true) (A1 A2 : Option Addr) (m1 m2 c1 c2 : Nat) (w : World) :
    Calls Try.prog 70 #[.int .i64 k, .agg #[.int .u64 n, .slice A1 m1 c1, .slice A2 m2 c2]] w fun e w' => e = .returned (.bool (aloneB k n m1 m2)) ∧ Kp (fun _ => False) w w' := by
  have hkey := Lib.hid (keyOf_int_mk Try.underlying3 hk)
  have HB := Lib.hid (Blk.new w 46 #[.int .u64 n, .slice A1 m1 c1, .slice A2 m2 c2])
  have HK := Lib.hid ((Kp.refl (fun _ => False) w).alloc (.cells #[.int .u64 n, .slice A1 m1 c1, .slice A2 m2 c2] 46))
  have hzv : ∀ W : World, (zeroValue 81).run Try.prog W = .ok (.int .i64 0) W := fun W => by kernel_rfl
  have HZV := Lib.hid hzv
  obtain ⟨f, hf⟩ : ∃ f, fld k = f := ⟨_, rfl⟩
  have hf3 : f = 0 ∨ f = 1 ∨ f = 2 := by rw [← hf, fld]; split <;> (try split) <;> omega
  have HAT := Lib.hid (show fieldsD.atKey (.int .i64 k) (.lit (.int .i64 0)) = .lit (.int .i64 f) by rw [fields_at, hf])
  obtain ⟨r, hr⟩ : ∃ r, aloneB k n m1 m2 = r := ⟨_, rfl⟩
  rw [hr]
  rw [aloneB, hf] at hr
  have hn : ((n == 0) = true ∧ n = 0) ∨ ((n == 0) = false ∧ n ≠ 0) := by by_cases h : n = 0 <;> simp [h]
  have hm1 : (((m1 : Int) == 0) = true ∧ m1 = 0) ∨ (((m1 : Int) == 0) = false ∧ m1 ≠ 0) := by by_cases h : m1 = 0 <;> simp [h]
  have hm2 : (((m2 : Int) == 0) = true ∧ m2 = 0) ∨ (((m2 : Int) == 0) = false ∧ m2 ≠ 0) := by by_cases h : m2 = 0 <;> simp [h]
  clear hk hf hzv
  rcases hf3 with rfl | rfl | rfl <;> rcases hn with ⟨t1, e1⟩ | ⟨t1, e1⟩ <;> rcases hm1 with ⟨t2, e2⟩ | ⟨t2, e2⟩ <;> rcases hm2 with ⟨t3, e3⟩ | ⟨t3, e3⟩
  all_goals
    simp [e1, e2, e3] at hr
    subst hr
    clear e1 e2 e3
    go_enter Try.func70, Try.ntmps70
    go_wp2_with fail
    refine (fields_any _).mono ?_
    rintro e w1 ⟨b, rfl, hown, hk1⟩
    have HOWN := Lib.hid hown
    have HK1 := Lib.hid (HK.out.then_ hk1 (fun _ h => h.elim))
    have hb1 := HB.out.kp hk1 (fun h => h)
    have c0 := hb1.cell 0
    have c1' := hb1.cell 1
    have c2' := hb1.cell 2
    simp at c0 c1' c2'
    clear hown hk1 hb1
    go_wp2_with (first
      | (at_lookup; refine wpList_lookup_own_int _ rfl _ _ 82 rfl 3 81 .i64 lawInt Try.underlying82 Try.underlying81 (HZV.out _) _ _ _ rfl HOWN.out _ _ rfl hkey.out ?_; intro c hc _; rw [HAT.out] at hc; injection hc with hc; injection hc with _ hc; subst hc)
      | fail)
    go_ret
    exact ⟨rfl, HK1.out⟩
end Go.Proofs.Ytfcghajnnllmhaa

namespace Go.Proofs.Ytfcghajnnllmhaa
open Go.RowKit

/-- A value's number and bytes. -/
structure VH where
  n : Int
  b : List UInt8
deriving DecidableEq
def u64B (x : Int) : Prop := 0 ≤ x ∧ x < 18446744073709551616
def VHd : Head VH := fun w ok a hd => ∃ v, hd = [.int .u64 a.n, v] ∧ u64B a.n ∧ BR w ok v a.b ∧ a.b.length ≤ 140737488355328
theorem VHd_kp : HeadKp VHd :=
  ⟨fun ⟨v, e, h1, h2, h3⟩ hk hd => ⟨v, e, h1, h2.kp hk hd, h3⟩, fun ⟨v, e, h1, h2, h3⟩ hm => ⟨v, e, h1, h2.mono hm, h3⟩⟩
theorem VHd_one {w : World} {ok : Nat → Prop} {a : VH} {hd : List Value} (h : VHd w ok a hd) : ∀ u ∈ hd, u.oneCell' = true := by
  obtain ⟨v, e, _, ⟨A, c, e2, _⟩, _⟩ := h
  subst e e2
  intro u hu
  simp at hu
  rcases hu with rfl | rfl <;> rfl
abbrev Vt := RT VH
/-- A slice value that reads as these values. -/
def VsR (w : World) (ok : Nat → Prop) (v : Value) (l : List Vt) : Prop := ∃ A c, v = .slice A l.length c ∧ l.length ≤ c ∧ l.length ≤ 140737488355328 ∧ TL VHd 3 w ok l A
/-- A value that reads as a value. -/
def VtR (w : World) (ok : Nat → Prop) (v : Value) (x : Vt) : Prop :=
  ∃ bv sv, v = .agg #[.int .u64 x.a.n, bv, sv] ∧ u64B x.a.n ∧ BR w ok bv x.a.b ∧ x.a.b.length ≤ 140737488355328 ∧ VsR w ok sv x.l
section
variable {w w' : World} {ok ok' S : Nat → Prop} {v : Value} {l : List Vt} {x : Vt}
theorem VsR.kp (h : VsR w ok v l) (hk : Kp S w w') (hd : ∀ i, ok i → ¬ S i) : VsR w' ok v l := by
  obtain ⟨A, c, e, h1, h2, h3⟩ := h
  exact ⟨A, c, e, h1, h2, h3.kp_ VHd_kp hk hd (fun _ h => h)⟩
theorem VsR.mono (h : VsR w ok v l) (hm : ∀ i, ok i → ok' i) : VsR w ok' v l := by
  obtain ⟨A, c, e, h1, h2, h3⟩ := h
  exact ⟨A, c, e, h1, h2, h3.kp_ VHd_kp (Kp.refl (fun _ => False) w) (fun _ _ h => h) hm⟩
theorem VtR.kp (h : VtR w ok v x) (hk : Kp S w w') (hd : ∀ i, ok i → ¬ S i) : VtR w' ok v x := by
  obtain ⟨bv, sv, e, h1, h2, h3, h4⟩ := h
  exact ⟨bv, sv, e, h1, h2.kp hk hd, h3, h4.kp hk hd⟩
theorem VtR.mono (h : VtR w ok v x) (hm : ∀ i, ok i → ok' i) : VtR w ok' v x := by
  obtain ⟨bv, sv, e, h1, h2, h3, h4⟩ := h
  exact ⟨bv, sv, e, h1, h2.mono hm, h3, h4.mono hm⟩
theorem VsR.nil : VsR w ok (.slice none 0 0) [] := ⟨none, 0, rfl, Nat.le_refl _, by simp, fun h => by simp at h⟩
theorem VtR.of_tr {cs : List Value} (h : TR VHd 3 w ok x cs) : VtR w ok (.agg cs.toArray) x ∧ cs.length = 3 := by
  obtain ⟨hd, A, c, e, hl, ⟨bv, hh, ho, hb, hbl⟩, h1, h2, h3⟩ := (TR_def _ _ _ _ _ _).1 h
  subst hh
  subst e
  exact ⟨⟨bv, _, rfl, ho, hb, hbl, A, c, rfl, h1, h2, h3⟩, by simp⟩
theorem VtR.tr (h : VtR w ok v x) : ∃ bv sv, v = .agg #[.int .u64 x.a.n, bv, sv] ∧ TR VHd 3 w ok x [.int .u64 x.a.n, bv, sv] := by
  obtain ⟨bv, sv, e, h1, h2, h3, A, c, e2, h4, h5, h6⟩ := h
  subst e2
  exact ⟨_, _, e, (TR_def _ _ _ _ _ _).2 ⟨[.int .u64 x.a.n, bv], A, c, rfl, rfl, ⟨bv, rfl, h1, h2, h3⟩, h4, h5, h6⟩⟩
/-- The parts of a value. -/
theorem VtR.parts {n : Int} {B : List UInt8} {ps : List Vt} (h : VtR w ok v (.mk ⟨n, B⟩ ps)) :
    ∃ A1 c1 A2 c2, v = .agg #[.int .u64 n, .slice A1 B.length c1, .slice A2 ps.length c2] ∧ u64B n ∧ B.length ≤ c1 ∧ B.length ≤ 140737488355328 ∧ BR w ok (.slice A1 B.length c1) B ∧ ps.length ≤ c2 ∧ ps.length ≤ 140737488355328 ∧ VsR w ok (.slice A2 ps.length c2) ps := by
  obtain ⟨bv, sv, rfl, h1, h2, h3, A2, c2, rfl, h4, h5, h6⟩ := h
  obtain ⟨A1, c1, e, h7, h8⟩ := id h2
  have e' : bv = .slice A1 B.length c1 := e
  subst e'
  exact ⟨A1, c1, A2, c2, rfl, h1, h7, h3, h2, h4, h5, A2, c2, rfl, h4, h5, h6⟩
/-- An element: its value, and its cells. -/
theorem VsR.at_ {A : Option Addr} {n c : Nat} (h : VsR w ok (.slice A n c) l) {i : Nat} (hi : i < l.length) :
    ∃ b off A1 c1 A2 c2, A = some ⟨b, off, none⟩ ∧ ok b ∧ VtR w ok (.agg #[.int .u64 (l[i]'hi).a.n, .slice A1 (l[i]'hi).a.b.length c1, .slice A2 (l[i]'hi).l.length c2]) (l[i]'hi) ∧
      w.cell? ⟨b, off + i * 3, none⟩ = some (.int .u64 (l[i]'hi).a.n) ∧ w.cell? ⟨b, off + i * 3 + 1, none⟩ = some (.slice A1 (l[i]'hi).a.b.length c1) ∧ w.cell? ⟨b, off + i * 3 + 2, none⟩ = some (.slice A2 (l[i]'hi).l.length c2) := by
  obtain ⟨A', c', e, _, _, h3⟩ := h
  injection e with e1 e2 e3
  subst e1
  obtain ⟨b, off, cs, hA, hb, ht, hc⟩ := h3.at_ hi
  have h1 := (VtR.of_tr ht).1
  obtain ⟨hd, A2, c2, e, hl, ⟨bv, hh, ho, hbr, hbl⟩, _, _, _⟩ := (TR_def _ _ _ _ _ _).1 ht
  subst hh
  subst e
  obtain ⟨A1, c1, e, _, _⟩ := hbr
  subst e
  exact ⟨b, off, _, _, _, _, hA, hb, h1, hc 0 _ rfl, hc 1 _ rfl, hc 2 _ rfl⟩
theorem VsR.len {A : Option Addr} {n c : Nat} (h : VsR w ok (.slice A n c) l) : n = l.length ∧ n ≤ c ∧ n ≤ 140737488355328 := by
  obtain ⟨A', c', e, h1, h2, _⟩ := h
  injection e with _ e2 e3
  omega
end
mutual
/-- Are two values the same? -/
def sameV : Vt → Vt → Bool
  | .mk a l, .mk b m => decide (a.n = b.n) && (decide (a.b = b.b) && sameVs l m)
def sameVs : List Vt → List Vt → Bool
  | [], [] => true
  | x :: l, y :: m => sameV x y && sameVs l m
  | _, _ => false
end
end Go.Proofs.Ytfcghajnnllmhaa

namespace Go.Proofs.Ytfcghajnnllmhaa
open Go.RowKit

/-- May a length be? -/
def mayR (n lo hi st : Int) : Int := if n < lo then 5 else if hi < n then 5 else if Int.tmod n st = 0 then 0 else 5
def nilF : Fm := .mk ⟨0, 0, 0, 0, 0⟩ []
mutual
/-- The size of a value of a right form, or why it is none. -/
def fitR : Fm → Vt → Int × Int
  | f, .mk a l =>
    if aloneB f.a.k a.n a.b.length l.length = false then (0, 15)
    else if f.a.k = 0 then (if f.a.s < 8 ∧ (2 : Int) ^ (8 * f.a.s.toNat) ≤ a.n then (0, 3) else (f.a.s, 0))
    else if f.a.k = 1 then (wrap64 (f.a.s + (a.b.length : Int)), mayR a.b.length f.a.lo f.a.hi f.a.st)
    else if f.a.k = 4 then ((a.b.length : Int), mayR a.b.length f.a.lo f.a.hi 1)
    else if f.a.k = 5 then (f.a.lo, mayR a.b.length f.a.lo f.a.lo 1)
    else if f.a.k = 3 ∧ l.length ≠ f.l.length then (0, 15)
    else fitL f 0 0 l
def fitL : Fm → Int → Nat → List Vt → Int × Int
  | f, q, _, [] => if f.a.k = 3 then (q, 0) else (wrap64 (f.a.s + q), mayR q f.a.lo f.a.hi f.a.st)
  | f, q, j, x :: t =>
    if (fitR (f.l.getD (j % f.l.length) nilF) x).2 = 0 then fitL f (wrap64 (q + (fitR (f.l.getD (j % f.l.length) nilF) x).1)) (j + 1) t
    else (0, (fitR (f.l.getD (j % f.l.length) nilF) x).2)
end
theorem fitR_mk (h : FH) (P : List Fm) (a : VH) (l : List Vt) : fitR (.mk h P) (.mk a l) =
    if aloneB h.k a.n a.b.length l.length = false then (0, 15)
    else if h.k = 0 then (if h.s < 8 ∧ (2 : Int) ^ (8 * h.s.toNat) ≤ a.n then (0, 3) else (h.s, 0))
    else if h.k = 1 then (wrap64 (h.s + (a.b.length : Int)), mayR a.b.length h.lo h.hi h.st)
    else if h.k = 4 then ((a.b.length : Int), mayR a.b.length h.lo h.hi 1)
    else if h.k = 5 then (h.lo, mayR a.b.length h.lo h.lo 1)
    else if h.k = 3 ∧ l.length ≠ P.length then (0, 15)
    else fitL (.mk h P) 0 0 l := by
  rw [fitR]
  rfl
theorem fitL_nil (h : FH) (P : List Fm) (q : Int) (j : Nat) : fitL (.mk h P) q j [] = if h.k = 3 then (q, 0) else (wrap64 (h.s + q), mayR q h.lo h.hi h.st) := by
  rw [fitL]
  rfl
theorem fitL_drop (h : FH) (P : List Fm) (q : Int) (l : List Vt) (j : Nat) (hj : j < l.length) : fitL (.mk h P) q j (l.drop j) =
    if (fitR (P.getD (j % P.length) nilF) l[j]).2 = 0 then fitL (.mk h P) (wrap64 (q + (fitR (P.getD (j % P.length) nilF) l[j]).1)) (j + 1) (l.drop (j + 1))
    else (0, (fitR (P.getD (j % P.length) nilF) l[j]).2) := by
  rw [List.drop_eq_getElem_cons hj, fitL]
  rfl
/-- The size, the error, of any form. -/
def sizeR (f : Fm) (x : Vt) : Int × Int :=
  if (if deepB 8 f then 14 else checkR f) = 0 then (if (fitR f x).2 = 0 then ((fitR f x).1, 0) else (0, (fitR f x).2)) else (0, if deepB 8 f then 14 else checkR f)
end Go.Proofs.Ytfcghajnnllmhaa

namespace Go.Proofs.Ytfcghajnnllmhaa.QP
open Go.RowKit Go.Proofs.YtfcghajnnllmhaaW.PrintWords Go.Proofs.YtfcghajnnllmhaaW.PrintLast Go.Proofs.YtfcghajnnllmhaaW.PrintMore
attribute [local go_sem] max2_int min2_int max_two min_two max_three min_three max_four min_four   -- for this text's walks alone
set_option linter.unusedVariables false
set_option linter.unusedSimpArgs false

/-! ### layout_Check: function 14 -/
def layout_Check.f (a0_0 : Int) (a0_1 : Int) (a0_2 : Int) (a0_3 : Int) (a0_4 : Int) (l0_5 : List (S27)) : Option (Int) := if wfF (toF ⟨a0_0, a0_1, a0_2, a0_3, a0_4, l0_5⟩) = true then some (if deepB 8 (toF ⟨a0_0, a0_1, a0_2, a0_3, a0_4, l0_5⟩) then 14 else checkR (toF ⟨a0_0, a0_1, a0_2, a0_3, a0_4, l0_5⟩)) else none
set_option maxHeartbeats 8000000 in
set_option maxRecDepth 100000 in
theorem layout_Check.calls (a0_0 : Int) (a0_1 : Int) (a0_2 : Int) (a0_3 : Int) (a0_4 : Int) (A0_5 : Option Addr) (c0_5 : Nat) (l0_5 : List (S27)) (r : Int) (w : World) (hr0_5 : Kd.C k27 w A0_5 l0_5.length l0_5) (hc0_5 : l0_5.length ≤ c0_5) (h : layout_Check.f a0_0 a0_1 a0_2 a0_3 a0_4 l0_5 = some r) :
    Calls Try.prog 14 #[.agg #[.int .i64 a0_0, .int .i64 a0_1, .int .i64 a0_2, .int .i64 a0_3, .int .i64 a0_4, .slice A0_5 l0_5.length c0_5]] w fun e w' => e = .returned (.int .i64 r) ∧ Below w.heap.size w w' := by
  unfold layout_Check.f at h
  split at h
  · rename_i hw
    injection h with h
    subst h
    exact (check_any (fun x => x < w.heap.size) (toF ⟨a0_0, a0_1, a0_2, a0_3, a0_4, l0_5⟩) _ w (fun _ h => h) (c_FmR hr0_5 hc0_5 hw)).mono fun e w' h => ⟨h.1, h.2.below⟩
  · cases h

end Go.Proofs.Ytfcghajnnllmhaa.QP

namespace Go.Proofs.Ytfcghajnnllmhaa.QP
open Go.RowKit Go.Proofs.YtfcghajnnllmhaaW.PrintWords Go.Proofs.YtfcghajnnllmhaaW.PrintLast Go.Proofs.YtfcghajnnllmhaaW.PrintMore
attribute [local go_sem] max2_int min2_int max_two min_two max_three min_three max_four min_four   -- for this text's walks alone
set_option linter.unusedVariables false
set_option linter.unusedSimpArgs false

/-! ### layout_Open: function 23 -/
def layout_Open.f (a0_0 : Int) (a0_1 : Int) (a0_2 : Int) (a0_3 : Int) (a0_4 : Int) (l0_5 : List (S27)) : Option (Bool) := if wfF (toF ⟨a0_0, a0_1, a0_2, a0_3, a0_4, l0_5⟩) = true then some (openR (toF ⟨a0_0, a0_1, a0_2, a0_3, a0_4, l0_5⟩)) else none
set_option maxHeartbeats 8000000 in
set_option maxRecDepth 100000 in
theorem layout_Open.calls (a0_0 : Int) (a0_1 : Int) (a0_2 : Int) (a0_3 : Int) (a0_4 : Int) (A0_5 : Option Addr) (c0_5 : Nat) (l0_5 : List (S27)) (r : Bool) (w : World) (hr0_5 : Kd.C k27 w A0_5 l0_5.length l0_5) (hc0_5 : l0_5.length ≤ c0_5) (h : layout_Open.f a0_0 a0_1 a0_2 a0_3 a0_4 l0_5 = some r) :
    Calls Try.prog 23 #[.agg #[.int .i64 a0_0, .int .i64 a0_1, .int .i64 a0_2, .int .i64 a0_3, .int .i64 a0_4, .slice A0_5 l0_5.length c0_5]] w fun e w' => e = .returned (.bool r) ∧ Below w.heap.size w w' := by
  unfold layout_Open.f at h
  split at h
  · rename_i hw
    injection h with h
    subst h
    exact (open_any (fun x => x < w.heap.size) _ (toF ⟨a0_0, a0_1, a0_2, a0_3, a0_4, l0_5⟩) w (fun _ h => h) (c_FmR hr0_5 hc0_5 hw)).mono fun e w' h => ⟨h.1, h.2.below⟩
  · cases h

end Go.Proofs.Ytfcghajnnllmhaa.QP

namespace Go.Proofs.Ytfcghajnnllmhaa.QP
open Go.RowKit Go.Proofs.YtfcghajnnllmhaaW.PrintWords Go.Proofs.YtfcghajnnllmhaaW.PrintLast Go.Proofs.YtfcghajnnllmhaaW.PrintMore
attribute [local go_sem] max2_int min2_int max_two min_two max_three min_three max_four min_four   -- for this text's walks alone
set_option linter.unusedVariables false
set_option linter.unusedSimpArgs false

/-! ### layout_Most: function 25 -/
def layout_Most.f (a0_0 : Int) (a0_1 : Int) (a0_2 : Int) (a0_3 : Int) (a0_4 : Int) (l0_5 : List (S27)) : Option (Int) := if wfF (toF ⟨a0_0, a0_1, a0_2, a0_3, a0_4, l0_5⟩) = true then some (mostR (toF ⟨a0_0, a0_1, a0_2, a0_3, a0_4, l0_5⟩)) else none
set_option maxHeartbeats 8000000 in
set_option maxRecDepth 100000 in
theorem layout_Most.calls (a0_0 : Int) (a0_1 : Int) (a0_2 : Int) (a0_3 : Int) (a0_4 : Int) (A0_5 : Option Addr) (c0_5 : Nat) (l0_5 : List (S27)) (r : Int) (w : World) (hr0_5 : Kd.C k27 w A0_5 l0_5.length l0_5) (hc0_5 : l0_5.length ≤ c0_5) (h : layout_Most.f a0_0 a0_1 a0_2 a0_3 a0_4 l0_5 = some r) :
    Calls Try.prog 25 #[.agg #[.int .i64 a0_0, .int .i64 a0_1, .int .i64 a0_2, .int .i64 a0_3, .int .i64 a0_4, .slice A0_5 l0_5.length c0_5]] w fun e w' => e = .returned (.int .i64 r) ∧ Below w.heap.size w w' := by
  unfold layout_Most.f at h
  split at h
  · rename_i hw
    injection h with h
    subst h
    exact (most_any (fun x => x < w.heap.size) _ (toF ⟨a0_0, a0_1, a0_2, a0_3, a0_4, l0_5⟩) w (c_FmR hr0_5 hc0_5 hw)).mono fun e w' h => ⟨h.1, h.2.below⟩
  · cases h

end Go.Proofs.Ytfcghajnnllmhaa.QP

namespace Go.Proofs.Ytfcghajnnllmhaa.QP
open Go.RowKit Go.Proofs.YtfcghajnnllmhaaW.PrintWords Go.Proofs.YtfcghajnnllmhaaW.PrintLast Go.Proofs.YtfcghajnnllmhaaW.PrintMore
attribute [local go_sem] max2_int min2_int max_two min_two max_three min_three max_four min_four   -- for this text's walks alone
set_option linter.unusedVariables false
set_option linter.unusedSimpArgs false

/-! ### layout_Least: function 24 -/
def layout_Least.f (a0_0 : Int) (a0_1 : Int) (a0_2 : Int) (a0_3 : Int) (a0_4 : Int) (l0_5 : List (S27)) : Option (Int) := if wfF (toF ⟨a0_0, a0_1, a0_2, a0_3, a0_4, l0_5⟩) = true then some (leastR (toF ⟨a0_0, a0_1, a0_2, a0_3, a0_4, l0_5⟩)) else none
set_option maxHeartbeats 8000000 in
set_option maxRecDepth 100000 in
theorem layout_Least.calls (a0_0 : Int) (a0_1 : Int) (a0_2 : Int) (a0_3 : Int) (a0_4 : Int) (A0_5 : Option Addr) (c0_5 : Nat) (l0_5 : List (S27)) (r : Int) (w : World) (hr0_5 : Kd.C k27 w A0_5 l0_5.length l0_5) (hc0_5 : l0_5.length ≤ c0_5) (h : layout_Least.f a0_0 a0_1 a0_2 a0_3 a0_4 l0_5 = some r) :
    Calls Try.prog 24 #[.agg #[.int .i64 a0_0, .int .i64 a0_1, .int .i64 a0_2, .int .i64 a0_3, .int .i64 a0_4, .slice A0_5 l0_5.length c0_5]] w fun e w' => e = .returned (.int .i64 r) ∧ Below w.heap.size w w' := by
  unfold layout_Least.f at h
  split at h
  · rename_i hw
    injection h with h
    subst h
    exact (least_any (fun x => x < w.heap.size) _ (toF ⟨a0_0, a0_1, a0_2, a0_3, a0_4, l0_5⟩) w (c_FmR hr0_5 hc0_5 hw)).mono fun e w' h => ⟨h.1, h.2.below⟩
  · cases h

end Go.Proofs.Ytfcghajnnllmhaa.QP

namespace Go.Proofs.Ytfcghajnnllmhaa.QP
open Go.RowKit Go.Proofs.YtfcghajnnllmhaaW.PrintWords Go.Proofs.YtfcghajnnllmhaaW.PrintLast Go.Proofs.YtfcghajnnllmhaaW.PrintMore
attribute [local go_sem] max2_int min2_int max_two min_two max_three min_three max_four min_four   -- for this text's walks alone
set_option linter.unusedVariables false
set_option linter.unusedSimpArgs false

/-! ### passepartoutlaw04_great: function 20 -/
def passepartoutlaw04_great.f (k : Nat) (a0_0 : Int) (a0_1 : Int) (a0_2 : Int) (a0_3 : Int) (a0_4 : Int) (l0_5 : List (S27)) : Option (Bool) := (passepartoutref04_Count.f k a0_0 a0_1 a0_2 a0_3 a0_4 l0_5 500).bind fun t134 => (some (decide (t134 > 500)))
theorem passepartoutlaw04_great.mono : ∀ a0 a1 a2 a3 a4 a5 k, LeO (passepartoutlaw04_great.f k a0 a1 a2 a3 a4 a5) (passepartoutlaw04_great.f (k + 1) a0 a1 a2 a3 a4 a5) := by
  intro a0 a1 a2 a3 a4 a5 k
  unfold passepartoutlaw04_great.f
  repeat' first
      | (with_reducible exact passepartoutref04_Count.mono _ _ _ _ _ _ _ _)
      | (with_reducible exact LeO.refl _)
      | (with_reducible exact LeO.none _)
      | (with_reducible refine LeO.ite ?_ ?_)
      | (with_reducible refine LeO.bind ?_ (fun _ => ?_))
      | exact passepartoutref04_Count.mono _ _ _ _ _ _ _ _
      | exact LeO.none _
      | refine LeO.ite ?_ ?_
      | refine LeO.bind ?_ (fun _ => ?_)
set_option maxHeartbeats 8000000 in
set_option maxRecDepth 100000 in
theorem passepartoutlaw04_great.calls (k : Nat) (a0_0 : Int) (a0_1 : Int) (a0_2 : Int) (a0_3 : Int) (a0_4 : Int) (A0_5 : Option Addr) (c0_5 : Nat) (l0_5 : List (S27)) (r : Bool) (w : World) (hr0_5 : Kd.C k27 w A0_5 l0_5.length l0_5) (hc0_5 : l0_5.length ≤ c0_5) (h : passepartoutlaw04_great.f k a0_0 a0_1 a0_2 a0_3 a0_4 l0_5 = some r) :
    Calls Try.prog 20 #[.agg #[.int .i64 a0_0, .int .i64 a0_1, .int .i64 a0_2, .int .i64 a0_3, .int .i64 a0_4, .slice A0_5 l0_5.length c0_5]] w fun e w' => e = .returned (.bool r) ∧ Below w.heap.size w w' := by
  have hu27 := Try.underlying27
  have HR0_5 := Aside0.mk hr0_5
  have HC0_5 := Aside0.mk hc0_5
  clear hr0_5 hc0_5
  have HB := Aside0.mk (Below.refl w.heap.size w)
  have H : ((passepartoutref04_Count.f k a0_0 a0_1 a0_2 a0_3 a0_4 l0_5 500).bind fun t134 => (some (decide (t134 > 500)))) = some r := h
  clear h
  replace H := Option.bind_eq_some_iff.mp H
  obtain ⟨t134, A20, H⟩ := H
  replace H : (some (decide (t134 > 500))) = some r := H
  have A2 := Aside0.mk A20
  clear A20
  obtain rfl := Option.some.inj H
  go_enter Try.func20, Try.ntmps20
  go_wp2_with (first | ((with_reducible refine gate_dst (N := 1) rfl ?_); refine box_event ?hg (N := 1) ?hd (cs := #[.int .i64 a0_0, .int .i64 a0_1, .int .i64 a0_2, .int .i64 a0_3, .int .i64 a0_4, .slice A0_5 l0_5.length c0_5]) (t := 27) ?hr ?_; (case hd => rfl); (case hg => rfl); (case hr => first | (go_simp; done) | (go_simp; rfl)); intro gb133 hg w3 hbox hb; have n0_ := Aside0.mk (below_step (by repeat (first | (with_reducible first | exact HB.out | apply below_alloc | apply pw_below_drewN | apply below_drew1) | exact HB.out)) hb); have n1_ := Aside0.mk (hbox); have n2_ := Aside0.mk ((by rw [hg]; exact (below_size (by repeat (first | (with_reducible first | exact HB.out | apply below_alloc | apply pw_below_drewN | apply below_drew1) | exact HB.out))) : w.heap.size ≤ gb133)); have n3_ := Aside0.mk ((by rw [hg]; exact (below_size (by repeat (first | (with_reducible first | exact HB.out | apply below_alloc | apply pw_below_drewN | apply below_drew1) | exact HB.out))) : w.heap.size ≤ gb133)); clear HB; have HB := n0_; have BK133 := n1_; have GW133 := n2_; have GE133 := n3_; clear n0_ n1_ n2_ n3_; clear hb hbox hg; have hcz4_0 : w3.cell? ⟨gb133, 0, none⟩ = some (.int .i64 a0_0) := (blk_cell BK133.out 0).trans rfl; have hcz4_1 : w3.cell? ⟨gb133, 1, none⟩ = some (.int .i64 a0_1) := (blk_cell BK133.out 1).trans rfl; have hcz4_2 : w3.cell? ⟨gb133, 2, none⟩ = some (.int .i64 a0_2) := (blk_cell BK133.out 2).trans rfl; have hcz4_3 : w3.cell? ⟨gb133, 3, none⟩ = some (.int .i64 a0_3) := (blk_cell BK133.out 3).trans rfl; have hcz4_4 : w3.cell? ⟨gb133, 4, none⟩ = some (.int .i64 a0_4) := (blk_cell BK133.out 4).trans rfl; have hcz4_5 : w3.cell? ⟨gb133, 5, none⟩ = some (.slice A0_5 l0_5.length c0_5) := (blk_cell BK133.out 5).trans rfl; have hfz4_0 := blk_frozen BK133.out 0; have hfz4_1 := blk_frozen BK133.out 1; have hfz4_2 := blk_frozen BK133.out 2; have hfz4_3 := blk_frozen BK133.out 3; have hfz4_4 := blk_frozen BK133.out 4; have hfz4_5 := blk_frozen BK133.out 5) | ((with_reducible refine gate_callee (f := 45) rfl ?_); refine goesL_ (some 4) rfl rfl Try.func45 (by kernel_rfl) rfl #[.agg #[.int .i64 a0_0, .int .i64 a0_1, .int .i64 a0_2, .int .i64 a0_3, .int .i64 a0_4, .slice A0_5 l0_5.length c0_5], .int .i64 500] rfl (by (try simp only [List.map_toArray, List.map_cons, List.map_nil]); first | done | rfl | (simp only [List.length_drop, List.length_take]; rfl)) ?_; (with_reducible refine (passepartoutref04_Count.calls k a0_0 a0_1 a0_2 a0_3 a0_4 _ _ l0_5 500 t134 _ ?side1 ?side2 A2.out).mono ?_); (case side1 => repeat (first | exact (Kd.C_below HR0_5.out HB.out) | (with_reducible refine Kd.C_alloc ?_ _) | (with_reducible refine Kd.C_drewN ?_ _) | (with_reducible refine Kd.C_drew ?_))); (case side2 => exact HC0_5.out); rintro e w5 ⟨rfl, hb⟩; refine ⟨_, rfl, ?_⟩; have n0_ := Aside0.mk (blk_below (g := gb133) (o := .cells #[.int .i64 a0_0, .int .i64 a0_1, .int .i64 a0_2, .int .i64 a0_3, .int .i64 a0_4, .slice A0_5 l0_5.length c0_5] 27 (0, 0)) (by (with_reducible repeat (first | refine blk_drewN ?_ _ | refine blk_drew ?_ | refine blk_alloc ?_ _)); exact BK133.out) hb); have n1_ := Aside0.mk (below_step (by repeat (first | (with_reducible first | exact HB.out | apply below_alloc | apply pw_below_drewN | apply below_drew1 | refine below_set ?_ GE133.out) | exact HB.out)) hb); clear BK133; clear HB; have BK133 := n0_; have HB := n1_; clear n0_ n1_; (try clear hb); (try clear hb2); (try clear hk); (try clear hi)))
  go_ret
  exact ⟨by first | rfl | (simp [errW_none, errW_some] <;> rfl) | (simp [*, errW_none, errW_some] <;> rfl), by repeat (first | (with_reducible first | exact HB.out | apply below_alloc | apply pw_below_drewN | apply below_drew1 | refine below_set ?_ GE133.out) | exact HB.out)⟩

end Go.Proofs.Ytfcghajnnllmhaa.QP

namespace Go.Proofs.Ytfcghajnnllmhaa
open Go.RowKit YtfcghajnnllmhaaW.PrintWords

structure OwnOk (a : FH) : Prop where
  k0 : a.k = 0 → 1 ≤ a.s ∧ a.s ≤ 8
  k12 : a.k = 1 ∨ a.k = 2 → 1 ≤ a.s ∧ a.s ≤ 3 ∧ 0 ≤ a.lo ∧ a.lo ≤ a.hi ∧ a.hi ≤ 16777215 ∧ a.hi ≤ 256 ^ a.s.toNat - 1 ∧ 1 ≤ a.st ∧ a.st ≤ 65536
  k4 : a.k = 4 → 0 ≤ a.lo ∧ a.lo ≤ a.hi ∧ a.hi ≤ 16777215
  k5 : a.k = 5 → 0 ≤ a.lo ∧ a.lo ≤ 16777215
  k : 0 ≤ a.k ∧ a.k ≤ 5
theorem own_ok {a : FH} {n : Nat} (h : ownN a.k a.s a.lo a.hi a.st n = 0) : OwnOk a ∧ (a.k = 2 → n = 1) ∧ (a.k = 3 → n ≤ 32) := by
  obtain ⟨k, s, lo, hi, st⟩ := a
  simp only [] at h ⊢
  unfold ownN at h
  by_cases k0 : k = 0
  · rw [if_pos k0] at h
    split at h
    · omega
    · exact ⟨⟨fun _ => ⟨by simp only []; omega, by simp only []; omega⟩, fun h => by simp only [] at h; omega, fun h => by simp only [] at h; omega, fun h => by simp only [] at h; omega, ⟨by simp only []; omega, by simp only []; omega⟩⟩, by omega, by omega⟩
  rw [if_neg k0] at h
  by_cases k12 : k = 2 ∨ k = 1
  · rw [if_pos k12] at h
    split at h
    · omega
    rename_i hs
    split at h
    · omega
    rename_i hb
    have hb1 : ¬ boundsR lo hi (256 ^ s.toNat - 1) ≠ 0 := fun x => hb (.inl x)
    rw [bounds_ne] at hb1
    have hM : (256 : Int) ^ s.toNat - 1 ≤ 16777215 := by
      rcases (show s.toNat = 1 ∨ s.toNat = 2 ∨ s.toNat = 3 by omega) with e | e | e <;> rw [e] <;> decide
    refine ⟨⟨fun h => by simp only [] at h; omega, fun _ => ⟨by simp only []; omega, by simp only []; omega, by simp only []; omega, by simp only []; omega, by simp only []; omega, ?_, by simp only []; omega, by simp only []; omega⟩, fun h => by simp only [] at h; omega, fun h => by simp only [] at h; omega, ⟨by simp only []; omega, by simp only []; omega⟩⟩, fun k2 => ?_, by omega⟩
    · show hi ≤ (256 : Int) ^ s.toNat - 1
      omega
    · split at h
      · omega
      · omega
  rw [if_neg k12] at h
  by_cases k3 : k = 3
  · rw [if_pos k3] at h
    split at h
    · omega
    · exact ⟨⟨fun h => by simp only [] at h; omega, fun h => by simp only [] at h; omega, fun h => by simp only [] at h; omega, fun h => by simp only [] at h; omega, ⟨by simp only []; omega, by simp only []; omega⟩⟩, by omega, by omega⟩
  rw [if_neg k3] at h
  by_cases k4 : k = 4
  · rw [if_pos k4] at h
    have hb : ¬ boundsR lo hi 16777215 ≠ 0 := by omega
    rw [bounds_ne] at hb
    exact ⟨⟨fun h => by simp only [] at h; omega, fun h => by simp only [] at h; omega, fun _ => ⟨by simp only []; omega, by simp only []; omega, by simp only []; omega⟩, fun h => by simp only [] at h; omega, ⟨by simp only []; omega, by simp only []; omega⟩⟩, by omega, by omega⟩
  rw [if_neg k4] at h
  by_cases k5 : k = 5
  · rw [if_pos k5] at h
    have hb : ¬ boundsR lo lo 16777215 ≠ 0 := by omega
    rw [bounds_ne] at hb
    exact ⟨⟨fun h => by simp only [] at h; omega, fun h => by simp only [] at h; omega, fun h => by simp only [] at h; omega, fun _ => ⟨by simp only []; omega, by simp only []; omega⟩, ⟨by simp only []; omega, by simp only []; omega⟩⟩, by omega, by omega⟩
  · rw [if_neg k5] at h
    omega
/-- What a right form is. -/
theorem check_ok {a : FH} {l : List Fm} (h : checkR (.mk a l) = 0) : OwnOk a ∧ (a.k = 2 → l.length = 1) ∧ (a.k = 3 → l.length ≤ 32) ∧ ((a.k = 2 ∨ a.k = 3) → (∀ x ∈ l, checkR x = 0) ∧ badF a.k l.length 0 l = false) := by
  rw [checkR_mk] at h
  by_cases h0 : ownN a.k a.s a.lo a.hi a.st l.length ≠ 0
  · rw [if_pos h0] at h
    exact absurd h h0
  rw [if_neg h0] at h
  have ho := own_ok (Decidable.not_not.1 h0)
  refine ⟨ho.1, ho.2.1, ho.2.2, fun hk => ?_⟩
  rw [if_pos hk] at h
  have hL : ∀ t : List Fm, checkL t = 0 → ∀ x ∈ t, checkR x = 0 := by
    intro t
    induction t with
    | nil => intro _ x hx; simp at hx
    | cons f t ih =>
      intro h x hx
      rw [checkL] at h
      split at h
      · omega
      · rcases List.mem_cons.1 hx with rfl | hx
        · omega
        · exact ih h x hx
  split at h
  · omega
  · rename_i h1
    refine ⟨hL l (by omega), ?_⟩
    split at h
    · omega
    · rename_i h2
      simpa using h2

/-! ### My contracts' answers among the printed ones. -/
theorem lay_check (f : Fm) (hw : wfF f = true) : QP.layout_Check.f f.a.k f.a.s f.a.lo f.a.hi f.a.st (f.l.map ofF) = some (if deepB 8 f then 14 else checkR f) := by
  rw [QP.layout_Check.f, to_mk, if_pos hw]
end Go.Proofs.Ytfcghajnnllmhaa

namespace Go.Proofs.Ytfcghajnnllmhaa
open Go.RowKit

def bI (l : List UInt8) : List Int := l.map fun b => (b.toNat : Int)
def iB (l : List Int) : List UInt8 := l.map fun x => UInt8.ofNat x.toNat
def okB (l : List Int) : Bool := l.all fun x => decide (0 ≤ x) && decide (x < 256)
theorem bI_len (l : List UInt8) : (bI l).length = l.length := by simp [bI]
theorem okB_bI (l : List UInt8) : okB (bI l) = true := by
  unfold okB bI
  simp only [List.all_map, List.all_eq_true, Function.comp, Bool.and_eq_true, decide_eq_true_eq]
  intro b _
  have := b.toNat_lt
  omega
section
open YtfcghajnnllmhaaW.PrintWords
theorem br_c {w : World} {ok : Nat → Prop} {A : Option Addr} {n c : Nat} {l : List UInt8} (h : BR w ok (.slice A n c) l) (hl : l.length ≤ 140737488355328) : n = (bI l).length ∧ (bI l).length ≤ c ∧ (Kd.int .u8).C w A (bI l).length (bI l) := by
  obtain ⟨A', c', e, h1, h2⟩ := h
  injection e with e1 e2 e3
  subst e1 e2 e3
  refine ⟨(bI_len l).symm, by rw [bI_len]; exact h1, rfl, by rw [bI_len]; omega, fun h0 => ?_⟩
  rw [bI_len] at h0
  obtain ⟨ad, e, hsp, _, hc⟩ := h2.2 h0
  refine ⟨ad, e, fun j p hj => ⟨[.int .u8 p], rfl, rfl, fun i u hu => ?_⟩⟩
  obtain rfl : i = 0 := by
    have := (List.getElem?_eq_some_iff.1 hu).1
    simpa using this
  obtain rfl : .int .u8 p = u := by simpa using hu
  refine hc _ _ ?_
  show (bc l)[j * 1 + 0]? = _
  rw [Nat.mul_one, Nat.add_zero]
  rw [bI, List.getElem?_map] at hj
  obtain ⟨b, hb, rfl⟩ := Option.map_eq_some_iff.1 hj
  rw [bc, List.getElem?_map, hb]
  rfl
end

abbrev SV := QP.S46
abbrev kV : YtfcghajnnllmhaaW.PrintWords.Kd SV := QP.k46
mutual
def toV : SV → Vt
  | ⟨n, b, l⟩ => .mk ⟨n, iB b⟩ (toVs l)
def toVs : List SV → List Vt
  | [] => []
  | x :: l => toV x :: toVs l
end
mutual
def ofV : Vt → SV
  | .mk a l => ⟨a.n, bI a.b, ofVs l⟩
def ofVs : List Vt → List SV
  | [] => []
  | x :: l => ofV x :: ofVs l
end
theorem ofVs_map (l : List Vt) : ofVs l = l.map ofV := by
  induction l with
  | nil => rw [ofVs]; rfl
  | cons x l ih => rw [ofVs, ih]; rfl
theorem ofV_mk (a : VH) (l : List Vt) : ofV (.mk a l) = ⟨a.n, bI a.b, l.map ofV⟩ := by rw [ofV, ofVs_map]
theorem rd_ofV (l : List Vt) (j : Nat) (h : j < l.length) : QP.rd_T46 (l.map ofV) (j : Int) = ofV l[j] := by
  simp [QP.rd_T46, h]
theorem ofV_f0 (x : Vt) : (ofV x).f0 = x.a.n := by cases x; rw [ofV_mk]; rfl
theorem ofV_f1 (x : Vt) : (ofV x).f1 = bI x.a.b := by cases x; rw [ofV_mk]; rfl
theorem ofV_f2 (x : Vt) : (ofV x).f2 = x.l.map ofV := by cases x; rw [ofV_mk]; rfl
mutual
/-- Numbers of 64 bits, bytes that are bytes, and lengths that there may be. -/
def wfSV : SV → Bool
  | ⟨n, b, l⟩ => (decide (0 ≤ n) && decide (n < 18446744073709551616)) && (okB b && (decide (b.length ≤ 140737488355328) && (decide (l.length ≤ 140737488355328) && wfSVs l)))
def wfSVs : List SV → Bool
  | [] => true
  | x :: l => wfSV x && wfSVs l
end
theorem wfSVs_iff (l : List SV) : wfSVs l = true ↔ ∀ x ∈ l, wfSV x = true := by
  induction l with
  | nil => rw [wfSVs]; simp
  | cons x l ih => rw [wfSVs]; simp [ih]
theorem wfSV_mk (n : Int) (b : List Int) (l : List SV) : wfSV ⟨n, b, l⟩ = true ↔ u64B n ∧ okB b = true ∧ b.length ≤ 140737488355328 ∧ l.length ≤ 140737488355328 ∧ ∀ x ∈ l, wfSV x = true := by
  rw [wfSV]
  simp only [Bool.and_eq_true, decide_eq_true_eq, wfSVs_iff, u64B]
def wfV (x : Vt) : Bool := wfSV (ofV x)
theorem wfV_mk (a : VH) (l : List Vt) : wfV (.mk a l) = true ↔ u64B a.n ∧ a.b.length ≤ 140737488355328 ∧ l.length ≤ 140737488355328 ∧ ∀ x ∈ l, wfV x = true := by
  unfold wfV
  rw [ofV_mk, wfSV_mk, bI_len, List.length_map]
  simp only [okB_bI, true_and, List.mem_map, forall_exists_index, and_imp, forall_apply_eq_imp_iff₂]
section
open YtfcghajnnllmhaaW.PrintWords
theorem tr_wfV {w : World} {ok : Nat → Prop} (x : Vt) : ∀ cs, TR VHd 3 w ok x cs → wfV x = true := by
  induction x using RT.induct with
  | h a l ih =>
  intro cs h
  obtain ⟨hd, A, c, _, _, ⟨_, _, ho, _, hb⟩, _, h2, h3⟩ := (TR_def _ _ _ _ _ _).1 h
  refine (wfV_mk _ _).2 ⟨ho, hb, h2, fun x hx => ?_⟩
  obtain ⟨i, hi, rfl⟩ := List.mem_iff_getElem.1 hx
  obtain ⟨b, off, cs', _, _, ht, _⟩ := h3.at_ hi
  exact ih _ hx cs' ht
theorem tl_cV {w : World} {ok : Nat → Prop} {l : List Vt} {A : Option Addr} (hl : l.length ≤ 140737488355328) (h : TL VHd 3 w ok l A) (hk : ∀ x ∈ l, ∀ cs, TR VHd 3 w ok x cs → kV.K w (ofV x) cs) : kV.C w A (l.map ofV).length (l.map ofV) := by
  refine ⟨rfl, by rw [List.length_map]; omega, fun h0 => ?_⟩
  rw [List.length_map] at h0
  obtain ⟨b, off, e, _, ht⟩ := h h0
  refine ⟨_, e, fun j p hj => ?_⟩
  rw [List.getElem?_map] at hj
  obtain ⟨x, hx, rfl⟩ := Option.map_eq_some_iff.1 hj
  obtain ⟨hjl, rfl⟩ := List.getElem?_eq_some_iff.1 hx
  obtain ⟨cs, h1, h2⟩ := ht.at_ hjl
  refine ⟨cs, ?_, hk _ (List.getElem_mem hjl) cs h1, fun i u hu => ?_⟩
  · obtain ⟨hd, A', c', e', hl', _⟩ := (TR_def _ _ _ _ _ _).1 h1
    rw [e', List.length_append]
    exact hl'
  · rw [add_spot]
    have := h2 i u hu
    rwa [Nat.add_assoc] at this
theorem tr_kV {w : World} {ok : Nat → Prop} (x : Vt) : ∀ cs, TR VHd 3 w ok x cs → kV.K w (ofV x) cs := by
  induction x using RT.induct with
  | h a l ih =>
  intro cs h
  obtain ⟨hd, A, c, e, _, ⟨bv, hh, _, hb, hbl⟩, h1, h2, h3⟩ := (TR_def _ _ _ _ _ _).1 h
  subst hh
  subst e
  rw [ofV_mk]
  have hc := tl_cV h2 h3 ih
  obtain ⟨A1, c1, e1, _, _⟩ := id hb
  subst e1
  obtain ⟨g1, g2, g3⟩ := br_c hb hbl
  have := QP.k46_mk w ⟨a.n, bI a.b, l.map ofV⟩ (A1 := A1) (c1 := c1) g2 g3 (A2 := A) (c2 := c) (by simpa using (show l.length ≤ c from h1)) hc
  rw [List.length_map, bI_len] at this
  exact this
/-- Values in a slice, for the printed texts. -/
theorem VsR.c {w : World} {ok : Nat → Prop} {A : Option Addr} {n c : Nat} {l : List Vt} (h : VsR w ok (.slice A n c) l) : n = (l.map ofV).length ∧ (l.map ofV).length ≤ c ∧ kV.C w A (l.map ofV).length (l.map ofV) := by
  obtain ⟨A', c', e, h1, h2, h3⟩ := h
  injection e with e1 e2 e3
  subst e1 e2 e3
  exact ⟨by simp, by simpa using h1, tl_cV h2 h3 (fun x _ => tr_kV x)⟩
theorem VsR.wf {w : World} {ok : Nat → Prop} {v : Value} {l : List Vt} (h : VsR w ok v l) : l.length ≤ 140737488355328 ∧ ∀ x ∈ l, wfV x = true := by
  obtain ⟨A', c', e, h1, h2, h3⟩ := h
  refine ⟨h2, fun x hx => ?_⟩
  obtain ⟨i, hi, rfl⟩ := List.mem_iff_getElem.1 hx
  obtain ⟨b, off, cs', _, _, ht, _⟩ := h3.at_ hi
  exact tr_wfV _ cs' ht
end
end Go.Proofs.Ytfcghajnnllmhaa

namespace Go.Proofs.Ytfcghajnnllmhaa
open Go.RowKit

mutual
/-- How many values there are in one; no more than so many (and one) are told. -/
def cntV : Nat → Vt → Nat
  | m, .mk _ l => cntVs m 1 l
def cntVs : Nat → Nat → List Vt → Nat
  | _, n, [] => n
  | m, n, x :: t => if n ≤ m then cntVs m (n + cntV (m - n) x) t else n
end
mutual
/-- How many bytes. -/
def bytV : Nat → Vt → Nat
  | m, .mk a l => bytVs m a.b.length l
def bytVs : Nat → Nat → List Vt → Nat
  | _, n, [] => n
  | m, n, x :: t => if n ≤ m then bytVs m (n + bytV (m - n) x) t else n
end
theorem cntVs_end {l : List Vt} {k m n : Nat} (hk : ¬ (k < l.length ∧ n ≤ m)) : cntVs m n (l.drop k) = n := by
  by_cases h : k < l.length
  · rw [List.drop_eq_getElem_cons h, cntVs, if_neg (by omega)]
  · rw [List.drop_of_length_le (by omega), cntVs]
theorem cntVs_drop {l : List Vt} {k m n : Nat} (hk : k < l.length) : cntVs m n (l.drop k) = if n ≤ m then cntVs m (n + cntV (m - n) l[k]) (l.drop (k + 1)) else n := by
  rw [List.drop_eq_getElem_cons hk, cntVs]
theorem bytVs_end {l : List Vt} {k m n : Nat} (hk : ¬ (k < l.length ∧ n ≤ m)) : bytVs m n (l.drop k) = n := by
  by_cases h : k < l.length
  · rw [List.drop_eq_getElem_cons h, bytVs, if_neg (by omega)]
  · rw [List.drop_of_length_le (by omega), bytVs]
theorem bytVs_drop {l : List Vt} {k m n : Nat} (hk : k < l.length) : bytVs m n (l.drop k) = if n ≤ m then bytVs m (n + bytV (m - n) l[k]) (l.drop (k + 1)) else n := by
  rw [List.drop_eq_getElem_cons hk, bytVs]
theorem cntV_bound (x : Vt) : ∀ m, 1 ≤ cntV m x ∧ cntV m x ≤ m + 1 := by
  induction x using RT.induct with
  | h a l ih =>
  intro m
  rw [cntV]
  have key : ∀ (t : List Vt), (∀ f ∈ t, ∀ m, 1 ≤ cntV m f ∧ cntV m f ≤ m + 1) → ∀ n, n ≤ m + 1 → n ≤ cntVs m n t ∧ cntVs m n t ≤ m + 1 := by
    intro t
    induction t with
    | nil => intro _ n hn; rw [cntVs]; omega
    | cons f t ih2 =>
      intro hf n hn
      rw [cntVs]
      split
      · have h1 := hf f (by simp) (m - n)
        have h2 := ih2 (fun g hg => hf g (by simp [hg])) (n + cntV (m - n) f) (by omega)
        omega
      · omega
  exact key l ih 1 (by omega)
/-- A number of bytes that is told to the end. -/
theorem bytV_bound (x : Vt) : ∀ m, wfV x = true → m ≤ 100000 → bytV m x ≤ m + 140737488355328 := by
  induction x using RT.induct with
  | h a l ih =>
  intro m hw hm
  obtain ⟨_, hb, _, hws⟩ := (wfV_mk _ _).1 hw
  rw [bytV]
  have key : ∀ (t : List Vt), (∀ f ∈ t, f ∈ l) → ∀ n, n ≤ m + 140737488355328 → bytVs m n t ≤ m + 140737488355328 := by
    intro t
    induction t with
    | nil => intro _ n hn; rw [bytVs]; omega
    | cons f t ih2 =>
      intro hf n hn
      rw [bytVs]
      split
      · have h1 := ih f (hf f (by simp)) (m - n) (hws f (hf f (by simp))) (by omega)
        exact ih2 (fun g hg => hf g (by simp [hg])) (n + bytV (m - n) f) (by omega)
      · omega
  exact key l (fun f hf => hf) _ (by omega)
theorem sizeR_eq {f : Fm} {x : Vt} (hd : deepB 8 f = false) (hc : checkR f = 0) : sizeR f x = if (fitR f x).2 = 0 then ((fitR f x).1, 0) else (0, (fitR f x).2) := by
  unfold sizeR
  rw [hd]
  simp [hc]
end Go.Proofs.Ytfcghajnnllmhaa

namespace Go.Proofs.Ytfcghajnnllmhaa.QP
open Go.RowKit Go.Proofs.YtfcghajnnllmhaaW.PrintWords Go.Proofs.YtfcghajnnllmhaaW.PrintLast Go.Proofs.YtfcghajnnllmhaaW.PrintMore
attribute [local go_sem] max2_int min2_int max_two min_two max_three min_three max_four min_four   -- for this text's walks alone
set_option linter.unusedVariables false
set_option linter.unusedSimpArgs false

/-! ### passepartoutref05_Count: function 42 -/
mutual
def passepartoutref05_Count.l0 : Nat → Int → Int → Int → Int → List Int → List (S46) → Option (Int)
  | 0, _, _, _, _, _, _ => none
  | k + 1, x1, x5, x6, x272000, x272001, x272002 => if x6 < (x272002.length : Int) then (if x5 ≤ x1 then (if 0 ≤ x6 then ((passepartoutref05_Count.f k ((rd_T46 x272002 x6).f0) ((rd_T46 x272002 x6).f1) ((rd_T46 x272002 x6).f2) (wrap64 (x1 - x5))).bind fun t273 => (passepartoutref05_Count.l0 k x1 (wrap64 (x5 + t273)) (wrap64 (x6 + 1)) x272000 x272001 x272002)) else (none)) else (some x5)) else (some x5)
def passepartoutref05_Count.f : Nat → Int → List Int → List (S46) → Int → Option (Int)
  | 0, _, _, _, _ => none
  | k + 1, a0_0, l0_1, l0_2, a1 => passepartoutref05_Count.l0 k a1 1 0 a0_0 l0_1 l0_2
end
theorem passepartoutref05_Count.mono_l : ∀ k, (∀ y0 y1 y2 y3, LeO (passepartoutref05_Count.f k y0 y1 y2 y3) (passepartoutref05_Count.f (k + 1) y0 y1 y2 y3)) ∧ (∀ y0 y1 y2 y3 y4 y5, LeO (passepartoutref05_Count.l0 k y0 y1 y2 y3 y4 y5) (passepartoutref05_Count.l0 (k + 1) y0 y1 y2 y3 y4 y5))
  | 0 => ⟨fun _ _ _ _ r h => by simp [passepartoutref05_Count.f] at h, fun _ _ _ _ _ _ r h => by simp [passepartoutref05_Count.l0] at h⟩
  | k + 1 => by
    obtain ⟨ih0, ih1⟩ := passepartoutref05_Count.mono_l k
    refine ⟨?_, ?_⟩
    · intro y0 y1 y2 y3
      unfold passepartoutref05_Count.f
      repeat' first
      | (with_reducible exact ih0 _ _ _ _)
      | (with_reducible exact ih1 _ _ _ _ _ _)
      | (with_reducible exact LeO.refl _)
      | (with_reducible exact LeO.none _)
      | (with_reducible refine LeO.ite ?_ ?_)
      | (with_reducible refine LeO.bind ?_ (fun _ => ?_))
      | exact ih0 _ _ _ _
      | exact ih1 _ _ _ _ _ _
      | exact LeO.none _
      | refine LeO.ite ?_ ?_
      | refine LeO.bind ?_ (fun _ => ?_)
    · intro y0 y1 y2 y3 y4 y5
      unfold passepartoutref05_Count.l0
      repeat' first
      | (with_reducible exact ih0 _ _ _ _)
      | (with_reducible exact ih1 _ _ _ _ _ _)
      | (with_reducible exact LeO.refl _)
      | (with_reducible exact LeO.none _)
      | (with_reducible refine LeO.ite ?_ ?_)
      | (with_reducible refine LeO.bind ?_ (fun _ => ?_))
      | exact ih0 _ _ _ _
      | exact ih1 _ _ _ _ _ _
      | exact LeO.none _
      | refine LeO.ite ?_ ?_
      | refine LeO.bind ?_ (fun _ => ?_)
theorem passepartoutref05_Count.mono : ∀ a0 a1 a2 a3 k, LeO (passepartoutref05_Count.f k a0 a1 a2 a3) (passepartoutref05_Count.f (k + 1) a0 a1 a2 a3) := by
  intro a0 a1 a2 a3 k
  obtain ⟨ih0, ih1⟩ := passepartoutref05_Count.mono_l k
  exact ih0 a0 a1 a2 a3
set_option maxHeartbeats 8000000 in
set_option maxRecDepth 100000 in
theorem passepartoutref05_Count.calls (k : Nat) : ∀ (a0_0 : Int) (A0_1 : Option Addr) (c0_1 : Nat) (l0_1 : List Int) (A0_2 : Option Addr) (c0_2 : Nat) (l0_2 : List (S46)) (a1 : Int) (r : Int) (w : World) (hr0_1 : Kd.C (Kd.int .u8) w A0_1 l0_1.length l0_1) (hc0_1 : l0_1.length ≤ c0_1) (hr0_2 : Kd.C k46 w A0_2 l0_2.length l0_2) (hc0_2 : l0_2.length ≤ c0_2) (h : passepartoutref05_Count.f k a0_0 l0_1 l0_2 a1 = some r),
    Calls Try.prog 42 #[.agg #[.int .u64 a0_0, .slice A0_1 l0_1.length c0_1, .slice A0_2 l0_2.length c0_2], .int .i64 a1] w fun e w' => e = .returned (.int .i64 r) ∧ Below w.heap.size w w' := by
  induction k using Nat.strongRecOn with
  | _ k ih =>
  intro a0_0 A0_1 c0_1 l0_1 A0_2 c0_2 l0_2 a1 r w hr0_1 hc0_1 hr0_2 hc0_2 h
  cases k with
  | zero => exact absurd h (by simp [passepartoutref05_Count.f])
  | succ k =>
  simp only [passepartoutref05_Count.f] at h
  have hu46 := Try.underlying46
  have HR0_1 := Aside0.mk hr0_1
  have HC0_1 := Aside0.mk hc0_1
  clear hr0_1 hc0_1
  have HR0_2 := Aside0.mk hr0_2
  have HC0_2 := Aside0.mk hc0_2
  clear hr0_2 hc0_2
  have HB := Aside0.mk (Below.refl w.heap.size w)
  have H : (passepartoutref05_Count.l0 k a1 1 0 a0_0 l0_1 l0_2) = some r := h
  clear h
  have H' := Aside0.mk H
  clear H
  go_enter Try.func42, Try.ntmps42
  go_wp2_with (first | ((with_reducible refine gate_dst (N := 2) rfl ?_); refine box_event ?hg (N := 2) ?hd (cs := #[.int .u64 a0_0, .slice A0_1 l0_1.length c0_1, .slice A0_2 l0_2.length c0_2]) (t := 46) ?hr ?_; (case hd => rfl); (case hg => rfl); (case hr => first | (go_simp; done) | (go_simp; rfl)); intro gb271 hg w3 hbox hb; have n0_ := Aside0.mk (below_step (by repeat (first | (with_reducible first | exact HB.out | apply below_alloc | apply pw_below_drewN | apply below_drew1) | exact HB.out)) hb); have n1_ := Aside0.mk (hbox); have n2_ := Aside0.mk ((by rw [hg]; exact (below_size (by repeat (first | (with_reducible first | exact HB.out | apply below_alloc | apply pw_below_drewN | apply below_drew1) | exact HB.out))) : w.heap.size ≤ gb271)); have n3_ := Aside0.mk ((by rw [hg]; exact (below_size (by repeat (first | (with_reducible first | exact HB.out | apply below_alloc | apply pw_below_drewN | apply below_drew1) | exact HB.out))) : w.heap.size ≤ gb271)); clear HB; have HB := n0_; have BK271 := n1_; have GW271 := n2_; have GE271 := n3_; clear n0_ n1_ n2_ n3_; clear hb hbox hg))
  go_loopg [5, 6] k (fun kq v5 v6 w' => ∃ (x5_1 : Int) (x6_1 : Int), v5 = .int .i64 x5_1 ∧ v6 = .int .i64 x6_1 ∧ Aside0 (passepartoutref05_Count.l0 kq a1 x5_1 x6_1 a0_0 l0_1 l0_2 = some r) ∧ Aside0 (kq ≤ k) ∧ Aside0 (w'.heap[gb271]? = some (.cells #[.int .u64 a0_0, (.slice A0_1 l0_1.length c0_1), (.slice A0_2 l0_2.length c0_2)] 46 (0, 0))) ∧ Aside0 (Below w.heap.size w w'))
  case atStart => exact ⟨(1), (0), (by first | rfl | (simp; done) | (simp [*]; done)), (by first | rfl | (simp; done) | (simp [*]; done)), H', ⟨Nat.le_refl _⟩, ⟨by (with_reducible repeat (first | refine blk_drewN ?_ _ | refine blk_drew ?_ | refine blk_alloc ?_ _)); exact BK271.out⟩, ⟨by repeat (first | (with_reducible first | exact HB.out | apply below_alloc | apply pw_below_drewN | apply below_drew1 | refine below_set ?_ GE271.out) | exact HB.out)⟩⟩
  case round =>
    clear H'
    try clear p2
    obtain ⟨x5_1, x6_1, rfl, rfl, HA, HK1, BK271, HB⟩ := hrel
    cases gk with
    | zero => exact absurd HA.out (by simp [passepartoutref05_Count.l0])
    | succ k1 =>
      have H := HA.out
      clear HA
      simp only [passepartoutref05_Count.l0] at H
      by_cases c4 : x6_1 < (l0_2.length : Int)
      · rw [if_pos c4] at H
        have c4b0 : decide (x6_1 < (l0_2.length : Int)) = true := decide_eq_true c4
        clear c4
        by_cases c5 : x5_1 ≤ a1
        · rw [if_pos c5] at H
          have c5b0 : decide (x5_1 ≤ a1) = true := decide_eq_true c5
          clear c5
          by_cases c6 : 0 ≤ x6_1
          · rw [if_pos c6] at H
            have c6b0 : decide (0 ≤ x6_1) = true := decide_eq_true c6
            clear c6
            replace H := Option.bind_eq_some_iff.mp H
            obtain ⟨t273, A70, H⟩ := H
            replace H : (passepartoutref05_Count.l0 k1 a1 (wrap64 (x5_1 + t273)) (wrap64 (x6_1 + 1)) a0_0 l0_1 l0_2) = some r := H
            have A7 := Aside0.mk A70
            clear A70
            have H' := Aside0.mk H
            clear H
            have hcz8_0 : wr.cell? ⟨gb271, 0, none⟩ = some (.int .u64 a0_0) := (blk_cell BK271.out 0).trans rfl
            have hcz8_1 : wr.cell? ⟨gb271, 1, none⟩ = some (.slice A0_1 l0_1.length c0_1) := (blk_cell BK271.out 1).trans rfl
            have hcz8_2 : wr.cell? ⟨gb271, 2, none⟩ = some (.slice A0_2 l0_2.length c0_2) := (blk_cell BK271.out 2).trans rfl
            have hfz8_0 := blk_frozen BK271.out 0
            have hfz8_1 := blk_frozen BK271.out 1
            have hfz8_2 := blk_frozen BK271.out 2
            have p272 : 0 ≤ (x6_1 : Int) := of_decide_eq_true (by first | (with_reducible assumption) | assumption)
            have q272 : x6_1 < (l0_2.length : Int) := of_decide_eq_true (by first | (with_reducible assumption) | assumption)
            obtain ⟨ad272, A272_1, c272_1, A272_2, c272_2, e272, hx272_0, hx272_1, hx272_2, hl272_1, hi272_1, hl272_2, hi272_2⟩ := at_T46 HR0_2.out x6_1 p272 q272
            cases e272
            replace hx272_0 := (HB.out.cell (World.block_lt_of_cell? w _ hx272_0)).trans hx272_0
            replace hx272_1 := (HB.out.cell (World.block_lt_of_cell? w _ hx272_1)).trans hx272_1
            replace hx272_2 := (HB.out.cell (World.block_lt_of_cell? w _ hx272_2)).trans hx272_2
            have HR272_1 := Aside0.mk hi272_1
            have HC272_1 := Aside0.mk hl272_1
            clear hi272_1 hl272_1
            have HR272_2 := Aside0.mk hi272_2
            have HC272_2 := Aside0.mk hl272_2
            clear hi272_2 hl272_2
            replace p272 := eq_true p272
            replace q272 := eq_true q272
            go_wp2_with (first | ((with_reducible refine gate_callee (f := 42) rfl ?_); refine goesL_ (some 28) rfl rfl Try.func42 (by kernel_rfl) rfl #[.agg #[.int .u64 ((rd_T46 l0_2 x6_1).f0), .slice A272_1 ((rd_T46 l0_2 x6_1).f1).length c272_1, .slice A272_2 ((rd_T46 l0_2 x6_1).f2).length c272_2], .int .i64 (wrap64 (a1 - x5_1))] rfl (by (try simp only [List.map_toArray, List.map_cons, List.map_nil]); first | done | rfl | (simp only [List.length_drop, List.length_take]; rfl)) ?_; (with_reducible refine (ih k1 (by have := HK1.out; omega) ((rd_T46 l0_2 x6_1).f0) _ _ ((rd_T46 l0_2 x6_1).f1) _ _ ((rd_T46 l0_2 x6_1).f2) (wrap64 (a1 - x5_1)) t273 _ ?side1 ?side2 ?side3 ?side4 A7.out).mono ?_); (case side1 => repeat (first | exact (Kd.C_below HR272_1.out HB.out) | (with_reducible refine Kd.C_alloc ?_ _) | (with_reducible refine Kd.C_drewN ?_ _) | (with_reducible refine Kd.C_drew ?_))); (case side2 => exact HC272_1.out); (case side3 => repeat (first | exact (Kd.C_below HR272_2.out HB.out) | (with_reducible refine Kd.C_alloc ?_ _) | (with_reducible refine Kd.C_drewN ?_ _) | (with_reducible refine Kd.C_drew ?_))); (case side4 => exact HC272_2.out); rintro e w9 ⟨rfl, hb⟩; refine ⟨_, rfl, ?_⟩; have n0_ := Aside0.mk (blk_below (g := gb271) (o := .cells #[.int .u64 a0_0, .slice A0_1 l0_1.length c0_1, .slice (some ad272) l0_2.length c0_2] 46 (0, 0)) (by (with_reducible repeat (first | refine blk_drewN ?_ _ | refine blk_drew ?_ | refine blk_alloc ?_ _)); exact BK271.out) hb); have n1_ := Aside0.mk (below_step (by repeat (first | (with_reducible first | exact HB.out | apply below_alloc | apply pw_below_drewN | apply below_drew1 | refine below_set ?_ GE271.out) | exact HB.out)) hb); clear BK271; clear HB; have BK271 := n0_; have HB := n1_; clear n0_ n1_; (try clear hb); (try clear hb2); (try clear hk); (try clear hi)))
            go_roundg k1
            case measure => have := HK1.out; omega
            case rel => exact ⟨(wrap64 (x5_1 + t273)), (wrap64 (x6_1 + 1)), (by first | rfl | (simp; done) | (simp [*]; done)), (by first | rfl | (simp; done) | (simp [*]; done)), H', ⟨by have := HK1.out; omega⟩, ⟨by (with_reducible repeat (first | refine blk_drewN ?_ _ | refine blk_drew ?_ | refine blk_alloc ?_ _)); exact BK271.out⟩, ⟨by repeat (first | (with_reducible first | exact HB.out | apply below_alloc | apply pw_below_drewN | apply below_drew1 | refine below_set ?_ GE271.out) | exact HB.out)⟩⟩
          · rw [if_neg c6] at H
            exact absurd H (by simp)
        · rw [if_neg c5] at H
          have c5b0 : decide (x5_1 ≤ a1) = false := decide_eq_false c5
          clear c5
          obtain rfl := Option.some.inj H
          have hcz10_0 : wr.cell? ⟨gb271, 0, none⟩ = some (.int .u64 a0_0) := (blk_cell BK271.out 0).trans rfl
          have hcz10_1 : wr.cell? ⟨gb271, 1, none⟩ = some (.slice A0_1 l0_1.length c0_1) := (blk_cell BK271.out 1).trans rfl
          have hcz10_2 : wr.cell? ⟨gb271, 2, none⟩ = some (.slice A0_2 l0_2.length c0_2) := (blk_cell BK271.out 2).trans rfl
          have hfz10_0 := blk_frozen BK271.out 0
          have hfz10_1 := blk_frozen BK271.out 1
          have hfz10_2 := blk_frozen BK271.out 2
          go_wp2
          go_ret
          exact ⟨by first | rfl | (simp [errW_none, errW_some] <;> rfl) | (simp [*, errW_none, errW_some] <;> rfl), by repeat (first | (with_reducible first | exact HB.out | apply below_alloc | apply pw_below_drewN | apply below_drew1 | refine below_set ?_ GE271.out) | exact HB.out)⟩
      · rw [if_neg c4] at H
        have c4b0 : decide (x6_1 < (l0_2.length : Int)) = false := decide_eq_false c4
        clear c4
        obtain rfl := Option.some.inj H
        have hcz11_0 : wr.cell? ⟨gb271, 0, none⟩ = some (.int .u64 a0_0) := (blk_cell BK271.out 0).trans rfl
        have hcz11_1 : wr.cell? ⟨gb271, 1, none⟩ = some (.slice A0_1 l0_1.length c0_1) := (blk_cell BK271.out 1).trans rfl
        have hcz11_2 : wr.cell? ⟨gb271, 2, none⟩ = some (.slice A0_2 l0_2.length c0_2) := (blk_cell BK271.out 2).trans rfl
        have hfz11_0 := blk_frozen BK271.out 0
        have hfz11_1 := blk_frozen BK271.out 1
        have hfz11_2 := blk_frozen BK271.out 2
        go_wp2
        go_ret
        exact ⟨by first | rfl | (simp [errW_none, errW_some] <;> rfl) | (simp [*, errW_none, errW_some] <;> rfl), by repeat (first | (with_reducible first | exact HB.out | apply below_alloc | apply pw_below_drewN | apply below_drew1 | refine below_set ?_ GE271.out) | exact HB.out)⟩

end Go.Proofs.Ytfcghajnnllmhaa.QP

namespace Go.Proofs.Ytfcghajnnllmhaa.QP
open Go.RowKit Go.Proofs.YtfcghajnnllmhaaW.PrintWords Go.Proofs.YtfcghajnnllmhaaW.PrintLast Go.Proofs.YtfcghajnnllmhaaW.PrintMore
attribute [local go_sem] max2_int min2_int max_two min_two max_three min_three max_four min_four   -- for this text's walks alone
set_option linter.unusedVariables false
set_option linter.unusedSimpArgs false

/-! ### passepartoutref05_Bytes: function 55 -/
mutual
def passepartoutref05_Bytes.l0 : Nat → Int → Int → Int → Int → List Int → List (S46) → Option (Int)
  | 0, _, _, _, _, _, _ => none
  | k + 1, x1, x5, x6, x275000, x275001, x275002 => if x6 < (x275002.length : Int) then (if x5 ≤ x1 then (if 0 ≤ x6 then ((passepartoutref05_Bytes.f k ((rd_T46 x275002 x6).f0) ((rd_T46 x275002 x6).f1) ((rd_T46 x275002 x6).f2) (wrap64 (x1 - x5))).bind fun t276 => (passepartoutref05_Bytes.l0 k x1 (wrap64 (x5 + t276)) (wrap64 (x6 + 1)) x275000 x275001 x275002)) else (none)) else (some x5)) else (some x5)
def passepartoutref05_Bytes.f : Nat → Int → List Int → List (S46) → Int → Option (Int)
  | 0, _, _, _, _ => none
  | k + 1, a0_0, l0_1, l0_2, a1 => passepartoutref05_Bytes.l0 k a1 (l0_1.length : Int) 0 a0_0 l0_1 l0_2
end
theorem passepartoutref05_Bytes.mono_l : ∀ k, (∀ y0 y1 y2 y3, LeO (passepartoutref05_Bytes.f k y0 y1 y2 y3) (passepartoutref05_Bytes.f (k + 1) y0 y1 y2 y3)) ∧ (∀ y0 y1 y2 y3 y4 y5, LeO (passepartoutref05_Bytes.l0 k y0 y1 y2 y3 y4 y5) (passepartoutref05_Bytes.l0 (k + 1) y0 y1 y2 y3 y4 y5))
  | 0 => ⟨fun _ _ _ _ r h => by simp [passepartoutref05_Bytes.f] at h, fun _ _ _ _ _ _ r h => by simp [passepartoutref05_Bytes.l0] at h⟩
  | k + 1 => by
    obtain ⟨ih0, ih1⟩ := passepartoutref05_Bytes.mono_l k
    refine ⟨?_, ?_⟩
    · intro y0 y1 y2 y3
      unfold passepartoutref05_Bytes.f
      repeat' first
      | (with_reducible exact ih0 _ _ _ _)
      | (with_reducible exact ih1 _ _ _ _ _ _)
      | (with_reducible exact LeO.refl _)
      | (with_reducible exact LeO.none _)
      | (with_reducible refine LeO.ite ?_ ?_)
      | (with_reducible refine LeO.bind ?_ (fun _ => ?_))
      | exact ih0 _ _ _ _
      | exact ih1 _ _ _ _ _ _
      | exact LeO.none _
      | refine LeO.ite ?_ ?_
      | refine LeO.bind ?_ (fun _ => ?_)
    · intro y0 y1 y2 y3 y4 y5
      unfold passepartoutref05_Bytes.l0
      repeat' first
      | (with_reducible exact ih0 _ _ _ _)
      | (with_reducible exact ih1 _ _ _ _ _ _)
      | (with_reducible exact LeO.refl _)
      | (with_reducible exact LeO.none _)
      | (with_reducible refine LeO.ite ?_ ?_)
      | (with_reducible refine LeO.bind ?_ (fun _ => ?_))
      | exact ih0 _ _ _ _
      | exact ih1 _ _ _ _ _ _
      | exact LeO.none _
      | refine LeO.ite ?_ ?_
      | refine LeO.bind ?_ (fun _ => ?_)
theorem passepartoutref05_Bytes.mono : ∀ a0 a1 a2 a3 k, LeO (passepartoutref05_Bytes.f k a0 a1 a2 a3) (passepartoutref05_Bytes.f (k + 1) a0 a1 a2 a3) := by
  intro a0 a1 a2 a3 k
  obtain ⟨ih0, ih1⟩ := passepartoutref05_Bytes.mono_l k
  exact ih0 a0 a1 a2 a3
set_option maxHeartbeats 8000000 in
set_option maxRecDepth 100000 in
theorem passepartoutref05_Bytes.calls (k : Nat) : ∀ (a0_0 : Int) (A0_1 : Option Addr) (c0_1 : Nat) (l0_1 : List Int) (A0_2 : Option Addr) (c0_2 : Nat) (l0_2 : List (S46)) (a1 : Int) (r : Int) (w : World) (hr0_1 : Kd.C (Kd.int .u8) w A0_1 l0_1.length l0_1) (hc0_1 : l0_1.length ≤ c0_1) (hr0_2 : Kd.C k46 w A0_2 l0_2.length l0_2) (hc0_2 : l0_2.length ≤ c0_2) (h : passepartoutref05_Bytes.f k a0_0 l0_1 l0_2 a1 = some r),
    Calls Try.prog 55 #[.agg #[.int .u64 a0_0, .slice A0_1 l0_1.length c0_1, .slice A0_2 l0_2.length c0_2], .int .i64 a1] w fun e w' => e = .returned (.int .i64 r) ∧ Below w.heap.size w w' := by
  induction k using Nat.strongRecOn with
  | _ k ih =>
  intro a0_0 A0_1 c0_1 l0_1 A0_2 c0_2 l0_2 a1 r w hr0_1 hc0_1 hr0_2 hc0_2 h
  cases k with
  | zero => exact absurd h (by simp [passepartoutref05_Bytes.f])
  | succ k =>
  simp only [passepartoutref05_Bytes.f] at h
  have hu46 := Try.underlying46
  have HR0_1 := Aside0.mk hr0_1
  have HC0_1 := Aside0.mk hc0_1
  clear hr0_1 hc0_1
  have HR0_2 := Aside0.mk hr0_2
  have HC0_2 := Aside0.mk hc0_2
  clear hr0_2 hc0_2
  have HB := Aside0.mk (Below.refl w.heap.size w)
  have H : (passepartoutref05_Bytes.l0 k a1 (l0_1.length : Int) 0 a0_0 l0_1 l0_2) = some r := h
  clear h
  have H' := Aside0.mk H
  clear H
  go_enter Try.func55, Try.ntmps55
  go_wp2_with (first | ((with_reducible refine gate_dst (N := 2) rfl ?_); refine box_event ?hg (N := 2) ?hd (cs := #[.int .u64 a0_0, .slice A0_1 l0_1.length c0_1, .slice A0_2 l0_2.length c0_2]) (t := 46) ?hr ?_; (case hd => rfl); (case hg => rfl); (case hr => first | (go_simp; done) | (go_simp; rfl)); intro gb274 hg w3 hbox hb; have n0_ := Aside0.mk (below_step (by repeat (first | (with_reducible first | exact HB.out | apply below_alloc | apply pw_below_drewN | apply below_drew1) | exact HB.out)) hb); have n1_ := Aside0.mk (hbox); have n2_ := Aside0.mk ((by rw [hg]; exact (below_size (by repeat (first | (with_reducible first | exact HB.out | apply below_alloc | apply pw_below_drewN | apply below_drew1) | exact HB.out))) : w.heap.size ≤ gb274)); have n3_ := Aside0.mk ((by rw [hg]; exact (below_size (by repeat (first | (with_reducible first | exact HB.out | apply below_alloc | apply pw_below_drewN | apply below_drew1) | exact HB.out))) : w.heap.size ≤ gb274)); clear HB; have HB := n0_; have BK274 := n1_; have GW274 := n2_; have GE274 := n3_; clear n0_ n1_ n2_ n3_; clear hb hbox hg; have hcz4_0 : w3.cell? ⟨gb274, 0, none⟩ = some (.int .u64 a0_0) := (blk_cell BK274.out 0).trans rfl; have hcz4_1 : w3.cell? ⟨gb274, 1, none⟩ = some (.slice A0_1 l0_1.length c0_1) := (blk_cell BK274.out 1).trans rfl; have hcz4_2 : w3.cell? ⟨gb274, 2, none⟩ = some (.slice A0_2 l0_2.length c0_2) := (blk_cell BK274.out 2).trans rfl; have hfz4_0 := blk_frozen BK274.out 0; have hfz4_1 := blk_frozen BK274.out 1; have hfz4_2 := blk_frozen BK274.out 2))
  go_loopg [5, 6] k (fun kq v5 v6 w' => ∃ (x5_1 : Int) (x6_1 : Int), v5 = .int .i64 x5_1 ∧ v6 = .int .i64 x6_1 ∧ Aside0 (passepartoutref05_Bytes.l0 kq a1 x5_1 x6_1 a0_0 l0_1 l0_2 = some r) ∧ Aside0 (kq ≤ k) ∧ Aside0 (w'.heap[gb274]? = some (.cells #[.int .u64 a0_0, (.slice A0_1 l0_1.length c0_1), (.slice A0_2 l0_2.length c0_2)] 46 (0, 0))) ∧ Aside0 (Below w.heap.size w w'))
  case atStart => exact ⟨((l0_1.length : Int)), (0), (by first | rfl | (simp; done) | (simp [*]; done)), (by first | rfl | (simp; done) | (simp [*]; done)), H', ⟨Nat.le_refl _⟩, ⟨by (with_reducible repeat (first | refine blk_drewN ?_ _ | refine blk_drew ?_ | refine blk_alloc ?_ _)); exact BK274.out⟩, ⟨by repeat (first | (with_reducible first | exact HB.out | apply below_alloc | apply pw_below_drewN | apply below_drew1 | refine below_set ?_ GE274.out) | exact HB.out)⟩⟩
  case round =>
    clear H'
    try clear p2
    try clear hcz4_0
    try clear hcz4_1
    try clear hcz4_2
    try clear hfz4_0
    try clear hfz4_1
    try clear hfz4_2
    obtain ⟨x5_1, x6_1, rfl, rfl, HA, HK1, BK274, HB⟩ := hrel
    cases gk with
    | zero => exact absurd HA.out (by simp [passepartoutref05_Bytes.l0])
    | succ k1 =>
      have H := HA.out
      clear HA
      simp only [passepartoutref05_Bytes.l0] at H
      by_cases c5 : x6_1 < (l0_2.length : Int)
      · rw [if_pos c5] at H
        have c5b0 : decide (x6_1 < (l0_2.length : Int)) = true := decide_eq_true c5
        clear c5
        by_cases c6 : x5_1 ≤ a1
        · rw [if_pos c6] at H
          have c6b0 : decide (x5_1 ≤ a1) = true := decide_eq_true c6
          clear c6
          by_cases c7 : 0 ≤ x6_1
          · rw [if_pos c7] at H
            have c7b0 : decide (0 ≤ x6_1) = true := decide_eq_true c7
            clear c7
            replace H := Option.bind_eq_some_iff.mp H
            obtain ⟨t276, A80, H⟩ := H
            replace H : (passepartoutref05_Bytes.l0 k1 a1 (wrap64 (x5_1 + t276)) (wrap64 (x6_1 + 1)) a0_0 l0_1 l0_2) = some r := H
            have A8 := Aside0.mk A80
            clear A80
            have H' := Aside0.mk H
            clear H
            have hcz9_0 : wr.cell? ⟨gb274, 0, none⟩ = some (.int .u64 a0_0) := (blk_cell BK274.out 0).trans rfl
            have hcz9_1 : wr.cell? ⟨gb274, 1, none⟩ = some (.slice A0_1 l0_1.length c0_1) := (blk_cell BK274.out 1).trans rfl
            have hcz9_2 : wr.cell? ⟨gb274, 2, none⟩ = some (.slice A0_2 l0_2.length c0_2) := (blk_cell BK274.out 2).trans rfl
            have hfz9_0 := blk_frozen BK274.out 0
            have hfz9_1 := blk_frozen BK274.out 1
            have hfz9_2 := blk_frozen BK274.out 2
            have p275 : 0 ≤ (x6_1 : Int) := of_decide_eq_true (by first | (with_reducible assumption) | assumption)
            have q275 : x6_1 < (l0_2.length : Int) := of_decide_eq_true (by first | (with_reducible assumption) | assumption)
            obtain ⟨ad275, A275_1, c275_1, A275_2, c275_2, e275, hx275_0, hx275_1, hx275_2, hl275_1, hi275_1, hl275_2, hi275_2⟩ := at_T46 HR0_2.out x6_1 p275 q275
            cases e275
            replace hx275_0 := (HB.out.cell (World.block_lt_of_cell? w _ hx275_0)).trans hx275_0
            replace hx275_1 := (HB.out.cell (World.block_lt_of_cell? w _ hx275_1)).trans hx275_1
            replace hx275_2 := (HB.out.cell (World.block_lt_of_cell? w _ hx275_2)).trans hx275_2
            have HR275_1 := Aside0.mk hi275_1
            have HC275_1 := Aside0.mk hl275_1
            clear hi275_1 hl275_1
            have HR275_2 := Aside0.mk hi275_2
            have HC275_2 := Aside0.mk hl275_2
            clear hi275_2 hl275_2
            replace p275 := eq_true p275
            replace q275 := eq_true q275
            go_wp2_with (first | ((with_reducible refine gate_callee (f := 55) rfl ?_); refine goesL_ (some 31) rfl rfl Try.func55 (by kernel_rfl) rfl #[.agg #[.int .u64 ((rd_T46 l0_2 x6_1).f0), .slice A275_1 ((rd_T46 l0_2 x6_1).f1).length c275_1, .slice A275_2 ((rd_T46 l0_2 x6_1).f2).length c275_2], .int .i64 (wrap64 (a1 - x5_1))] rfl (by (try simp only [List.map_toArray, List.map_cons, List.map_nil]); first | done | rfl | (simp only [List.length_drop, List.length_take]; rfl)) ?_; (with_reducible refine (ih k1 (by have := HK1.out; omega) ((rd_T46 l0_2 x6_1).f0) _ _ ((rd_T46 l0_2 x6_1).f1) _ _ ((rd_T46 l0_2 x6_1).f2) (wrap64 (a1 - x5_1)) t276 _ ?side1 ?side2 ?side3 ?side4 A8.out).mono ?_); (case side1 => repeat (first | exact (Kd.C_below HR275_1.out HB.out) | (with_reducible refine Kd.C_alloc ?_ _) | (with_reducible refine Kd.C_drewN ?_ _) | (with_reducible refine Kd.C_drew ?_))); (case side2 => exact HC275_1.out); (case side3 => repeat (first | exact (Kd.C_below HR275_2.out HB.out) | (with_reducible refine Kd.C_alloc ?_ _) | (with_reducible refine Kd.C_drewN ?_ _) | (with_reducible refine Kd.C_drew ?_))); (case side4 => exact HC275_2.out); rintro e w10 ⟨rfl, hb⟩; refine ⟨_, rfl, ?_⟩; have n0_ := Aside0.mk (blk_below (g := gb274) (o := .cells #[.int .u64 a0_0, .slice A0_1 l0_1.length c0_1, .slice (some ad275) l0_2.length c0_2] 46 (0, 0)) (by (with_reducible repeat (first | refine blk_drewN ?_ _ | refine blk_drew ?_ | refine blk_alloc ?_ _)); exact BK274.out) hb); have n1_ := Aside0.mk (below_step (by repeat (first | (with_reducible first | exact HB.out | apply below_alloc | apply pw_below_drewN | apply below_drew1 | refine below_set ?_ GE274.out) | exact HB.out)) hb); clear BK274; clear HB; have BK274 := n0_; have HB := n1_; clear n0_ n1_; (try clear hb); (try clear hb2); (try clear hk); (try clear hi)))
            go_roundg k1
            case measure => have := HK1.out; omega
            case rel => exact ⟨(wrap64 (x5_1 + t276)), (wrap64 (x6_1 + 1)), (by first | rfl | (simp; done) | (simp [*]; done)), (by first | rfl | (simp; done) | (simp [*]; done)), H', ⟨by have := HK1.out; omega⟩, ⟨by (with_reducible repeat (first | refine blk_drewN ?_ _ | refine blk_drew ?_ | refine blk_alloc ?_ _)); exact BK274.out⟩, ⟨by repeat (first | (with_reducible first | exact HB.out | apply below_alloc | apply pw_below_drewN | apply below_drew1 | refine below_set ?_ GE274.out) | exact HB.out)⟩⟩
          · rw [if_neg c7] at H
            exact absurd H (by simp)
        · rw [if_neg c6] at H
          have c6b0 : decide (x5_1 ≤ a1) = false := decide_eq_false c6
          clear c6
          obtain rfl := Option.some.inj H
          have hcz11_0 : wr.cell? ⟨gb274, 0, none⟩ = some (.int .u64 a0_0) := (blk_cell BK274.out 0).trans rfl
          have hcz11_1 : wr.cell? ⟨gb274, 1, none⟩ = some (.slice A0_1 l0_1.length c0_1) := (blk_cell BK274.out 1).trans rfl
          have hcz11_2 : wr.cell? ⟨gb274, 2, none⟩ = some (.slice A0_2 l0_2.length c0_2) := (blk_cell BK274.out 2).trans rfl
          have hfz11_0 := blk_frozen BK274.out 0
          have hfz11_1 := blk_frozen BK274.out 1
          have hfz11_2 := blk_frozen BK274.out 2
          go_wp2
          go_ret
          exact ⟨by first | rfl | (simp [errW_none, errW_some] <;> rfl) | (simp [*, errW_none, errW_some] <;> rfl), by repeat (first | (with_reducible first | exact HB.out | apply below_alloc | apply pw_below_drewN | apply below_drew1 | refine below_set ?_ GE274.out) | exact HB.out)⟩
      · rw [if_neg c5] at H
        have c5b0 : decide (x6_1 < (l0_2.length : Int)) = false := decide_eq_false c5
        clear c5
        obtain rfl := Option.some.inj H
        have hcz12_0 : wr.cell? ⟨gb274, 0, none⟩ = some (.int .u64 a0_0) := (blk_cell BK274.out 0).trans rfl
        have hcz12_1 : wr.cell? ⟨gb274, 1, none⟩ = some (.slice A0_1 l0_1.length c0_1) := (blk_cell BK274.out 1).trans rfl
        have hcz12_2 : wr.cell? ⟨gb274, 2, none⟩ = some (.slice A0_2 l0_2.length c0_2) := (blk_cell BK274.out 2).trans rfl
        have hfz12_0 := blk_frozen BK274.out 0
        have hfz12_1 := blk_frozen BK274.out 1
        have hfz12_2 := blk_frozen BK274.out 2
        go_wp2
        go_ret
        exact ⟨by first | rfl | (simp [errW_none, errW_some] <;> rfl) | (simp [*, errW_none, errW_some] <;> rfl), by repeat (first | (with_reducible first | exact HB.out | apply below_alloc | apply pw_below_drewN | apply below_drew1 | refine below_set ?_ GE274.out) | exact HB.out)⟩

end Go.Proofs.Ytfcghajnnllmhaa.QP

namespace Go.Proofs.Ytfcghajnnllmhaa.QP
open Go.RowKit Go.Proofs.YtfcghajnnllmhaaW.PrintWords Go.Proofs.YtfcghajnnllmhaaW.PrintLast Go.Proofs.YtfcghajnnllmhaaW.PrintMore
attribute [local go_sem] max2_int min2_int max_two min_two max_three min_three max_four min_four   -- for this text's walks alone
set_option linter.unusedVariables false
set_option linter.unusedSimpArgs false

/-! ### passepartoutlaw05_Great: function 31 -/
def passepartoutlaw05_Great.l0 : Nat → List (S46) → Int → Int → Option (Int)
  | 0, _, _, _ => none
  | k + 1, x10, x11, x12 => if x12 < x11 then (if 0 ≤ x12 then (if x12 < (x10.length : Int) then ((passepartoutref05_Count.f k ((rd_T46 x10 x12).f0) ((rd_T46 x10 x12).f1) ((rd_T46 x10 x12).f2) 2000).bind fun t281 => (if t281 > 2000 then (some 1) else ((passepartoutref05_Bytes.f k ((rd_T46 x10 x12).f0) ((rd_T46 x10 x12).f1) ((rd_T46 x10 x12).f2) 20000).bind fun t282 => (if t282 > 20000 then (some 1) else (passepartoutlaw05_Great.l0 k x10 x11 (wrap64 (x12 + 1))))))) else (none)) else (none)) else (some 0)
def passepartoutlaw05_Great.f (k : Nat) (a0_0 : Int) (a0_1 : Int) (a0_2 : Int) (a0_3 : Int) (a0_4 : Int) (l0_5 : List (S27)) (l1 : List (S46)) : Option (Int) := (passepartoutref04_Count.f k a0_0 a0_1 a0_2 a0_3 a0_4 l0_5 500).bind fun t278 => (if t278 > 500 then (some 1) else (passepartoutlaw05_Great.l0 k l1 (l1.length : Int) 0))
theorem passepartoutlaw05_Great.mono_l : ∀ k, (∀ y0 y1 y2, LeO (passepartoutlaw05_Great.l0 k y0 y1 y2) (passepartoutlaw05_Great.l0 (k + 1) y0 y1 y2))
  | 0 => fun _ _ _ r h => by simp [passepartoutlaw05_Great.l0] at h
  | k + 1 => by
    have ih0 := passepartoutlaw05_Great.mono_l k
    · intro y0 y1 y2
      unfold passepartoutlaw05_Great.l0
      repeat' first
      | (with_reducible exact ih0 _ _ _)
      | (with_reducible exact passepartoutref04_Count.mono _ _ _ _ _ _ _ _)
      | (with_reducible exact passepartoutref05_Bytes.mono _ _ _ _ _)
      | (with_reducible exact passepartoutref05_Count.mono _ _ _ _ _)
      | (with_reducible exact LeO.refl _)
      | (with_reducible exact LeO.none _)
      | (with_reducible refine LeO.ite ?_ ?_)
      | (with_reducible refine LeO.bind ?_ (fun _ => ?_))
      | exact ih0 _ _ _
      | exact passepartoutref04_Count.mono _ _ _ _ _ _ _ _
      | exact passepartoutref05_Bytes.mono _ _ _ _ _
      | exact passepartoutref05_Count.mono _ _ _ _ _
      | exact LeO.none _
      | refine LeO.ite ?_ ?_
      | refine LeO.bind ?_ (fun _ => ?_)
theorem passepartoutlaw05_Great.mono : ∀ a0 a1 a2 a3 a4 a5 a6 k, LeO (passepartoutlaw05_Great.f k a0 a1 a2 a3 a4 a5 a6) (passepartoutlaw05_Great.f (k + 1) a0 a1 a2 a3 a4 a5 a6) := by
  intro a0 a1 a2 a3 a4 a5 a6 k
  have ih0 := passepartoutlaw05_Great.mono_l k
  unfold passepartoutlaw05_Great.f
  repeat' first
      | (with_reducible exact ih0 _ _ _)
      | (with_reducible exact passepartoutref04_Count.mono _ _ _ _ _ _ _ _)
      | (with_reducible exact passepartoutref05_Bytes.mono _ _ _ _ _)
      | (with_reducible exact passepartoutref05_Count.mono _ _ _ _ _)
      | (with_reducible exact LeO.refl _)
      | (with_reducible exact LeO.none _)
      | (with_reducible refine LeO.ite ?_ ?_)
      | (with_reducible refine LeO.bind ?_ (fun _ => ?_))
      | exact ih0 _ _ _
      | exact passepartoutref04_Count.mono _ _ _ _ _ _ _ _
      | exact passepartoutref05_Bytes.mono _ _ _ _ _
      | exact passepartoutref05_Count.mono _ _ _ _ _
      | exact LeO.none _
      | refine LeO.ite ?_ ?_
      | refine LeO.bind ?_ (fun _ => ?_)
set_option maxHeartbeats 8000000 in
set_option maxRecDepth 100000 in
theorem passepartoutlaw05_Great.calls (k : Nat) (a0_0 : Int) (a0_1 : Int) (a0_2 : Int) (a0_3 : Int) (a0_4 : Int) (A0_5 : Option Addr) (c0_5 : Nat) (l0_5 : List (S27)) (A1 : Option Addr) (c1 : Nat) (l1 : List (S46)) (r : Int) (w : World) (hr0_5 : Kd.C k27 w A0_5 l0_5.length l0_5) (hc0_5 : l0_5.length ≤ c0_5) (hr1 : Kd.C k46 w A1 l1.length l1) (hc1 : l1.length ≤ c1) (h : passepartoutlaw05_Great.f k a0_0 a0_1 a0_2 a0_3 a0_4 l0_5 l1 = some r) :
    Calls Try.prog 31 #[.agg #[.int .i64 a0_0, .int .i64 a0_1, .int .i64 a0_2, .int .i64 a0_3, .int .i64 a0_4, .slice A0_5 l0_5.length c0_5], .slice A1 l1.length c1] w fun e w' => e = .returned (.int .i64 r) ∧ Below w.heap.size w w' := by
  have hu27 := Try.underlying27
  have hu46 := Try.underlying46
  have HR0_5 := Aside0.mk hr0_5
  have HC0_5 := Aside0.mk hc0_5
  clear hr0_5 hc0_5
  have HR1 := Aside0.mk hr1
  have HC1 := Aside0.mk hc1
  clear hr1 hc1
  have HB := Aside0.mk (Below.refl w.heap.size w)
  have H : ((passepartoutref04_Count.f k a0_0 a0_1 a0_2 a0_3 a0_4 l0_5 500).bind fun t278 => (if t278 > 500 then (some 1) else (passepartoutlaw05_Great.l0 k l1 (l1.length : Int) 0))) = some r := h
  clear h
  replace H := Option.bind_eq_some_iff.mp H
  obtain ⟨t278, A30, H⟩ := H
  replace H : (if t278 > 500 then (some 1) else (passepartoutlaw05_Great.l0 k l1 (l1.length : Int) 0)) = some r := H
  have A3 := Aside0.mk A30
  clear A30
  by_cases c4 : t278 > 500
  · rw [if_pos c4] at H
    have c4b0 : decide (500 < t278) = true := decide_eq_true c4
    clear c4
    obtain rfl := Option.some.inj H
    go_enter Try.func31, Try.ntmps31
    go_wp2_with (first | ((with_reducible refine gate_dst (N := 2) rfl ?_); refine box_event ?hg (N := 2) ?hd (cs := #[.int .i64 a0_0, .int .i64 a0_1, .int .i64 a0_2, .int .i64 a0_3, .int .i64 a0_4, .slice A0_5 l0_5.length c0_5]) (t := 27) ?hr ?_; (case hd => rfl); (case hg => rfl); (case hr => first | (go_simp; done) | (go_simp; rfl)); intro gb277 hg w5 hbox hb; have n0_ := Aside0.mk (below_step (by repeat (first | (with_reducible first | exact HB.out | apply below_alloc | apply pw_below_drewN | apply below_drew1) | exact HB.out)) hb); have n1_ := Aside0.mk (hbox); have n2_ := Aside0.mk ((by rw [hg]; exact (below_size (by repeat (first | (with_reducible first | exact HB.out | apply below_alloc | apply pw_below_drewN | apply below_drew1) | exact HB.out))) : w.heap.size ≤ gb277)); have n3_ := Aside0.mk ((by rw [hg]; exact (below_size (by repeat (first | (with_reducible first | exact HB.out | apply below_alloc | apply pw_below_drewN | apply below_drew1) | exact HB.out))) : w.heap.size ≤ gb277)); clear HB; have HB := n0_; have BK277 := n1_; have GW277 := n2_; have GE277 := n3_; clear n0_ n1_ n2_ n3_; clear hb hbox hg; have hcz6_0 : w5.cell? ⟨gb277, 0, none⟩ = some (.int .i64 a0_0) := (blk_cell BK277.out 0).trans rfl; have hcz6_1 : w5.cell? ⟨gb277, 1, none⟩ = some (.int .i64 a0_1) := (blk_cell BK277.out 1).trans rfl; have hcz6_2 : w5.cell? ⟨gb277, 2, none⟩ = some (.int .i64 a0_2) := (blk_cell BK277.out 2).trans rfl; have hcz6_3 : w5.cell? ⟨gb277, 3, none⟩ = some (.int .i64 a0_3) := (blk_cell BK277.out 3).trans rfl; have hcz6_4 : w5.cell? ⟨gb277, 4, none⟩ = some (.int .i64 a0_4) := (blk_cell BK277.out 4).trans rfl; have hcz6_5 : w5.cell? ⟨gb277, 5, none⟩ = some (.slice A0_5 l0_5.length c0_5) := (blk_cell BK277.out 5).trans rfl; have hfz6_0 := blk_frozen BK277.out 0; have hfz6_1 := blk_frozen BK277.out 1; have hfz6_2 := blk_frozen BK277.out 2; have hfz6_3 := blk_frozen BK277.out 3; have hfz6_4 := blk_frozen BK277.out 4; have hfz6_5 := blk_frozen BK277.out 5) | ((with_reducible refine gate_callee (f := 45) rfl ?_); refine goesL_ (some 8) rfl rfl Try.func45 (by kernel_rfl) rfl #[.agg #[.int .i64 a0_0, .int .i64 a0_1, .int .i64 a0_2, .int .i64 a0_3, .int .i64 a0_4, .slice A0_5 l0_5.length c0_5], .int .i64 500] rfl (by (try simp only [List.map_toArray, List.map_cons, List.map_nil]); first | done | rfl | (simp only [List.length_drop, List.length_take]; rfl)) ?_; (with_reducible refine (passepartoutref04_Count.calls k a0_0 a0_1 a0_2 a0_3 a0_4 _ _ l0_5 500 t278 _ ?side1 ?side2 A3.out).mono ?_); (case side1 => repeat (first | exact (Kd.C_below HR0_5.out HB.out) | (with_reducible refine Kd.C_alloc ?_ _) | (with_reducible refine Kd.C_drewN ?_ _) | (with_reducible refine Kd.C_drew ?_))); (case side2 => exact HC0_5.out); rintro e w7 ⟨rfl, hb⟩; refine ⟨_, rfl, ?_⟩; have n0_ := Aside0.mk (blk_below (g := gb277) (o := .cells #[.int .i64 a0_0, .int .i64 a0_1, .int .i64 a0_2, .int .i64 a0_3, .int .i64 a0_4, .slice A0_5 l0_5.length c0_5] 27 (0, 0)) (by (with_reducible repeat (first | refine blk_drewN ?_ _ | refine blk_drew ?_ | refine blk_alloc ?_ _)); exact BK277.out) hb); have n1_ := Aside0.mk (below_step (by repeat (first | (with_reducible first | exact HB.out | apply below_alloc | apply pw_below_drewN | apply below_drew1 | refine below_set ?_ GE277.out) | exact HB.out)) hb); clear BK277; clear HB; have BK277 := n0_; have HB := n1_; clear n0_ n1_; (try clear hb); (try clear hb2); (try clear hk); (try clear hi)))
    go_ret
    exact ⟨by first | rfl | (simp [errW_none, errW_some] <;> rfl) | (simp [*, errW_none, errW_some] <;> rfl), by repeat (first | (with_reducible first | exact HB.out | apply below_alloc | apply pw_below_drewN | apply below_drew1 | refine below_set ?_ GE277.out) | exact HB.out)⟩
  · rw [if_neg c4] at H
    have c4b0 : decide (500 < t278) = false := decide_eq_false c4
    clear c4
    have H' := Aside0.mk H
    clear H
    go_enter Try.func31, Try.ntmps31
    go_wp2_with (first | ((with_reducible refine gate_dst (N := 2) rfl ?_); refine box_event ?hg (N := 2) ?hd (cs := #[.int .i64 a0_0, .int .i64 a0_1, .int .i64 a0_2, .int .i64 a0_3, .int .i64 a0_4, .slice A0_5 l0_5.length c0_5]) (t := 27) ?hr ?_; (case hd => rfl); (case hg => rfl); (case hr => first | (go_simp; done) | (go_simp; rfl)); intro gb277 hg w8 hbox hb; have n0_ := Aside0.mk (below_step (by repeat (first | (with_reducible first | exact HB.out | apply below_alloc | apply pw_below_drewN | apply below_drew1) | exact HB.out)) hb); have n1_ := Aside0.mk (hbox); have n2_ := Aside0.mk ((by rw [hg]; exact (below_size (by repeat (first | (with_reducible first | exact HB.out | apply below_alloc | apply pw_below_drewN | apply below_drew1) | exact HB.out))) : w.heap.size ≤ gb277)); have n3_ := Aside0.mk ((by rw [hg]; exact (below_size (by repeat (first | (with_reducible first | exact HB.out | apply below_alloc | apply pw_below_drewN | apply below_drew1) | exact HB.out))) : w.heap.size ≤ gb277)); clear HB; have HB := n0_; have BK277 := n1_; have GW277 := n2_; have GE277 := n3_; clear n0_ n1_ n2_ n3_; clear hb hbox hg; have hcz9_0 : w8.cell? ⟨gb277, 0, none⟩ = some (.int .i64 a0_0) := (blk_cell BK277.out 0).trans rfl; have hcz9_1 : w8.cell? ⟨gb277, 1, none⟩ = some (.int .i64 a0_1) := (blk_cell BK277.out 1).trans rfl; have hcz9_2 : w8.cell? ⟨gb277, 2, none⟩ = some (.int .i64 a0_2) := (blk_cell BK277.out 2).trans rfl; have hcz9_3 : w8.cell? ⟨gb277, 3, none⟩ = some (.int .i64 a0_3) := (blk_cell BK277.out 3).trans rfl; have hcz9_4 : w8.cell? ⟨gb277, 4, none⟩ = some (.int .i64 a0_4) := (blk_cell BK277.out 4).trans rfl; have hcz9_5 : w8.cell? ⟨gb277, 5, none⟩ = some (.slice A0_5 l0_5.length c0_5) := (blk_cell BK277.out 5).trans rfl; have hfz9_0 := blk_frozen BK277.out 0; have hfz9_1 := blk_frozen BK277.out 1; have hfz9_2 := blk_frozen BK277.out 2; have hfz9_3 := blk_frozen BK277.out 3; have hfz9_4 := blk_frozen BK277.out 4; have hfz9_5 := blk_frozen BK277.out 5) | ((with_reducible refine gate_callee (f := 45) rfl ?_); refine goesL_ (some 8) rfl rfl Try.func45 (by kernel_rfl) rfl #[.agg #[.int .i64 a0_0, .int .i64 a0_1, .int .i64 a0_2, .int .i64 a0_3, .int .i64 a0_4, .slice A0_5 l0_5.length c0_5], .int .i64 500] rfl (by (try simp only [List.map_toArray, List.map_cons, List.map_nil]); first | done | rfl | (simp only [List.length_drop, List.length_take]; rfl)) ?_; (with_reducible refine (passepartoutref04_Count.calls k a0_0 a0_1 a0_2 a0_3 a0_4 _ _ l0_5 500 t278 _ ?side1 ?side2 A3.out).mono ?_); (case side1 => repeat (first | exact (Kd.C_below HR0_5.out HB.out) | (with_reducible refine Kd.C_alloc ?_ _) | (with_reducible refine Kd.C_drewN ?_ _) | (with_reducible refine Kd.C_drew ?_))); (case side2 => exact HC0_5.out); rintro e w10 ⟨rfl, hb⟩; refine ⟨_, rfl, ?_⟩; have n0_ := Aside0.mk (blk_below (g := gb277) (o := .cells #[.int .i64 a0_0, .int .i64 a0_1, .int .i64 a0_2, .int .i64 a0_3, .int .i64 a0_4, .slice A0_5 l0_5.length c0_5] 27 (0, 0)) (by (with_reducible repeat (first | refine blk_drewN ?_ _ | refine blk_drew ?_ | refine blk_alloc ?_ _)); exact BK277.out) hb); have n1_ := Aside0.mk (below_step (by repeat (first | (with_reducible first | exact HB.out | apply below_alloc | apply pw_below_drewN | apply below_drew1 | refine below_set ?_ GE277.out) | exact HB.out)) hb); clear BK277; clear HB; have BK277 := n0_; have HB := n1_; clear n0_ n1_; (try clear hb); (try clear hb2); (try clear hk); (try clear hi)))
    go_loopg [12] k (fun kq v12 w' => ∃ (x12_1 : Int), v12 = .int .i64 x12_1 ∧ Aside0 (passepartoutlaw05_Great.l0 kq l1 (l1.length : Int) x12_1 = some r) ∧ Aside0 (kq ≤ k) ∧ Aside0 (w'.heap[gb277]? = some (.cells #[.int .i64 a0_0, .int .i64 a0_1, .int .i64 a0_2, .int .i64 a0_3, .int .i64 a0_4, (.slice A0_5 l0_5.length c0_5)] 27 (0, 0))) ∧ Aside0 (Below w.heap.size w w'))
    case atStart => exact ⟨(0), (by first | rfl | (simp; done) | (simp [*]; done)), H', ⟨Nat.le_refl _⟩, ⟨by (with_reducible repeat (first | refine blk_drewN ?_ _ | refine blk_drew ?_ | refine blk_alloc ?_ _)); exact BK277.out⟩, ⟨by repeat (first | (with_reducible first | exact HB.out | apply below_alloc | apply pw_below_drewN | apply below_drew1 | refine below_set ?_ GE277.out) | exact HB.out)⟩⟩
    case round =>
      clear H'
      try clear c1
      try clear p2
      try clear c3
      try clear c4
      try clear c4b0
      try clear hcz6_0
      try clear hcz6_1
      try clear hcz6_2
      try clear hcz6_3
      try clear hcz6_4
      try clear hcz6_5
      try clear hcz9_0
      try clear hcz9_1
      try clear hcz9_2
      try clear hcz9_3
      try clear hcz9_4
      try clear hcz9_5
      try clear hfz6_0
      try clear hfz6_1
      try clear hfz6_2
      try clear hfz6_3
      try clear hfz6_4
      try clear hfz6_5
      try clear hfz9_0
      try clear hfz9_1
      try clear hfz9_2
      try clear hfz9_3
      try clear hfz9_4
      try clear hfz9_5
      obtain ⟨x12_1, rfl, HA, HK1, BK277, HB⟩ := hrel
      cases gk with
      | zero => exact absurd HA.out (by simp [passepartoutlaw05_Great.l0])
      | succ k1 =>
        have H := HA.out
        clear HA
        simp only [passepartoutlaw05_Great.l0] at H
        by_cases c11 : x12_1 < (l1.length : Int)
        · rw [if_pos c11] at H
          have c11b0 : decide (x12_1 < (l1.length : Int)) = true := decide_eq_true c11
          clear c11
          by_cases c12 : 0 ≤ x12_1
          · rw [if_pos c12] at H
            have c12b0 : decide (0 ≤ x12_1) = true := decide_eq_true c12
            clear c12
            by_cases c13 : x12_1 < (l1.length : Int)
            · rw [if_pos c13] at H
              have c13b0 : decide (x12_1 < (l1.length : Int)) = true := decide_eq_true c13
              clear c13
              replace H := Option.bind_eq_some_iff.mp H
              obtain ⟨t281, A140, H⟩ := H
              replace H : (if t281 > 2000 then (some 1) else ((passepartoutref05_Bytes.f k1 ((rd_T46 l1 x12_1).f0) ((rd_T46 l1 x12_1).f1) ((rd_T46 l1 x12_1).f2) 20000).bind fun t282 => (if t282 > 20000 then (some 1) else (passepartoutlaw05_Great.l0 k1 l1 (l1.length : Int) (wrap64 (x12_1 + 1)))))) = some r := H
              have A14 := Aside0.mk A140
              clear A140
              by_cases c15 : t281 > 2000
              · rw [if_pos c15] at H
                have c15b0 : decide (2000 < t281) = true := decide_eq_true c15
                clear c15
                obtain rfl := Option.some.inj H
                have p279 : 0 ≤ (x12_1 : Int) := of_decide_eq_true (by first | (with_reducible assumption) | assumption)
                have q279 : x12_1 < (l1.length : Int) := of_decide_eq_true (by first | (with_reducible assumption) | assumption)
                obtain ⟨ad279, A279_1, c279_1, A279_2, c279_2, e279, hx279_0, hx279_1, hx279_2, hl279_1, hi279_1, hl279_2, hi279_2⟩ := at_T46 HR1.out x12_1 p279 q279
                cases e279
                replace hx279_0 := (HB.out.cell (World.block_lt_of_cell? w _ hx279_0)).trans hx279_0
                replace hx279_1 := (HB.out.cell (World.block_lt_of_cell? w _ hx279_1)).trans hx279_1
                replace hx279_2 := (HB.out.cell (World.block_lt_of_cell? w _ hx279_2)).trans hx279_2
                have HR279_1 := Aside0.mk hi279_1
                have HC279_1 := Aside0.mk hl279_1
                clear hi279_1 hl279_1
                have HR279_2 := Aside0.mk hi279_2
                have HC279_2 := Aside0.mk hl279_2
                clear hi279_2 hl279_2
                replace p279 := eq_true p279
                replace q279 := eq_true q279
                go_wp2_with (first | ((with_reducible refine gate_dst (N := 6) rfl ?_); refine box_event ?hg (N := 6) ?hd (cs := #[.int .u64 0, .slice none 0 0, .slice none 0 0]) (t := 46) ?hr ?_; (case hd => rfl); (case hg => rfl); (case hr => first | (go_simp; done) | (go_simp; rfl)); intro gb280 hg w16 hbox hb; have n0_ := Aside0.mk (blk_below (g := gb277) (o := .cells #[.int .i64 a0_0, .int .i64 a0_1, .int .i64 a0_2, .int .i64 a0_3, .int .i64 a0_4, .slice A0_5 l0_5.length c0_5] 27 (0, 0)) (by (with_reducible repeat (first | refine blk_drewN ?_ _ | refine blk_drew ?_ | refine blk_alloc ?_ _)); exact BK277.out) hb); have n1_ := Aside0.mk (below_step (by repeat (first | (with_reducible first | exact HB.out | apply below_alloc | apply pw_below_drewN | apply below_drew1 | refine below_set ?_ GE277.out) | exact HB.out)) hb); have n2_ := Aside0.mk (hbox); have n3_ := Aside0.mk ((by rw [hg]; exact (below_size (by repeat (first | (with_reducible first | exact HB.out | apply below_alloc | apply pw_below_drewN | apply below_drew1 | refine below_set ?_ GE277.out) | exact HB.out))) : w.heap.size ≤ gb280)); have n4_ := Aside0.mk ((by rw [hg]; exact (below_size (by repeat (first | (with_reducible first | exact HB.out | apply below_alloc | apply pw_below_drewN | apply below_drew1 | refine below_set ?_ GE277.out) | exact HB.out))) : w.heap.size ≤ gb280)); have n5_ := Aside0.mk ((by rw [hg]; exact Nat.ne_of_lt (blk_lt (g := gb277) (o := .cells #[.int .i64 a0_0, .int .i64 a0_1, .int .i64 a0_2, .int .i64 a0_3, .int .i64 a0_4, .slice A0_5 l0_5.length c0_5] 27 (0, 0)) (by (with_reducible repeat (first | refine blk_drewN ?_ _ | refine blk_drew ?_ | refine blk_alloc ?_ _)); exact BK277.out)) : gb277 ≠ gb280)); have n6_ := Aside0.mk ((by rw [hg]; exact Nat.ne_of_gt (blk_lt (g := gb277) (o := .cells #[.int .i64 a0_0, .int .i64 a0_1, .int .i64 a0_2, .int .i64 a0_3, .int .i64 a0_4, .slice A0_5 l0_5.length c0_5] 27 (0, 0)) (by (with_reducible repeat (first | refine blk_drewN ?_ _ | refine blk_drew ?_ | refine blk_alloc ?_ _)); exact BK277.out)) : gb280 ≠ gb277)); clear BK277; clear HB; have BK277 := n0_; have HB := n1_; have BK280 := n2_; have GW280 := n3_; have GE280 := n4_; have NB277_280 := n5_; have NB280_277 := n6_; clear n0_ n1_ n2_ n3_ n4_ n5_ n6_; clear hb hbox hg; have hnb17 := NB280_277.out; have hnc17 := NB277_280.out; have hcz18_0 : w16.cell? ⟨gb280, 0, none⟩ = some (.int .u64 0) := (blk_cell BK280.out 0).trans rfl; have hcz18_1 : w16.cell? ⟨gb280, 1, none⟩ = some (.slice none 0 0) := (blk_cell BK280.out 1).trans rfl; have hcz18_2 : w16.cell? ⟨gb280, 2, none⟩ = some (.slice none 0 0) := (blk_cell BK280.out 2).trans rfl; have hfz18_0 := blk_frozen BK280.out 0; have hfz18_1 := blk_frozen BK280.out 1; have hfz18_2 := blk_frozen BK280.out 2) | ((with_reducible refine gate_callee (f := 42) rfl ?_); refine goesL_ (some 17) rfl rfl Try.func42 (by kernel_rfl) rfl #[.agg #[.int .u64 ((rd_T46 l1 x12_1).f0), .slice A279_1 ((rd_T46 l1 x12_1).f1).length c279_1, .slice A279_2 ((rd_T46 l1 x12_1).f2).length c279_2], .int .i64 2000] rfl (by (try simp only [List.map_toArray, List.map_cons, List.map_nil]); first | done | rfl | (simp only [List.length_drop, List.length_take]; rfl)) ?_; (with_reducible refine (passepartoutref05_Count.calls k1 ((rd_T46 l1 x12_1).f0) _ _ ((rd_T46 l1 x12_1).f1) _ _ ((rd_T46 l1 x12_1).f2) 2000 t281 _ ?side1 ?side2 ?side3 ?side4 A14.out).mono ?_); (case side1 => exact Kd.C_below HR279_1.out (by repeat (first | (with_reducible first | exact HB.out | apply below_alloc | apply pw_below_drewN | apply below_drew1 | refine below_set ?_ GE277.out | refine below_set ?_ GE280.out) | exact HB.out))); (case side2 => exact HC279_1.out); (case side3 => exact Kd.C_below HR279_2.out (by repeat (first | (with_reducible first | exact HB.out | apply below_alloc | apply pw_below_drewN | apply below_drew1 | refine below_set ?_ GE277.out | refine below_set ?_ GE280.out) | exact HB.out))); (case side4 => exact HC279_2.out); rintro e w19 ⟨rfl, hb⟩; refine ⟨_, rfl, ?_⟩; have n0_ := Aside0.mk (blk_below (g := gb277) (o := .cells #[.int .i64 a0_0, .int .i64 a0_1, .int .i64 a0_2, .int .i64 a0_3, .int .i64 a0_4, .slice A0_5 l0_5.length c0_5] 27 (0, 0)) (by (with_reducible repeat (first | refine blk_drewN ?_ _ | refine blk_drew ?_ | refine blk_alloc ?_ _)); refine blk_far ?_ NB277_280.out _; (with_reducible repeat (first | refine blk_drewN ?_ _ | refine blk_drew ?_ | refine blk_alloc ?_ _)); refine blk_far ?_ NB277_280.out _; (with_reducible repeat (first | refine blk_drewN ?_ _ | refine blk_drew ?_ | refine blk_alloc ?_ _)); refine blk_far ?_ NB277_280.out _; (with_reducible repeat (first | refine blk_drewN ?_ _ | refine blk_drew ?_ | refine blk_alloc ?_ _)); exact BK277.out) hb); have n1_ := Aside0.mk (blk_below (g := gb280) (o := .cells #[.int .u64 ((rd_T46 l1 x12_1).f0), .slice A279_1 ((rd_T46 l1 x12_1).f1).length c279_1, .slice A279_2 ((rd_T46 l1 x12_1).f2).length c279_2] 46 (0, 0)) (by (with_reducible repeat (first | refine blk_drewN ?_ _ | refine blk_drew ?_ | refine blk_alloc ?_ _)); refine blk_put (cs := #[.int .u64 ((rd_T46 l1 x12_1).f0), .slice A279_1 ((rd_T46 l1 x12_1).f1).length c279_1, .slice none 0 0]) ?_ 2 _ rfl; (with_reducible repeat (first | refine blk_drewN ?_ _ | refine blk_drew ?_ | refine blk_alloc ?_ _)); refine blk_put (cs := #[.int .u64 ((rd_T46 l1 x12_1).f0), .slice none 0 0, .slice none 0 0]) ?_ 1 _ rfl; (with_reducible repeat (first | refine blk_drewN ?_ _ | refine blk_drew ?_ | refine blk_alloc ?_ _)); refine blk_put (cs := #[.int .u64 0, .slice none 0 0, .slice none 0 0]) ?_ 0 _ rfl; (with_reducible repeat (first | refine blk_drewN ?_ _ | refine blk_drew ?_ | refine blk_alloc ?_ _)); exact BK280.out) hb); have n2_ := Aside0.mk (below_step (by repeat (first | (with_reducible first | exact HB.out | apply below_alloc | apply pw_below_drewN | apply below_drew1 | refine below_set ?_ GE277.out | refine below_set ?_ GE280.out) | exact HB.out)) hb); clear BK277; clear BK280; clear HB; have BK277 := n0_; have BK280 := n1_; have HB := n2_; clear n0_ n1_ n2_; (try clear hb); (try clear hb2); (try clear hk); (try clear hi)))
                go_ret
                exact ⟨by first | rfl | (simp [errW_none, errW_some] <;> rfl) | (simp [*, errW_none, errW_some] <;> rfl), by repeat (first | (with_reducible first | exact HB.out | apply below_alloc | apply pw_below_drewN | apply below_drew1 | refine below_set ?_ GE277.out | refine below_set ?_ GE280.out) | exact HB.out)⟩
              · rw [if_neg c15] at H
                have c15b0 : decide (2000 < t281) = false := decide_eq_false c15
                clear c15
                replace H := Option.bind_eq_some_iff.mp H
                obtain ⟨t282, A200, H⟩ := H
                replace H : (if t282 > 20000 then (some 1) else (passepartoutlaw05_Great.l0 k1 l1 (l1.length : Int) (wrap64 (x12_1 + 1)))) = some r := H
                have A20 := Aside0.mk A200
                clear A200
                by_cases c21 : t282 > 20000
                · rw [if_pos c21] at H
                  have c21b0 : decide (20000 < t282) = true := decide_eq_true c21
                  clear c21
                  obtain rfl := Option.some.inj H
                  have p279 : 0 ≤ (x12_1 : Int) := of_decide_eq_true (by first | (with_reducible assumption) | assumption)
                  have q279 : x12_1 < (l1.length : Int) := of_decide_eq_true (by first | (with_reducible assumption) | assumption)
                  obtain ⟨ad279, A279_1, c279_1, A279_2, c279_2, e279, hx279_0, hx279_1, hx279_2, hl279_1, hi279_1, hl279_2, hi279_2⟩ := at_T46 HR1.out x12_1 p279 q279
                  cases e279
                  replace hx279_0 := (HB.out.cell (World.block_lt_of_cell? w _ hx279_0)).trans hx279_0
                  replace hx279_1 := (HB.out.cell (World.block_lt_of_cell? w _ hx279_1)).trans hx279_1
                  replace hx279_2 := (HB.out.cell (World.block_lt_of_cell? w _ hx279_2)).trans hx279_2
                  have HR279_1 := Aside0.mk hi279_1
                  have HC279_1 := Aside0.mk hl279_1
                  clear hi279_1 hl279_1
                  have HR279_2 := Aside0.mk hi279_2
                  have HC279_2 := Aside0.mk hl279_2
                  clear hi279_2 hl279_2
                  replace p279 := eq_true p279
                  replace q279 := eq_true q279
                  go_wp2_with (first | ((with_reducible refine gate_dst (N := 6) rfl ?_); refine box_event ?hg (N := 6) ?hd (cs := #[.int .u64 0, .slice none 0 0, .slice none 0 0]) (t := 46) ?hr ?_; (case hd => rfl); (case hg => rfl); (case hr => first | (go_simp; done) | (go_simp; rfl)); intro gb280 hg w22 hbox hb; have n0_ := Aside0.mk (blk_below (g := gb277) (o := .cells #[.int .i64 a0_0, .int .i64 a0_1, .int .i64 a0_2, .int .i64 a0_3, .int .i64 a0_4, .slice A0_5 l0_5.length c0_5] 27 (0, 0)) (by (with_reducible repeat (first | refine blk_drewN ?_ _ | refine blk_drew ?_ | refine blk_alloc ?_ _)); exact BK277.out) hb); have n1_ := Aside0.mk (below_step (by repeat (first | (with_reducible first | exact HB.out | apply below_alloc | apply pw_below_drewN | apply below_drew1 | refine below_set ?_ GE277.out) | exact HB.out)) hb); have n2_ := Aside0.mk (hbox); have n3_ := Aside0.mk ((by rw [hg]; exact (below_size (by repeat (first | (with_reducible first | exact HB.out | apply below_alloc | apply pw_below_drewN | apply below_drew1 | refine below_set ?_ GE277.out) | exact HB.out))) : w.heap.size ≤ gb280)); have n4_ := Aside0.mk ((by rw [hg]; exact (below_size (by repeat (first | (with_reducible first | exact HB.out | apply below_alloc | apply pw_below_drewN | apply below_drew1 | refine below_set ?_ GE277.out) | exact HB.out))) : w.heap.size ≤ gb280)); have n5_ := Aside0.mk ((by rw [hg]; exact Nat.ne_of_lt (blk_lt (g := gb277) (o := .cells #[.int .i64 a0_0, .int .i64 a0_1, .int .i64 a0_2, .int .i64 a0_3, .int .i64 a0_4, .slice A0_5 l0_5.length c0_5] 27 (0, 0)) (by (with_reducible repeat (first | refine blk_drewN ?_ _ | refine blk_drew ?_ | refine blk_alloc ?_ _)); exact BK277.out)) : gb277 ≠ gb280)); have n6_ := Aside0.mk ((by rw [hg]; exact Nat.ne_of_gt (blk_lt (g := gb277) (o := .cells #[.int .i64 a0_0, .int .i64 a0_1, .int .i64 a0_2, .int .i64 a0_3, .int .i64 a0_4, .slice A0_5 l0_5.length c0_5] 27 (0, 0)) (by (with_reducible repeat (first | refine blk_drewN ?_ _ | refine blk_drew ?_ | refine blk_alloc ?_ _)); exact BK277.out)) : gb280 ≠ gb277)); clear BK277; clear HB; have BK277 := n0_; have HB := n1_; have BK280 := n2_; have GW280 := n3_; have GE280 := n4_; have NB277_280 := n5_; have NB280_277 := n6_; clear n0_ n1_ n2_ n3_ n4_ n5_ n6_; clear hb hbox hg; have hnb23 := NB280_277.out; have hnc23 := NB277_280.out; have hcz24_0 : w22.cell? ⟨gb280, 0, none⟩ = some (.int .u64 0) := (blk_cell BK280.out 0).trans rfl; have hcz24_1 : w22.cell? ⟨gb280, 1, none⟩ = some (.slice none 0 0) := (blk_cell BK280.out 1).trans rfl; have hcz24_2 : w22.cell? ⟨gb280, 2, none⟩ = some (.slice none 0 0) := (blk_cell BK280.out 2).trans rfl; have hfz24_0 := blk_frozen BK280.out 0; have hfz24_1 := blk_frozen BK280.out 1; have hfz24_2 := blk_frozen BK280.out 2) | ((with_reducible refine gate_callee (f := 42) rfl ?_); refine goesL_ (some 17) rfl rfl Try.func42 (by kernel_rfl) rfl #[.agg #[.int .u64 ((rd_T46 l1 x12_1).f0), .slice A279_1 ((rd_T46 l1 x12_1).f1).length c279_1, .slice A279_2 ((rd_T46 l1 x12_1).f2).length c279_2], .int .i64 2000] rfl (by (try simp only [List.map_toArray, List.map_cons, List.map_nil]); first | done | rfl | (simp only [List.length_drop, List.length_take]; rfl)) ?_; (with_reducible refine (passepartoutref05_Count.calls k1 ((rd_T46 l1 x12_1).f0) _ _ ((rd_T46 l1 x12_1).f1) _ _ ((rd_T46 l1 x12_1).f2) 2000 t281 _ ?side1 ?side2 ?side3 ?side4 A14.out).mono ?_); (case side1 => exact Kd.C_below HR279_1.out (by repeat (first | (with_reducible first | exact HB.out | apply below_alloc | apply pw_below_drewN | apply below_drew1 | refine below_set ?_ GE277.out | refine below_set ?_ GE280.out) | exact HB.out))); (case side2 => exact HC279_1.out); (case side3 => exact Kd.C_below HR279_2.out (by repeat (first | (with_reducible first | exact HB.out | apply below_alloc | apply pw_below_drewN | apply below_drew1 | refine below_set ?_ GE277.out | refine below_set ?_ GE280.out) | exact HB.out))); (case side4 => exact HC279_2.out); rintro e w25 ⟨rfl, hb⟩; refine ⟨_, rfl, ?_⟩; have n0_ := Aside0.mk (blk_below (g := gb277) (o := .cells #[.int .i64 a0_0, .int .i64 a0_1, .int .i64 a0_2, .int .i64 a0_3, .int .i64 a0_4, .slice A0_5 l0_5.length c0_5] 27 (0, 0)) (by (with_reducible repeat (first | refine blk_drewN ?_ _ | refine blk_drew ?_ | refine blk_alloc ?_ _)); refine blk_far ?_ NB277_280.out _; (with_reducible repeat (first | refine blk_drewN ?_ _ | refine blk_drew ?_ | refine blk_alloc ?_ _)); refine blk_far ?_ NB277_280.out _; (with_reducible repeat (first | refine blk_drewN ?_ _ | refine blk_drew ?_ | refine blk_alloc ?_ _)); refine blk_far ?_ NB277_280.out _; (with_reducible repeat (first | refine blk_drewN ?_ _ | refine blk_drew ?_ | refine blk_alloc ?_ _)); exact BK277.out) hb); have n1_ := Aside0.mk (blk_below (g := gb280) (o := .cells #[.int .u64 ((rd_T46 l1 x12_1).f0), .slice A279_1 ((rd_T46 l1 x12_1).f1).length c279_1, .slice A279_2 ((rd_T46 l1 x12_1).f2).length c279_2] 46 (0, 0)) (by (with_reducible repeat (first | refine blk_drewN ?_ _ | refine blk_drew ?_ | refine blk_alloc ?_ _)); refine blk_put (cs := #[.int .u64 ((rd_T46 l1 x12_1).f0), .slice A279_1 ((rd_T46 l1 x12_1).f1).length c279_1, .slice none 0 0]) ?_ 2 _ rfl; (with_reducible repeat (first | refine blk_drewN ?_ _ | refine blk_drew ?_ | refine blk_alloc ?_ _)); refine blk_put (cs := #[.int .u64 ((rd_T46 l1 x12_1).f0), .slice none 0 0, .slice none 0 0]) ?_ 1 _ rfl; (with_reducible repeat (first | refine blk_drewN ?_ _ | refine blk_drew ?_ | refine blk_alloc ?_ _)); refine blk_put (cs := #[.int .u64 0, .slice none 0 0, .slice none 0 0]) ?_ 0 _ rfl; (with_reducible repeat (first | refine blk_drewN ?_ _ | refine blk_drew ?_ | refine blk_alloc ?_ _)); exact BK280.out) hb); have n2_ := Aside0.mk (below_step (by repeat (first | (with_reducible first | exact HB.out | apply below_alloc | apply pw_below_drewN | apply below_drew1 | refine below_set ?_ GE277.out | refine below_set ?_ GE280.out) | exact HB.out)) hb); clear BK277; clear BK280; clear HB; have BK277 := n0_; have BK280 := n1_; have HB := n2_; clear n0_ n1_ n2_; (try clear hb); (try clear hb2); (try clear hk); (try clear hi); have hcz26_0 : w25.cell? ⟨gb280, 0, none⟩ = some (.int .u64 ((rd_T46 l1 x12_1).f0)) := (blk_cell BK280.out 0).trans rfl; have hcz26_1 : w25.cell? ⟨gb280, 1, none⟩ = some (.slice A279_1 ((rd_T46 l1 x12_1).f1).length c279_1) := (blk_cell BK280.out 1).trans rfl; have hcz26_2 : w25.cell? ⟨gb280, 2, none⟩ = some (.slice A279_2 ((rd_T46 l1 x12_1).f2).length c279_2) := (blk_cell BK280.out 2).trans rfl; have hfz26_0 := blk_frozen BK280.out 0; have hfz26_1 := blk_frozen BK280.out 1; have hfz26_2 := blk_frozen BK280.out 2) | (go_at_call 55; (with_reducible refine (passepartoutref05_Bytes.calls k1 ((rd_T46 l1 x12_1).f0) _ _ ((rd_T46 l1 x12_1).f1) _ _ ((rd_T46 l1 x12_1).f2) 20000 t282 _ ?side1 ?side2 ?side3 ?side4 A20.out).mono ?_); (case side1 => repeat (first | exact (Kd.C_below HR279_1.out HB.out) | (with_reducible refine Kd.C_alloc ?_ _) | (with_reducible refine Kd.C_drewN ?_ _) | (with_reducible refine Kd.C_drew ?_))); (case side2 => exact HC279_1.out); (case side3 => repeat (first | exact (Kd.C_below HR279_2.out HB.out) | (with_reducible refine Kd.C_alloc ?_ _) | (with_reducible refine Kd.C_drewN ?_ _) | (with_reducible refine Kd.C_drew ?_))); (case side4 => exact HC279_2.out); rintro e w27 ⟨rfl, hb⟩; have n0_ := Aside0.mk (blk_below (g := gb277) (o := .cells #[.int .i64 a0_0, .int .i64 a0_1, .int .i64 a0_2, .int .i64 a0_3, .int .i64 a0_4, .slice A0_5 l0_5.length c0_5] 27 (0, 0)) (by (with_reducible repeat (first | refine blk_drewN ?_ _ | refine blk_drew ?_ | refine blk_alloc ?_ _)); exact BK277.out) hb); have n1_ := Aside0.mk (blk_below (g := gb280) (o := .cells #[.int .u64 ((rd_T46 l1 x12_1).f0), .slice A279_1 ((rd_T46 l1 x12_1).f1).length c279_1, .slice A279_2 ((rd_T46 l1 x12_1).f2).length c279_2] 46 (0, 0)) (by (with_reducible repeat (first | refine blk_drewN ?_ _ | refine blk_drew ?_ | refine blk_alloc ?_ _)); exact BK280.out) hb); have n2_ := Aside0.mk (below_step (by repeat (first | (with_reducible first | exact HB.out | apply below_alloc | apply pw_below_drewN | apply below_drew1 | refine below_set ?_ GE277.out | refine below_set ?_ GE280.out) | exact HB.out)) hb); clear BK277; clear BK280; clear HB; have BK277 := n0_; have BK280 := n1_; have HB := n2_; clear n0_ n1_ n2_; (try clear hb); (try clear hb2); (try clear hk); (try clear hi)))
                  go_ret
                  exact ⟨by first | rfl | (simp [errW_none, errW_some] <;> rfl) | (simp [*, errW_none, errW_some] <;> rfl), by repeat (first | (with_reducible first | exact HB.out | apply below_alloc | apply pw_below_drewN | apply below_drew1 | refine below_set ?_ GE277.out | refine below_set ?_ GE280.out) | exact HB.out)⟩
                · rw [if_neg c21] at H
                  have c21b0 : decide (20000 < t282) = false := decide_eq_false c21
                  clear c21
                  have H' := Aside0.mk H
                  clear H
                  have p279 : 0 ≤ (x12_1 : Int) := of_decide_eq_true (by first | (with_reducible assumption) | assumption)
                  have q279 : x12_1 < (l1.length : Int) := of_decide_eq_true (by first | (with_reducible assumption) | assumption)
                  obtain ⟨ad279, A279_1, c279_1, A279_2, c279_2, e279, hx279_0, hx279_1, hx279_2, hl279_1, hi279_1, hl279_2, hi279_2⟩ := at_T46 HR1.out x12_1 p279 q279
                  cases e279
                  replace hx279_0 := (HB.out.cell (World.block_lt_of_cell? w _ hx279_0)).trans hx279_0
                  replace hx279_1 := (HB.out.cell (World.block_lt_of_cell? w _ hx279_1)).trans hx279_1
                  replace hx279_2 := (HB.out.cell (World.block_lt_of_cell? w _ hx279_2)).trans hx279_2
                  have HR279_1 := Aside0.mk hi279_1
                  have HC279_1 := Aside0.mk hl279_1
                  clear hi279_1 hl279_1
                  have HR279_2 := Aside0.mk hi279_2
                  have HC279_2 := Aside0.mk hl279_2
                  clear hi279_2 hl279_2
                  replace p279 := eq_true p279
                  replace q279 := eq_true q279
                  go_wp2_with (first | ((with_reducible refine gate_dst (N := 6) rfl ?_); refine box_event ?hg (N := 6) ?hd (cs := #[.int .u64 0, .slice none 0 0, .slice none 0 0]) (t := 46) ?hr ?_; (case hd => rfl); (case hg => rfl); (case hr => first | (go_simp; done) | (go_simp; rfl)); intro gb280 hg w28 hbox hb; have n0_ := Aside0.mk (blk_below (g := gb277) (o := .cells #[.int .i64 a0_0, .int .i64 a0_1, .int .i64 a0_2, .int .i64 a0_3, .int .i64 a0_4, .slice A0_5 l0_5.length c0_5] 27 (0, 0)) (by (with_reducible repeat (first | refine blk_drewN ?_ _ | refine blk_drew ?_ | refine blk_alloc ?_ _)); exact BK277.out) hb); have n1_ := Aside0.mk (below_step (by repeat (first | (with_reducible first | exact HB.out | apply below_alloc | apply pw_below_drewN | apply below_drew1 | refine below_set ?_ GE277.out) | exact HB.out)) hb); have n2_ := Aside0.mk (hbox); have n3_ := Aside0.mk ((by rw [hg]; exact (below_size (by repeat (first | (with_reducible first | exact HB.out | apply below_alloc | apply pw_below_drewN | apply below_drew1 | refine below_set ?_ GE277.out) | exact HB.out))) : w.heap.size ≤ gb280)); have n4_ := Aside0.mk ((by rw [hg]; exact (below_size (by repeat (first | (with_reducible first | exact HB.out | apply below_alloc | apply pw_below_drewN | apply below_drew1 | refine below_set ?_ GE277.out) | exact HB.out))) : w.heap.size ≤ gb280)); have n5_ := Aside0.mk ((by rw [hg]; exact Nat.ne_of_lt (blk_lt (g := gb277) (o := .cells #[.int .i64 a0_0, .int .i64 a0_1, .int .i64 a0_2, .int .i64 a0_3, .int .i64 a0_4, .slice A0_5 l0_5.length c0_5] 27 (0, 0)) (by (with_reducible repeat (first | refine blk_drewN ?_ _ | refine blk_drew ?_ | refine blk_alloc ?_ _)); exact BK277.out)) : gb277 ≠ gb280)); have n6_ := Aside0.mk ((by rw [hg]; exact Nat.ne_of_gt (blk_lt (g := gb277) (o := .cells #[.int .i64 a0_0, .int .i64 a0_1, .int .i64 a0_2, .int .i64 a0_3, .int .i64 a0_4, .slice A0_5 l0_5.length c0_5] 27 (0, 0)) (by (with_reducible repeat (first | refine blk_drewN ?_ _ | refine blk_drew ?_ | refine blk_alloc ?_ _)); exact BK277.out)) : gb280 ≠ gb277)); clear BK277; clear HB; have BK277 := n0_; have HB := n1_; have BK280 := n2_; have GW280 := n3_; have GE280 := n4_; have NB277_280 := n5_; have NB280_277 := n6_; clear n0_ n1_ n2_ n3_ n4_ n5_ n6_; clear hb hbox hg; have hnb29 := NB280_277.out; have hnc29 := NB277_280.out; have hcz30_0 : w28.cell? ⟨gb280, 0, none⟩ = some (.int .u64 0) := (blk_cell BK280.out 0).trans rfl; have hcz30_1 : w28.cell? ⟨gb280, 1, none⟩ = some (.slice none 0 0) := (blk_cell BK280.out 1).trans rfl; have hcz30_2 : w28.cell? ⟨gb280, 2, none⟩ = some (.slice none 0 0) := (blk_cell BK280.out 2).trans rfl; have hfz30_0 := blk_frozen BK280.out 0; have hfz30_1 := blk_frozen BK280.out 1; have hfz30_2 := blk_frozen BK280.out 2) | ((with_reducible refine gate_callee (f := 42) rfl ?_); refine goesL_ (some 17) rfl rfl Try.func42 (by kernel_rfl) rfl #[.agg #[.int .u64 ((rd_T46 l1 x12_1).f0), .slice A279_1 ((rd_T46 l1 x12_1).f1).length c279_1, .slice A279_2 ((rd_T46 l1 x12_1).f2).length c279_2], .int .i64 2000] rfl (by (try simp only [List.map_toArray, List.map_cons, List.map_nil]); first | done | rfl | (simp only [List.length_drop, List.length_take]; rfl)) ?_; (with_reducible refine (passepartoutref05_Count.calls k1 ((rd_T46 l1 x12_1).f0) _ _ ((rd_T46 l1 x12_1).f1) _ _ ((rd_T46 l1 x12_1).f2) 2000 t281 _ ?side1 ?side2 ?side3 ?side4 A14.out).mono ?_); (case side1 => exact Kd.C_below HR279_1.out (by repeat (first | (with_reducible first | exact HB.out | apply below_alloc | apply pw_below_drewN | apply below_drew1 | refine below_set ?_ GE277.out | refine below_set ?_ GE280.out) | exact HB.out))); (case side2 => exact HC279_1.out); (case side3 => exact Kd.C_below HR279_2.out (by repeat (first | (with_reducible first | exact HB.out | apply below_alloc | apply pw_below_drewN | apply below_drew1 | refine below_set ?_ GE277.out | refine below_set ?_ GE280.out) | exact HB.out))); (case side4 => exact HC279_2.out); rintro e w31 ⟨rfl, hb⟩; refine ⟨_, rfl, ?_⟩; have n0_ := Aside0.mk (blk_below (g := gb277) (o := .cells #[.int .i64 a0_0, .int .i64 a0_1, .int .i64 a0_2, .int .i64 a0_3, .int .i64 a0_4, .slice A0_5 l0_5.length c0_5] 27 (0, 0)) (by (with_reducible repeat (first | refine blk_drewN ?_ _ | refine blk_drew ?_ | refine blk_alloc ?_ _)); refine blk_far ?_ NB277_280.out _; (with_reducible repeat (first | refine blk_drewN ?_ _ | refine blk_drew ?_ | refine blk_alloc ?_ _)); refine blk_far ?_ NB277_280.out _; (with_reducible repeat (first | refine blk_drewN ?_ _ | refine blk_drew ?_ | refine blk_alloc ?_ _)); refine blk_far ?_ NB277_280.out _; (with_reducible repeat (first | refine blk_drewN ?_ _ | refine blk_drew ?_ | refine blk_alloc ?_ _)); exact BK277.out) hb); have n1_ := Aside0.mk (blk_below (g := gb280) (o := .cells #[.int .u64 ((rd_T46 l1 x12_1).f0), .slice A279_1 ((rd_T46 l1 x12_1).f1).length c279_1, .slice A279_2 ((rd_T46 l1 x12_1).f2).length c279_2] 46 (0, 0)) (by (with_reducible repeat (first | refine blk_drewN ?_ _ | refine blk_drew ?_ | refine blk_alloc ?_ _)); refine blk_put (cs := #[.int .u64 ((rd_T46 l1 x12_1).f0), .slice A279_1 ((rd_T46 l1 x12_1).f1).length c279_1, .slice none 0 0]) ?_ 2 _ rfl; (with_reducible repeat (first | refine blk_drewN ?_ _ | refine blk_drew ?_ | refine blk_alloc ?_ _)); refine blk_put (cs := #[.int .u64 ((rd_T46 l1 x12_1).f0), .slice none 0 0, .slice none 0 0]) ?_ 1 _ rfl; (with_reducible repeat (first | refine blk_drewN ?_ _ | refine blk_drew ?_ | refine blk_alloc ?_ _)); refine blk_put (cs := #[.int .u64 0, .slice none 0 0, .slice none 0 0]) ?_ 0 _ rfl; (with_reducible repeat (first | refine blk_drewN ?_ _ | refine blk_drew ?_ | refine blk_alloc ?_ _)); exact BK280.out) hb); have n2_ := Aside0.mk (below_step (by repeat (first | (with_reducible first | exact HB.out | apply below_alloc | apply pw_below_drewN | apply below_drew1 | refine below_set ?_ GE277.out | refine below_set ?_ GE280.out) | exact HB.out)) hb); clear BK277; clear BK280; clear HB; have BK277 := n0_; have BK280 := n1_; have HB := n2_; clear n0_ n1_ n2_; (try clear hb); (try clear hb2); (try clear hk); (try clear hi); have hcz32_0 : w31.cell? ⟨gb280, 0, none⟩ = some (.int .u64 ((rd_T46 l1 x12_1).f0)) := (blk_cell BK280.out 0).trans rfl; have hcz32_1 : w31.cell? ⟨gb280, 1, none⟩ = some (.slice A279_1 ((rd_T46 l1 x12_1).f1).length c279_1) := (blk_cell BK280.out 1).trans rfl; have hcz32_2 : w31.cell? ⟨gb280, 2, none⟩ = some (.slice A279_2 ((rd_T46 l1 x12_1).f2).length c279_2) := (blk_cell BK280.out 2).trans rfl; have hfz32_0 := blk_frozen BK280.out 0; have hfz32_1 := blk_frozen BK280.out 1; have hfz32_2 := blk_frozen BK280.out 2) | (go_at_call 55; (with_reducible refine (passepartoutref05_Bytes.calls k1 ((rd_T46 l1 x12_1).f0) _ _ ((rd_T46 l1 x12_1).f1) _ _ ((rd_T46 l1 x12_1).f2) 20000 t282 _ ?side1 ?side2 ?side3 ?side4 A20.out).mono ?_); (case side1 => repeat (first | exact (Kd.C_below HR279_1.out HB.out) | (with_reducible refine Kd.C_alloc ?_ _) | (with_reducible refine Kd.C_drewN ?_ _) | (with_reducible refine Kd.C_drew ?_))); (case side2 => exact HC279_1.out); (case side3 => repeat (first | exact (Kd.C_below HR279_2.out HB.out) | (with_reducible refine Kd.C_alloc ?_ _) | (with_reducible refine Kd.C_drewN ?_ _) | (with_reducible refine Kd.C_drew ?_))); (case side4 => exact HC279_2.out); rintro e w33 ⟨rfl, hb⟩; have n0_ := Aside0.mk (blk_below (g := gb277) (o := .cells #[.int .i64 a0_0, .int .i64 a0_1, .int .i64 a0_2, .int .i64 a0_3, .int .i64 a0_4, .slice A0_5 l0_5.length c0_5] 27 (0, 0)) (by (with_reducible repeat (first | refine blk_drewN ?_ _ | refine blk_drew ?_ | refine blk_alloc ?_ _)); exact BK277.out) hb); have n1_ := Aside0.mk (blk_below (g := gb280) (o := .cells #[.int .u64 ((rd_T46 l1 x12_1).f0), .slice A279_1 ((rd_T46 l1 x12_1).f1).length c279_1, .slice A279_2 ((rd_T46 l1 x12_1).f2).length c279_2] 46 (0, 0)) (by (with_reducible repeat (first | refine blk_drewN ?_ _ | refine blk_drew ?_ | refine blk_alloc ?_ _)); exact BK280.out) hb); have n2_ := Aside0.mk (below_step (by repeat (first | (with_reducible first | exact HB.out | apply below_alloc | apply pw_below_drewN | apply below_drew1 | refine below_set ?_ GE277.out | refine below_set ?_ GE280.out) | exact HB.out)) hb); clear BK277; clear BK280; clear HB; have BK277 := n0_; have BK280 := n1_; have HB := n2_; clear n0_ n1_ n2_; (try clear hb); (try clear hb2); (try clear hk); (try clear hi)))
                  go_roundg k1
                  case measure => have := HK1.out; omega
                  case rel => exact ⟨(wrap64 (x12_1 + 1)), (by first | rfl | (simp; done) | (simp [*]; done)), H', ⟨by have := HK1.out; omega⟩, ⟨by (with_reducible repeat (first | refine blk_drewN ?_ _ | refine blk_drew ?_ | refine blk_alloc ?_ _)); exact BK277.out⟩, ⟨by repeat (first | (with_reducible first | exact HB.out | apply below_alloc | apply pw_below_drewN | apply below_drew1 | refine below_set ?_ GE277.out | refine below_set ?_ GE280.out) | exact HB.out)⟩⟩
            · rw [if_neg c13] at H
              exact absurd H (by simp)
          · rw [if_neg c12] at H
            exact absurd H (by simp)
        · rw [if_neg c11] at H
          have c11b0 : decide (x12_1 < (l1.length : Int)) = false := decide_eq_false c11
          clear c11
          obtain rfl := Option.some.inj H
          go_wp2
          go_ret
          exact ⟨by first | rfl | (simp [errW_none, errW_some] <;> rfl) | (simp [*, errW_none, errW_some] <;> rfl), by repeat (first | (with_reducible first | exact HB.out | apply below_alloc | apply pw_below_drewN | apply below_drew1 | refine below_set ?_ GE277.out) | exact HB.out)⟩

end Go.Proofs.Ytfcghajnnllmhaa.QP

namespace Go.Proofs.Ytfcghajnnllmhaa.QP
open Go.RowKit Go.Proofs.YtfcghajnnllmhaaW.PrintWords Go.Proofs.YtfcghajnnllmhaaW.PrintLast Go.Proofs.YtfcghajnnllmhaaW.PrintMore
attribute [local go_sem] max2_int min2_int max_two min_two max_three min_three max_four min_four   -- for this text's walks alone
set_option linter.unusedVariables false
set_option linter.unusedSimpArgs false

/-! ### passepartoutref05_Same: function 37 -/
mutual
def passepartoutref05_Same.j0 : Nat → Bool → Int → List Int → List (S46) → Int → List Int → List (S46) → Option (Bool)
  | 0, _, _, _, _, _, _, _ => none
  | k + 1, x29, x299000, x299001, x299002, x300000, x300001, x300002 => if x29 = true then (some false) else (passepartoutref05_Same.l0 k 0 x299000 x299001 x299002 x300000 x300001 x300002)
def passepartoutref05_Same.l0 : Nat → Int → Int → List Int → List (S46) → Int → List Int → List (S46) → Option (Bool)
  | 0, _, _, _, _, _, _, _ => none
  | k + 1, x5, x299000, x299001, x299002, x300000, x300001, x300002 => if x5 < (x299002.length : Int) then (if 0 ≤ x5 then (if x5 < (x300002.length : Int) then ((passepartoutref05_Same.f k ((rd_T46 x299002 x5).f0) ((rd_T46 x299002 x5).f1) ((rd_T46 x299002 x5).f2) ((rd_T46 x300002 x5).f0) ((rd_T46 x300002 x5).f1) ((rd_T46 x300002 x5).f2)).bind fun t302 => (if t302 = true then (passepartoutref05_Same.l0 k (wrap64 (x5 + 1)) x299000 x299001 x299002 x300000 x300001 x300002) else (some false))) else (none)) else (none)) else (some true)
def passepartoutref05_Same.f : Nat → Int → List Int → List (S46) → Int → List Int → List (S46) → Option (Bool)
  | 0, _, _, _, _, _, _ => none
  | k + 1, a0_0, l0_1, l0_2, a1_0, l1_1, l1_2 => if a0_0 = a1_0 then (if (strOfNums l0_1).toList = (strOfNums l1_1).toList then (passepartoutref05_Same.j0 k ((l0_2.length : Int) != (l1_2.length : Int)) a0_0 l0_1 l0_2 a1_0 l1_1 l1_2) else (passepartoutref05_Same.j0 k true a0_0 l0_1 l0_2 a1_0 l1_1 l1_2)) else (passepartoutref05_Same.j0 k true a0_0 l0_1 l0_2 a1_0 l1_1 l1_2)
end
theorem passepartoutref05_Same.mono_l : ∀ k, (∀ y0 y1 y2 y3 y4 y5, LeO (passepartoutref05_Same.f k y0 y1 y2 y3 y4 y5) (passepartoutref05_Same.f (k + 1) y0 y1 y2 y3 y4 y5)) ∧ (∀ y0 y1 y2 y3 y4 y5 y6, LeO (passepartoutref05_Same.j0 k y0 y1 y2 y3 y4 y5 y6) (passepartoutref05_Same.j0 (k + 1) y0 y1 y2 y3 y4 y5 y6)) ∧ (∀ y0 y1 y2 y3 y4 y5 y6, LeO (passepartoutref05_Same.l0 k y0 y1 y2 y3 y4 y5 y6) (passepartoutref05_Same.l0 (k + 1) y0 y1 y2 y3 y4 y5 y6))
  | 0 => ⟨fun _ _ _ _ _ _ r h => by simp [passepartoutref05_Same.f] at h, fun _ _ _ _ _ _ _ r h => by simp [passepartoutref05_Same.j0] at h, fun _ _ _ _ _ _ _ r h => by simp [passepartoutref05_Same.l0] at h⟩
  | k + 1 => by
    obtain ⟨ih0, ih1, ih2⟩ := passepartoutref05_Same.mono_l k
    refine ⟨?_, ?_, ?_⟩
    · intro y0 y1 y2 y3 y4 y5
      unfold passepartoutref05_Same.f
      repeat' first
      | (with_reducible exact ih0 _ _ _ _ _ _)
      | (with_reducible exact ih1 _ _ _ _ _ _ _)
      | (with_reducible exact ih2 _ _ _ _ _ _ _)
      | (with_reducible exact LeO.refl _)
      | (with_reducible exact LeO.none _)
      | (with_reducible refine LeO.ite ?_ ?_)
      | (with_reducible refine LeO.bind ?_ (fun _ => ?_))
      | exact ih0 _ _ _ _ _ _
      | exact ih1 _ _ _ _ _ _ _
      | exact ih2 _ _ _ _ _ _ _
      | exact LeO.none _
      | refine LeO.ite ?_ ?_
      | refine LeO.bind ?_ (fun _ => ?_)
    · intro y0 y1 y2 y3 y4 y5 y6
      unfold passepartoutref05_Same.j0
      repeat' first
      | (with_reducible exact ih0 _ _ _ _ _ _)
      | (with_reducible exact ih1 _ _ _ _ _ _ _)
      | (with_reducible exact ih2 _ _ _ _ _ _ _)
      | (with_reducible exact LeO.refl _)
      | (with_reducible exact LeO.none _)
      | (with_reducible refine LeO.ite ?_ ?_)
      | (with_reducible refine LeO.bind ?_ (fun _ => ?_))
      | exact ih0 _ _ _ _ _ _
      | exact ih1 _ _ _ _ _ _ _
      | exact ih2 _ _ _ _ _ _ _
      | exact LeO.none _
      | refine LeO.ite ?_ ?_
      | refine LeO.bind ?_ (fun _ => ?_)
    · intro y0 y1 y2 y3 y4 y5 y6
      unfold passepartoutref05_Same.l0
      repeat' first
      | (with_reducible exact ih0 _ _ _ _ _ _)
      | (with_reducible exact ih1 _ _ _ _ _ _ _)
      | (with_reducible exact ih2 _ _ _ _ _ _ _)
      | (with_reducible exact LeO.refl _)
      | (with_reducible exact LeO.none _)
      | (with_reducible refine LeO.ite ?_ ?_)
      | (with_reducible refine LeO.bind ?_ (fun _ => ?_))
      | exact ih0 _ _ _ _ _ _
      | exact ih1 _ _ _ _ _ _ _
      | exact ih2 _ _ _ _ _ _ _
      | exact LeO.none _
      | refine LeO.ite ?_ ?_
      | refine LeO.bind ?_ (fun _ => ?_)
theorem passepartoutref05_Same.mono : ∀ a0 a1 a2 a3 a4 a5 k, LeO (passepartoutref05_Same.f k a0 a1 a2 a3 a4 a5) (passepartoutref05_Same.f (k + 1) a0 a1 a2 a3 a4 a5) := by
  intro a0 a1 a2 a3 a4 a5 k
  obtain ⟨ih0, ih1, ih2⟩ := passepartoutref05_Same.mono_l k
  exact ih0 a0 a1 a2 a3 a4 a5
def passepartoutref05_Same.T6 : Bool × List (List Nat × List Nat) := (true, [([], []), ([0], [0]), ([], []), ([1, 2], [1, 2]), ([3], [3]), ([], []), ([5], [5]), ([], []), ([6, 7], [6, 7]), ([8], [8]), ([4, 9], [4, 9]), ([10, 10, 0, 1, 2, 3, 4, 5, 6, 7, 8, 9, 10], [10])])
def passepartoutref05_Same.B6 : List Nat := [0, 1, 0, 7, 15, 0, 32, 0, 224, 480, 1023, 2047]
theorem passepartoutref05_Same.tab6 : rtab .any (opsOf Try.f37 6) = passepartoutref05_Same.T6 := by kernel_rfl
theorem passepartoutref05_Same.bits6 : waitsOk passepartoutref05_Same.T6.2 passepartoutref05_Same.B6 = true := by kernel_rfl
set_option maxHeartbeats 8000000 in
set_option maxRecDepth 100000 in
theorem passepartoutref05_Same.calls (k : Nat) : ∀ (a0_0 : Int) (A0_1 : Option Addr) (c0_1 : Nat) (l0_1 : List Int) (A0_2 : Option Addr) (c0_2 : Nat) (l0_2 : List (S46)) (a1_0 : Int) (A1_1 : Option Addr) (c1_1 : Nat) (l1_1 : List Int) (A1_2 : Option Addr) (c1_2 : Nat) (l1_2 : List (S46)) (r : Bool) (w : World) (hr0_1 : Kd.C (Kd.int .u8) w A0_1 l0_1.length l0_1) (hc0_1 : l0_1.length ≤ c0_1) (hr0_2 : Kd.C k46 w A0_2 l0_2.length l0_2) (hc0_2 : l0_2.length ≤ c0_2) (hr1_1 : Kd.C (Kd.int .u8) w A1_1 l1_1.length l1_1) (hc1_1 : l1_1.length ≤ c1_1) (hr1_2 : Kd.C k46 w A1_2 l1_2.length l1_2) (hc1_2 : l1_2.length ≤ c1_2) (h : passepartoutref05_Same.f k a0_0 l0_1 l0_2 a1_0 l1_1 l1_2 = some r),
    Calls Try.prog 37 #[.agg #[.int .u64 a0_0, .slice A0_1 l0_1.length c0_1, .slice A0_2 l0_2.length c0_2], .agg #[.int .u64 a1_0, .slice A1_1 l1_1.length c1_1, .slice A1_2 l1_2.length c1_2]] w fun e w' => e = .returned (.bool r) ∧ Below w.heap.size w w' := by
  induction k using Nat.strongRecOn with
  | _ k ih =>
  intro a0_0 A0_1 c0_1 l0_1 A0_2 c0_2 l0_2 a1_0 A1_1 c1_1 l1_1 A1_2 c1_2 l1_2 r w hr0_1 hc0_1 hr0_2 hc0_2 hr1_1 hc1_1 hr1_2 hc1_2 h
  cases k with
  | zero => exact absurd h (by simp [passepartoutref05_Same.f])
  | succ k =>
  simp only [passepartoutref05_Same.f] at h
  have hu46 := Try.underlying46
  have HR0_1 := Aside0.mk hr0_1
  have HC0_1 := Aside0.mk hc0_1
  clear hr0_1 hc0_1
  have HR0_2 := Aside0.mk hr0_2
  have HC0_2 := Aside0.mk hc0_2
  clear hr0_2 hc0_2
  have HR1_1 := Aside0.mk hr1_1
  have HC1_1 := Aside0.mk hc1_1
  clear hr1_1 hc1_1
  have HR1_2 := Aside0.mk hr1_2
  have HC1_2 := Aside0.mk hc1_2
  clear hr1_2 hc1_2
  have HB := Aside0.mk (Below.refl w.heap.size w)
  have H : (if a0_0 = a1_0 then (if (strOfNums l0_1).toList = (strOfNums l1_1).toList then (passepartoutref05_Same.j0 k ((l0_2.length : Int) != (l1_2.length : Int)) a0_0 l0_1 l0_2 a1_0 l1_1 l1_2) else (passepartoutref05_Same.j0 k true a0_0 l0_1 l0_2 a1_0 l1_1 l1_2)) else (passepartoutref05_Same.j0 k true a0_0 l0_1 l0_2 a1_0 l1_1 l1_2)) = some r := h
  clear h
  have HC3 := Aside0.mk H
  clear H
  go_enter Try.func37, Try.ntmps37
  go_upto_region 1 with (first | ((with_reducible refine gate_dst (N := 2) rfl ?_); (try (refine gate_guard (by rfl) ?_; dsimp only)); refine box_event ?hg (N := 2) ?hd (cs := #[.int .u64 a0_0, .slice A0_1 l0_1.length c0_1, .slice A0_2 l0_2.length c0_2]) (t := 46) ?hr ?_; (case hd => rfl); (case hg => rfl); (case hr => first | (go_simp; done) | (go_simp; rfl)); intro gb298 hg w4 hbox hb; have n0_ := Aside0.mk (below_step (by repeat (first | (with_reducible first | exact HB.out | apply below_alloc | apply pw_below_drewN | apply below_drew1) | exact HB.out)) hb); have n1_ := Aside0.mk (hbox); have n2_ := Aside0.mk ((by rw [hg]; exact (below_size (by repeat (first | (with_reducible first | exact HB.out | apply below_alloc | apply pw_below_drewN | apply below_drew1) | exact HB.out))) : w.heap.size ≤ gb298)); have n3_ := Aside0.mk ((by rw [hg]; exact (below_size (by repeat (first | (with_reducible first | exact HB.out | apply below_alloc | apply pw_below_drewN | apply below_drew1) | exact HB.out))) : w.heap.size ≤ gb298)); clear HB; have HB := n0_; have BK298 := n1_; have GW298 := n2_; have GE298 := n3_; clear n0_ n1_ n2_ n3_; clear hb hbox hg) | ((with_reducible refine gate_dst (N := 3) rfl ?_); (try (refine gate_guard (by rfl) ?_; dsimp only)); refine box_event ?hg (N := 3) ?hd (cs := #[.int .u64 a1_0, .slice A1_1 l1_1.length c1_1, .slice A1_2 l1_2.length c1_2]) (t := 46) ?hr ?_; (case hd => rfl); (case hg => rfl); (case hr => first | (go_simp; done) | (go_simp; rfl)); intro gb299 hg w5 hbox hb; have n0_ := Aside0.mk (blk_below (g := gb298) (o := .cells #[.int .u64 a0_0, .slice A0_1 l0_1.length c0_1, .slice A0_2 l0_2.length c0_2] 46 (0, 0)) (by (with_reducible repeat (first | refine blk_drewN ?_ _ | refine blk_drew ?_ | refine blk_alloc ?_ _)); exact BK298.out) hb); have n1_ := Aside0.mk (below_step (by repeat (first | (with_reducible first | exact HB.out | apply below_alloc | apply pw_below_drewN | apply below_drew1 | refine below_set ?_ GE298.out) | exact HB.out)) hb); have n2_ := Aside0.mk (hbox); have n3_ := Aside0.mk ((by rw [hg]; exact (below_size (by repeat (first | (with_reducible first | exact HB.out | apply below_alloc | apply pw_below_drewN | apply below_drew1 | refine below_set ?_ GE298.out) | exact HB.out))) : w.heap.size ≤ gb299)); have n4_ := Aside0.mk ((by rw [hg]; exact (below_size (by repeat (first | (with_reducible first | exact HB.out | apply below_alloc | apply pw_below_drewN | apply below_drew1 | refine below_set ?_ GE298.out) | exact HB.out))) : w.heap.size ≤ gb299)); have n5_ := Aside0.mk ((by rw [hg]; exact Nat.ne_of_lt (blk_lt (g := gb298) (o := .cells #[.int .u64 a0_0, .slice A0_1 l0_1.length c0_1, .slice A0_2 l0_2.length c0_2] 46 (0, 0)) (by (with_reducible repeat (first | refine blk_drewN ?_ _ | refine blk_drew ?_ | refine blk_alloc ?_ _)); exact BK298.out)) : gb298 ≠ gb299)); have n6_ := Aside0.mk ((by rw [hg]; exact Nat.ne_of_gt (blk_lt (g := gb298) (o := .cells #[.int .u64 a0_0, .slice A0_1 l0_1.length c0_1, .slice A0_2 l0_2.length c0_2] 46 (0, 0)) (by (with_reducible repeat (first | refine blk_drewN ?_ _ | refine blk_drew ?_ | refine blk_alloc ?_ _)); exact BK298.out)) : gb299 ≠ gb298)); clear BK298; clear HB; have BK298 := n0_; have HB := n1_; have BK299 := n2_; have GW299 := n3_; have GE299 := n4_; have NB298_299 := n5_; have NB299_298 := n6_; clear n0_ n1_ n2_ n3_ n4_ n5_ n6_; clear hb hbox hg))
  (try simp only [Act.put, List.setIfInBounds_toArray, List.set_cons_zero, List.set_cons_succ])
  go_cut [29] (fun v29 wc => ∃ (kq : Nat) (x29_2 : Bool), v29 = .bool x29_2 ∧ Aside0 (passepartoutref05_Same.j0 kq x29_2 a0_0 l0_1 l0_2 a1_0 l1_1 l1_2 = some r) ∧ Aside0 (kq ≤ k) ∧ Aside0 (wc.heap[gb298]? = some (.cells #[.int .u64 a0_0, (.slice A0_1 l0_1.length c0_1), (.slice A0_2 l0_2.length c0_2)] 46 (0, 0))) ∧ Aside0 (wc.heap[gb299]? = some (.cells #[.int .u64 a1_0, (.slice A1_1 l1_1.length c1_1), (.slice A1_2 l1_2.length c1_2)] 46 (0, 0))) ∧ Aside0 (Below w.heap.size w wc))
  case first =>
    have H := HC3.out
    clear HC3
    by_cases c6 : a0_0 = a1_0
    · rw [if_pos c6] at H
      have c6b0 : (a0_0 == a1_0) = true := beq_iff_eq.mpr c6
      have c6b1 : (a0_0 != a1_0) = false := bne_eq_false_iff_eq.mpr c6
      clear c6
      (first | rw [c6b0] | (simp only [i64_w, i32_w]; rw [c6b0]) | skip)
      by_cases c7 : (strOfNums l0_1).toList = (strOfNums l1_1).toList
      · rw [if_pos c7] at H
        have c7b0 : ((strOfNums l0_1).toList == (strOfNums l1_1).toList) = true := beq_iff_eq.mpr c7
        have c7b1 : ((strOfNums l0_1).toList != (strOfNums l1_1).toList) = false := bne_eq_false_iff_eq.mpr c7
        clear c7
        have H' := Aside0.mk H
        clear H
        have hnb8 := NB298_299.out
        have hnc8 := NB299_298.out
        have hcz9_0 : w5.cell? ⟨gb298, 0, none⟩ = some (.int .u64 a0_0) := (blk_cell BK298.out 0).trans rfl
        have hcz9_1 : w5.cell? ⟨gb298, 1, none⟩ = some (.slice A0_1 l0_1.length c0_1) := (blk_cell BK298.out 1).trans rfl
        have hcz9_2 : w5.cell? ⟨gb298, 2, none⟩ = some (.slice A0_2 l0_2.length c0_2) := (blk_cell BK298.out 2).trans rfl
        have hfz9_0 := blk_frozen BK298.out 0
        have hfz9_1 := blk_frozen BK298.out 1
        have hfz9_2 := blk_frozen BK298.out 2
        have hcz10_0 : w5.cell? ⟨gb299, 0, none⟩ = some (.int .u64 a1_0) := (blk_cell BK299.out 0).trans rfl
        have hcz10_1 : w5.cell? ⟨gb299, 1, none⟩ = some (.slice A1_1 l1_1.length c1_1) := (blk_cell BK299.out 1).trans rfl
        have hcz10_2 : w5.cell? ⟨gb299, 2, none⟩ = some (.slice A1_2 l1_2.length c1_2) := (blk_cell BK299.out 2).trans rfl
        have hfz10_0 := blk_frozen BK299.out 0
        have hfz10_1 := blk_frozen BK299.out 1
        have hfz10_2 := blk_frozen BK299.out 2
        have hcv11 := Kd.C_string (P := Try.prog) (A := A0_1) (c := c0_1) Try.underlying43 Try.underlying5 Try.underlying9 (Kd.C_below HR0_1.out HB.out)
        have hcv12 := Kd.C_string (P := Try.prog) (A := A1_1) (c := c1_1) Try.underlying43 Try.underlying5 Try.underlying9 (Kd.C_below HR1_1.out HB.out)
        go_wp2
        go_meet
        case rel => exact ⟨_, (((l0_2.length : Int) != (l1_2.length : Int))), (by first | rfl | (simp; done) | (simp [*]; done)), H', ⟨by first | omega | exact Nat.le_refl _⟩, ⟨by (with_reducible repeat (first | refine blk_drewN ?_ _ | refine blk_drew ?_ | refine blk_alloc ?_ _)); exact BK298.out⟩, ⟨by (with_reducible repeat (first | refine blk_drewN ?_ _ | refine blk_drew ?_ | refine blk_alloc ?_ _)); exact BK299.out⟩, ⟨by repeat (first | (with_reducible first | exact HB.out | apply below_alloc | apply pw_below_drewN | apply below_drew1 | refine below_set ?_ GE298.out | refine below_set ?_ GE299.out) | exact HB.out)⟩⟩
      · rw [if_neg c7] at H
        have c7b0 : ((strOfNums l0_1).toList == (strOfNums l1_1).toList) = false := beq_eq_false_iff_ne.mpr c7
        have c7b1 : ((strOfNums l0_1).toList != (strOfNums l1_1).toList) = true := bne_iff_ne.mpr c7
        have H' := Aside0.mk H
        clear H
        have hnb13 := NB298_299.out
        have hnc13 := NB299_298.out
        have hcz14_0 : w5.cell? ⟨gb298, 0, none⟩ = some (.int .u64 a0_0) := (blk_cell BK298.out 0).trans rfl
        have hcz14_1 : w5.cell? ⟨gb298, 1, none⟩ = some (.slice A0_1 l0_1.length c0_1) := (blk_cell BK298.out 1).trans rfl
        have hcz14_2 : w5.cell? ⟨gb298, 2, none⟩ = some (.slice A0_2 l0_2.length c0_2) := (blk_cell BK298.out 2).trans rfl
        have hfz14_0 := blk_frozen BK298.out 0
        have hfz14_1 := blk_frozen BK298.out 1
        have hfz14_2 := blk_frozen BK298.out 2
        have hcz15_0 : w5.cell? ⟨gb299, 0, none⟩ = some (.int .u64 a1_0) := (blk_cell BK299.out 0).trans rfl
        have hcz15_1 : w5.cell? ⟨gb299, 1, none⟩ = some (.slice A1_1 l1_1.length c1_1) := (blk_cell BK299.out 1).trans rfl
        have hcz15_2 : w5.cell? ⟨gb299, 2, none⟩ = some (.slice A1_2 l1_2.length c1_2) := (blk_cell BK299.out 2).trans rfl
        have hfz15_0 := blk_frozen BK299.out 0
        have hfz15_1 := blk_frozen BK299.out 1
        have hfz15_2 := blk_frozen BK299.out 2
        have hcv16 := Kd.C_string (P := Try.prog) (A := A0_1) (c := c0_1) Try.underlying43 Try.underlying5 Try.underlying9 (Kd.C_below HR0_1.out HB.out)
        have hcv17 := Kd.C_string (P := Try.prog) (A := A1_1) (c := c1_1) Try.underlying43 Try.underlying5 Try.underlying9 (Kd.C_below HR1_1.out HB.out)
        go_wp2
        go_meet
        case rel => exact ⟨_, (true), (by first | rfl | (simp; done) | (simp [*]; done)), H', ⟨by first | omega | exact Nat.le_refl _⟩, ⟨by (with_reducible repeat (first | refine blk_drewN ?_ _ | refine blk_drew ?_ | refine blk_alloc ?_ _)); exact BK298.out⟩, ⟨by (with_reducible repeat (first | refine blk_drewN ?_ _ | refine blk_drew ?_ | refine blk_alloc ?_ _)); exact BK299.out⟩, ⟨by repeat (first | (with_reducible first | exact HB.out | apply below_alloc | apply pw_below_drewN | apply below_drew1 | refine below_set ?_ GE298.out | refine below_set ?_ GE299.out) | exact HB.out)⟩⟩
    · rw [if_neg c6] at H
      have c6b0 : (a0_0 == a1_0) = false := beq_eq_false_iff_ne.mpr c6
      have c6b1 : (a0_0 != a1_0) = true := bne_iff_ne.mpr c6
      (first | rw [c6b0] | (simp only [i64_w, i32_w]; rw [c6b0]) | skip)
      have H' := Aside0.mk H
      clear H
      have hnb18 := NB298_299.out
      have hnc18 := NB299_298.out
      have hcz19_0 : w5.cell? ⟨gb298, 0, none⟩ = some (.int .u64 a0_0) := (blk_cell BK298.out 0).trans rfl
      have hcz19_1 : w5.cell? ⟨gb298, 1, none⟩ = some (.slice A0_1 l0_1.length c0_1) := (blk_cell BK298.out 1).trans rfl
      have hcz19_2 : w5.cell? ⟨gb298, 2, none⟩ = some (.slice A0_2 l0_2.length c0_2) := (blk_cell BK298.out 2).trans rfl
      have hfz19_0 := blk_frozen BK298.out 0
      have hfz19_1 := blk_frozen BK298.out 1
      have hfz19_2 := blk_frozen BK298.out 2
      have hcz20_0 : w5.cell? ⟨gb299, 0, none⟩ = some (.int .u64 a1_0) := (blk_cell BK299.out 0).trans rfl
      have hcz20_1 : w5.cell? ⟨gb299, 1, none⟩ = some (.slice A1_1 l1_1.length c1_1) := (blk_cell BK299.out 1).trans rfl
      have hcz20_2 : w5.cell? ⟨gb299, 2, none⟩ = some (.slice A1_2 l1_2.length c1_2) := (blk_cell BK299.out 2).trans rfl
      have hfz20_0 := blk_frozen BK299.out 0
      have hfz20_1 := blk_frozen BK299.out 1
      have hfz20_2 := blk_frozen BK299.out 2
      go_wp2
      go_meet
      case rel => exact ⟨_, (true), (by first | rfl | (simp; done) | (simp [*]; done)), H', ⟨by first | omega | exact Nat.le_refl _⟩, ⟨by (with_reducible repeat (first | refine blk_drewN ?_ _ | refine blk_drew ?_ | refine blk_alloc ?_ _)); exact BK298.out⟩, ⟨by (with_reducible repeat (first | refine blk_drewN ?_ _ | refine blk_drew ?_ | refine blk_alloc ?_ _)); exact BK299.out⟩, ⟨by repeat (first | (with_reducible first | exact HB.out | apply below_alloc | apply pw_below_drewN | apply below_drew1 | refine below_set ?_ GE298.out | refine below_set ?_ GE299.out) | exact HB.out)⟩⟩
  case rest =>
    clear HC3
    try clear c1
    try clear hcv1
    try clear p2
    try clear c3
    try clear c6
    try clear c6b0
    try clear c6b1
    try clear c7
    try clear c7b0
    try clear c7b1
    try clear c8
    try clear hcv11
    try clear hcv12
    try clear c13
    try clear hcv16
    try clear hcv17
    try clear c18
    try clear hcz10_0
    try clear hcz10_1
    try clear hcz10_2
    try clear hcz14_0
    try clear hcz14_1
    try clear hcz14_2
    try clear hcz15_0
    try clear hcz15_1
    try clear hcz15_2
    try clear hcz19_0
    try clear hcz19_1
    try clear hcz19_2
    try clear hcz20_0
    try clear hcz20_1
    try clear hcz20_2
    try clear hcz9_0
    try clear hcz9_1
    try clear hcz9_2
    try clear hfz10_0
    try clear hfz10_1
    try clear hfz10_2
    try clear hfz14_0
    try clear hfz14_1
    try clear hfz14_2
    try clear hfz15_0
    try clear hfz15_1
    try clear hfz15_2
    try clear hfz19_0
    try clear hfz19_1
    try clear hfz19_2
    try clear hfz20_0
    try clear hfz20_1
    try clear hfz20_2
    try clear hfz9_0
    try clear hfz9_1
    try clear hfz9_2
    obtain ⟨kq, x29_2, rfl, HA, HJ2, BK298, BK299, HB⟩ := hcut
    cases kq with
    | zero => exact absurd HA.out (by simp [passepartoutref05_Same.j0])
    | succ kj2 =>
      have H := HA.out
      clear HA
      simp only [passepartoutref05_Same.j0] at H
      by_cases c21 : x29_2 = true
      · subst c21
        have H1 : (some false) = some r := by rw [if_pos rfl] at H; exact H
        clear H
        have H := H1
        clear H1
        obtain rfl := Option.some.inj H
        go_wp2
        go_ret
        exact ⟨by first | rfl | (simp [errW_none, errW_some] <;> rfl) | (simp [*, errW_none, errW_some] <;> rfl), by repeat (first | (with_reducible first | exact HB.out | apply below_alloc | apply pw_below_drewN | apply below_drew1 | refine below_set ?_ GE298.out | refine below_set ?_ GE299.out) | exact HB.out)⟩
      · replace c21 := Bool.eq_false_iff.mpr c21
        subst c21
        have H1 : (passepartoutref05_Same.l0 kj2 0 a0_0 l0_1 l0_2 a1_0 l1_1 l1_2) = some r := by rw [if_neg (show ¬ (false = true) by decide)] at H; exact H
        clear H
        have H := H1
        clear H1
        have H' := Aside0.mk H
        clear H
        go_wp2
        go_loopg [5] kj2 (fun kq v5 w' => ∃ (x5_2 : Int), v5 = .int .i64 x5_2 ∧ Aside0 (passepartoutref05_Same.l0 kq x5_2 a0_0 l0_1 l0_2 a1_0 l1_1 l1_2 = some r) ∧ Aside0 (kq ≤ kj2) ∧ Aside0 (w'.heap[gb298]? = some (.cells #[.int .u64 a0_0, (.slice A0_1 l0_1.length c0_1), (.slice A0_2 l0_2.length c0_2)] 46 (0, 0))) ∧ Aside0 (w'.heap[gb299]? = some (.cells #[.int .u64 a1_0, (.slice A1_1 l1_1.length c1_1), (.slice A1_2 l1_2.length c1_2)] 46 (0, 0))) ∧ Aside0 (Below w.heap.size w w'))
        case atStart => exact ⟨(0), (by first | rfl | (simp; done) | (simp [*]; done)), H', ⟨Nat.le_refl _⟩, ⟨by (with_reducible repeat (first | refine blk_drewN ?_ _ | refine blk_drew ?_ | refine blk_alloc ?_ _)); exact BK298.out⟩, ⟨by (with_reducible repeat (first | refine blk_drewN ?_ _ | refine blk_drew ?_ | refine blk_alloc ?_ _)); exact BK299.out⟩, ⟨by repeat (first | (with_reducible first | exact HB.out | apply below_alloc | apply pw_below_drewN | apply below_drew1 | refine below_set ?_ GE298.out | refine below_set ?_ GE299.out) | exact HB.out)⟩⟩
        case round =>
          clear H'
          try clear c1
          try clear hcv1
          try clear c2
          try clear p2
          try clear c3
          try clear c6
          try clear c6b0
          try clear c6b1
          try clear c7
          try clear c7b0
          try clear c7b1
          try clear c8
          try clear hcv11
          try clear hcv12
          try clear c13
          try clear hcv16
          try clear hcv17
          try clear c18
          try clear c21
          try clear hcz10_0
          try clear hcz10_1
          try clear hcz10_2
          try clear hcz14_0
          try clear hcz14_1
          try clear hcz14_2
          try clear hcz15_0
          try clear hcz15_1
          try clear hcz15_2
          try clear hcz19_0
          try clear hcz19_1
          try clear hcz19_2
          try clear hcz20_0
          try clear hcz20_1
          try clear hcz20_2
          try clear hcz9_0
          try clear hcz9_1
          try clear hcz9_2
          try clear hfz10_0
          try clear hfz10_1
          try clear hfz10_2
          try clear hfz14_0
          try clear hfz14_1
          try clear hfz14_2
          try clear hfz15_0
          try clear hfz15_1
          try clear hfz15_2
          try clear hfz19_0
          try clear hfz19_1
          try clear hfz19_2
          try clear hfz20_0
          try clear hfz20_1
          try clear hfz20_2
          try clear hfz9_0
          try clear hfz9_1
          try clear hfz9_2
          try clear p2
          obtain ⟨x5_2, rfl, HA, HK2, BK298, BK299, HB⟩ := hrel
          cases gk with
          | zero => exact absurd HA.out (by simp [passepartoutref05_Same.l0])
          | succ k2 =>
            have H := HA.out
            clear HA
            simp only [passepartoutref05_Same.l0] at H
            by_cases c22 : x5_2 < (l0_2.length : Int)
            · rw [if_pos c22] at H
              have c22b0 : decide (x5_2 < (l0_2.length : Int)) = true := decide_eq_true c22
              clear c22
              by_cases c23 : 0 ≤ x5_2
              · rw [if_pos c23] at H
                have c23b0 : decide (0 ≤ x5_2) = true := decide_eq_true c23
                clear c23
                by_cases c24 : x5_2 < (l1_2.length : Int)
                · rw [if_pos c24] at H
                  have c24b0 : decide (x5_2 < (l1_2.length : Int)) = true := decide_eq_true c24
                  clear c24
                  replace H := Option.bind_eq_some_iff.mp H
                  obtain ⟨t302, A250, H⟩ := H
                  replace H : (if t302 = true then (passepartoutref05_Same.l0 k2 (wrap64 (x5_2 + 1)) a0_0 l0_1 l0_2 a1_0 l1_1 l1_2) else (some false)) = some r := H
                  have A25 := Aside0.mk A250
                  clear A250
                  by_cases c26 : t302 = true
                  · subst c26
                    have H1 : (passepartoutref05_Same.l0 k2 (wrap64 (x5_2 + 1)) a0_0 l0_1 l0_2 a1_0 l1_1 l1_2) = some r := by rw [if_pos rfl] at H; exact H
                    clear H
                    have H := H1
                    clear H1
                    have H' := Aside0.mk H
                    clear H
                    have hnb27 := NB298_299.out
                    have hnc27 := NB299_298.out
                    have hcz28_0 : wr.cell? ⟨gb298, 0, none⟩ = some (.int .u64 a0_0) := (blk_cell BK298.out 0).trans rfl
                    have hcz28_1 : wr.cell? ⟨gb298, 1, none⟩ = some (.slice A0_1 l0_1.length c0_1) := (blk_cell BK298.out 1).trans rfl
                    have hcz28_2 : wr.cell? ⟨gb298, 2, none⟩ = some (.slice A0_2 l0_2.length c0_2) := (blk_cell BK298.out 2).trans rfl
                    have hfz28_0 := blk_frozen BK298.out 0
                    have hfz28_1 := blk_frozen BK298.out 1
                    have hfz28_2 := blk_frozen BK298.out 2
                    try go_wp2
                    have n0_ := Aside0.mk (blk_drew BK298.out)
                    have n1_ := Aside0.mk (blk_drew BK299.out)
                    have n2_ := Aside0.mk (below_drew1 HB.out)
                    clear BK298
                    clear BK299
                    clear HB
                    have BK298 := n0_
                    have BK299 := n1_
                    have HB := n2_
                    clear n0_ n1_ n2_
                    have p300 : 0 ≤ (x5_2 : Int) := of_decide_eq_true (by first | (with_reducible assumption) | assumption)
                    have q300 : x5_2 < (l0_2.length : Int) := of_decide_eq_true (by first | (with_reducible assumption) | assumption)
                    obtain ⟨ad300, A300_1, c300_1, A300_2, c300_2, e300, hx300_0, hx300_1, hx300_2, hl300_1, hi300_1, hl300_2, hi300_2⟩ := at_T46 HR0_2.out x5_2 p300 q300
                    have hw300_2 := hx300_2
                    have hw300_1 := hx300_1
                    have hw300_0 := hx300_0
                    cases e300
                    replace hx300_0 := (HB.out.cell (World.block_lt_of_cell? w _ hx300_0)).trans hx300_0
                    replace hx300_1 := (HB.out.cell (World.block_lt_of_cell? w _ hx300_1)).trans hx300_1
                    replace hx300_2 := (HB.out.cell (World.block_lt_of_cell? w _ hx300_2)).trans hx300_2
                    have HR300_1 := Aside0.mk hi300_1
                    have HC300_1 := Aside0.mk hl300_1
                    clear hi300_1 hl300_1
                    have HR300_2 := Aside0.mk hi300_2
                    have HC300_2 := Aside0.mk hl300_2
                    clear hi300_2 hl300_2
                    replace p300 := eq_true p300
                    replace q300 := eq_true q300
                    have p301 : 0 ≤ (x5_2 : Int) := of_decide_eq_true (by first | (with_reducible assumption) | assumption)
                    have q301 : x5_2 < (l1_2.length : Int) := of_decide_eq_true (by first | (with_reducible assumption) | assumption)
                    obtain ⟨ad301, A301_1, c301_1, A301_2, c301_2, e301, hx301_0, hx301_1, hx301_2, hl301_1, hi301_1, hl301_2, hi301_2⟩ := at_T46 HR1_2.out x5_2 p301 q301
                    have hw301_2 := hx301_2
                    have hw301_1 := hx301_1
                    have hw301_0 := hx301_0
                    cases e301
                    replace hx301_0 := (HB.out.cell (World.block_lt_of_cell? w _ hx301_0)).trans hx301_0
                    replace hx301_1 := (HB.out.cell (World.block_lt_of_cell? w _ hx301_1)).trans hx301_1
                    replace hx301_2 := (HB.out.cell (World.block_lt_of_cell? w _ hx301_2)).trans hx301_2
                    have HR301_1 := Aside0.mk hi301_1
                    have HC301_1 := Aside0.mk hl301_1
                    clear hi301_1 hl301_1
                    have HR301_2 := Aside0.mk hi301_2
                    have HC301_2 := Aside0.mk hl301_2
                    clear hi301_2 hl301_2
                    replace p301 := eq_true p301
                    replace q301 := eq_true q301
                    refine start_ (n := 12) (S := fun w' => w'.cell? ⟨gb298, 0, none⟩ = some (.int .u64 a0_0) ∧ w'.cell? ⟨gb298, 1, none⟩ = some (.slice A0_1 l0_1.length c0_1) ∧ w'.cell? ⟨gb298, 2, none⟩ = some (.slice (some ad300) l0_2.length c0_2) ∧ w'.cell? ⟨gb299, 0, none⟩ = some (.int .u64 a1_0) ∧ w'.cell? ⟨gb299, 1, none⟩ = some (.slice A1_1 l1_1.length c1_1) ∧ w'.cell? ⟨gb299, 2, none⟩ = some (.slice (some ad301) l1_2.length c1_2) ∧ w'.cell? (ad300.add ((x5_2).toNat * 3)) = some (.int .u64 ((rd_T46 l0_2 x5_2).f0)) ∧ w'.cell? ⟨(ad300.add ((x5_2).toNat * 3)).block, (ad300.add ((x5_2).toNat * 3)).off + 1, none⟩ = some (.slice A300_1 ((rd_T46 l0_2 x5_2).f1).length c300_1) ∧ w'.cell? ⟨(ad300.add ((x5_2).toNat * 3)).block, (ad300.add ((x5_2).toNat * 3)).off + 2, none⟩ = some (.slice A300_2 ((rd_T46 l0_2 x5_2).f2).length c300_2) ∧ w'.cell? (ad301.add ((x5_2).toNat * 3)) = some (.int .u64 ((rd_T46 l1_2 x5_2).f0)) ∧ w'.cell? ⟨(ad301.add ((x5_2).toNat * 3)).block, (ad301.add ((x5_2).toNat * 3)).off + 1, none⟩ = some (.slice A301_1 ((rd_T46 l1_2 x5_2).f1).length c301_1) ∧ w'.cell? ⟨(ad301.add ((x5_2).toNat * 3)).block, (ad301.add ((x5_2).toNat * 3)).off + 2, none⟩ = some (.slice A301_2 ((rd_T46 l1_2 x5_2).f2).length c301_2)) (ds := []) #[false, false, false, false, false, false, false, false, false, false, false, false] (by kernel_rfl) rfl rfl ⟨(blk_cell BK298.out 0).trans rfl, (blk_cell BK298.out 1).trans rfl, (blk_cell BK298.out 2).trans rfl, (blk_cell BK299.out 0).trans rfl, (blk_cell BK299.out 1).trans rfl, (blk_cell BK299.out 2).trans rfl, ((HB.out.cell (World.block_lt_of_cell? w _ hw300_0)).trans hw300_0), ((HB.out.cell (World.block_lt_of_cell? w _ hw300_1)).trans hw300_1), ((HB.out.cell (World.block_lt_of_cell? w _ hw300_2)).trans hw300_2), ((HB.out.cell (World.block_lt_of_cell? w _ hw301_0)).trans hw301_0), ((HB.out.cell (World.block_lt_of_cell? w _ hw301_1)).trans hw301_1), ((HB.out.cell (World.block_lt_of_cell? w _ hw301_2)).trans hw301_2)⟩ (fun hHeld => ?_); refine with_tabW passepartoutref05_Same.tab6 passepartoutref05_Same.bits6 (fun HT_ HW_ => ?_)
                    generalize wr.drew = w29 at BK298 BK299 HB HR300_1 HR300_2 HR301_1 HR301_2 hx300_0 hx300_1 hx300_2 hx301_0 hx301_1 hx301_2 hHeld ⊢
                    refine pure_ (i := 0) (N := some 37) (v := ?_) (a' := ?_) #[true, false, false, false, false, false, false, false, false, false, false, false] rfl rfl (any_of HT_.out (by kernel_rfl)) (fun _ _ _ h => h) (Or.inl ⟨by rfl, ?_⟩) ?_ ?_
                    rotate_left
                    · intro w'
                      go_simp
                      with_reducible rfl
                    rotate_left
                    · simp only [Act.put, List.setIfInBounds_toArray, List.set_cons_zero, List.set_cons_succ, i64_w, i32_w]
                      rfl
                    refine pure_ (i := 2) (N := some 39) (v := ?_) (a' := ?_) #[true, false, true, false, false, false, false, false, false, false, false, false] rfl rfl (any_of HT_.out (by kernel_rfl)) (fun _ _ _ h => h) (Or.inl ⟨by rfl, ?_⟩) ?_ ?_
                    rotate_left
                    · intro w'
                      go_simp
                      with_reducible rfl
                    rotate_left
                    · simp only [Act.put, List.setIfInBounds_toArray, List.set_cons_zero, List.set_cons_succ, i64_w, i32_w]
                      rfl
                    refine pure_ (i := 5) (N := some 42) (v := ?_) (a' := ?_) #[true, false, true, false, false, true, false, false, false, false, false, false] rfl rfl (any_of HT_.out (by kernel_rfl)) (fun _ _ _ h => h) (Or.inl ⟨by rfl, ?_⟩) ?_ ?_
                    rotate_left
                    · intro w'
                      go_simp
                      with_reducible rfl
                    rotate_left
                    · simp only [Act.put, List.setIfInBounds_toArray, List.set_cons_zero, List.set_cons_succ, i64_w, i32_w]
                      rfl
                    refine pure_ (i := 7) (N := some 44) (v := ?_) (a' := ?_) #[true, false, true, false, false, true, false, true, false, false, false, false] rfl rfl (any_of HT_.out (by kernel_rfl)) (fun _ _ _ h => h) (Or.inl ⟨by rfl, ?_⟩) ?_ ?_
                    rotate_left
                    · intro w'
                      go_simp
                      with_reducible rfl
                    rotate_left
                    · simp only [Act.put, List.setIfInBounds_toArray, List.set_cons_zero, List.set_cons_succ, i64_w, i32_w]
                      rfl
                    refine take_ (i := 1) (N := some 38) (v := ?_) (a' := ?_) #[true, true, true, false, false, true, false, true, false, false, false, false] rfl rfl (take_ofW HT_.out HW_.out (by kernel_rfl)) (fun _ _ _ h => h) (Or.inl ⟨by rfl, ?_⟩) hHeld ?_ ?_
                    rotate_left
                    · rintro w' ⟨s0, s1, s2, s3, s4, s5, s6, s7, s8, s9, s10, s11⟩
                      go_simp
                      with_reducible rfl
                    rotate_left
                    · simp only [Act.put, List.setIfInBounds_toArray, List.set_cons_zero, List.set_cons_succ, i64_w, i32_w]
                      rfl
                    refine pure_ (i := 3) (N := some 40) (v := ?_) (a' := ?_) #[true, true, true, true, false, true, false, true, false, false, false, false] rfl rfl (any_of HT_.out (by kernel_rfl)) (fun _ _ _ h => h) (Or.inl ⟨by rfl, ?_⟩) ?_ ?_
                    rotate_left
                    · intro w'
                      go_simp
                      with_reducible rfl
                    rotate_left
                    · simp only [Act.put, List.setIfInBounds_toArray, List.set_cons_zero, List.set_cons_succ, i64_w, i32_w]
                      rfl
                    refine take_ (i := 4) (N := some 41) (v := ?_) (a' := ?_) #[true, true, true, true, true, true, false, true, false, false, false, false] rfl rfl (take_ofW HT_.out HW_.out (by kernel_rfl)) (fun _ _ _ h => h) (Or.inl ⟨by rfl, ?_⟩) hHeld ?_ ?_
                    rotate_left
                    · rintro w' ⟨s0, s1, s2, s3, s4, s5, s6, s7, s8, s9, s10, s11⟩
                      go_simp
                      with_reducible rfl
                    rotate_left
                    · simp only [Act.put, List.setIfInBounds_toArray, List.set_cons_zero, List.set_cons_succ, i64_w, i32_w]
                      rfl
                    refine take_ (i := 6) (N := some 43) (v := ?_) (a' := ?_) #[true, true, true, true, true, true, true, true, false, false, false, false] rfl rfl (take_ofW HT_.out HW_.out (by kernel_rfl)) (fun _ _ _ h => h) (Or.inl ⟨by rfl, ?_⟩) hHeld ?_ ?_
                    rotate_left
                    · rintro w' ⟨s0, s1, s2, s3, s4, s5, s6, s7, s8, s9, s10, s11⟩
                      go_simp
                      with_reducible rfl
                    rotate_left
                    · simp only [Act.put, List.setIfInBounds_toArray, List.set_cons_zero, List.set_cons_succ, i64_w, i32_w]
                      rfl
                    refine pure_ (i := 8) (N := some 45) (v := ?_) (a' := ?_) #[true, true, true, true, true, true, true, true, true, false, false, false] rfl rfl (any_of HT_.out (by kernel_rfl)) (fun _ _ _ h => h) (Or.inl ⟨by rfl, ?_⟩) ?_ ?_
                    rotate_left
                    · intro w'
                      go_simp
                      with_reducible rfl
                    rotate_left
                    · simp only [Act.put, List.setIfInBounds_toArray, List.set_cons_zero, List.set_cons_succ, i64_w, i32_w]
                      rfl
                    refine take_ (i := 9) (N := some 46) (v := ?_) (a' := ?_) #[true, true, true, true, true, true, true, true, true, true, false, false] rfl rfl (take_ofW HT_.out HW_.out (by kernel_rfl)) (fun _ _ _ h => h) (Or.inl ⟨by rfl, ?_⟩) hHeld ?_ ?_
                    rotate_left
                    · rintro w' ⟨s0, s1, s2, s3, s4, s5, s6, s7, s8, s9, s10, s11⟩
                      go_simp
                      with_reducible rfl
                    rotate_left
                    · simp only [Act.put, List.setIfInBounds_toArray, List.set_cons_zero, List.set_cons_succ, i64_w, i32_w]
                      rfl
                    refine one_ (i := 10) (N := some 47) #[true, true, true, true, true, true, true, true, true, true, true, false] rfl rfl (one_of HT_.out (by kernel_rfl)) (by decide) (fun K hK => ?_)
                    refine goes_ Try.func37 (by kernel_rfl) rfl #[.agg #[.int .u64 ((rd_T46 l0_2 x5_2).f0), .slice A300_1 ((rd_T46 l0_2 x5_2).f1).length c300_1, .slice A300_2 ((rd_T46 l0_2 x5_2).f2).length c300_2], .agg #[.int .u64 ((rd_T46 l1_2 x5_2).f0), .slice A301_1 ((rd_T46 l1_2 x5_2).f1).length c301_1, .slice A301_2 ((rd_T46 l1_2 x5_2).f2).length c301_2]] (by rfl) rfl rfl (by (try simp only [List.map_toArray, List.map_cons, List.map_nil]); first | done | rfl | (simp only [List.length_drop, List.length_take]; rfl)) ?_
                    with_reducible refine (ih k2 (by have := HJ2.out; have := HK2.out; omega) ((rd_T46 l0_2 x5_2).f0) _ _ ((rd_T46 l0_2 x5_2).f1) _ _ ((rd_T46 l0_2 x5_2).f2) ((rd_T46 l1_2 x5_2).f0) _ _ ((rd_T46 l1_2 x5_2).f1) _ _ ((rd_T46 l1_2 x5_2).f2) true _ ?side1 ?side2 ?side3 ?side4 ?side5 ?side6 ?side7 ?side8 A25.out).mono ?_
                    (case side1 => repeat (first | exact (Kd.C_below HR300_1.out HB.out) | (with_reducible refine Kd.C_alloc ?_ _) | (with_reducible refine Kd.C_drewN ?_ _) | (with_reducible refine Kd.C_drew ?_)))
                    (case side2 => exact HC300_1.out)
                    (case side3 => repeat (first | exact (Kd.C_below HR300_2.out HB.out) | (with_reducible refine Kd.C_alloc ?_ _) | (with_reducible refine Kd.C_drewN ?_ _) | (with_reducible refine Kd.C_drew ?_)))
                    (case side4 => exact HC300_2.out)
                    (case side5 => repeat (first | exact (Kd.C_below HR301_1.out HB.out) | (with_reducible refine Kd.C_alloc ?_ _) | (with_reducible refine Kd.C_drewN ?_ _) | (with_reducible refine Kd.C_drew ?_)))
                    (case side6 => exact HC301_1.out)
                    (case side7 => repeat (first | exact (Kd.C_below HR301_2.out HB.out) | (with_reducible refine Kd.C_alloc ?_ _) | (with_reducible refine Kd.C_drewN ?_ _) | (with_reducible refine Kd.C_drew ?_)))
                    (case side8 => exact HC301_2.out)
                    rintro e w30 ⟨rfl, hb⟩
                    refine ⟨_, rfl, ?_⟩
                    have n0_ := Aside0.mk (blk_below (g := gb298) (o := .cells #[.int .u64 a0_0, .slice A0_1 l0_1.length c0_1, .slice (some ad300) l0_2.length c0_2] 46 (0, 0)) (by (with_reducible repeat (first | refine blk_drewN ?_ _ | refine blk_drew ?_ | refine blk_alloc ?_ _)); exact BK298.out) hb)
                    have n1_ := Aside0.mk (blk_below (g := gb299) (o := .cells #[.int .u64 a1_0, .slice A1_1 l1_1.length c1_1, .slice (some ad301) l1_2.length c1_2] 46 (0, 0)) (by (with_reducible repeat (first | refine blk_drewN ?_ _ | refine blk_drew ?_ | refine blk_alloc ?_ _)); exact BK299.out) hb)
                    have n2_ := Aside0.mk (below_step (by repeat (first | (with_reducible first | exact HB.out | apply below_alloc | apply pw_below_drewN | apply below_drew1 | refine below_set ?_ GE298.out | refine below_set ?_ GE299.out) | exact HB.out)) hb)
                    clear BK298
                    clear BK299
                    clear HB
                    have BK298 := n0_
                    have BK299 := n1_
                    have HB := n2_
                    clear n0_ n1_ n2_
                    (try clear hb)
                    (try clear hb2)
                    (try clear hk)
                    (try clear hi)
                    refine hK.out _ _ ⟨(blk_cell BK298.out 0).trans rfl, (blk_cell BK298.out 1).trans rfl, (blk_cell BK298.out 2).trans rfl, (blk_cell BK299.out 0).trans rfl, (blk_cell BK299.out 1).trans rfl, (blk_cell BK299.out 2).trans rfl, ((HB.out.cell (World.block_lt_of_cell? w _ hw300_0)).trans hw300_0), ((HB.out.cell (World.block_lt_of_cell? w _ hw300_1)).trans hw300_1), ((HB.out.cell (World.block_lt_of_cell? w _ hw300_2)).trans hw300_2), ((HB.out.cell (World.block_lt_of_cell? w _ hw301_0)).trans hw301_0), ((HB.out.cell (World.block_lt_of_cell? w _ hw301_1)).trans hw301_1), ((HB.out.cell (World.block_lt_of_cell? w _ hw301_2)).trans hw301_2)⟩ (fun hHeld => ?_)
                    clear hK K
                    refine norm_ (a' := ?_) ?_ ?_
                    rotate_left
                    · show Act.put _ (some 47) _ = _
                      simp only [Act.put, List.setIfInBounds_toArray, List.set_cons_zero, List.set_cons_succ, i64_w, i32_w]
                      rfl
                    refine pure_ (i := 11) (N := some 6) (v := ?_) (a' := ?_) #[true, true, true, true, true, true, true, true, true, true, true, true] rfl rfl (any_of HT_.out (by kernel_rfl)) (fun _ _ _ h => h) (Or.inl ⟨by rfl, ?_⟩) ?_ ?_
                    rotate_left
                    · intro w'
                      go_simp
                      with_reducible rfl
                    rotate_left
                    · simp only [Act.put, List.setIfInBounds_toArray, List.set_cons_zero, List.set_cons_succ, i64_w, i32_w]
                      rfl
                    refine done_ (done_of HT_.out (by kernel_rfl)) ?_
                    try go_wp2
                    go_roundg k2
                    case measure => have := HJ2.out; have := HK2.out; omega
                    case rel => exact ⟨(wrap64 (x5_2 + 1)), (by first | rfl | (simp; done) | (simp [*]; done)), H', ⟨by have := HJ2.out; have := HK2.out; omega⟩, ⟨by (with_reducible repeat (first | refine blk_drewN ?_ _ | refine blk_drew ?_ | refine blk_alloc ?_ _)); exact BK298.out⟩, ⟨by (with_reducible repeat (first | refine blk_drewN ?_ _ | refine blk_drew ?_ | refine blk_alloc ?_ _)); exact BK299.out⟩, ⟨by repeat (first | (with_reducible first | exact HB.out | apply below_alloc | apply pw_below_drewN | apply below_drew1 | refine below_set ?_ GE298.out | refine below_set ?_ GE299.out) | exact HB.out)⟩⟩
                  · replace c26 := Bool.eq_false_iff.mpr c26
                    subst c26
                    have H1 : (some false) = some r := by rw [if_neg (show ¬ (false = true) by decide)] at H; exact H
                    clear H
                    have H := H1
                    clear H1
                    obtain rfl := Option.some.inj H
                    have hnb31 := NB298_299.out
                    have hnc31 := NB299_298.out
                    have hcz32_0 : wr.cell? ⟨gb298, 0, none⟩ = some (.int .u64 a0_0) := (blk_cell BK298.out 0).trans rfl
                    have hcz32_1 : wr.cell? ⟨gb298, 1, none⟩ = some (.slice A0_1 l0_1.length c0_1) := (blk_cell BK298.out 1).trans rfl
                    have hcz32_2 : wr.cell? ⟨gb298, 2, none⟩ = some (.slice A0_2 l0_2.length c0_2) := (blk_cell BK298.out 2).trans rfl
                    have hfz32_0 := blk_frozen BK298.out 0
                    have hfz32_1 := blk_frozen BK298.out 1
                    have hfz32_2 := blk_frozen BK298.out 2
                    try go_wp2
                    have n0_ := Aside0.mk (blk_drew BK298.out)
                    have n1_ := Aside0.mk (blk_drew BK299.out)
                    have n2_ := Aside0.mk (below_drew1 HB.out)
                    clear BK298
                    clear BK299
                    clear HB
                    have BK298 := n0_
                    have BK299 := n1_
                    have HB := n2_
                    clear n0_ n1_ n2_
                    have p300 : 0 ≤ (x5_2 : Int) := of_decide_eq_true (by first | (with_reducible assumption) | assumption)
                    have q300 : x5_2 < (l0_2.length : Int) := of_decide_eq_true (by first | (with_reducible assumption) | assumption)
                    obtain ⟨ad300, A300_1, c300_1, A300_2, c300_2, e300, hx300_0, hx300_1, hx300_2, hl300_1, hi300_1, hl300_2, hi300_2⟩ := at_T46 HR0_2.out x5_2 p300 q300
                    have hw300_2 := hx300_2
                    have hw300_1 := hx300_1
                    have hw300_0 := hx300_0
                    cases e300
                    replace hx300_0 := (HB.out.cell (World.block_lt_of_cell? w _ hx300_0)).trans hx300_0
                    replace hx300_1 := (HB.out.cell (World.block_lt_of_cell? w _ hx300_1)).trans hx300_1
                    replace hx300_2 := (HB.out.cell (World.block_lt_of_cell? w _ hx300_2)).trans hx300_2
                    have HR300_1 := Aside0.mk hi300_1
                    have HC300_1 := Aside0.mk hl300_1
                    clear hi300_1 hl300_1
                    have HR300_2 := Aside0.mk hi300_2
                    have HC300_2 := Aside0.mk hl300_2
                    clear hi300_2 hl300_2
                    replace p300 := eq_true p300
                    replace q300 := eq_true q300
                    have p301 : 0 ≤ (x5_2 : Int) := of_decide_eq_true (by first | (with_reducible assumption) | assumption)
                    have q301 : x5_2 < (l1_2.length : Int) := of_decide_eq_true (by first | (with_reducible assumption) | assumption)
                    obtain ⟨ad301, A301_1, c301_1, A301_2, c301_2, e301, hx301_0, hx301_1, hx301_2, hl301_1, hi301_1, hl301_2, hi301_2⟩ := at_T46 HR1_2.out x5_2 p301 q301
                    have hw301_2 := hx301_2
                    have hw301_1 := hx301_1
                    have hw301_0 := hx301_0
                    cases e301
                    replace hx301_0 := (HB.out.cell (World.block_lt_of_cell? w _ hx301_0)).trans hx301_0
                    replace hx301_1 := (HB.out.cell (World.block_lt_of_cell? w _ hx301_1)).trans hx301_1
                    replace hx301_2 := (HB.out.cell (World.block_lt_of_cell? w _ hx301_2)).trans hx301_2
                    have HR301_1 := Aside0.mk hi301_1
                    have HC301_1 := Aside0.mk hl301_1
                    clear hi301_1 hl301_1
                    have HR301_2 := Aside0.mk hi301_2
                    have HC301_2 := Aside0.mk hl301_2
                    clear hi301_2 hl301_2
                    replace p301 := eq_true p301
                    replace q301 := eq_true q301
                    refine start_ (n := 12) (S := fun w' => w'.cell? ⟨gb298, 0, none⟩ = some (.int .u64 a0_0) ∧ w'.cell? ⟨gb298, 1, none⟩ = some (.slice A0_1 l0_1.length c0_1) ∧ w'.cell? ⟨gb298, 2, none⟩ = some (.slice (some ad300) l0_2.length c0_2) ∧ w'.cell? ⟨gb299, 0, none⟩ = some (.int .u64 a1_0) ∧ w'.cell? ⟨gb299, 1, none⟩ = some (.slice A1_1 l1_1.length c1_1) ∧ w'.cell? ⟨gb299, 2, none⟩ = some (.slice (some ad301) l1_2.length c1_2) ∧ w'.cell? (ad300.add ((x5_2).toNat * 3)) = some (.int .u64 ((rd_T46 l0_2 x5_2).f0)) ∧ w'.cell? ⟨(ad300.add ((x5_2).toNat * 3)).block, (ad300.add ((x5_2).toNat * 3)).off + 1, none⟩ = some (.slice A300_1 ((rd_T46 l0_2 x5_2).f1).length c300_1) ∧ w'.cell? ⟨(ad300.add ((x5_2).toNat * 3)).block, (ad300.add ((x5_2).toNat * 3)).off + 2, none⟩ = some (.slice A300_2 ((rd_T46 l0_2 x5_2).f2).length c300_2) ∧ w'.cell? (ad301.add ((x5_2).toNat * 3)) = some (.int .u64 ((rd_T46 l1_2 x5_2).f0)) ∧ w'.cell? ⟨(ad301.add ((x5_2).toNat * 3)).block, (ad301.add ((x5_2).toNat * 3)).off + 1, none⟩ = some (.slice A301_1 ((rd_T46 l1_2 x5_2).f1).length c301_1) ∧ w'.cell? ⟨(ad301.add ((x5_2).toNat * 3)).block, (ad301.add ((x5_2).toNat * 3)).off + 2, none⟩ = some (.slice A301_2 ((rd_T46 l1_2 x5_2).f2).length c301_2)) (ds := []) #[false, false, false, false, false, false, false, false, false, false, false, false] (by kernel_rfl) rfl rfl ⟨(blk_cell BK298.out 0).trans rfl, (blk_cell BK298.out 1).trans rfl, (blk_cell BK298.out 2).trans rfl, (blk_cell BK299.out 0).trans rfl, (blk_cell BK299.out 1).trans rfl, (blk_cell BK299.out 2).trans rfl, ((HB.out.cell (World.block_lt_of_cell? w _ hw300_0)).trans hw300_0), ((HB.out.cell (World.block_lt_of_cell? w _ hw300_1)).trans hw300_1), ((HB.out.cell (World.block_lt_of_cell? w _ hw300_2)).trans hw300_2), ((HB.out.cell (World.block_lt_of_cell? w _ hw301_0)).trans hw301_0), ((HB.out.cell (World.block_lt_of_cell? w _ hw301_1)).trans hw301_1), ((HB.out.cell (World.block_lt_of_cell? w _ hw301_2)).trans hw301_2)⟩ (fun hHeld => ?_); refine with_tabW passepartoutref05_Same.tab6 passepartoutref05_Same.bits6 (fun HT_ HW_ => ?_)
                    generalize wr.drew = w33 at BK298 BK299 HB HR300_1 HR300_2 HR301_1 HR301_2 hx300_0 hx300_1 hx300_2 hx301_0 hx301_1 hx301_2 hHeld ⊢
                    refine pure_ (i := 0) (N := some 37) (v := ?_) (a' := ?_) #[true, false, false, false, false, false, false, false, false, false, false, false] rfl rfl (any_of HT_.out (by kernel_rfl)) (fun _ _ _ h => h) (Or.inl ⟨by rfl, ?_⟩) ?_ ?_
                    rotate_left
                    · intro w'
                      go_simp
                      with_reducible rfl
                    rotate_left
                    · simp only [Act.put, List.setIfInBounds_toArray, List.set_cons_zero, List.set_cons_succ, i64_w, i32_w]
                      rfl
                    refine pure_ (i := 2) (N := some 39) (v := ?_) (a' := ?_) #[true, false, true, false, false, false, false, false, false, false, false, false] rfl rfl (any_of HT_.out (by kernel_rfl)) (fun _ _ _ h => h) (Or.inl ⟨by rfl, ?_⟩) ?_ ?_
                    rotate_left
                    · intro w'
                      go_simp
                      with_reducible rfl
                    rotate_left
                    · simp only [Act.put, List.setIfInBounds_toArray, List.set_cons_zero, List.set_cons_succ, i64_w, i32_w]
                      rfl
                    refine pure_ (i := 5) (N := some 42) (v := ?_) (a' := ?_) #[true, false, true, false, false, true, false, false, false, false, false, false] rfl rfl (any_of HT_.out (by kernel_rfl)) (fun _ _ _ h => h) (Or.inl ⟨by rfl, ?_⟩) ?_ ?_
                    rotate_left
                    · intro w'
                      go_simp
                      with_reducible rfl
                    rotate_left
                    · simp only [Act.put, List.setIfInBounds_toArray, List.set_cons_zero, List.set_cons_succ, i64_w, i32_w]
                      rfl
                    refine pure_ (i := 7) (N := some 44) (v := ?_) (a' := ?_) #[true, false, true, false, false, true, false, true, false, false, false, false] rfl rfl (any_of HT_.out (by kernel_rfl)) (fun _ _ _ h => h) (Or.inl ⟨by rfl, ?_⟩) ?_ ?_
                    rotate_left
                    · intro w'
                      go_simp
                      with_reducible rfl
                    rotate_left
                    · simp only [Act.put, List.setIfInBounds_toArray, List.set_cons_zero, List.set_cons_succ, i64_w, i32_w]
                      rfl
                    refine take_ (i := 1) (N := some 38) (v := ?_) (a' := ?_) #[true, true, true, false, false, true, false, true, false, false, false, false] rfl rfl (take_ofW HT_.out HW_.out (by kernel_rfl)) (fun _ _ _ h => h) (Or.inl ⟨by rfl, ?_⟩) hHeld ?_ ?_
                    rotate_left
                    · rintro w' ⟨s0, s1, s2, s3, s4, s5, s6, s7, s8, s9, s10, s11⟩
                      go_simp
                      with_reducible rfl
                    rotate_left
                    · simp only [Act.put, List.setIfInBounds_toArray, List.set_cons_zero, List.set_cons_succ, i64_w, i32_w]
                      rfl
                    refine pure_ (i := 3) (N := some 40) (v := ?_) (a' := ?_) #[true, true, true, true, false, true, false, true, false, false, false, false] rfl rfl (any_of HT_.out (by kernel_rfl)) (fun _ _ _ h => h) (Or.inl ⟨by rfl, ?_⟩) ?_ ?_
                    rotate_left
                    · intro w'
                      go_simp
                      with_reducible rfl
                    rotate_left
                    · simp only [Act.put, List.setIfInBounds_toArray, List.set_cons_zero, List.set_cons_succ, i64_w, i32_w]
                      rfl
                    refine take_ (i := 4) (N := some 41) (v := ?_) (a' := ?_) #[true, true, true, true, true, true, false, true, false, false, false, false] rfl rfl (take_ofW HT_.out HW_.out (by kernel_rfl)) (fun _ _ _ h => h) (Or.inl ⟨by rfl, ?_⟩) hHeld ?_ ?_
                    rotate_left
                    · rintro w' ⟨s0, s1, s2, s3, s4, s5, s6, s7, s8, s9, s10, s11⟩
                      go_simp
                      with_reducible rfl
                    rotate_left
                    · simp only [Act.put, List.setIfInBounds_toArray, List.set_cons_zero, List.set_cons_succ, i64_w, i32_w]
                      rfl
                    refine take_ (i := 6) (N := some 43) (v := ?_) (a' := ?_) #[true, true, true, true, true, true, true, true, false, false, false, false] rfl rfl (take_ofW HT_.out HW_.out (by kernel_rfl)) (fun _ _ _ h => h) (Or.inl ⟨by rfl, ?_⟩) hHeld ?_ ?_
                    rotate_left
                    · rintro w' ⟨s0, s1, s2, s3, s4, s5, s6, s7, s8, s9, s10, s11⟩
                      go_simp
                      with_reducible rfl
                    rotate_left
                    · simp only [Act.put, List.setIfInBounds_toArray, List.set_cons_zero, List.set_cons_succ, i64_w, i32_w]
                      rfl
                    refine pure_ (i := 8) (N := some 45) (v := ?_) (a' := ?_) #[true, true, true, true, true, true, true, true, true, false, false, false] rfl rfl (any_of HT_.out (by kernel_rfl)) (fun _ _ _ h => h) (Or.inl ⟨by rfl, ?_⟩) ?_ ?_
                    rotate_left
                    · intro w'
                      go_simp
                      with_reducible rfl
                    rotate_left
                    · simp only [Act.put, List.setIfInBounds_toArray, List.set_cons_zero, List.set_cons_succ, i64_w, i32_w]
                      rfl
                    refine take_ (i := 9) (N := some 46) (v := ?_) (a' := ?_) #[true, true, true, true, true, true, true, true, true, true, false, false] rfl rfl (take_ofW HT_.out HW_.out (by kernel_rfl)) (fun _ _ _ h => h) (Or.inl ⟨by rfl, ?_⟩) hHeld ?_ ?_
                    rotate_left
                    · rintro w' ⟨s0, s1, s2, s3, s4, s5, s6, s7, s8, s9, s10, s11⟩
                      go_simp
                      with_reducible rfl
                    rotate_left
                    · simp only [Act.put, List.setIfInBounds_toArray, List.set_cons_zero, List.set_cons_succ, i64_w, i32_w]
                      rfl
                    refine one_ (i := 10) (N := some 47) #[true, true, true, true, true, true, true, true, true, true, true, false] rfl rfl (one_of HT_.out (by kernel_rfl)) (by decide) (fun K hK => ?_)
                    refine goes_ Try.func37 (by kernel_rfl) rfl #[.agg #[.int .u64 ((rd_T46 l0_2 x5_2).f0), .slice A300_1 ((rd_T46 l0_2 x5_2).f1).length c300_1, .slice A300_2 ((rd_T46 l0_2 x5_2).f2).length c300_2], .agg #[.int .u64 ((rd_T46 l1_2 x5_2).f0), .slice A301_1 ((rd_T46 l1_2 x5_2).f1).length c301_1, .slice A301_2 ((rd_T46 l1_2 x5_2).f2).length c301_2]] (by rfl) rfl rfl (by (try simp only [List.map_toArray, List.map_cons, List.map_nil]); first | done | rfl | (simp only [List.length_drop, List.length_take]; rfl)) ?_
                    with_reducible refine (ih k2 (by have := HJ2.out; have := HK2.out; omega) ((rd_T46 l0_2 x5_2).f0) _ _ ((rd_T46 l0_2 x5_2).f1) _ _ ((rd_T46 l0_2 x5_2).f2) ((rd_T46 l1_2 x5_2).f0) _ _ ((rd_T46 l1_2 x5_2).f1) _ _ ((rd_T46 l1_2 x5_2).f2) false _ ?side1 ?side2 ?side3 ?side4 ?side5 ?side6 ?side7 ?side8 A25.out).mono ?_
                    (case side1 => repeat (first | exact (Kd.C_below HR300_1.out HB.out) | (with_reducible refine Kd.C_alloc ?_ _) | (with_reducible refine Kd.C_drewN ?_ _) | (with_reducible refine Kd.C_drew ?_)))
                    (case side2 => exact HC300_1.out)
                    (case side3 => repeat (first | exact (Kd.C_below HR300_2.out HB.out) | (with_reducible refine Kd.C_alloc ?_ _) | (with_reducible refine Kd.C_drewN ?_ _) | (with_reducible refine Kd.C_drew ?_)))
                    (case side4 => exact HC300_2.out)
                    (case side5 => repeat (first | exact (Kd.C_below HR301_1.out HB.out) | (with_reducible refine Kd.C_alloc ?_ _) | (with_reducible refine Kd.C_drewN ?_ _) | (with_reducible refine Kd.C_drew ?_)))
                    (case side6 => exact HC301_1.out)
                    (case side7 => repeat (first | exact (Kd.C_below HR301_2.out HB.out) | (with_reducible refine Kd.C_alloc ?_ _) | (with_reducible refine Kd.C_drewN ?_ _) | (with_reducible refine Kd.C_drew ?_)))
                    (case side8 => exact HC301_2.out)
                    rintro e w34 ⟨rfl, hb⟩
                    refine ⟨_, rfl, ?_⟩
                    have n0_ := Aside0.mk (blk_below (g := gb298) (o := .cells #[.int .u64 a0_0, .slice A0_1 l0_1.length c0_1, .slice (some ad300) l0_2.length c0_2] 46 (0, 0)) (by (with_reducible repeat (first | refine blk_drewN ?_ _ | refine blk_drew ?_ | refine blk_alloc ?_ _)); exact BK298.out) hb)
                    have n1_ := Aside0.mk (blk_below (g := gb299) (o := .cells #[.int .u64 a1_0, .slice A1_1 l1_1.length c1_1, .slice (some ad301) l1_2.length c1_2] 46 (0, 0)) (by (with_reducible repeat (first | refine blk_drewN ?_ _ | refine blk_drew ?_ | refine blk_alloc ?_ _)); exact BK299.out) hb)
                    have n2_ := Aside0.mk (below_step (by repeat (first | (with_reducible first | exact HB.out | apply below_alloc | apply pw_below_drewN | apply below_drew1 | refine below_set ?_ GE298.out | refine below_set ?_ GE299.out) | exact HB.out)) hb)
                    clear BK298
                    clear BK299
                    clear HB
                    have BK298 := n0_
                    have BK299 := n1_
                    have HB := n2_
                    clear n0_ n1_ n2_
                    (try clear hb)
                    (try clear hb2)
                    (try clear hk)
                    (try clear hi)
                    refine hK.out _ _ ⟨(blk_cell BK298.out 0).trans rfl, (blk_cell BK298.out 1).trans rfl, (blk_cell BK298.out 2).trans rfl, (blk_cell BK299.out 0).trans rfl, (blk_cell BK299.out 1).trans rfl, (blk_cell BK299.out 2).trans rfl, ((HB.out.cell (World.block_lt_of_cell? w _ hw300_0)).trans hw300_0), ((HB.out.cell (World.block_lt_of_cell? w _ hw300_1)).trans hw300_1), ((HB.out.cell (World.block_lt_of_cell? w _ hw300_2)).trans hw300_2), ((HB.out.cell (World.block_lt_of_cell? w _ hw301_0)).trans hw301_0), ((HB.out.cell (World.block_lt_of_cell? w _ hw301_1)).trans hw301_1), ((HB.out.cell (World.block_lt_of_cell? w _ hw301_2)).trans hw301_2)⟩ (fun hHeld => ?_)
                    clear hK K
                    refine norm_ (a' := ?_) ?_ ?_
                    rotate_left
                    · show Act.put _ (some 47) _ = _
                      simp only [Act.put, List.setIfInBounds_toArray, List.set_cons_zero, List.set_cons_succ, i64_w, i32_w]
                      rfl
                    refine pure_ (i := 11) (N := some 6) (v := ?_) (a' := ?_) #[true, true, true, true, true, true, true, true, true, true, true, true] rfl rfl (any_of HT_.out (by kernel_rfl)) (fun _ _ _ h => h) (Or.inl ⟨by rfl, ?_⟩) ?_ ?_
                    rotate_left
                    · intro w'
                      go_simp
                      with_reducible rfl
                    rotate_left
                    · simp only [Act.put, List.setIfInBounds_toArray, List.set_cons_zero, List.set_cons_succ, i64_w, i32_w]
                      rfl
                    refine done_ (done_of HT_.out (by kernel_rfl)) ?_
                    try go_wp2
                    go_ret
                    exact ⟨by first | rfl | (simp [errW_none, errW_some] <;> rfl) | (simp [*, errW_none, errW_some] <;> rfl), by repeat (first | (with_reducible first | exact HB.out | apply below_alloc | apply pw_below_drewN | apply below_drew1 | refine below_set ?_ GE298.out | refine below_set ?_ GE299.out) | exact HB.out)⟩
                · rw [if_neg c24] at H
                  exact absurd H (by simp)
              · rw [if_neg c23] at H
                exact absurd H (by simp)
            · rw [if_neg c22] at H
              have c22b0 : decide (x5_2 < (l0_2.length : Int)) = false := decide_eq_false c22
              clear c22
              obtain rfl := Option.some.inj H
              have hnb35 := NB298_299.out
              have hnc35 := NB299_298.out
              have hcz36_0 : wr.cell? ⟨gb298, 0, none⟩ = some (.int .u64 a0_0) := (blk_cell BK298.out 0).trans rfl
              have hcz36_1 : wr.cell? ⟨gb298, 1, none⟩ = some (.slice A0_1 l0_1.length c0_1) := (blk_cell BK298.out 1).trans rfl
              have hcz36_2 : wr.cell? ⟨gb298, 2, none⟩ = some (.slice A0_2 l0_2.length c0_2) := (blk_cell BK298.out 2).trans rfl
              have hfz36_0 := blk_frozen BK298.out 0
              have hfz36_1 := blk_frozen BK298.out 1
              have hfz36_2 := blk_frozen BK298.out 2
              go_wp2
              go_ret
              exact ⟨by first | rfl | (simp [errW_none, errW_some] <;> rfl) | (simp [*, errW_none, errW_some] <;> rfl), by repeat (first | (with_reducible first | exact HB.out | apply below_alloc | apply pw_below_drewN | apply below_drew1 | refine below_set ?_ GE298.out | refine below_set ?_ GE299.out) | exact HB.out)⟩

end Go.Proofs.Ytfcghajnnllmhaa.QP

namespace Go.Proofs.Ytfcghajnnllmhaa
open Go.RowKit YtfcghajnnllmhaaW.PrintWords

theorem cntv_ev (x : Vt) : ∀ m : Nat, m ≤ 2199023255552 → wfV x = true → Ev (fun k => QP.passepartoutref05_Count.f k x.a.n (bI x.a.b) (x.l.map ofV) (m : Int)) ((cntV m x : Nat) : Int) := by
  induction x using RT.induct with
  | h a l ih =>
  intro m hm hw
  obtain ⟨_, _, hl, hws⟩ := (wfV_mk _ _).1 hw
  apply Ev.step
  · intro k
    simp only [QP.passepartoutref05_Count.f]
    rfl
  rw [cntV]
  have key : ∀ (d j q : Nat), l.length - j = d → j ≤ l.length → 1 ≤ q → q ≤ m + 1 → Ev (fun k => QP.passepartoutref05_Count.l0 k (m : Int) (q : Int) (j : Int) a.n (bI a.b) (l.map ofV)) ((cntVs m q (l.drop j) : Nat) : Int) := by
    intro d
    induction d with
    | zero =>
      intro j q hd hj hq1 hq2
      apply Ev.step
      · intro k
        simp only [QP.passepartoutref05_Count.l0]
        rfl
      refine Ev.in_ (by simp; omega) ?_
      rw [cntVs_end (by omega)]
      exact Ev.now _
    | succ d ihd =>
      intro j q hd hj hq1 hq2
      have hlt : j < l.length := by omega
      apply Ev.step
      · intro k
        simp only [QP.passepartoutref05_Count.l0, rd_ofV l j hlt, ofV_f0, ofV_f1, ofV_f2]
        rfl
      refine Ev.ip (by simp; omega) ?_
      refine Ev.sp (fun hqm => ?_) (fun hqm => ?_)
      · have hqm' : q ≤ m := by omega
        have hb := cntV_bound l[j] (m - q)
        refine Ev.ip (by omega) ?_
        have h1 := ih l[j] (List.getElem_mem hlt) (m - q) (by omega) (hws _ (List.getElem_mem hlt))
        rw [w64 (by omega) (by omega), show (m : Int) - (q : Int) = ((m - q : Nat) : Int) by omega]
        refine Ev.bind h1 ?_
        rw [w64 (by omega) (by omega), w64 (by omega) (by omega), show (q : Int) + ((cntV (m - q) l[j] : Nat) : Int) = ((q + cntV (m - q) l[j] : Nat) : Int) by omega, show (j : Int) + 1 = ((j + 1 : Nat) : Int) by omega]
        refine Ev.eq_ (ihd (j + 1) (q + cntV (m - q) l[j]) (by omega) (by omega) (by omega) (by omega)) ?_
        rw [cntVs_drop (k := j) hlt, if_pos hqm']
      · rw [cntVs_end (by omega)]
        exact Ev.now _
  have h0 := key l.length 0 1 (by omega) (by omega) (by omega) (by omega)
  rw [List.drop_zero] at h0
  exact h0

theorem bytv_ev (x : Vt) : ∀ m : Nat, m ≤ 100000 → wfV x = true → Ev (fun k => QP.passepartoutref05_Bytes.f k x.a.n (bI x.a.b) (x.l.map ofV) (m : Int)) ((bytV m x : Nat) : Int) := by
  induction x using RT.induct with
  | h a l ih =>
  intro m hm hw
  obtain ⟨_, hbl, hl, hws⟩ := (wfV_mk _ _).1 hw
  apply Ev.step
  · intro k
    simp only [QP.passepartoutref05_Bytes.f]
    rfl
  rw [bytV]
  simp only [RT.a, RT.l, bI_len]
  have key : ∀ (d j q : Nat), l.length - j = d → j ≤ l.length → q ≤ m + 140737488355328 → Ev (fun k => QP.passepartoutref05_Bytes.l0 k (m : Int) (q : Int) (j : Int) a.n (bI a.b) (l.map ofV)) ((bytVs m q (l.drop j) : Nat) : Int) := by
    intro d
    induction d with
    | zero =>
      intro j q hd hj hq2
      apply Ev.step
      · intro k
        simp only [QP.passepartoutref05_Bytes.l0]
        rfl
      refine Ev.in_ (by simp; omega) ?_
      rw [bytVs_end (by omega)]
      exact Ev.now _
    | succ d ihd =>
      intro j q hd hj hq2
      have hlt : j < l.length := by omega
      apply Ev.step
      · intro k
        simp only [QP.passepartoutref05_Bytes.l0, rd_ofV l j hlt, ofV_f0, ofV_f1, ofV_f2]
        rfl
      refine Ev.ip (by simp; omega) ?_
      refine Ev.sp (fun hqm => ?_) (fun hqm => ?_)
      · have hqm' : q ≤ m := by omega
        have hb := bytV_bound l[j] (m - q) (hws _ (List.getElem_mem hlt)) (by omega)
        refine Ev.ip (by omega) ?_
        have h1 := ih l[j] (List.getElem_mem hlt) (m - q) (by omega) (hws _ (List.getElem_mem hlt))
        rw [w64 (by omega) (by omega), show (m : Int) - (q : Int) = ((m - q : Nat) : Int) by omega]
        refine Ev.bind h1 ?_
        rw [w64 (by omega) (by omega), w64 (by omega) (by omega), show (q : Int) + ((bytV (m - q) l[j] : Nat) : Int) = ((q + bytV (m - q) l[j] : Nat) : Int) by omega, show (j : Int) + 1 = ((j + 1 : Nat) : Int) by omega]
        refine Ev.eq_ (ihd (j + 1) (q + bytV (m - q) l[j]) (by omega) (by omega) (by omega)) ?_
        rw [bytVs_drop (k := j) hlt, if_pos hqm']
      · rw [bytVs_end (by omega)]
        exact Ev.now _
  have h0 := key l.length 0 a.b.length (by omega) (by omega) (by omega)
  rw [List.drop_zero] at h0
  exact h0

/-- Is a value greater than is looked at? -/
def bigV (x : Vt) : Bool := decide (2000 < cntV 2000 x) || decide (20000 < bytV 20000 x)
theorem Great_ev (f : Fm) (l : List Vt) (hf : wfF f = true) (hl : l.length ≤ 140737488355328) (hw : ∀ x ∈ l, wfV x = true) :
    Ev (fun k => QP.passepartoutlaw05_Great.f k f.a.k f.a.s f.a.lo f.a.hi f.a.st (f.l.map ofF) (l.map ofV)) (if decide (500 < cntR 500 f) || l.any bigV then 1 else 0) := by
  simp only [QP.passepartoutlaw05_Great.f]
  refine Ev.bind (cnt_ev f 500 (by omega) hf) ?_
  by_cases h5 : 500 < cntR 500 f
  · refine Ev.rp (by simp [h5]) ?_
    exact Ev.ip (by omega) (Ev.now _)
  refine Ev.in_ (by omega) ?_
  rw [List.length_map]
  have key : ∀ (d j : Nat), l.length - j = d → j ≤ l.length → Ev (fun k => QP.passepartoutlaw05_Great.l0 k (l.map ofV) (l.length : Int) (j : Int)) (if (l.drop j).any bigV then 1 else 0) := by
    intro d
    induction d with
    | zero =>
      intro j hd hj
      apply Ev.step
      · intro k
        simp only [QP.passepartoutlaw05_Great.l0]
        rfl
      refine Ev.rn (by rw [List.drop_of_length_le (by omega)]; simp) ?_
      exact Ev.in_ (by omega) (Ev.now _)
    | succ d ihd =>
      intro j hd hj
      have hlt : j < l.length := by omega
      have hwj := hw _ (List.getElem_mem hlt)
      apply Ev.step
      · intro k
        simp only [QP.passepartoutlaw05_Great.l0, rd_ofV l j hlt, ofV_f0, ofV_f1, ofV_f2]
        rfl
      refine Ev.ip (by omega) (Ev.ip (by omega) (Ev.ip (by rw [List.length_map]; omega) ?_))
      refine Ev.bind (cntv_ev l[j] 2000 (by omega) hwj) ?_
      rw [List.drop_eq_getElem_cons hlt, List.any_cons]
      by_cases h1 : 2000 < cntV 2000 l[j]
      · refine Ev.rp (by simp [bigV, h1]) (Ev.ip (by omega) (Ev.now _))
      refine Ev.in_ (by omega) (Ev.bind (bytv_ev l[j] 20000 (by omega) hwj) ?_)
      by_cases h2 : 20000 < bytV 20000 l[j]
      · refine Ev.rp (by simp [bigV, h2]) (Ev.ip (by omega) (Ev.now _))
      refine Ev.in_ (by omega) ?_
      rw [w64 (by omega) (by omega), show (j : Int) + 1 = ((j + 1 : Nat) : Int) by omega]
      have e : bigV l[j] = false := by simp [bigV, h1, h2]
      rw [e, Bool.false_or]
      exact ihd (j + 1) (by omega) (by omega)
  have h0 := key l.length 0 (by omega) (by omega)
  rw [List.drop_zero] at h0
  rw [decide_eq_false h5, Bool.false_or]
  exact h0

end Go.Proofs.Ytfcghajnnllmhaa

namespace Go.Proofs.Ytfcghajnnllmhaa.QP
open Go.RowKit Go.Proofs.YtfcghajnnllmhaaW.PrintWords Go.Proofs.YtfcghajnnllmhaaW.PrintLast Go.Proofs.YtfcghajnnllmhaaW.PrintMore
attribute [local go_sem] max2_int min2_int max_two min_two max_three min_three max_four min_four   -- for this text's walks alone
set_option linter.unusedVariables false
set_option linter.unusedSimpArgs false

/-! ### value_alone: function 70 -/
def value_alone.f (a0 : Int) (a1_0 : Int) (l1_1 : List Int) (l1_2 : List (S46)) : Option (Bool) := if okI a0 = true then some (aloneB a0 a1_0 l1_1.length l1_2.length) else none
set_option maxHeartbeats 8000000 in
set_option maxRecDepth 100000 in
theorem value_alone.calls (a0 : Int) (a1_0 : Int) (A1_1 : Option Addr) (c1_1 : Nat) (l1_1 : List Int) (A1_2 : Option Addr) (c1_2 : Nat) (l1_2 : List (S46)) (r : Bool) (w : World)  (hr1_1 : Kd.C (Kd.int .u8) w A1_1 l1_1.length l1_1) (hc1_1 : l1_1.length ≤ c1_1) (hr1_2 : Kd.C k46 w A1_2 l1_2.length l1_2) (hc1_2 : l1_2.length ≤ c1_2) (h : value_alone.f a0 a1_0 l1_1 l1_2 = some r) :
    Calls Try.prog 70 #[.int .i64 a0, .agg #[.int .u64 a1_0, .slice A1_1 l1_1.length c1_1, .slice A1_2 l1_2.length c1_2]] w fun e w' => e = .returned (.bool r) ∧ Below w.heap.size w w' := by
  unfold value_alone.f at h
  split at h
  · rename_i hw
    injection h with h
    subst h
    exact (alone_any a0 a1_0 (okI_wf hw) A1_1 A1_2 l1_1.length l1_2.length c1_1 c1_2 w).mono fun e w' h => ⟨h.1, h.2.below⟩
  · cases h

end Go.Proofs.Ytfcghajnnllmhaa.QP

namespace Go.Proofs.Ytfcghajnnllmhaa.QP
open Go.RowKit Go.Proofs.YtfcghajnnllmhaaW.PrintWords Go.Proofs.YtfcghajnnllmhaaW.PrintLast Go.Proofs.YtfcghajnnllmhaaW.PrintMore
attribute [local go_sem] max2_int min2_int max_two min_two max_three min_three max_four min_four   -- for this text's walks alone
set_option linter.unusedVariables false
set_option linter.unusedSimpArgs false

/-! ### value_may: function 71 -/
def value_may.f (a0 : Int) (a1 : Int) (a2 : Int) (a3 : Int) : Option (Int) := if a0 < a1 then (some 5) else (if a0 > a2 then (some 5) else (if a3 = 0 then (none) else (if (Int.tmod a0 a3) = 0 then (some 0) else (some 5))))
set_option maxHeartbeats 8000000 in
set_option maxRecDepth 100000 in
theorem value_may.calls (a0 : Int) (a1 : Int) (a2 : Int) (a3 : Int) (r : Int) (w : World) (h : value_may.f a0 a1 a2 a3 = some r) :
    Calls Try.prog 71 #[.int .i64 a0, .int .i64 a1, .int .i64 a2, .int .i64 a3] w fun e w' => e = .returned (.int .i64 r) ∧ Drawn0 w w' := by
  have H : (if a0 < a1 then (some 5) else (if a0 > a2 then (some 5) else (if a3 = 0 then (none) else (if (Int.tmod a0 a3) = 0 then (some 0) else (some 5))))) = some r := h
  clear h
  by_cases c5 : a0 < a1
  · rw [if_pos c5] at H
    have c5b0 : decide (a0 < a1) = true := decide_eq_true c5
    clear c5
    obtain rfl := Option.some.inj H
    go_enter Try.func71, Try.ntmps71
    go_wp2
    go_ret
    exact ⟨by first | rfl | (simp; done) | (simp [*]; done), by repeat (first | exact Drawn0.refl _ | apply Drawn0.step)⟩
  · rw [if_neg c5] at H
    have c5b0 : decide (a0 < a1) = false := decide_eq_false c5
    clear c5
    by_cases c6 : a0 > a2
    · rw [if_pos c6] at H
      have c6b0 : decide (a2 < a0) = true := decide_eq_true c6
      clear c6
      obtain rfl := Option.some.inj H
      go_enter Try.func71, Try.ntmps71
      go_wp2
      go_ret
      exact ⟨by first | rfl | (simp; done) | (simp [*]; done), by repeat (first | exact Drawn0.refl _ | apply Drawn0.step)⟩
    · rw [if_neg c6] at H
      have c6b0 : decide (a2 < a0) = false := decide_eq_false c6
      clear c6
      by_cases c7 : a3 = 0
      · rw [if_pos c7] at H
        exact absurd H (by simp)
      · rw [if_neg c7] at H
        have c7b0 : (a3 == 0) = false := beq_eq_false_iff_ne.mpr c7
        have c7b1 : (a3 != 0) = true := bne_iff_ne.mpr c7
        by_cases c8 : (Int.tmod a0 a3) = 0
        · rw [if_pos c8] at H
          have c8b0 : ((Int.tmod a0 a3) == 0) = true := beq_iff_eq.mpr c8
          have c8b1 : ((Int.tmod a0 a3) != 0) = false := bne_eq_false_iff_eq.mpr c8
          clear c8
          obtain rfl := Option.some.inj H
          go_enter Try.func71, Try.ntmps71
          go_wp2
          go_ret
          exact ⟨by first | rfl | (simp; done) | (simp [*]; done), by repeat (first | exact Drawn0.refl _ | apply Drawn0.step)⟩
        · rw [if_neg c8] at H
          have c8b0 : ((Int.tmod a0 a3) == 0) = false := beq_eq_false_iff_ne.mpr c8
          have c8b1 : ((Int.tmod a0 a3) != 0) = true := bne_iff_ne.mpr c8
          obtain rfl := Option.some.inj H
          go_enter Try.func71, Try.ntmps71
          go_wp2
          go_ret
          exact ⟨by first | rfl | (simp; done) | (simp [*]; done), by repeat (first | exact Drawn0.refl _ | apply Drawn0.step)⟩

end Go.Proofs.Ytfcghajnnllmhaa.QP
