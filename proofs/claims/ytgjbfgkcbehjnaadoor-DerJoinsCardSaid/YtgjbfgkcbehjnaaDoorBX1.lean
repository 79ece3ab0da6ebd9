/-
  Texts that several laws share.
-/
import Derived.WalkKit
import Derived.WalkSpells
import Derived.WalkLawsBesides
import Derived.Lib.Hide
import Derived.Below
import Derived.Laws.OwnMore
import Derived.Deep.AppendLies
import Derived.Deep.Draws
import Derived.Laws.Rows
import Derived.Maps.AppendAt
import Derived.RegionTactic
import Derived.OwnWalk
import Derived.Lib.ConvBytes
import Derived.Laws.BytesArg
import Derived.Deep.QuietTactic
import Derived.BigQuiet
import Derived.ProofKit
import Derived.OpenShut
import Derived.ShutString
import Derived.SizedLaws
import Derived.Deep.Slices
import Derived.Deep.Fields
import Derived.Test.YtgjbfgkcbehjnaaDoorProg
import Derived.Laws.BitsAllLaws
import Derived.Laws.Bits64
import Derived.RowKit
import Derived.Lib.LaidTab
import Derived.MakeChecks
import Derived.Stop.LaidErr
import Derived.Lib.Strings
import Derived.Lib.Slices
import Derived.Lib.Small
import Derived.Lib.Walk
import Derived.Lib.BitFns
import Derived.Lib.Atoi
import Derived.LaidSub
import Derived.IntWalk
import Derived.Lib.AtoiErrMem
import Derived.Lib.ItoaWalk
import Derived.StillTailTactics

set_option linter.unusedVariables false
set_option linter.unusedSimpArgs false
namespace Go.Proofs.YtgjbfgkcbehjnaaDoor
open Go.RowKit

theorem block_add (a : Addr) (n : Nat) : (a.add n).block = a.block := by unfold Addr.add; split <;> rfl
theorem add_add (a : Addr) (i j : Nat) : (a.add i).add j = a.add (i + j) := by
  unfold Addr.add
  by_cases hi : i = 0 <;> by_cases hj : j = 0 <;> simp [hi, hj, Nat.add_assoc]
theorem cell_lt {w : World} {a : Addr} {v : Value} (h : w.cell? a = some v) : a.block < w.heap.size := by
  rcases Nat.lt_or_ge a.block w.heap.size with hlt | hge
  · exact hlt
  · unfold World.cell? at h; rw [Array.getElem?_eq_none hge] at h; cases h

/-! ### What a call may have turned: of the blocks that there were those of S alone. -/
structure Kp (S : Nat → Prop) (w w' : World) : Prop where
  os : w'.os = w.os
  tape : w'.tape = w.tape
  output : w'.output = w.output
  size : w.heap.size ≤ w'.heap.size
  block : ∀ k, k < w.heap.size → ¬ S k → w'.heap[k]? = w.heap[k]?

section
variable {S T : Nat → Prop} {a b c w w' : World}
theorem Kp.refl (S : Nat → Prop) (w : World) : Kp S w w := ⟨rfl, rfl, rfl, Nat.le_refl _, fun _ _ _ => rfl⟩
/-- Behind the first step: what is new since the beginning, and S, may turn. -/
theorem Kp.trans (h : Kp S a b) (k : Kp (fun i => S i ∨ a.heap.size ≤ i) b c) : Kp S a c :=
  ⟨k.os.trans h.os, k.tape.trans h.tape, k.output.trans h.output, Nat.le_trans h.size k.size, fun i hi hs =>
    (k.block i (Nat.lt_of_lt_of_le hi h.size) (fun x => x.elim hs (fun y => absurd hi (Nat.not_lt.2 y)))).trans (h.block i hi hs)⟩
theorem Kp.then_ (h : Kp S a b) (k : Kp T b c) (ht : ∀ i, T i → S i ∨ a.heap.size ≤ i) : Kp S a c :=
  h.trans ⟨k.os, k.tape, k.output, k.size, fun i hi hs => k.block i hi (fun x => hs (ht i x))⟩
theorem Kp.mono (h : Kp S a b) (hs : ∀ i, i < a.heap.size → S i → T i) : Kp T a b :=
  ⟨h.os, h.tape, h.output, h.size, fun i hi ht => h.block i hi (fun x => ht (hs i hi x))⟩
theorem Kp.drew (h : Kp S a w) : Kp S a w.drew := ⟨h.os, h.tape, h.output, h.size, h.block⟩
theorem Kp.drewN (h : Kp S a w) (n : Nat) : Kp S a (w.drewN n) := ⟨h.os, h.tape, h.output, h.size, h.block⟩
theorem Kp.alloc (h : Kp S a w) (o : Obj) : Kp S a (w.alloc o) :=
  ⟨h.os, h.tape, h.output, Nat.le_trans h.size (by simp), fun i hi hs => (Below.heap_alloc w o i (Nat.lt_of_lt_of_le hi h.size)).trans (h.block i hi hs)⟩
theorem Kp.setCell (h : Kp S a w) {p : Addr} (hp : S p.block ∨ a.heap.size ≤ p.block) (u : Value) : Kp S a (w.setCell p u) :=
  ⟨h.os, h.tape, h.output, by simpa [World.setCell] using h.size, fun i hi hs => (Below.heap_setCell w p u i (by
    rintro rfl
    rcases hp with hp | hp
    · exact hs hp
    · omega)).trans (h.block i hi hs)⟩
theorem Kp.grown (h : Kp S a w) {row : Option Nat} (hg : w.grownBy w' row) (hr : ∀ k, row = some k → S k ∨ a.heap.size ≤ k) : Kp S a w' :=
  ⟨hg.os.trans h.os, hg.tape.trans h.tape, hg.output.trans h.output, Nat.le_trans h.size hg.size, fun i hi hs =>
    (hg.block i (Nat.lt_of_lt_of_le hi h.size) (fun e => by
      rcases hr i e.symm with hr | hr
      · exact hs hr
      · omega)).trans (h.block i hi hs)⟩
theorem Kp.below (h : Kp (fun _ => False) a b) : Below a.heap.size a b := ⟨h.os, h.tape, h.output, h.size, fun k hk => h.block k hk id⟩
theorem Kp.of_below (h : Below a.heap.size a b) : Kp S a b := ⟨h.os, h.tape, h.output, h.size, fun k hk _ => h.block k hk⟩
theorem Kp.cell (h : Kp S a b) {p : Addr} {v : Value} (hc : a.cell? p = some v) (hs : ¬ S p.block) : b.cell? p = some v :=
  (World.cell?_of_block (h.block p.block (cell_lt hc) hs)).trans hc
end

/-! ### A slice that reads as a list of cells; its block is one of 'ok'. -/
def Rd (w : World) (ok : Nat → Prop) (size : Nat) (A : Option Addr) (n : Nat) (xs : List Value) : Prop :=
  xs.length = n * size ∧ (0 < n → ∃ ad, A = some ad ∧ ad.spot = none ∧ ok ad.block ∧ ∀ j u, xs[j]? = some u → w.cell? (ad.add j) = some u)

section
variable {w w' : World} {ok ok' S : Nat → Prop} {size n : Nat} {A : Option Addr} {xs : List Value}
theorem Rd.none_ : Rd w ok size A 0 [] := ⟨by simp, fun h => absurd h (by omega)⟩
theorem Rd.at_ {k : Nat} (h : Rd w ok 1 A n xs) (hk : k < n) : ∃ b off u, A = some ⟨b, off, none⟩ ∧ ok b ∧ xs[k]? = some u ∧ w.cell? ⟨b, off + k, none⟩ = some u := by
  obtain ⟨ad, e, hsp, hb, hc⟩ := h.2 (by omega)
  have hl : k < xs.length := by have := h.1; omega
  obtain ⟨b, off, spot⟩ := ad
  obtain rfl : spot = none := hsp
  have := hc k _ (List.getElem?_eq_getElem hl)
  refine ⟨b, off, xs[k], e, hb, List.getElem?_eq_getElem hl, ?_⟩
  rcases k with _ | k
  · simpa [Addr.add] using this
  · simpa [Addr.add] using this
theorem Rd.kp (h : Rd w ok size A n xs) (hk : Kp S w w') (hd : ∀ i, ok i → ¬ S i) : Rd w' ok size A n xs :=
  ⟨h.1, fun hn => by
    obtain ⟨ad, e, hsp, hb, hc⟩ := h.2 hn
    exact ⟨ad, e, hsp, hb, fun j u hu => hk.cell (hc j u hu) (by rw [block_add]; exact hd _ hb)⟩⟩
theorem Rd.mono (h : Rd w ok size A n xs) (hd : ∀ i, ok i → ok' i) : Rd w ok' size A n xs :=
  ⟨h.1, fun hn => by
    obtain ⟨ad, e, hsp, hb, hc⟩ := h.2 hn
    exact ⟨ad, e, hsp, hd _ hb, hc⟩⟩
theorem Rd.cut (h : Rd w ok size A n xs) {k cap : Nat} (hk : k ≤ n) (hc : n ≤ cap) :
    Rd w ok size (if cap = k then A else A.map (·.add (k * size))) (n - k) (xs.drop (k * size)) := by
  refine ⟨by rw [List.length_drop, h.1, Nat.sub_mul], fun hn => ?_⟩
  obtain ⟨ad, rfl, hsp, hb, hcell⟩ := h.2 (by omega)
  rw [if_neg (by omega)]
  refine ⟨ad.add (k * size), rfl, by unfold Addr.add; split <;> simp [hsp], by rw [block_add]; exact hb, fun j u hu => ?_⟩
  rw [add_add]
  exact hcell _ u (by rw [← hu, List.getElem?_drop])
theorem Rd.take (h : Rd w ok size A n xs) {k : Nat} (hk : k ≤ n) : Rd w ok size A k (xs.take (k * size)) := by
  refine ⟨by rw [List.length_take, h.1]; have := Nat.mul_le_mul_right size hk; omega, fun hn => ?_⟩
  obtain ⟨ad, rfl, hsp, hb, hcell⟩ := h.2 (by omega)
  refine ⟨ad, rfl, hsp, hb, fun j u hu => hcell j u ?_⟩
  rw [List.getElem?_take] at hu
  split at hu
  · exact hu
  · cases hu
theorem Rd.of_own {base : Nat} {e : TypeId} {c : Nat} (h : w.ownsRow base e size (.slice A n c) n xs) (hok : ∀ g, A = some ⟨g, 0, none⟩ → ok g) : Rd w ok size A n xs := by
  refine ⟨h.1, fun hn => ?_⟩
  obtain ⟨g, cap, hv, _, hlt⟩ := h.form hn
  have hA : A = some ⟨g, 0, none⟩ := by injection hv
  subst hA
  exact ⟨_, rfl, rfl, hok _ rfl, h.cells (g := g) rfl⟩
end

/-- Rows of several cells: element k's j-th cell. -/
theorem Rd.row {α : Type} {w : World} {ok : Nat → Prop} {size : Nat} {A : Option Addr} {l : List α} {enc : α → List Value} (h : Rd w ok size A l.length (l.flatMap enc)) (he : ∀ x, (enc x).length = size) {k : Nat} (hk : k < l.length) :
    ∃ b off, A = some ⟨b, off, none⟩ ∧ ok b ∧ ∀ j u, (enc (l[k]'hk))[j]? = some u → w.cell? ⟨b, off + k * size + j, none⟩ = some u := by
  obtain ⟨ad, e, hsp, hb, hc⟩ := h.2 (by omega)
  obtain ⟨b, off, spot⟩ := ad
  obtain rfl : spot = none := hsp
  refine ⟨b, off, e, hb, fun j u hj => ?_⟩
  have hjl : j < size := by rw [← he (l[k]'hk)]; exact (List.getElem?_eq_some_iff.1 hj).1
  have hx : (l.flatMap enc)[k * size + j]? = some u := by
    clear h hc hb e
    induction l generalizing k with
    | nil => simp at hk
    | cons x l ih =>
      rw [List.flatMap_cons]
      cases k with
      | zero =>
        rw [List.getElem?_append_left (by rw [he]; omega)]
        simpa using hj
      | succ k =>
        rw [List.getElem?_append_right (by rw [he, Nat.succ_mul]; omega), he]
        rw [show (k + 1) * size + j - size = k * size + j from by rw [Nat.succ_mul]; omega]
        exact ih (by simpa using hk) (by simpa using hj)
  have := hc _ _ hx
  rw [show (⟨b, off, none⟩ : Addr).add (k * size + j) = ⟨b, off + k * size + j, none⟩ from by
    unfold Addr.add
    split
    · next h0 => rw [Nat.add_assoc, h0, Nat.add_zero]
    · rw [Nat.add_assoc]] at this
  exact this

/-! ### A block that is known whole. -/
def Blk (w : World) (g : Nat) (t : TypeId) (cs : Array Value) : Prop := w.heap[g]? = some (.cells cs t (0, 0))

section
variable {w w' : World} {g : Nat} {t : TypeId} {cs : Array Value} {S : Nat → Prop}
theorem Blk.lt (h : Blk w g t cs) : g < w.heap.size := by
  rcases Nat.lt_or_ge g w.heap.size with hlt | hge
  · exact hlt
  · unfold Blk at h; rw [Array.getElem?_eq_none hge] at h; cases h
theorem Blk.cell (h : Blk w g t cs) (i : Nat) : w.cell? ⟨g, i, none⟩ = cs[i]? := cell_of_row w g i cs t (0, 0) h
theorem Blk.frozen (h : Blk w g t cs) (i : Nat) : w.frozen? ⟨g, i, none⟩ = false := by
  unfold Blk at h
  simp [World.frozen?, h]
theorem Blk.new (w : World) (t : TypeId) (cs : Array Value) : Blk (w.alloc (.cells cs t)) w.heap.size t cs := heap_alloc_new w _
theorem Blk.drew (h : Blk w g t cs) : Blk w.drew g t cs := h
theorem Blk.drewN (h : Blk w g t cs) (n : Nat) : Blk (w.drewN n) g t cs := h
theorem Blk.alloc (h : Blk w g t cs) (o : Obj) : Blk (w.alloc o) g t cs := (Below.heap_alloc w o g h.lt).trans h
theorem Blk.set_ (h : Blk w g t cs) (i : Nat) (u : Value) : Blk (w.setCell ⟨g, i, none⟩ u) g t (cs.setIfInBounds i u) := by
  unfold Blk at h ⊢
  simp [World.setCell, Array.getElem?_modify, h]
theorem Blk.far (h : Blk w g t cs) {p : Addr} (hp : g ≠ p.block) (u : Value) : Blk (w.setCell p u) g t cs := (Below.heap_setCell w p u g hp).trans h
theorem Blk.kp (h : Blk w g t cs) (hk : Kp S w w') (hg : ¬ S g) : Blk w' g t cs := (hk.block g h.lt hg).trans h
theorem Blk.ne_ {g' : Nat} {t' : TypeId} {cs' : Array Value} (h : Blk w g t cs) (h' : Blk w g' t' cs') (hne : t ≠ t') : g ≠ g' := by
  rintro rfl
  unfold Blk at h h'
  rw [h] at h'
  injection h' with h'
  injection h' with _ ht
  exact hne ht
end

/-! ### append onto a row of the call's own: the source nil, empty or not. -/
section
variable {P : Program} (w : World)
theorem run_append_of_nil (base : Nat) (t ty e : TypeId) (i : TypeInfo) (size : Nat) (ht : P.underlying t = some (.slice e)) (hi : P.info? e = some i)
    (v : Value) (n : Nat) (xs : List Value) (hown : w.ownsRow base e size v n xs) (c : Nat) : (Builtin.append_ #[t, t] ty #[v, .slice none 0 c]).run P w = .ok v w := by
  rcases hown.2 with ⟨rfl, rfl⟩ | ⟨g, cap, cur, rfl, _, _, hnc, _⟩
  · simp [Builtin.append_, run_underlying ht, sizeOf, typeInfo, hi, Builtin.lenOf, Builtin.firstCells]
  · simp [Builtin.append_, run_underlying ht, sizeOf, typeInfo, hi, Builtin.lenOf, Builtin.firstCells, hnc, storeCells]

theorem run_append_any (base : Nat) (t ty e : TypeId) (i : TypeInfo) (z : Value) (size bytes : Nat) (ht : P.underlying t = some (.slice e)) (hi : P.info? e = some i) (hz : i.zero = some z)
    (hsize : i.size = size) (hby : i.bytes = bytes) (hzs : z.cells.size = size) (hsz : 0 < size)
    (v : Value) (n : Nat) (xs : List Value) (hown : w.ownsRow base e size v n xs)
    (ok : Nat → Prop) (A : Option Addr) (m c : Nat) (news : List Value) (hr : Rd w ok size A m news) (h1 : ∀ u ∈ news, u.oneCell' = true)
    (h63 : n + m ≤ maxLen) (hbytes : (n + m) * bytes ≤ 140737488355328) (hbase : base ≤ w.heap.size) :
    ∃ v' w', (Builtin.append_ #[t, t] ty #[v, .slice A m c]).run P w = .ok v' w' ∧ w'.ownsRow base e size v' (n + m) (xs ++ news) ∧ w.grownBy w' v.ownBlock ∧
      (v'.ownBlock = v.ownBlock ∨ v'.ownBlock = some w.heap.size) := by
  rcases A with _ | ad
  · have hm : m = 0 := by
      rcases Nat.eq_zero_or_pos m with h0 | h0
      · exact h0
      · obtain ⟨ad, h, _⟩ := hr.2 h0
        cases h
    subst hm
    have hn : news = [] := List.eq_nil_of_length_eq_zero (by simpa using hr.1)
    subst hn
    exact ⟨v, w, run_append_of_nil w base t ty e i size ht hi v n xs hown c, by simpa using hown, World.grownBy.refl w _, .inl rfl⟩
  · have hcells : ∀ j u, news[j]? = some u → w.cell? (ad.add j) = some u := by
      intro j u hu
      rcases Nat.eq_zero_or_pos m with h0 | h0
      · subst h0
        have hn : news = [] := List.eq_nil_of_length_eq_zero (by simpa using hr.1)
        subst hn
        simp at hu
      · obtain ⟨ad', h, _, _, hc⟩ := hr.2 h0
        injection h with h
        subst h
        exact hc j u hu
    obtain ⟨v', w', hrun, h2, h3, _, h5⟩ := run_append_own_at (P := P) w base t ty e i z size bytes ht hi hz hsize hby hzs hsz v n xs hown ad m c news hr.1 hcells h1 h63 hbytes hbase
    exact ⟨v', w', hrun, h2, h3, h5⟩

theorem wp_append_any {o : Oper} {a : Act} {K : Act → World → Prop} {Q : Exit → Act → World → Prop} (s x : Operand) (t : TypeId)
    (ho : o.op = .call { callee := .builtin .append, args := #[s, x], argTypes := #[t, t] })
    (base : Nat) (e : TypeId) (i : TypeInfo) (z : Value) (size bytes : Nat) (ht : P.underlying t = some (.slice e)) (hi : P.info? e = some i) (hz : i.zero = some z)
    (hsize : i.size = size) (hby : i.bytes = bytes) (hzs : z.cells.size = size) (hsz : 0 < size)
    (v : Value) (n : Nat) (xs : List Value) (hs : a.eval s = v) (hown : w.ownsRow base e size v n xs)
    (ok : Nat → Prop) (A : Option Addr) (m c : Nat) (news : List Value) (hx : a.eval x = .slice A m c) (hr : Rd w ok size A m news) (h1 : ∀ u ∈ news, u.oneCell' = true)
    (h63 : n + m ≤ maxLen) (hbytes : (n + m) * bytes ≤ 140737488355328) (hbase : base ≤ w.heap.size)
    (h : ∀ v' w', w'.ownsRow base e size v' (n + m) (xs ++ news) → w.grownBy w' v.ownBlock → (v'.ownBlock = v.ownBlock ∨ v'.ownBlock = some w.heap.size) → K (a.put o.dst v') w') : o.wp P a w K Q := by
  obtain ⟨v', w', hrun, h2, h3, h4⟩ := run_append_any (P := P) w base t o.type e i z size bytes ht hi hz hsize hby hzs hsz v n xs hown ok A m c news hr h1 h63 hbytes hbase
  unfold Oper.wp execOp
  simp only [ho, resolve, invoke, builtin, Sem.run_bind, Sem.run_pure, Result.andThen_ok, List.map_toArray, List.map_cons, List.map_nil, hs, hx, hrun]
  exact h v' w' h2 h3 h4

theorem wpList_append_any {ops : Array Oper} {rest : List Oper} {o : Oper} {a : Act} {Q : Exit → Act → World → Prop} (hgd : o.guard = none) (s x : Operand) (t : TypeId)
    (ho : o.op = .call { callee := .builtin .append, args := #[s, x], argTypes := #[t, t] })
    (base : Nat) (e : TypeId) (i : TypeInfo) (z : Value) (size bytes : Nat) (ht : P.underlying t = some (.slice e)) (hi : P.info? e = some i) (hz : i.zero = some z)
    (hsize : i.size = size) (hby : i.bytes = bytes) (hzs : z.cells.size = size) (hsz : 0 < size)
    (v : Value) (n : Nat) (xs : List Value) (hs : a.eval s = v) (hown : w.ownsRow base e size v n xs)
    (ok : Nat → Prop) (A : Option Addr) (m c : Nat) (news : List Value) (hx : a.eval x = .slice A m c) (hr : Rd w ok size A m news) (h1 : ∀ u ∈ news, u.oneCell' = true)
    (h63 : n + m ≤ maxLen) (hbytes : (n + m) * bytes ≤ 140737488355328) (hbase : base ≤ w.heap.size)
    (h : ∀ v' w', w'.ownsRow base e size v' (n + m) (xs ++ news) → w.grownBy w' v.ownBlock → (v'.ownBlock = v.ownBlock ∨ v'.ownBlock = some w.heap.size) → wpList P ops Q rest (a.put o.dst v') w') : wpList P ops Q (o :: rest) a w :=
  wpList_plain hgd fun _ hK => wp_append_any w s x t ho base e i z size bytes ht hi hz hsize hby hzs hsz v n xs hs hown ok A m c news hx hr h1 h63 hbytes hbase fun v' w' h2 h3 h4 => hK _ _ (h v' w' h2 h3 h4)

theorem step_append_any {ops : Array Oper} {o : Oper} {a : Act} {K : Act → World → Prop} {Q : Exit → Act → World → Prop} {E : Prop} (hgd : o.guard = none) (s x : Operand) (t : TypeId)
    (ho : o.op = .call { callee := .builtin .append, args := #[s, x], argTypes := #[t, t] })
    (base : Nat) (e : TypeId) (i : TypeInfo) (z : Value) (size bytes : Nat) (ht : P.underlying t = some (.slice e)) (hi : P.info? e = some i) (hz : i.zero = some z)
    (hsize : i.size = size) (hby : i.bytes = bytes) (hzs : z.cells.size = size) (hsz : 0 < size)
    (v : Value) (n : Nat) (xs : List Value) (hs : a.eval s = v) (hown : w.ownsRow base e size v n xs)
    (ok : Nat → Prop) (A : Option Addr) (m c : Nat) (news : List Value) (hx : a.eval x = .slice A m c) (hr : Rd w ok size A m news) (h1 : ∀ u ∈ news, u.oneCell' = true)
    (h63 : n + m ≤ maxLen) (hbytes : (n + m) * bytes ≤ 140737488355328) (hbase : base ≤ w.heap.size)
    (h : ∀ v' w', w'.ownsRow base e size v' (n + m) (xs ++ news) → w.grownBy w' v.ownBlock → (v'.ownBlock = v.ownBlock ∨ v'.ownBlock = some w.heap.size) → K (a.put o.dst v') w') :
    if Region.wanted o (yielded ops a.tmps) = true then Oper.wp P o a w K Q else E := by
  have hw : Region.wanted o (yielded ops a.tmps) = true := by simp [Region.wanted, hgd]
  rw [if_pos hw]
  exact wp_append_any w s x t ho base e i z size bytes ht hi hz hsize hby hzs hsz v n xs hs hown ok A m c news hx hr h1 h63 hbytes hbase h
end

/-! ### A call that turns nothing, in a region that draws. -/
theorem quiet_left {P : Program} {f : FuncId} {args : Array Value} {w : World} {n : Nat} {v : Value}
    (h : Calls P f args (w.drewN n) fun e w' => e = .returned v ∧ w.drewN n = w') : Calls P f args (w.drewN n) fun e w' => e = .returned v ∧ ∃ m, w' = w.drewN m :=
  h.mono fun _ _ ⟨he, hm⟩ => ⟨he, n, hm.symm⟩

/-! ### Bytes. -/
def bc (l : List UInt8) : List Value := l.map fun b => Value.int .u8 (b.toNat : Int)
theorem bc_length (l : List UInt8) : (bc l).length = l.length := by simp [bc]
theorem bc_one (l : List UInt8) : ∀ u ∈ bc l, u.oneCell' = true := by
  intro u hu
  obtain ⟨b, _, rfl⟩ := List.mem_map.1 hu
  rfl
theorem bc_append (l m : List UInt8) : bc (l ++ m) = bc l ++ bc m := by simp [bc]
theorem bc_drop (l : List UInt8) (k : Nat) : (bc l).drop k = bc (l.drop k) := by simp [bc]
theorem bc_take (l : List UInt8) (k : Nat) : (bc l).take k = bc (l.take k) := by simp [bc]
theorem bc_inj {l m : List UInt8} (h : bc l = bc m) : l = m := by
  induction l generalizing m with
  | nil => cases m with
    | nil => rfl
    | cons => simp [bc] at h
  | cons a l ih => cases m with
    | nil => simp [bc] at h
    | cons b m =>
      simp only [bc, List.map_cons, List.cons.injEq, Value.int.injEq, true_and] at h
      have h1 : a = b := UInt8.toNat_inj.1 (by omega)
      rw [h1, ih h.2]

theorem Rd.byte {w : World} {ok : Nat → Prop} {A : Option Addr} {l : List UInt8} {k : Nat} (h : Rd w ok 1 A l.length (bc l)) (hk : k < l.length) :
    ∃ b off, A = some ⟨b, off, none⟩ ∧ ok b ∧ w.cell? ⟨b, off + k, none⟩ = some (.int .u8 ((l[k]'hk).toNat : Int)) := by
  obtain ⟨b, off, u, hA, hb, hu, hc⟩ := h.at_ hk
  refine ⟨b, off, hA, hb, ?_⟩
  rw [hc]
  simp [bc, hk] at hu
  rw [hu]

/-- A slice value that reads as these bytes. -/
def BR (w : World) (ok : Nat → Prop) (v : Value) (l : List UInt8) : Prop := ∃ A c, v = .slice A l.length c ∧ l.length ≤ c ∧ Rd w ok 1 A l.length (bc l)
section
variable {w w' : World} {ok ok' S : Nat → Prop} {v : Value} {l : List UInt8}
theorem BR.nil : BR w ok (.slice none 0 0) [] := ⟨none, 0, rfl, Nat.le_refl _, Rd.none_⟩
theorem BR.kp (h : BR w ok v l) (hk : Kp S w w') (hd : ∀ i, ok i → ¬ S i) : BR w' ok v l := by
  obtain ⟨A, c, e, hc, hr⟩ := h
  exact ⟨A, c, e, hc, hr.kp hk hd⟩
theorem BR.mono (h : BR w ok v l) (hd : ∀ i, ok i → ok' i) : BR w ok' v l := by
  obtain ⟨A, c, e, hc, hr⟩ := h
  exact ⟨A, c, e, hc, hr.mono hd⟩
/-- 'b[i:j]' of bytes. -/
theorem BR.sub {A : Option Addr} {c i j : Nat} (h : Rd w ok 1 A l.length (bc l)) (hc : l.length ≤ c) (hij : i ≤ j) (hj : j ≤ l.length) :
    BR w ok (.slice (if c = i then A else A.map (·.add i)) (j - i) (c - i)) ((l.drop i).take (j - i)) := by
  have hlen : ((l.drop i).take (j - i)).length = j - i := by simp; omega
  refine ⟨_, c - i, by rw [hlen], by rw [hlen]; omega, ?_⟩
  rw [hlen]
  have := (h.cut (k := i) (by omega) hc).take (k := j - i) (by omega)
  rw [Nat.mul_one, Nat.mul_one, bc_drop, bc_take] at this
  exact this
/-- Bytes that were laid just now. -/
theorem BR.lit (w : World) (t : TypeId) (l : List UInt8) (cs : Array Value) (n : Nat) (hn : l.length = n) (hcs : cs = (bc l).toArray) : BR (w.alloc (.cells cs t)) (· = w.heap.size) (.slice (some ⟨w.heap.size, 0, none⟩) n n) l := by
  subst hn hcs
  refine ⟨_, _, rfl, Nat.le_refl _, by rw [bc_length]; omega, fun _ => ⟨_, rfl, rfl, rfl, fun j u hu => ?_⟩⟩
  have h := (Blk.new w t (bc l).toArray).cell j
  have e : (⟨w.heap.size, 0, none⟩ : Addr).add j = ⟨w.heap.size, j, none⟩ := by
    unfold Addr.add
    split
    · next h0 => subst h0; rfl
    · simp
  rw [e, h]
  simpa using hu
theorem loadCells_rd {P : Program} {w : World} {ok : Nat → Prop} {ad : Addr} {n : Nat} {xs : List Value} (h : Rd w ok 1 (some ad) n xs) : (loadCells ad n).run P w = .ok xs.toArray w := by
  have hl : xs.length = n := by have := h.1; omega
  have := run_loadCells_list (P := P) w ad xs (fun j v hj => by
    have hj' : j < xs.length := (List.getElem?_eq_some_iff.1 hj).1
    obtain ⟨ad', e, _, _, hc⟩ := h.2 (by omega)
    injection e with e
    subst e
    exact hc j v hj)
  rw [hl] at this
  exact this
/-- The string of bytes. -/
def str (l : List UInt8) : ByteArray := ⟨l.toArray⟩
theorem str_size (l : List UInt8) : (str l).size = l.length := by simp [str, ByteArray.size]
theorem str_toList (l : List UInt8) : (str l).data.toList = l := by simp [str]
theorem str_inj {l m : List UInt8} (h : str l = str m) : l = m := by
  have := congrArg (fun s : ByteArray => s.data.toList) h
  simpa [str] using this
theorem str_append (a b : List UInt8) : str a ++ str b = str (a ++ b) := by
  show ByteArray.append (str a) (str b) = str (a ++ b)
  apply ByteArray.ext
  have := @ByteArray.data_append (str a) (str b)
  refine this.trans ?_
  simp [str]
theorem str_beq (a : List UInt8) : ((str a).toList == (str a).toList) = true := by simp
theorem nums_bytes (l : List UInt8) : ((l.map fun b => (b.toNat : Int)).map fun n => UInt8.ofNat n.toNat) = l := by
  induction l with
  | nil => rfl
  | cons b l ih => simpa using ih
theorem run_str {P : Program} {w : World} {ok : Nat → Prop} {v : Value} {l : List UInt8} {src dst e : TypeId} (hs : P.underlying src = some (.slice e)) (he : P.underlying e = some (.int .u8)) (hd : P.underlying dst = some .string)
    (h : BR w ok v l) : (convert src dst v).run P w = .ok (.string (str l)) w := by
  obtain ⟨A, c, rfl, hc, hr⟩ := h
  cases A with
  | none =>
    have h0 : l.length = 0 := by
      rcases Nat.eq_zero_or_pos l.length with h | h
      · exact h
      · obtain ⟨ad, e, _⟩ := hr.2 h
        cases e
    rw [run_convert_bytes_nil w src e hs he _ _ dst hd]
    have : l = [] := List.eq_nil_of_length_eq_zero h0
    subst this
    rfl
  | some ad =>
    have hl := loadCells_rd (P := P) hr
    have e1 : bc l = (l.map fun b => (b.toNat : Int)).map (Value.int .u8) := by simp [bc]
    rw [e1] at hl
    rw [run_convert_bytes_string w src dst e _ l.length c hs he hd, run_bytesToString w _ l.length c _ hl, foldl_push_bytes, nums_bytes]
    simp [str, ByteArray.empty, ByteArray.emptyWithCapacity]
    rfl
theorem BR.of_own {base : Nat} {e : TypeId} {n : Nat} (h : w.ownsRow base e 1 v n (bc l)) (hok : ∀ g, v.ownBlock = some g → ok g) : BR w ok v l := by
  have hn : n = l.length := by have := h.1; rw [bc_length] at this; omega
  subst hn
  rcases h.2 with ⟨rfl, h0⟩ | ⟨g, cap, cur, rfl, _, _, hcap, _⟩
  · obtain rfl : l = [] := List.eq_nil_of_length_eq_zero h0
    exact BR.nil
  · exact ⟨_, cap, rfl, by first | exact hcap | (exact hcap.1) | omega, Rd.of_own h (fun g' e => hok g' (by simp only [Option.some.injEq, Addr.mk.injEq] at e; simp [Value.ownBlock, e]))⟩
end

/-! ### A row of the call's own whose block is one of 'ok'. -/
def Own (w : World) (ok : Nat → Prop) (e size : Nat) (v : Value) (n : Nat) (xs : List Value) : Prop := w.ownsRow 0 e size v n xs ∧ ∀ k, v.ownBlock = some k → ok k
section
variable {w w' : World} {ok ok' S : Nat → Prop} {e size n : Nat} {v : Value} {xs : List Value}
theorem Own.nil : Own w ok e size (.slice none 0 0) 0 [] := ⟨World.ownsRow_nil w 0 e size, fun k hk => by simp [Value.ownBlock] at hk⟩
theorem Own.lt (h : Own w ok e size v n xs) : ∀ k, v.ownBlock = some k → k < w.heap.size := fun k hk => (h.1.lt k hk).2
theorem Own.kp (h : Own w ok e size v n xs) (hk : Kp S w w') (hd : ∀ i, ok i → ¬ S i) : Own w' ok e size v n xs := by
  obtain ⟨⟨h1, h2⟩, h3⟩ := h
  refine ⟨⟨h1, ?_⟩, h3⟩
  rcases h2 with h2 | ⟨g, cap, cur, rfl, hg, hh, r⟩
  · exact .inl h2
  · have hok := h3 g rfl
    have hlt : g < w.heap.size := by
      rcases Nat.lt_or_ge g w.heap.size with h | h
      · exact h
      · rw [Array.getElem?_eq_none h] at hh; cases hh
    exact .inr ⟨g, cap, cur, rfl, hg, (hk.block g hlt (hd g hok)).trans hh, r⟩
theorem Own.mono (h : Own w ok e size v n xs) (hd : ∀ i, i < w.heap.size → ok i → ok' i) : Own w ok' e size v n xs := ⟨h.1, fun k hk => hd k (h.lt k hk) (h.2 k hk)⟩
theorem Own.shape (h : Own w ok e size v n xs) : ∃ A c, v = .slice A n c ∧ n ≤ c := by
  rcases h.1.2 with ⟨rfl, rfl⟩ | ⟨g, cap, cur, rfl, _, _, hn, _⟩
  · exact ⟨none, 0, rfl, Nat.le_refl _⟩
  · exact ⟨_, cap, rfl, hn⟩
theorem Own.rd {A : Option Addr} {c : Nat} (h : Own w ok e size (.slice A n c) n xs) : Rd w ok size A n xs := Rd.of_own h.1 (fun g hg => h.2 g (by rw [hg]; rfl))
theorem Own.block {t : TypeId} {g : Nat} {cs : Array Value} (h : Own w ok e size v n xs) (hb : Blk w g t cs) (hne : e ≠ t) : v.ownBlock ≠ some g := by
  rcases h.1.2 with ⟨rfl, _⟩ | ⟨g', cap, cur, rfl, _, hh, _⟩
  · simp [Value.ownBlock]
  · intro he
    have : g' = g := by simpa [Value.ownBlock] using he
    subst this
    exact Blk.ne_ (t := e) hh hb hne rfl
theorem Own.apart {e' size' n' : Nat} {v' : Value} {xs' : List Value} (h : Own w ok e size v n xs) (h' : Own w ok' e' size' v' n' xs') (hne : e ≠ e') {g : Nat} (hg : v'.ownBlock = some g) : v.ownBlock ≠ some g := by
  rcases h'.1.2 with ⟨rfl, _⟩ | ⟨g', cap, cur, rfl, _, hh, _⟩
  · simp [Value.ownBlock] at hg
  · have : g' = g := by simpa [Value.ownBlock] using hg
    subst this
    exact h.block (t := e') hh hne
/-- Cut at its end. -/
theorem Own.take {A : Option Addr} {c : Nat} (h : Own w ok e size (.slice A n c) n xs) {k : Nat} (hk : k ≤ n) : Own w ok e size (.slice A k c) k (xs.take (k * size)) := by
  obtain ⟨⟨h1, h2⟩, h3⟩ := h
  have hlen : (xs.take (k * size)).length = k * size := by rw [List.length_take, h1]; have := Nat.mul_le_mul_right size hk; omega
  rcases h2 with ⟨h2, rfl⟩ | ⟨g, cap, cur, h2, hg, hh, hn, hc, hs, ht⟩
  · injection h2 with hA _ hc
    subst hA hc
    obtain rfl : k = 0 := by omega
    exact ⟨⟨hlen, .inl ⟨rfl, rfl⟩⟩, h3⟩
  · injection h2 with hA _ hc'
    subst hA hc'
    refine ⟨⟨hlen, .inr ⟨g, c, cur, rfl, hg, hh, by omega, hc, hs, ?_⟩⟩, h3⟩
    rw [← ht, List.take_take, Nat.min_eq_left (Nat.mul_le_mul_right size hk)]
theorem BR.of_own' {c : Nat} {A : Option Addr} {l : List UInt8} (h : Own w ok e 1 (.slice A l.length c) l.length (bc l)) (hc : l.length ≤ c) : BR w ok (.slice A l.length c) l := ⟨A, c, rfl, hc, h.rd⟩
end

end Go.Proofs.YtgjbfgkcbehjnaaDoor

namespace Go.Proofs.YtgjbfgkcbehjnaaDoor
open Go.ChangeShapes Go.WideShapes Go.ChangeAt Go.RowKit Go.Deep

/-- Integers of a kind, as cells. -/
def ic (k : IntKind) (l : List Int) : List Value := l.map fun n => Value.int k n
/-- A slice value that reads as these integers. -/
def IR (k : IntKind) (w : World) (ok : Nat → Prop) (v : Value) (l : List Int) : Prop := ∃ A c, v = .slice A l.length c ∧ l.length ≤ c ∧ Rd w ok 1 A l.length (ic k l)

theorem Rd.int {k : IntKind} {w : World} {ok : Nat → Prop} {A : Option Addr} {l : List Int} {i : Nat} (h : Rd w ok 1 A l.length (ic k l)) (hi : i < l.length) :
    ∃ b off, A = some ⟨b, off, none⟩ ∧ ok b ∧ w.cell? ⟨b, off + i, none⟩ = some (.int k (l[i]'hi)) := by
  obtain ⟨b, off, u, hA, hb, hu, hc⟩ := h.at_ hi
  refine ⟨b, off, hA, hb, ?_⟩
  rw [hc]
  simp [ic, hi] at hu
  rw [hu]
theorem ic_length (k : IntKind) (l : List Int) : (ic k l).length = l.length := by simp [ic]
theorem ic_take (k : IntKind) (l : List Int) (n : Nat) : (ic k l).take n = ic k (l.take n) := by simp [ic]

section
variable {H : Type} {enc : TypeId × Value → H} {P : Program} {w : World} {base : Nat} {spare sp : Nat → Bool} {held : Bool} {r : Reach} {b0 : Nat}

/-- How long a slice's datum is. -/
def lenD : DataW H → Nat
  | .slice es _ => es.length
  | _ => 0

theorem open_ir {t e : TypeId} {k : IntKind} {v : Value} {d : DataW H} {ps : List MemPlace} (ht : P.underlying t = some (.slice e)) (he : P.underlying e = some (.int k)) (hC : P.cellsOf e = 1)
    (hv : Value.okWide P w r b0 t v) (h : DataW.Trod enc P w 0 sp held t v d ps) :
    ∃ l : List Int, IR k w (· < w.heap.size) v l ∧ (∀ n ∈ l, (Lit.int k n).wf = true) ∧ lenD d = l.length := by
  obtain ⟨a, len, cap, rfl⟩ := okWide_slice ht hv
  obtain ⟨fuel, hf⟩ := h
  rcases open_ints ht he hC hf with ⟨hcs, hx⟩ | ⟨x, l, c, zs, hcs, _, hl, hm, hz, hx, hcell, hwz⟩
  · simp [Value.cells] at hcs
    obtain ⟨rfl, rfl, rfl⟩ := hcs
    simp only [Prod.mk.injEq] at hx
    obtain ⟨rfl, rfl⟩ := hx
    exact ⟨[], ⟨none, 0, rfl, Nat.le_refl _, Rd.none_⟩, fun n hn => by simp at hn, rfl⟩
  · simp [Value.cells] at hcs
    obtain ⟨rfl, rfl, rfl⟩ := hcs
    simp only [Prod.mk.injEq] at hx
    obtain ⟨rfl, rfl⟩ := hx
    have hlz : len ≤ zs.length := by rw [hz]; split <;> omega
    have hlt : (zs.take len).length = len := by simp; omega
    refine ⟨zs.take len, ⟨some x, cap, ?_, ?_, ?_, fun hn => ?_⟩, fun n hn => hwz n (List.mem_of_mem_take hn), ?_⟩
    · rw [hlt]
    · rw [hlt]; exact hl
    · simp [ic]
    · have h0 := hcell 0 (by rw [hlt] at hn; omega)
      have hsp : x.spot = none := by simpa [Addr.add] using World.cell?_spot h0
      have hb := cell_lt h0
      rw [block_add] at hb
      refine ⟨x, rfl, hsp, hb, fun j u hu => ?_⟩
      simp only [ic, List.getElem?_map, List.getElem?_take] at hu
      split at hu
      · rename_i hj
        have hj' : j < zs.length := by omega
        rw [List.getElem?_eq_getElem hj'] at hu
        simp at hu
        subst hu
        have h1 := hcell j hj'
        rw [h1]
        simp [List.getElem?_eq_getElem hj']
      · simp at hu
    · simp [lenD, lits]

theorem open_slice_fields {t e : TypeId} {fs : Array Field} {fuel : Nat} {cs : List Value} {x : DataW H × List MemPlace} (ht : P.underlying t = some (.slice e)) (he : P.underlying e = some (.struct fs))
    (hone : oneCellFields P fs = true) (hC : P.cellsOf e = fs.size) (h : DataW.trod enc P w base spare held fuel t cs = some x) :
    (cs = [.slice none 0 0] ∧ x = (.nil, [])) ∨
    ∃ (a : Addr) (len cap m : Nat) (D : Nat → DataW H) (Pl : Nat → List MemPlace), cs = [.slice (some a) len cap] ∧ base ≤ a.block ∧ len ≤ cap ∧ cap ≤ maxLen ∧ m = (if spare a.block then cap else len) ∧
      x = (.slice ((List.range len).map D) ((List.range (m - len)).map fun j => D (len + j)), MemPlace.row a (m * fs.size) ++ (List.range m).flatMap Pl) ∧
      ∀ i, i < m → ∃ (ys : List (DataW H × List MemPlace)) (n : Nat), D i = .agg (ys.map (·.1)) ∧ Pl i = ys.flatMap (·.2) ∧ ys.length = fs.size ∧
        ∀ (j : Nat) (f : Field), fs[j]? = some f → ∃ (v : Value) (y : DataW H × List MemPlace), w.cell? (a.add (i * fs.size + j)) = some v ∧ ys[j]? = some y ∧ DataW.trod enc P w base spare held n f.type [v] = some y := by
  rcases open_slice ht h with h0 | ⟨a, len, cap, m, n, D, Pl, hcs, hb, hl, hm, hmm, hx, hi⟩
  · exact .inl h0
  · refine .inr ⟨a, len, cap, m, D, Pl, hcs, hb, hl, hm, hmm, by rw [hC] at hx; exact hx, fun i him => ?_⟩
    obtain ⟨cs', hc, ht'⟩ := hi i him
    rw [hC] at hc
    obtain ⟨ys, n', hn', hy, hlen, hyl, hf⟩ := DataW.trod_struct he ht'
    obtain ⟨_, hcl, hat⟩ := World.cells?_some hc
    simp only [Prod.mk.injEq] at hy
    refine ⟨ys, n', hy.1, hy.2, hyl, fun j f hj => ?_⟩
    obtain ⟨ho, hk⟩ := hone_of hone j f hj
    have hjl : j < fs.size := (Array.getElem?_eq_some_iff.1 hj).1
    have hcell := hat j hjl
    have hv : cs'[j]? = some (cs'[j]'(by omega)) := List.getElem?_eq_getElem (by omega)
    have h1 := hf j f hj
    rw [ho, hk] at h1
    have hone' : (cs'.drop j).take 1 = [cs'[j]'(by omega)] := by
      rw [List.drop_eq_getElem_cons (by omega)]
      rfl
    rw [hone'] at h1
    have hys : ys[j]? = some (ys[j]'(by omega)) := List.getElem?_eq_getElem (by omega)
    refine ⟨_, _, ?_, hys, h1.trans hys⟩
    rw [← Go.Deep.add_add, hcell, hv]

theorem list_of {α : Type} {n : Nat} {p : Nat → α → Prop} (h : ∀ i, i < n → ∃ x, p i x) : ∃ l : List α, l.length = n ∧ ∀ i (hi : i < l.length), p i l[i] := by
  induction n with
  | zero => exact ⟨[], rfl, fun i hi => by simp at hi⟩
  | succ n ih =>
    obtain ⟨l, hl, hp⟩ := ih (fun i hi => h i (by omega))
    obtain ⟨x, hx⟩ := h n (by omega)
    refine ⟨l ++ [x], by simp [hl], fun i hi => ?_⟩
    rw [List.length_append, List.length_singleton] at hi
    rcases Nat.lt_or_ge i l.length with h1 | h1
    · rw [List.getElem_append_left h1]
      exact hp i h1
    · obtain rfl : i = n := by omega
      subst hl
      simpa using hx
/-- Rows that lie one behind the other, out of their cells. -/
theorem Rd.of_rows {α : Type} {w : World} {ok : Nat → Prop} {size : Nat} {ad : Addr} {l : List α} {rw_ : α → List Value} (hs : 0 < size) (hsp : ad.spot = none) (hok : ok ad.block) (he : ∀ x, (rw_ x).length = size)
    (hc : ∀ i (hi : i < l.length) j u, (rw_ l[i])[j]? = some u → w.cell? (ad.add (i * size + j)) = some u) : Rd w ok size (some ad) l.length (l.flatMap rw_) := by
  have hlen : ∀ m : List α, (m.flatMap rw_).length = m.length * size := by
    intro m
    induction m with
    | nil => simp
    | cons x m ih => rw [List.flatMap_cons, List.length_append, ih, he, List.length_cons, Nat.succ_mul]; omega
  refine ⟨hlen l, fun _ => ⟨ad, rfl, hsp, hok, fun j u hj => ?_⟩⟩
  have hjl : j < l.length * size := by rw [← hlen l]; exact (List.getElem?_eq_some_iff.1 hj).1
  have hq : j / size < l.length := Nat.div_lt_of_lt_mul (by rw [Nat.mul_comm]; exact hjl)
  have hdm : j / size * size + j % size = j := by rw [Nat.mul_comm]; exact Nat.div_add_mod j size
  have := hc (j / size) hq (j % size) u ?_
  · rw [hdm] at this
    exact this
  · have key : ∀ (m : List α) (i r : Nat) (hi : i < m.length), r < size → (m.flatMap rw_)[i * size + r]? = (rw_ m[i])[r]? := by
      intro m
      induction m with
      | nil => intro i r hi; simp at hi
      | cons x m ih =>
        intro i r hi hr
        rw [List.flatMap_cons]
        cases i with
        | zero => rw [List.getElem?_append_left (by rw [he]; omega)]; simp
        | succ i =>
          rw [List.getElem?_append_right (by rw [he, Nat.succ_mul]; omega), he]
          rw [show (i + 1) * size + r - size = i * size + r from by rw [Nat.succ_mul]; omega]
          rw [ih i r (by simpa using hi) hr]
          simp
    rw [← key l _ _ hq (Nat.mod_lt _ hs), hdm]
    exact hj

theorem bytes_of {l : List Int} (h : ∀ n ∈ l, (Lit.int .u8 n).wf = true) : ∃ m : List UInt8, ic .u8 l = bc m ∧ m.length = l.length := by
  induction l with
  | nil => exact ⟨[], rfl, rfl⟩
  | cons a l ih =>
    obtain ⟨m, hm, hl⟩ := ih (fun n hn => h n (List.mem_cons_of_mem _ hn))
    obtain ⟨h0, h1⟩ := bounds_u8 (h a List.mem_cons_self)
    refine ⟨UInt8.ofNat a.toNat :: m, ?_, by simp [hl]⟩
    have e : ((UInt8.ofNat a.toNat).toNat : Int) = a := by
      rw [UInt8.toNat_ofNat']
      omega
    simp only [ic, bc, List.map_cons] at hm ⊢
    rw [hm, e]

theorem open_br {t e : TypeId} {v : Value} {d : DataW H} {ps : List MemPlace} (ht : P.underlying t = some (.slice e)) (he : P.underlying e = some (.int .u8)) (hC : P.cellsOf e = 1)
    (hv : Value.okWide P w r b0 t v) (h : DataW.Trod enc P w 0 sp held t v d ps) :
    ∃ l : List UInt8, BR w (· < w.heap.size) v l ∧ lenD d = l.length := by
  obtain ⟨l, ⟨A, c, rfl, hc, hr⟩, hw, hd⟩ := open_ir ht he hC hv h
  obtain ⟨m, hm, hl⟩ := bytes_of hw
  refine ⟨m, ⟨A, c, by rw [hl], by omega, ?_⟩, by omega⟩
  rw [← hm, hl]
  exact hr

/-- A slice of structs of two ints. -/
theorem open_pairs {t e ti : TypeId} {n0 n1 : Field} {v : Value} {d : DataW H} {ps : List MemPlace} (ht : P.underlying t = some (.slice e)) (he : P.underlying e = some (.struct #[n0, n1])) (hi0 : n0.type = ti) (hi1 : n1.type = ti) (hti : P.underlying ti = some (.int .i64))
    (hone : oneCellFields P #[n0, n1] = true) (hC : P.cellsOf e = 2) (hv : Value.okWide P w r b0 t v) (h : DataW.Trod enc P w 0 sp held t v d ps) :
    ∃ l : List (Int × Int), (∃ A c, v = .slice A l.length c ∧ l.length ≤ c ∧ Rd w (· < w.heap.size) 2 A l.length (l.flatMap fun x => [.int .i64 x.1, .int .i64 x.2])) ∧ (∀ x ∈ l, (Lit.int .i64 x.1).wf = true ∧ (Lit.int .i64 x.2).wf = true) := by
  subst hi0
  obtain ⟨a, len, cap, rfl⟩ := okWide_slice ht hv
  obtain ⟨fuel, hf⟩ := h
  rcases open_slice_fields ht he hone hC hf with ⟨hcs, hx⟩ | ⟨x, l, c, m, D, Pl, hcs, _, hl, hm, hmm, hx, hi⟩
  · simp [Value.cells] at hcs
    obtain ⟨rfl, rfl, rfl⟩ := hcs
    exact ⟨[], ⟨none, 0, rfl, Nat.le_refl _, Rd.none_⟩, fun x hx => by simp at hx⟩
  · simp [Value.cells] at hcs
    obtain ⟨rfl, rfl, rfl⟩ := hcs
    have hlm : len ≤ m := by rw [hmm]; split <;> omega
    have each : ∀ i, i < len → ∃ y : Int × Int, (w.cell? (x.add (i * 2)) = some (.int .i64 y.1) ∧ (Lit.int .i64 y.1).wf = true) ∧ (w.cell? (x.add (i * 2 + 1)) = some (.int .i64 y.2) ∧ (Lit.int .i64 y.2).wf = true) := by
      intro i hil
      obtain ⟨ys, n, _, _, _, hf⟩ := hi i (by omega)
      obtain ⟨v0, y0, hc0, _, ht0⟩ := hf 0 n0 rfl
      obtain ⟨v1, y1, hc1, _, ht1⟩ := hf 1 n1 rfl
      rw [hi1] at ht1
      obtain ⟨k0, e0, _, hw0⟩ := DataW.trod_int hti ht0
      obtain ⟨k1, e1, _, hw1⟩ := DataW.trod_int hti ht1
      simp only [List.cons.injEq, and_true] at e0 e1
      subst e0 e1
      exact ⟨(k0, k1), ⟨hc0, hw0⟩, hc1, hw1⟩
    obtain ⟨ll, hll, hlp⟩ := list_of each
    refine ⟨ll, ⟨some x, cap, by rw [hll], by omega, ?_⟩, fun y hy => ?_⟩
    · rcases Nat.eq_zero_or_pos len with h0 | h0
      · have : ll = [] := List.eq_nil_of_length_eq_zero (by omega)
        subst this
        exact ⟨rfl, fun h => absurd h (by simp)⟩
      · have h0' := (hlp 0 (by omega)).2.1
        have hsp : x.spot = none := by
          have := (hlp 0 (by omega)).1.1
          simpa [Addr.add] using World.cell?_spot this
        have hb := cell_lt h0'
        rw [block_add] at hb
        refine Rd.of_rows (by omega) hsp hb (fun _ => rfl) (fun i hi j u hj => ?_)
        have h1 := hlp i hi
        rcases j with _ | _ | j
        · simp at hj
          subst hj
          exact h1.1.1
        · simp at hj
          subst hj
          exact h1.2.1
        · simp at hj
    · obtain ⟨i, hi, rfl⟩ := List.mem_iff_getElem.1 hy
      exact ⟨(hlp i hi).1.2, (hlp i hi).2.2⟩

theorem sized_len {ts : List TypeId} {ds : List (DataW H)} (h : (DataW.weightsEach P ts ds).all (· ≤ reachBytes) = true) {j : Nat} {t e : TypeId} {d : DataW H} (ht : ts[j]? = some t) (hd : ds[j]? = some d) (hu : P.underlying t = some (.slice e)) {n : Nat} (hn : lenD d = n) :
    n * P.bytesOf e ≤ 140737488351232 := by
  subst hn
  cases d with
  | slice es rest =>
    have := sized_slice h ht hd hu
    simp only [lenD]
    have h2 := Nat.mul_le_mul_right (P.bytesOf e) (Nat.le_add_right es.length rest.length)
    have h3 : reachBytes = 140737488351232 := by decide
    omega
  | _ => simp [lenD]
end
end Go.Proofs.YtgjbfgkcbehjnaaDoor

namespace Go.Proofs.YtgjbfgkcbehjnaaDoor
open Go.RowKit

inductive RT (α : Type) where
  | mk (a : α) (l : List (RT α))
namespace RT
variable {α : Type}
def a : RT α → α
  | .mk a _ => a
def l : RT α → List (RT α)
  | .mk _ l => l
end RT

/-- How a struct's fields ahead of the slice read. -/
abbrev Head (α : Type) := World → (Nat → Prop) → α → List Value → Prop

section
variable {α : Type}
mutual
/-- A struct's cells read as a tree: its last field is the slice. -/
def TR (H : Head α) (n : Nat) (w : World) (ok : Nat → Prop) : RT α → List Value → Prop
  | .mk a l, cs => ∃ hd A c, cs = hd ++ [.slice A l.length c] ∧ hd.length + 1 = n ∧ H w ok a hd ∧ l.length ≤ c ∧ l.length ≤ 140737488355328 ∧ (0 < l.length → ∃ b off, A = some ⟨b, off, none⟩ ∧ ok b ∧ TRs H n w ok l b off)
def TRs (H : Head α) (n : Nat) (w : World) (ok : Nat → Prop) : List (RT α) → Nat → Nat → Prop
  | [], _, _ => True
  | t :: l, b, off => (∃ cs, TR H n w ok t cs ∧ ∀ j u, cs[j]? = some u → w.cell? ⟨b, off + j, none⟩ = some u) ∧ TRs H n w ok l b (off + n)
end
/-- A slice's address reads as a list of trees. -/
def TL (H : Head α) (n : Nat) (w : World) (ok : Nat → Prop) (l : List (RT α)) (A : Option Addr) : Prop :=
  0 < l.length → ∃ b off, A = some ⟨b, off, none⟩ ∧ ok b ∧ TRs H n w ok l b off
theorem TR_def (H : Head α) (n : Nat) (w : World) (ok : Nat → Prop) (t : RT α) (cs : List Value) :
    TR H n w ok t cs ↔ ∃ hd A c, cs = hd ++ [.slice A t.l.length c] ∧ hd.length + 1 = n ∧ H w ok t.a hd ∧ t.l.length ≤ c ∧ t.l.length ≤ 140737488355328 ∧ TL H n w ok t.l A := by
  cases t
  rw [TR]
  rfl
theorem TRs.at_ {H : Head α} {n : Nat} {w : World} {ok : Nat → Prop} {l : List (RT α)} {b off : Nat} (h : TRs H n w ok l b off) {i : Nat} (hi : i < l.length) :
    ∃ cs, TR H n w ok (l[i]'hi) cs ∧ ∀ j u, cs[j]? = some u → w.cell? ⟨b, off + i * n + j, none⟩ = some u := by
  induction l generalizing off i with
  | nil => simp at hi
  | cons t l ih =>
    rw [TRs] at h
    cases i with
    | zero => simpa using h.1
    | succ i =>
      obtain ⟨cs, h1, h2⟩ := ih h.2 (i := i) (by simpa using hi)
      refine ⟨cs, by simpa using h1, fun j u hu => ?_⟩
      rw [Nat.succ_mul, show off + (i * n + n) + j = off + n + i * n + j from by omega]
      exact h2 j u hu
theorem TRs.of {H : Head α} {n : Nat} {w : World} {ok : Nat → Prop} {l : List (RT α)} {b off : Nat}
    (h : ∀ i (hi : i < l.length), ∃ cs, TR H n w ok (l[i]'hi) cs ∧ ∀ j u, cs[j]? = some u → w.cell? ⟨b, off + i * n + j, none⟩ = some u) : TRs H n w ok l b off := by
  induction l generalizing off with
  | nil => rw [TRs]; trivial
  | cons t l ih =>
    rw [TRs]
    obtain ⟨c0, g1, g2⟩ := h 0 (by simp)
    refine ⟨⟨c0, g1, fun j u hu => by simpa using g2 j u hu⟩, ih (fun i hi => ?_)⟩
    obtain ⟨cs, h1, h2⟩ := h (i + 1) (by simpa using hi)
    refine ⟨cs, by simpa using h1, fun j u hu => ?_⟩
    have := h2 j u hu
    rw [Nat.succ_mul, show off + (i * n + n) + j = off + n + i * n + j from by omega] at this
    exact this
theorem TL.at_ {H : Head α} {n : Nat} {w : World} {ok : Nat → Prop} {l : List (RT α)} {A : Option Addr} (h : TL H n w ok l A) {i : Nat} (hi : i < l.length) :
    ∃ b off cs, A = some ⟨b, off, none⟩ ∧ ok b ∧ TR H n w ok (l[i]'hi) cs ∧ ∀ j u, cs[j]? = some u → w.cell? ⟨b, off + i * n + j, none⟩ = some u := by
  obtain ⟨b, off, e, hb, ht⟩ := h (by omega)
  obtain ⟨cs, h1, h2⟩ := ht.at_ hi
  exact ⟨b, off, cs, e, hb, h1, h2⟩

/-- A head that reads out of memory reads there as before, if its blocks are as before. -/
structure HeadKp (H : Head α) : Prop where
  kp : ∀ {w w' : World} {ok S : Nat → Prop} {a : α} {hd : List Value}, H w ok a hd → Kp S w w' → (∀ i, ok i → ¬ S i) → H w' ok a hd
  mono : ∀ {w : World} {ok ok' : Nat → Prop} {a : α} {hd : List Value}, H w ok a hd → (∀ i, ok i → ok' i) → H w ok' a hd

mutual
theorem TR.kp_ {H : Head α} (hH : HeadKp H) {n : Nat} {w w' : World} {ok ok' S : Nat → Prop} (hk : Kp S w w') (hd : ∀ i, ok i → ¬ S i) (hm : ∀ i, ok i → ok' i) : ∀ (t : RT α) (cs : List Value), TR H n w ok t cs → TR H n w' ok' t cs
  | .mk a l, cs, h => by
    rw [TR] at h ⊢
    obtain ⟨hds, A, c, e, hl, hh, hc, hc2, ht⟩ := h
    refine ⟨hds, A, c, e, hl, hH.mono (hH.kp hh hk hd) hm, hc, hc2, fun h0 => ?_⟩
    obtain ⟨b, off, e1, hb, hs⟩ := ht h0
    exact ⟨b, off, e1, hm b hb, TRs.kp_ hH hk hd hm l b off hb hs⟩
theorem TRs.kp_ {H : Head α} (hH : HeadKp H) {n : Nat} {w w' : World} {ok ok' S : Nat → Prop} (hk : Kp S w w') (hd : ∀ i, ok i → ¬ S i) (hm : ∀ i, ok i → ok' i) : ∀ (l : List (RT α)) (b off : Nat), ok b → TRs H n w ok l b off → TRs H n w' ok' l b off
  | [], _, _, _, _ => by rw [TRs]; trivial
  | t :: l, b, off, hb, h => by
    rw [TRs] at h ⊢
    obtain ⟨⟨cs, h1, h2⟩, h3⟩ := h
    exact ⟨⟨cs, TR.kp_ hH hk hd hm t cs h1, fun j u hu => hk.cell (h2 j u hu) (hd b hb)⟩, TRs.kp_ hH hk hd hm l b _ hb h3⟩
end
theorem TL.kp_ {H : Head α} (hH : HeadKp H) {n : Nat} {w w' : World} {ok ok' S : Nat → Prop} {l : List (RT α)} {A : Option Addr} (h : TL H n w ok l A) (hk : Kp S w w') (hd : ∀ i, ok i → ¬ S i) (hm : ∀ i, ok i → ok' i) : TL H n w' ok' l A := by
  intro h0
  obtain ⟨b, off, e1, hb, hs⟩ := h h0
  exact ⟨b, off, e1, hm b hb, TRs.kp_ hH hk hd hm l b off hb hs⟩
/-- The rest of a list. -/
theorem TL.drop {H : Head α} {n : Nat} {w : World} {ok : Nat → Prop} {l : List (RT α)} {b off : Nat} (h : TL H n w ok l (some ⟨b, off, none⟩)) (k : Nat) : TL H n w ok (l.drop k) (some ⟨b, off + k * n, none⟩) := by
  intro h0
  rw [List.length_drop] at h0
  obtain ⟨b', off', e, hb, hs⟩ := h (by omega)
  injection e with e
  injection e with e1 e2
  subst e1 e2
  refine ⟨b, _, rfl, hb, TRs.of (fun i hi => ?_)⟩
  rw [List.length_drop] at hi
  obtain ⟨cs, h1, h2⟩ := hs.at_ (i := k + i) (by omega)
  refine ⟨cs, by simpa using h1, fun j u hu => ?_⟩
  have := h2 j u hu
  rw [Nat.add_mul, show off + (k * n + i * n) + j = off + k * n + i * n + j from by omega] at this
  exact this
theorem TL.take {H : Head α} {n : Nat} {w : World} {ok : Nat → Prop} {l : List (RT α)} {A : Option Addr} (h : TL H n w ok l A) (k : Nat) : TL H n w ok (l.take k) A := by
  intro h0
  rw [List.length_take] at h0
  obtain ⟨b, off, e, hb, hs⟩ := h (by omega)
  refine ⟨b, off, e, hb, TRs.of (fun i hi => ?_)⟩
  rw [List.length_take] at hi
  obtain ⟨cs, h1, h2⟩ := hs.at_ (i := i) (by omega)
  exact ⟨cs, by simpa using h1, h2⟩
end

/-! ### Folds over trees. -/
theorem RT.induct {α : Type} {p : RT α → Prop} (h : ∀ a l, (∀ t ∈ l, p t) → p (.mk a l)) : ∀ t, p t := by
  intro t
  exact RT.rec (motive_1 := p) (motive_2 := fun l => ∀ t ∈ l, p t) (fun a l ih => h a l ih) (fun _ h => by simp at h)
    (fun t l h1 h2 x hx => by
      rcases List.mem_cons.1 hx with rfl | hx
      · exact h1
      · exact h2 x hx) t
end Go.Proofs.YtgjbfgkcbehjnaaDoor

namespace Go.Proofs.YtgjbfgkcbehjnaaDoor
open Go.RowKit

section
variable {α : Type}
theorem TRs.flat {H : Head α} (hH : HeadKp H) (hone : ∀ {w : World} {ok : Nat → Prop} {a : α} {hd : List Value}, H w ok a hd → ∀ u ∈ hd, u.oneCell' = true) {n : Nat} {w : World} {ok : Nat → Prop} :
    ∀ {l : List (RT α)} {b off : Nat}, TRs H n w ok l b off → ∃ xs : List Value, xs.length = l.length * n ∧ (∀ u ∈ xs, u.oneCell' = true) ∧ (∀ j u, xs[j]? = some u → w.cell? ⟨b, off + j, none⟩ = some u) ∧
      ∀ (S ok' : Nat → Prop) (W : World) (b' off' : Nat), Kp S w W → (∀ i, ok i → ¬ S i) → (∀ i, ok i → ok' i) → (∀ j u, xs[j]? = some u → W.cell? ⟨b', off' + j, none⟩ = some u) → TRs H n W ok' l b' off' := by
  intro l
  induction l with
  | nil => exact fun {b off} _ => ⟨[], by simp, by simp, by simp, fun _ _ _ _ _ _ _ _ _ => by rw [TRs]; trivial⟩
  | cons t l ih =>
    intro b off h
    rw [TRs] at h
    obtain ⟨⟨cs, h1, h2⟩, h3⟩ := h
    obtain ⟨xs, g1, g2, g3, g4⟩ := ih h3
    obtain ⟨hd, A, c, e, hl, hh, _⟩ := (TR_def _ _ _ _ _ _).1 h1
    have hcn : cs.length = n := by rw [e]; simpa using hl
    refine ⟨cs ++ xs, by rw [List.length_append, g1, hcn, List.length_cons, Nat.succ_mul]; omega, ?_, ?_, ?_⟩
    · intro u hu
      rcases List.mem_append.1 hu with hu | hu
      · rw [e] at hu
        rcases List.mem_append.1 hu with hu | hu
        · exact hone hh u hu
        · obtain rfl : u = _ := by simpa using hu
          rfl
      · exact g2 u hu
    · intro j u hu
      by_cases hj : j < cs.length
      · rw [List.getElem?_append_left hj] at hu
        exact h2 j u hu
      · rw [List.getElem?_append_right (by omega)] at hu
        have := g3 _ u hu
        rw [show off + n + (j - cs.length) = off + j from by omega] at this
        exact this
    · intro S ok' W b' off' hk hd' hm hc
      rw [TRs]
      refine ⟨⟨cs, TR.kp_ hH hk hd' hm t cs h1, fun j u hu => hc j u ?_⟩, g4 S ok' W b' (off' + n) hk hd' hm (fun j u hu => ?_)⟩
      · rw [List.getElem?_append_left (List.getElem?_eq_some_iff.1 hu).1]
        exact hu
      · have := hc (n + j) u (by rw [List.getElem?_append_right (by omega), ← hu, hcn]; congr 1; omega)
        rw [show off' + (n + j) = off' + n + j from by omega] at this
        exact this
theorem TRs.here {H : Head α} {n : Nat} {w : World} {ok : Nat → Prop} {l : List (RT α)} {b off : Nat} (h0 : 0 < l.length) (h : TRs H n w ok l b off) : b < w.heap.size := by
  cases l with
  | nil => simp at h0
  | cons t l =>
    rw [TRs] at h
    obtain ⟨⟨cs, h1, h2⟩, _⟩ := h
    obtain ⟨hd, A, c, e, hl, _⟩ := (TR_def _ _ _ _ _ _).1 h1
    have h3 : 0 < cs.length := by rw [e]; simp
    exact cell_lt (h2 0 _ (List.getElem?_eq_getElem h3))
theorem add_spot (b off j : Nat) : (⟨b, off, none⟩ : Addr).add j = ⟨b, off + j, none⟩ := by
  unfold Addr.add
  split
  · rename_i h
    first | (subst h; rfl) | simp_all
  · rfl
theorem TL.flat {H : Head α} (hH : HeadKp H) (hone : ∀ {w : World} {ok : Nat → Prop} {a : α} {hd : List Value}, H w ok a hd → ∀ u ∈ hd, u.oneCell' = true) {n : Nat} {w : World} {ok : Nat → Prop} {l : List (RT α)} {A : Option Addr} (h : TL H n w ok l A) :
    ∃ xs : List Value, Rd w ok n A l.length xs ∧ (∀ u ∈ xs, u.oneCell' = true) ∧
      ∀ (S ok' : Nat → Prop) (W : World) (A' : Option Addr), Kp S w W → (∀ i, ok i → ¬ S i) → (∀ i, ok i → ok' i) → Rd W ok' n A' l.length xs → TL H n W ok' l A' := by
  by_cases h0 : 0 < l.length
  · obtain ⟨b, off, rfl, hb, ht⟩ := h h0
    obtain ⟨xs, g1, g2, g3, g4⟩ := ht.flat hH hone
    refine ⟨xs, ⟨g1, fun _ => ⟨_, rfl, rfl, hb, fun j u hu => by rw [add_spot]; exact g3 j u hu⟩⟩, g2, fun S ok' W A' hk hd hm hr _ => ?_⟩
    obtain ⟨⟨b', off', sp⟩, rfl, hsp, hb', hc⟩ := hr.2 h0
    obtain rfl : sp = none := hsp
    exact ⟨b', off', rfl, hb', g4 S ok' W b' off' hk hd hm (fun j u hu => by rw [← add_spot]; exact hc j u hu)⟩
  · obtain rfl : l = [] := List.eq_nil_of_length_eq_zero (by omega)
    exact ⟨[], ⟨by simp, fun h => by simp at h⟩, by simp, fun _ _ _ _ _ _ _ _ h => by simp at h⟩
end

/-- The blocks of a tree are there. -/
structure HeadLt {α : Type} (H : Head α) : Prop where
  lt : ∀ {w : World} {ok : Nat → Prop} {a : α} {hd : List Value}, H w ok a hd → H w (fun i => ok i ∧ i < w.heap.size) a hd
section
variable {α : Type}
mutual
theorem TR.lt_ {H : Head α} (hH : HeadLt H) {n : Nat} {w : World} {ok : Nat → Prop} : ∀ (t : RT α) (cs : List Value), TR H n w ok t cs → TR H n w (fun i => ok i ∧ i < w.heap.size) t cs
  | .mk a l, cs, h => by
    rw [TR] at h ⊢
    obtain ⟨hds, A, c, e, hl, hh, hc, hc2, ht⟩ := h
    refine ⟨hds, A, c, e, hl, hH.lt hh, hc, hc2, fun h0 => ?_⟩
    obtain ⟨b, off, e1, hb, hs⟩ := ht h0
    exact ⟨b, off, e1, ⟨hb, TRs.here h0 hs⟩, TRs.lt_ hH l b off hs⟩
theorem TRs.lt_ {H : Head α} (hH : HeadLt H) {n : Nat} {w : World} {ok : Nat → Prop} : ∀ (l : List (RT α)) (b off : Nat), TRs H n w ok l b off → TRs H n w (fun i => ok i ∧ i < w.heap.size) l b off
  | [], _, _, _ => by rw [TRs]; trivial
  | t :: l, b, off, h => by
    rw [TRs] at h ⊢
    obtain ⟨⟨cs, h1, h2⟩, h3⟩ := h
    exact ⟨⟨cs, TR.lt_ hH t cs h1, h2⟩, TRs.lt_ hH l b _ h3⟩
end
theorem TL.lt_ {H : Head α} (hH : HeadLt H) {n : Nat} {w : World} {ok : Nat → Prop} {l : List (RT α)} {A : Option Addr} (h : TL H n w ok l A) : TL H n w (fun i => ok i ∧ i < w.heap.size) l A := by
  intro h0
  obtain ⟨b, off, e1, hb, hs⟩ := h h0
  exact ⟨b, off, e1, ⟨hb, TRs.here h0 hs⟩, TRs.lt_ hH l b off hs⟩
end
theorem Kp.at_ {S : Nat → Prop} {a w : World} (h : Kp S a w) (g : Nat) (hg : S g ∨ a.heap.size ≤ g) (i : Nat) (u : Value) : Kp S a (w.setCell ⟨g, i, none⟩ u) := h.setCell (p := ⟨g, i, none⟩) hg u

/-- Rows of any type: laid as a literal. -/
theorem Own.lit_ (w : World) (e size : Nat) (xs : List Value) (cs : Array Value) (n B : Nat) (hn : xs.length = n * size) (hcs : cs = xs.toArray) (hB : B ≤ w.heap.size) (hm : n ≤ maxLen) :
    Own (w.alloc (.cells cs e)) (B ≤ ·) e size (.slice (some ⟨w.heap.size, 0, none⟩) n n) n xs := by
  subst hcs
  refine ⟨⟨hn, .inr ⟨w.heap.size, n, _, rfl, Nat.zero_le _, heap_alloc_new w _, Nat.le_refl _, hm, by simp [hn], ?_⟩⟩, fun k hk => ?_⟩
  · exact List.take_of_length_le (by simp [hn])
  · have : w.heap.size = k := by simpa [Value.ownBlock] using hk
    omega
end Go.Proofs.YtgjbfgkcbehjnaaDoor

namespace Go.Proofs.YtgjbfgkcbehjnaaDoor
open Go.RowKit

/-- A node's class, tag, whether it is made of others, its bytes. -/
structure NH where
  c : Int
  t : Int
  m : Bool
  b : List UInt8
deriving DecidableEq
def i64N (x : Int) : Prop := -9223372036854775808 ≤ x ∧ x < 9223372036854775808
def NHd : Head NH := fun w ok a hd => ∃ v, hd = [.int .i64 a.c, .int .i64 a.t, .bool a.m, v] ∧ i64N a.c ∧ i64N a.t ∧ BR w ok v a.b ∧ a.b.length ≤ 140737488351232
theorem NHd_kp : HeadKp NHd :=
  ⟨fun ⟨v, e, h0, h1, h2, h3⟩ hk hd => ⟨v, e, h0, h1, h2.kp hk hd, h3⟩, fun ⟨v, e, h0, h1, h2, h3⟩ hm => ⟨v, e, h0, h1, h2.mono hm, h3⟩⟩
theorem NHd_one {w : World} {ok : Nat → Prop} {a : NH} {hd : List Value} (h : NHd w ok a hd) : ∀ u ∈ hd, u.oneCell' = true := by
  obtain ⟨v, e, _, _, ⟨A, c, e2, _⟩, _⟩ := h
  subst e e2
  intro u hu
  simp at hu
  rcases hu with rfl | rfl | rfl | rfl <;> rfl
abbrev Nd := RT NH
/-- A slice value that reads as these nodes. -/
def NsR (w : World) (ok : Nat → Prop) (v : Value) (l : List Nd) : Prop := ∃ A c, v = .slice A l.length c ∧ l.length ≤ c ∧ l.length ≤ 140737488355328 ∧ TL NHd 5 w ok l A
/-- A value that reads as a node. -/
def NdR (w : World) (ok : Nat → Prop) (v : Value) (x : Nd) : Prop :=
  ∃ bv sv, v = .agg #[.int .i64 x.a.c, .int .i64 x.a.t, .bool x.a.m, bv, sv] ∧ i64N x.a.c ∧ i64N x.a.t ∧ BR w ok bv x.a.b ∧ x.a.b.length ≤ 140737488351232 ∧ NsR w ok sv x.l
section
variable {w w' : World} {ok ok' S : Nat → Prop} {v : Value} {l : List Nd} {x : Nd}
theorem NsR.kp (h : NsR w ok v l) (hk : Kp S w w') (hd : ∀ i, ok i → ¬ S i) : NsR w' ok v l := by
  obtain ⟨A, c, e, h1, h2, h3⟩ := h
  exact ⟨A, c, e, h1, h2, h3.kp_ NHd_kp hk hd (fun _ h => h)⟩
theorem NsR.mono (h : NsR w ok v l) (hm : ∀ i, ok i → ok' i) : NsR w ok' v l := by
  obtain ⟨A, c, e, h1, h2, h3⟩ := h
  exact ⟨A, c, e, h1, h2, h3.kp_ NHd_kp (Kp.refl (fun _ => False) w) (fun _ _ h => h) hm⟩
theorem NdR.kp (h : NdR w ok v x) (hk : Kp S w w') (hd : ∀ i, ok i → ¬ S i) : NdR w' ok v x := by
  obtain ⟨bv, sv, e, h0, h1, h2, h3, h4⟩ := h
  exact ⟨bv, sv, e, h0, h1, h2.kp hk hd, h3, h4.kp hk hd⟩
theorem NdR.mono (h : NdR w ok v x) (hm : ∀ i, ok i → ok' i) : NdR w ok' v x := by
  obtain ⟨bv, sv, e, h0, h1, h2, h3, h4⟩ := h
  exact ⟨bv, sv, e, h0, h1, h2.mono hm, h3, h4.mono hm⟩
theorem NsR.nil : NsR w ok (.slice none 0 0) [] := ⟨none, 0, rfl, Nat.le_refl _, by simp, fun h => by simp at h⟩
theorem NdR.of_tr {cs : List Value} (h : TR NHd 5 w ok x cs) : NdR w ok (.agg cs.toArray) x ∧ cs.length = 5 := by
  obtain ⟨hd, A, c, e, hl, ⟨bv, hh, ho, ho2, hb, hbl⟩, h1, h2, h3⟩ := (TR_def _ _ _ _ _ _).1 h
  subst hh
  subst e
  exact ⟨⟨bv, _, rfl, ho, ho2, hb, hbl, A, c, rfl, h1, h2, h3⟩, by simp⟩
theorem NdR.tr (h : NdR w ok v x) : ∃ bv sv, v = .agg #[.int .i64 x.a.c, .int .i64 x.a.t, .bool x.a.m, bv, sv] ∧ TR NHd 5 w ok x [.int .i64 x.a.c, .int .i64 x.a.t, .bool x.a.m, bv, sv] := by
  obtain ⟨bv, sv, e, h0, h1, h2, h3, A, c, e2, h4, h5, h6⟩ := h
  subst e2
  exact ⟨_, _, e, (TR_def _ _ _ _ _ _).2 ⟨[.int .i64 x.a.c, .int .i64 x.a.t, .bool x.a.m, bv], A, c, rfl, rfl, ⟨bv, rfl, h0, h1, h2, h3⟩, h4, h5, h6⟩⟩
/-- The parts of a node. -/
theorem NdR.parts {c t : Int} {m : Bool} {B : List UInt8} {ps : List Nd} (h : NdR w ok v (.mk ⟨c, t, m, B⟩ ps)) :
    ∃ A1 c1 A2 c2, v = .agg #[.int .i64 c, .int .i64 t, .bool m, .slice A1 B.length c1, .slice A2 ps.length c2] ∧ i64N c ∧ i64N t ∧ B.length ≤ c1 ∧ B.length ≤ 140737488351232 ∧ BR w ok (.slice A1 B.length c1) B ∧ ps.length ≤ c2 ∧ ps.length ≤ 140737488355328 ∧ NsR w ok (.slice A2 ps.length c2) ps := by
  obtain ⟨bv, sv, rfl, h0, h1, h2, h3, A2, c2, rfl, h4, h5, h6⟩ := h
  obtain ⟨A1, c1, e, h7, h8⟩ := id h2
  have e' : bv = .slice A1 B.length c1 := e
  subst e'
  exact ⟨A1, c1, A2, c2, rfl, h0, h1, h7, h3, h2, h4, h5, A2, c2, rfl, h4, h5, h6⟩
/-- An element: its value, and its cells. -/
theorem NsR.at_ {A : Option Addr} {n c : Nat} (h : NsR w ok (.slice A n c) l) {i : Nat} (hi : i < l.length) :
    ∃ b off A1 c1 A2 c2, A = some ⟨b, off, none⟩ ∧ ok b ∧ NdR w ok (.agg #[.int .i64 (l[i]'hi).a.c, .int .i64 (l[i]'hi).a.t, .bool (l[i]'hi).a.m, .slice A1 (l[i]'hi).a.b.length c1, .slice A2 (l[i]'hi).l.length c2]) (l[i]'hi) ∧
      w.cell? ⟨b, off + i * 5, none⟩ = some (.int .i64 (l[i]'hi).a.c) ∧ w.cell? ⟨b, off + i * 5 + 1, none⟩ = some (.int .i64 (l[i]'hi).a.t) ∧ w.cell? ⟨b, off + i * 5 + 2, none⟩ = some (.bool (l[i]'hi).a.m) ∧
      w.cell? ⟨b, off + i * 5 + 3, none⟩ = some (.slice A1 (l[i]'hi).a.b.length c1) ∧ w.cell? ⟨b, off + i * 5 + 4, none⟩ = some (.slice A2 (l[i]'hi).l.length c2) := by
  obtain ⟨A', c', e, _, _, h3⟩ := h
  injection e with e1 e2 e3
  subst e1
  obtain ⟨b, off, cs, hA, hb, ht, hc⟩ := h3.at_ hi
  have h1 := (NdR.of_tr ht).1
  obtain ⟨hd, A2, c2, e, hl, ⟨bv, hh, ho, ho2, hbr, hbl⟩, _, _, _⟩ := (TR_def _ _ _ _ _ _).1 ht
  subst hh
  subst e
  obtain ⟨A1, c1, e, _, _⟩ := hbr
  subst e
  exact ⟨b, off, _, _, _, _, hA, hb, h1, hc 0 _ rfl, hc 1 _ rfl, hc 2 _ rfl, hc 3 _ rfl, hc 4 _ rfl⟩
theorem NsR.len {A : Option Addr} {n c : Nat} (h : NsR w ok (.slice A n c) l) : n = l.length ∧ n ≤ c ∧ n ≤ 140737488355328 := by
  obtain ⟨A', c', e, h1, h2, _⟩ := h
  injection e with _ e2 e3
  omega
end
mutual
/-- Are two nodes the same? -/
def sameN : Nd → Nd → Bool
  | .mk a l, .mk b m => decide (a.c = b.c) && (decide (a.t = b.t) && (decide (a.m = b.m) && (decide (a.b = b.b) && sameNs l m)))
def sameNs : List Nd → List Nd → Bool
  | [], [] => true
  | x :: l, y :: m => sameN x y && sameNs l m
  | _, _ => false
end
theorem sameN_mk (a b : NH) (l m : List Nd) : sameN (.mk a l) (.mk b m) = (decide (a.c = b.c) && (decide (a.t = b.t) && (decide (a.m = b.m) && (decide (a.b = b.b) && sameNs l m)))) := by rw [sameN]
theorem sameNs_len {l m : List Nd} (h : l.length ≠ m.length) : sameNs l m = false := by
  induction l generalizing m with
  | nil => cases m <;> simp_all [sameNs]
  | cons f t ih =>
    cases m with
    | nil => simp [sameNs]
    | cons g u => rw [sameNs, ih (by simpa using h), Bool.and_false]
theorem sameNs_drop {l m : List Nd} {k : Nat} (h1 : k < l.length) (h2 : k < m.length) : sameNs (l.drop k) (m.drop k) = (sameN l[k] m[k] && sameNs (l.drop (k + 1)) (m.drop (k + 1))) := by
  rw [List.drop_eq_getElem_cons h1, List.drop_eq_getElem_cons h2, sameNs]
theorem sameNs_end {l m : List Nd} {k : Nat} (h1 : l.length ≤ k) (h2 : m.length ≤ k) : sameNs (l.drop k) (m.drop k) = true := by
  rw [List.drop_of_length_le h1, List.drop_of_length_le h2, sameNs]
theorem sameN_iff (x : Nd) : ∀ y, sameN x y = true ↔ x = y := by
  induction x using RT.induct with
  | h a l ih =>
  intro y
  obtain ⟨b, m⟩ := y
  have key : ∀ (t u : List Nd), (∀ f ∈ t, ∀ g, sameN f g = true ↔ f = g) → (sameNs t u = true ↔ t = u) := by
    intro t
    induction t with
    | nil => intro u _; cases u <;> simp [sameNs]
    | cons f t ih2 =>
      intro u h
      cases u with
      | nil => simp [sameNs]
      | cons g u => rw [sameNs, Bool.and_eq_true, h f (by simp), ih2 u (fun x hx => h x (by simp [hx]))]; simp
  rw [sameN_mk]
  simp only [Bool.and_eq_true, decide_eq_true_eq, key l m ih, RT.mk.injEq]
  constructor
  · rintro ⟨h1, h2, h3, h4, h5⟩
    refine ⟨?_, h5⟩
    cases a; cases b
    simp_all
  · rintro ⟨h1, h2⟩
    subst h1
    exact ⟨rfl, rfl, rfl, rfl, h2⟩
theorem sameN_refl (x : Nd) : sameN x x = true := (sameN_iff x x).2 rfl
theorem sameN_comm (x y : Nd) : sameN x y = sameN y x := by
  rw [Bool.eq_iff_iff, sameN_iff, sameN_iff]
  exact ⟨Eq.symm, Eq.symm⟩
end Go.Proofs.YtgjbfgkcbehjnaaDoor

namespace Go.Proofs.YtgjbfgkcbehjnaaDoor

def be (l : List UInt8) : Nat := l.foldl (fun x b => x * 256 + b.toNat) 0
theorem be_snoc (l : List UInt8) (b : UInt8) : be (l ++ [b]) = be l * 256 + b.toNat := by simp [be]
theorem be_lt (l : List UInt8) : be l < 256 ^ l.length := by
  obtain ⟨m, rfl⟩ : ∃ m : List UInt8, l = m.reverse := ⟨l.reverse, by simp⟩
  induction m with
  | nil => simp [be]
  | cons b m ih =>
    rw [List.reverse_cons, be_snoc, List.length_append, List.length_singleton, Nat.pow_succ]
    have := b.toNat_lt
    omega
theorem be_take (l : List UInt8) (k : Nat) (h : k < l.length) : be (l.take (k + 1)) = be (l.take k) * 256 + l[k].toNat := by
  rw [List.take_succ_eq_append_getElem h, be_snoc]

theorem be_small (l : List UInt8) (k : Nat) (hk : k < l.length) (h8 : l.length ≤ 8) : be (l.take k) < 72057594037927936 := by
  have h := be_lt (l.take k)
  have h1 : (l.take k).length ≤ 7 := by simp; omega
  have h2 : 256 ^ (l.take k).length ≤ 256 ^ 7 := Nat.pow_le_pow_right (by omega) h1
  omega
theorem or_byte (x b : Nat) (hb : b < 256) (hx : x < 72057594037927936) : bits .or .u64 (IntKind.u64.wrap ((x : Int) * 256)) (b : Int) = ((x * 256 + b : Nat) : Int) := by
  rw [IntKind.wrap_u64]
  have e : ((x : Int) * 256) % 18446744073709551616 = ((x * 256 : Nat) : Int) := by omega
  rw [e, u64_or_nat _ _ (by omega) (by omega)]
  have := Nat.two_pow_add_eq_or_of_lt (i := 8) (b := b) (by omega) x
  rw [show x * 256 = 2 ^ 8 * x from by omega, this]

/-- May a number have so many bytes? -/
def szB (n : Int) : Bool := decide (1 ≤ n ∧ n ≤ 4) || decide (n = 8)
theorem szB_true {n : Int} (h : szB n = true) : 1 ≤ n ∧ n ≤ 8 ∧ (4 < n → n = 8) := by
  simp only [szB, Bool.or_eq_true, decide_eq_true_eq] at h
  omega
theorem szB_false {n : Int} (h : szB n = false) : n < 1 ∨ (4 < n ∧ n ≠ 8) := by
  simp only [szB, Bool.or_eq_false_iff, decide_eq_false_iff_not] at h
  omega

open Go.RowKit in
/-- 'int(uint(n) % (1 << 40))' is from 0 on, below 2 to the power of 40. -/
theorem mod_base (n : Int) : ∃ j : Nat, wrap64 ((IntKind.u64.wrap n).tmod 1099511627776) = (j : Int) ∧ j < 1099511627776 := by
  rw [IntKind.wrap_u64]
  have h0 : 0 ≤ n % 18446744073709551616 := Int.emod_nonneg _ (by omega)
  rw [Int.tmod_eq_emod_of_nonneg h0]
  refine ⟨((n % 18446744073709551616) % 1099511627776).toNat, ?_, by omega⟩
  unfold wrap64
  omega
open Go.RowKit in
/-- 'int(uint(n) % uint(m + 1))' is from 0 to m. -/
theorem mod_place (n : Int) (m : Nat) (hm : m ≤ 140737488351232) : ∃ j : Nat, wrap64 ((IntKind.u64.wrap n).tmod ((m : Int) + 1)) = (j : Int) ∧ j ≤ m := by
  rw [IntKind.wrap_u64]
  have h0 : 0 ≤ n % 18446744073709551616 := Int.emod_nonneg _ (by omega)
  rw [Int.tmod_eq_emod_of_nonneg h0]
  have h1 := Int.emod_nonneg (n % 18446744073709551616) (show ((m : Int) + 1) ≠ 0 by omega)
  have h2 := Int.emod_lt_of_pos (n % 18446744073709551616) (show (0 : Int) < (m : Int) + 1 by omega)
  refine ⟨((n % 18446744073709551616) % ((m : Int) + 1)).toNat, ?_, by omega⟩
  generalize (n % 18446744073709551616) % ((m : Int) + 1) = x at h1 h2 ⊢
  unfold wrap64
  omega

/-- A number's bytes, so many, the highest first. -/
def beB : Nat → Nat → List UInt8
  | 0, _ => []
  | n + 1, x => beB n (x / 256) ++ [UInt8.ofNat x]
theorem beB_length (n x : Nat) : (beB n x).length = n := by
  induction n generalizing x with
  | zero => rfl
  | succ n ih => simp [beB, ih]
theorem be_beB (n x : Nat) : be (beB n x) = x % 256 ^ n := by
  induction n generalizing x with
  | zero => simp [beB, be, Nat.mod_one]
  | succ n ih =>
    have e : 256 ^ (n + 1) = 256 * 256 ^ n := by rw [Nat.pow_succ, Nat.mul_comm]
    rw [beB, be_snoc, ih, UInt8.toNat_ofNat', e, Nat.mod_mul]
    omega
theorem beB_be (l : List UInt8) : beB l.length (be l) = l := by
  obtain ⟨m, rfl⟩ : ∃ m : List UInt8, l = m.reverse := ⟨l.reverse, by simp⟩
  induction m with
  | nil => rfl
  | cons b m ih =>
    rw [List.reverse_cons, be_snoc, List.length_append, List.length_singleton, beB]
    have hb := b.toNat_lt
    have h1 : (be m.reverse * 256 + b.toNat) / 256 = be m.reverse := by omega
    rw [h1, ih]
    congr 2
    apply UInt8.toNat_inj.1
    rw [UInt8.toNat_ofNat']
    omega
theorem beB_drop (n m x : Nat) : (beB (n + m) x).drop n = beB m x := by
  induction m generalizing x with
  | zero => rw [Nat.add_zero, List.drop_of_length_le (by rw [beB_length]; omega)]; rfl
  | succ m ih =>
    rw [← Nat.add_assoc, beB, beB, List.drop_append_of_le_length (by rw [beB_length]; omega), ih]
theorem beB_mod (n x : Nat) : beB n (x % 256 ^ n) = beB n x := by
  have h := beB_be (beB n x)
  rw [beB_length, be_beB] at h
  exact h

end Go.Proofs.YtgjbfgkcbehjnaaDoor

namespace Go.Proofs.YtgjbfgkcbehjnaaDoor
open Go.RowKit

def plainT : List Int := [1, 2, 3, 4, 5, 6, 10, 12, 18, 19, 20, 22, 23, 24, 26, 28, 30]
def madeT : List Int := [16, 17]

/-- The two tables lie as the program's text lays them. -/
def Tab (w : World) : Prop :=
  (∀ i, i < plainT.length → w.cell? ⟨0, i, none⟩ = some (.int .i64 (plainT.getD i 0))) ∧ (∀ i, i < madeT.length → w.cell? ⟨1, i, none⟩ = some (.int .i64 (madeT.getD i 0)))
theorem Tab.kp {w w' : World} (h : Tab w) (hk : Kp (fun _ => False) w w') : Tab w' := ⟨fun i hi => hk.cell (h.1 i hi) (fun h => h), fun i hi => hk.cell (h.2 i hi) (fun h => h)⟩

theorem tab09 {W : World} (h : laidMetH Tryd.prog [("passepartout/dertag.plain", Lib.tabData .i64 plainT), ("passepartout/dertag.made", Lib.tabData .i64 madeT)] W) : Tab W := by
  rw [MakeChecks.laidMetH_plain _ _ _ (by kernel_rfl)] at h
  have g0 : Tryd.prog.globalNamed "passepartout/dertag.plain" = some 0 := by kernel_rfl
  have g1 : Tryd.prog.globalNamed "passepartout/dertag.made" = some 1 := by kernel_rfl
  have t0 := Lib.tabIs_of_head (t := 107) (e := 3) (n := 17) g0 (by kernel_rfl) Tryd.underlying107 Tryd.underlying3 (by kernel_rfl) (by kernel_rfl) h
  have t1 := Lib.tabIs_of_head (t := 108) (e := 3) (n := 2) g1 (by kernel_rfl) Tryd.underlying108 Tryd.underlying3 (by kernel_rfl) (by kernel_rfl) h.tail
  exact ⟨fun i hi => t0.cell g0 i hi, fun i hi => t1.cell g1 i hi⟩

/-- Is there such a thing? -/
def kindB (c t : Int) (m : Bool) : Bool := (c == 2 && (decide (0 ≤ t) && decide (t ≤ 30))) || (c == 0 && (if m then madeT else plainT).contains t)

theorem kind_any (c t : Int) (m : Bool) (w : World) (ht : Tab w) : Calls Tryd.prog 51 #[.int .i64 c, .int .i64 t, .bool m] w fun e w' => e = .returned (.int .i64 (if kindB c t m then 0 else 13)) ∧ w = w' := by
  by_cases h2 : c = 2
  · subst h2
    by_cases h0 : 0 ≤ t ∧ t ≤ 30
    · have hk : kindB 2 t m = true := by simp [kindB, h0.1, h0.2]
      obtain ⟨h0, h1⟩ := h0
      rw [hk]
      go_enter Tryd.func51, Tryd.ntmps51
      go_wp2_with fail
      go_ret
      exact ⟨rfl, rfl⟩
    · have hk : kindB 2 t m = false := by
        simp [kindB]
        omega
      have h1 : t < 0 ∨ 0 ≤ t ∧ 30 < t := by omega
      rw [hk]
      rcases h1 with h1 | ⟨h1, h3⟩
      all_goals
        go_enter Tryd.func51, Tryd.ntmps51
        go_wp2_with fail
        go_ret
        exact ⟨rfl, rfl⟩
  by_cases h0 : c = 0
  · subst h0
    cases m
    · obtain ⟨r, hr⟩ : ∃ r : Int, (if kindB 0 t false then 0 else 13) = r := ⟨_, rfl⟩
      rw [hr]
      have hc : ∀ i, i < plainT.length → w.cell? ⟨0, i, none⟩ = some (.int .i64 (plainT.getD i 0)) := ht.1
      have hkt : ∀ i, i < 17 → (plainT.getD i 0 == t) = true → r = 0 := by
        intro i hi h
        have h' : plainT.getD i 0 = t := by simpa using h
        have : t ∈ plainT := by
          have hi' : i < plainT.length := by simpa [plainT] using hi
          rw [List.getD_eq_getElem?_getD, List.getElem?_eq_getElem hi', Option.getD_some] at h'
          rw [← h']
          exact List.getElem_mem _
        rw [← hr]
        simp [kindB, this]
      have hkf : (∀ i, i < 17 → plainT.getD i 0 ≠ t) → r = 13 := by
        intro h
        have : t ∉ plainT := by
          intro hm
          obtain ⟨i, hi, e⟩ := List.mem_iff_getElem.1 hm
          exact h i (by simpa [plainT] using hi) (by rw [List.getD_eq_getElem?_getD, List.getElem?_eq_getElem hi, Option.getD_some, e])
        rw [← hr]
        simp [kindB, this]
      have hcc : ∀ i, i < 17 → w.cell? ⟨0, i, none⟩ = some (.int .i64 (plainT.getD i 0)) := fun i hi => hc i (by simpa [plainT] using hi)
      clear hc h2 ht
      have HT := Lib.hid hkt
      have HF := Lib.hid hkf
      have HC := Lib.hid hcc
      clear hkt hkf hcc hr
      go_enter Tryd.func51, Tryd.ntmps51
      go_wp2_with fail
      go_loop [30] (fun i => ∃ k : Nat, (k ≤ 17 ∧ ∀ j, j < k → plainT.getD j 0 ≠ t) ∧ i = .int .i64 k) (fun i => 17 - (intOf i).toNat)
      case atStart => exact ⟨0, ⟨Nat.zero_le _, fun j hj => by omega⟩, rfl⟩
      case round =>
        obtain ⟨k, ⟨hk, hno⟩, rfl⟩ := hrel
        by_cases hlt : k < 17
        · have hcell := HC.out k hlt
          obtain ⟨z, hz⟩ : ∃ z, plainT.getD k 0 = z := ⟨_, rfl⟩
          rw [hz] at hcell
          by_cases heq : (z == t) = true
          · have hk1 := Lib.hid (HT.out k hlt (by rw [hz]; exact heq))
            clear hno hz
            go_wp2_with fail
            go_ret
            exact ⟨by rw [hk1.out]; rfl, rfl⟩
          · have heq' : (z == t) = false := by simpa using heq
            have hno' : ∀ j, j < k + 1 → plainT.getD j 0 ≠ t := by
              intro j hj
              rcases Nat.lt_succ_iff_lt_or_eq.1 hj with h | h
              · exact hno j h
              · subst h; rw [hz]; simpa using heq'
            have HN := Lib.hid hno'
            clear hno hno' heq hz
            go_wp2_with fail
            go_round
            case rel => exact ⟨k + 1, ⟨by omega, HN.out⟩, by go_num⟩
            case measure => simp [intOf]; omega
        · obtain rfl : k = 17 := by omega
          have hk1 := Lib.hid (HF.out hno)
          clear hno
          go_wp2_with fail
          go_ret
          exact ⟨by rw [hk1.out]; rfl, rfl⟩
    · have hc : ∀ i, i < madeT.length → w.cell? ⟨1, i, none⟩ = some (.int .i64 (madeT.getD i 0)) := ht.2
      have c0 : w.cell? ⟨1, 0, none⟩ = some (.int .i64 16) := hc 0 (by decide)
      have c1 : w.cell? ⟨1, 1, none⟩ = some (.int .i64 17) := hc 1 (by decide)
      clear hc h2 ht
      by_cases h6 : t = 16
      · subst h6
        go_enter Tryd.func51, Tryd.ntmps51
        go_wp2_with fail
        refine wp_loop_rounds 3 ?_
        rw [rounds_succ]
        go_wp2_with fail
        go_ret
        exact ⟨rfl, rfl⟩
      by_cases h7 : t = 17
      · subst h7
        go_enter Tryd.func51, Tryd.ntmps51
        go_wp2_with fail
        refine wp_loop_rounds 3 ?_
        iterate 2 (rw [rounds_succ]; go_wp2_with fail)
        go_ret
        exact ⟨rfl, rfl⟩
      · have e6 : (16 == t) = false := by simpa using fun e => h6 e.symm
        have e7 : (17 == t) = false := by simpa using fun e => h7 e.symm
        have hk : kindB 0 t true = false := by simp [kindB, madeT, h6, h7]
        rw [hk]
        clear h6 h7
        go_enter Tryd.func51, Tryd.ntmps51
        go_wp2_with fail
        refine wp_loop_rounds 3 ?_
        iterate 3 (rw [rounds_succ]; go_wp2_with fail)
        go_ret
        exact ⟨rfl, rfl⟩
  · have e2 : (c == 2) = false := by simpa using h2
    have e0 : (c != 0) = true := by simpa using h0
    have hk : kindB c t m = false := by simp [kindB, h2, h0]
    rw [hk]
    clear h2 h0 hk
    go_enter Tryd.func51, Tryd.ntmps51
    go_wp2_with fail
    go_ret
    exact ⟨rfl, rfl⟩

theorem rkind_any (c t : Int) (m : Bool) (w : World) : Calls Tryd.prog 55 #[.int .i64 c, .int .i64 t, .bool m] w fun e w' => e = .returned (.bool (kindB c t m)) ∧ w = w' := by
  by_cases h2 : c = 2
  · subst h2
    have hk : kindB 2 t m = (decide (0 ≤ t) && decide (t ≤ 30)) := by simp [kindB]
    rw [hk]
    clear hk
    rcases Int.lt_or_le t 0 with h1 | h1
    · go_enter Tryd.func55, Tryd.ntmps55
      go_wp2_with fail
      go_ret
      exact ⟨by simp; omega, rfl⟩
    · rcases Int.lt_or_le 30 t with h3 | h3
      all_goals
        go_enter Tryd.func55, Tryd.ntmps55
        go_wp2_with fail
        go_ret
        exact ⟨by simp; omega, rfl⟩
  by_cases h0 : c = 0
  · subst h0
    clear h2
    by_cases hp : t ∈ plainT
    · have hk : kindB 0 t m = !m := by
        cases m
        · simp [kindB, hp]
        · have : t ∉ madeT := fun h => by
            simp [madeT] at h
            rcases h with rfl | rfl <;> revert hp <;> decide
          simp [kindB, this]
      rw [hk]
      clear hk
      simp only [plainT, List.mem_cons, List.not_mem_nil, or_false] at hp
      rcases hp with rfl | rfl | rfl | rfl | rfl | rfl | rfl | rfl | rfl | rfl | rfl | rfl | rfl | rfl | rfl | rfl | rfl
      all_goals
        go_enter Tryd.func55, Tryd.ntmps55
        go_wp2_with fail
        go_ret
        exact ⟨rfl, rfl⟩
    by_cases hm : t ∈ madeT
    · have hk : kindB 0 t m = m := by
        cases m
        · simp [kindB, hp]
        · simp [kindB, hm]
      rw [hk]
      clear hk hp
      simp only [madeT, List.mem_cons, List.not_mem_nil, or_false] at hm
      rcases hm with rfl | rfl
      all_goals
        go_enter Tryd.func55, Tryd.ntmps55
        go_wp2_with fail
        go_ret
        exact ⟨rfl, rfl⟩
    · have hk : kindB 0 t m = false := by cases m <;> simp [kindB, hp, hm]
      rw [hk]
      clear hk
      simp only [plainT, madeT, List.mem_cons, List.not_mem_nil, or_false, not_or] at hp hm
      obtain ⟨a1, a2, a3, a4, a5, a6, a7, a8, a9, b0, b1, b2, b3, b4, b5, b6, b7⟩ := hp
      obtain ⟨c1, c2⟩ := hm
      replace a1 := beq_false_of_ne a1
      replace a2 := beq_false_of_ne a2
      replace a3 := beq_false_of_ne a3
      replace a4 := beq_false_of_ne a4
      replace a5 := beq_false_of_ne a5
      replace a6 := beq_false_of_ne a6
      replace a7 := beq_false_of_ne a7
      replace a8 := beq_false_of_ne a8
      replace a9 := beq_false_of_ne a9
      replace b0 := beq_false_of_ne b0
      replace b1 := beq_false_of_ne b1
      replace b2 := beq_false_of_ne b2
      replace b3 := beq_false_of_ne b3
      replace b4 := beq_false_of_ne b4
      replace b5 := beq_false_of_ne b5
      replace b6 := beq_false_of_ne b6
      replace b7 := beq_false_of_ne b7
      replace c1 := beq_false_of_ne c1
      replace c2 := beq_false_of_ne c2
      go_enter Tryd.func55, Tryd.ntmps55
      go_wp2_with fail
      go_ret
      exact ⟨rfl, rfl⟩
  · have e2 : (c == 2) = false := by simpa using h2
    have e0 : (c != 0) = true := by simpa using h0
    have hk : kindB c t m = false := by simp [kindB, h2, h0]
    rw [hk]
    clear h2 h0 hk
    go_enter Tryd.func55, Tryd.ntmps55
    go_wp2_with fail
    go_ret
    exact ⟨rfl, rfl⟩
end Go.Proofs.YtgjbfgkcbehjnaaDoor

namespace Go.Proofs.YtgjbfgkcbehjnaaDoor
open Go.RowKit

theorem i64_or_nat (a b : Nat) (ha : a < 9223372036854775808) (hb : b < 9223372036854775808) : bits .or .i64 (a : Int) (b : Int) = ((a ||| b : Nat) : Int) := by
  have hx : a ||| b < 2 ^ 63 := Nat.or_lt_two_pow (by omega) (by omega)
  show IntKind.i64.wrap ((BitVec.ofInt 64 (a : Int) ||| BitVec.ofInt 64 (b : Int)).toNat : Int) = _
  rw [BitVec.toNat_or, ofInt_u64 a (by omega), ofInt_u64 b (by omega)]
  simp [IntKind.wrap, IntKind.bits, IntKind.signed]
  omega
theorem i64_or_byte (x b : Nat) (hb : b < 256) (hx : x < 36028797018963968) : bits .or .i64 ((x : Int) * 256) (b : Int) = ((x * 256 + b : Nat) : Int) := by
  rw [show ((x : Int) * 256) = ((x * 256 : Nat) : Int) from by omega, i64_or_nat _ _ (by omega) (by omega)]
  have := Nat.two_pow_add_eq_or_of_lt (i := 8) (b := b) (by omega) x
  rw [show x * 256 = 2 ^ 8 * x from by omega, this]
theorem u8_bit5 (x : Nat) (hx : x < 256) : decide (0 < bits .and .u8 (x : Int) 32) = (x / 32 % 2 == 1) := by
  rw [show (32 : Int) = ((32 : Nat) : Int) from rfl, u8_and_nat _ _ hx (by omega), show (32 : Nat) = 2 ^ 5 from rfl, nat_bit]
  rcases Nat.mod_two_eq_zero_or_one (x / 2 ^ 5) with h | h
  · rw [h]; rfl
  · rw [h]; rfl

/-- A head as a value. -/
def hdV (h : Int × Int × Bool × Int) : Value := .agg #[.int .i64 h.1, .int .i64 h.2.1, .bool h.2.2.1, .int .i64 h.2.2.2]
def hd0 : Int × Int × Bool × Int := (0, 0, false, 0)
/-- The head whose first byte this is. -/
def hdB (b : UInt8) (n : Nat) : Int × Int × Bool × Int := ((b.toNat : Int) / 64, (b.toNat : Int) % 32, b.toNat / 32 % 2 == 1, n)
def topB (b : UInt8) : Bool := kindB ((b.toNat : Int) / 64) ((b.toNat : Int) % 32) (b.toNat / 32 % 2 == 1)
/-- What is read of bytes: the head, how many bytes, the error. -/
def rd : List UInt8 → (Int × Int × Bool × Int) × Int × Int
  | [] => (hd0, 0, 4)
  | [b] => if topB b then (hd0, 1, 4) else (hd0, 0, 13)
  | b :: c :: u =>
    if topB b then
      if c.toNat < 128 then (hdB b c.toNat, 2, 0)
      else if c.toNat = 128 ∨ 131 < c.toNat then (hd0, 1, 13)
      else if u.length < c.toNat - 128 then (hd0, u.length + 2, 4)
      else if be (u.take (c.toNat - 128)) < 128 ∨ be (u.take (c.toNat - 128)) / 256 ^ (c.toNat - 129) = 0 then (hd0, 1, 13)
      else (hdB b (be (u.take (c.toNat - 128))), (c.toNat - 126 : Nat), 0)
    else (hd0, 0, 13)
def rdV (l : List UInt8) : Value := .tuple #[hdV (rd l).1, .int .i64 (rd l).2.1, .int .i64 (rd l).2.2]
theorem rd_bad {b : UInt8} (h : topB b = false) (t : List UInt8) : rd (b :: t) = (hd0, 0, 13) := by
  cases t <;> simp [rd, h]

theorem rd_long {b c : UInt8} {u : List UInt8} {k L : Nat} (htop : topB b = true) (hc : c.toNat = 128 + k) (h1 : 1 ≤ k) (h3 : k ≤ 3) (hu : k ≤ u.length) (hL : be (u.take k) = L) :
    rd (b :: c :: u) = if L < 128 ∨ L / 256 ^ (k - 1) = 0 then (hd0, 1, 13) else (hdB b L, (k : Int) + 2, 0) := by
  have e1 : c.toNat - 128 = k := by omega
  have e2 : c.toNat - 129 = k - 1 := by omega
  have e3 : c.toNat - 126 = k + 2 := by omega
  rw [rd, if_pos htop, if_neg (by omega), if_neg (by omega), e1, e2, e3, if_neg (by omega), hL]
  rfl

set_option maxRecDepth 100000 in
theorem read_nil (w : World) (ok : Nat → Prop) (v : Value) (hv : BR w ok v []) : Calls Tryd.prog 62 #[v] w fun e w' => e = .returned (rdV []) ∧ Kp (fun _ => False) w w' := by
  obtain ⟨A, cp, rfl, hlc, hr⟩ := id hv
  have hkk : Kp (fun _ => False) w (w.alloc (.cells #[.int .i64 0, .int .i64 0, .bool false, .int .i64 0] 85)) := (Kp.refl _ _).alloc _
  have HKK := Lib.hid hkk
  clear hkk
  go_enter Tryd.func62, Tryd.ntmps62
  go_wp2_with fail
  refine bodyPost_ret (v := .tuple #[hdV hd0, .int .i64 0, .int .i64 4]) (by simp [results, Tryd.results62, go_sem, hdV, hd0]) rfl ⟨rfl, HKK.out⟩

set_option maxRecDepth 100000 in
set_option maxHeartbeats 1600000 in
theorem read_bad (w : World) (ok : Nat → Prop) (b : UInt8) (t : List UInt8) (v : Value) (hv : BR w ok v (b :: t)) (htab : Tab w) (hl : (b :: t).length ≤ 140737488355328) (htop : topB b = false) :
    Calls Tryd.prog 62 #[v] w fun e w' => e = .returned (rdV (b :: t)) ∧ Kp (fun _ => False) w w' := by
  obtain ⟨A, cp, rfl, hlc, hr⟩ := id hv
  obtain ⟨g, off, rfl, hok, -⟩ := hr.byte (k := 0) (by simp)
  have hcell : ∀ k (hk : k < (b :: t).length), w.cell? ⟨g, off + k, none⟩ = some (.int .u8 ((b :: t)[k].toNat : Int)) := by
    intro k hk
    obtain ⟨g', off', e', _, h⟩ := hr.byte hk
    simp only [Option.some.injEq, Addr.mk.injEq, and_true] at e'
    obtain ⟨rfl, rfl⟩ := e'
    exact h
  obtain ⟨x, hx⟩ : ∃ x : Nat, b.toNat = x := ⟨_, rfl⟩
  obtain ⟨m, hm'⟩ : ∃ m, (x / 32 % 2 == 1) = m := ⟨_, rfl⟩
  have hlt := b.toNat_lt
  rw [hx] at hlt
  have c0 : w.cell? ⟨g, off, none⟩ = some (.int .u8 x) := by have := hcell 0 (by (try simp); (try omega)); first | (simp [*]; done) | simpa [*] using this
  have d0 : ∀ o, (w.alloc o).cell? ⟨g, off, none⟩ = some (.int .u8 x) := fun o => ((Kp.refl (fun _ => False) w).alloc o).cell c0 (fun h => h)
  have e0 : ∀ o1 o2, ((w.alloc o1).alloc o2).cell? ⟨g, off, none⟩ = some (.int .u8 x) := fun o1 o2 => (((Kp.refl (fun _ => False) w).alloc o1).alloc o2).cell c0 (fun h => h)
  have hm : decide (0 < bits .and .u8 (x : Int) 32) = m := by rw [u8_bit5 x hlt]; exact hm'
  have HK : Hid (¬ kindB (x / 64) (x % 32) m = true) := Lib.hid (by simpa [topB, hx, hm'] using htop)
  have KK : Hid (Kp (fun _ => False) w ((w.alloc (.cells #[.int .i64 0, .int .i64 0, .bool false, .int .i64 0] 85)).alloc (.cells #[.int .i64 (↑x / 64), .int .i64 (↑x % 32), .bool m, .int .i64 0] 85)).drew) := Lib.hid ((((Kp.refl _ _).alloc _).alloc _).drew)
  have HR : Hid (rdV (b :: t) = .tuple #[hdV hd0, .int .i64 0, .int .i64 13]) := Lib.hid (by rw [rdV, rd_bad htop])
  clear hcell hr hv hm' hx htop
  rw [List.length_cons] at *
  generalize t.length = n at *
  go_enter Tryd.func62, Tryd.ntmps62
  go_wp2_with fail
  go_region
  go_wp2_with fail
  refine (kind_any _ _ _ _ (htab.kp KK.out)).mono ?_
  rintro e w2 ⟨rfl, rfl⟩
  rw [if_neg HK.out]
  go_wp2_with fail
  refine bodyPost_ret (v := .tuple #[hdV hd0, .int .i64 0, .int .i64 13]) (by simp [results, Tryd.results62, go_sem, hdV, hd0]) rfl ⟨by rw [HR.out], KK.out⟩

set_option maxRecDepth 100000 in
set_option maxHeartbeats 1600000 in
theorem read_one (w : World) (ok : Nat → Prop) (b : UInt8) (v : Value) (hv : BR w ok v ([b])) (htab : Tab w) (_hl : ([b]).length ≤ 140737488355328) (htop : topB b = true) :
    Calls Tryd.prog 62 #[v] w fun e w' => e = .returned (rdV ([b])) ∧ Kp (fun _ => False) w w' := by
  obtain ⟨A, cp, rfl, hlc, hr⟩ := id hv
  obtain ⟨g, off, rfl, hok, -⟩ := hr.byte (k := 0) (by simp)
  have hcell : ∀ k (hk : k < ([b]).length), w.cell? ⟨g, off + k, none⟩ = some (.int .u8 (([b])[k].toNat : Int)) := by
    intro k hk
    obtain ⟨g', off', e', _, h⟩ := hr.byte hk
    simp only [Option.some.injEq, Addr.mk.injEq, and_true] at e'
    obtain ⟨rfl, rfl⟩ := e'
    exact h
  obtain ⟨x, hx⟩ : ∃ x : Nat, b.toNat = x := ⟨_, rfl⟩
  obtain ⟨m, hm'⟩ : ∃ m, (x / 32 % 2 == 1) = m := ⟨_, rfl⟩
  have hlt := b.toNat_lt
  rw [hx] at hlt
  have c0 : w.cell? ⟨g, off, none⟩ = some (.int .u8 x) := by have := hcell 0 (by (try simp); (try omega)); first | (simp [*]; done) | simpa [*] using this
  have d0 : ∀ o, (w.alloc o).cell? ⟨g, off, none⟩ = some (.int .u8 x) := fun o => ((Kp.refl (fun _ => False) w).alloc o).cell c0 (fun h => h)
  have e0 : ∀ o1 o2, ((w.alloc o1).alloc o2).cell? ⟨g, off, none⟩ = some (.int .u8 x) := fun o1 o2 => (((Kp.refl (fun _ => False) w).alloc o1).alloc o2).cell c0 (fun h => h)
  have hm : decide (0 < bits .and .u8 (x : Int) 32) = m := by rw [u8_bit5 x hlt]; exact hm'
  have HK : Hid (kindB (x / 64) (x % 32) m = true) := Lib.hid (by simpa [topB, hx, hm'] using htop)
  have KK : Hid (Kp (fun _ => False) w ((w.alloc (.cells #[.int .i64 0, .int .i64 0, .bool false, .int .i64 0] 85)).alloc (.cells #[.int .i64 (↑x / 64), .int .i64 (↑x % 32), .bool m, .int .i64 0] 85)).drew) := Lib.hid ((((Kp.refl _ _).alloc _).alloc _).drew)
  have HR : Hid (rdV [b] = .tuple #[hdV hd0, .int .i64 1, .int .i64 4]) := Lib.hid (by simp [rdV, rd, htop])
  clear hcell hr hv hm' hx htop
  rw [List.length_singleton] at *
  go_enter Tryd.func62, Tryd.ntmps62
  go_wp2_with fail
  go_region
  go_wp2_with fail
  refine (kind_any _ _ _ _ (htab.kp KK.out)).mono ?_
  rintro e w2 ⟨rfl, rfl⟩
  rw [if_pos HK.out]
  go_wp2_with fail
  refine bodyPost_ret (v := .tuple #[hdV hd0, .int .i64 1, .int .i64 4]) (by simp [results, Tryd.results62, go_sem, hdV, hd0]) rfl ⟨by rw [HR.out], KK.out⟩

set_option maxRecDepth 100000 in
set_option maxHeartbeats 1600000 in
theorem read_small (w : World) (ok : Nat → Prop) (b c : UInt8) (u : List UInt8) (hc : c.toNat < 128) (v : Value) (hv : BR w ok v (b :: c :: u)) (htab : Tab w) (hl : (b :: c :: u).length ≤ 140737488355328) (htop : topB b = true) :
    Calls Tryd.prog 62 #[v] w fun e w' => e = .returned (rdV (b :: c :: u)) ∧ Kp (fun _ => False) w w' := by
  obtain ⟨A, cp, rfl, hlc, hr⟩ := id hv
  obtain ⟨g, off, rfl, hok, -⟩ := hr.byte (k := 0) (by simp)
  have hcell : ∀ k (hk : k < (b :: c :: u).length), w.cell? ⟨g, off + k, none⟩ = some (.int .u8 ((b :: c :: u)[k].toNat : Int)) := by
    intro k hk
    obtain ⟨g', off', e', _, h⟩ := hr.byte hk
    simp only [Option.some.injEq, Addr.mk.injEq, and_true] at e'
    obtain ⟨rfl, rfl⟩ := e'
    exact h
  obtain ⟨x, hx⟩ : ∃ x : Nat, b.toNat = x := ⟨_, rfl⟩
  obtain ⟨m, hm'⟩ : ∃ m, (x / 32 % 2 == 1) = m := ⟨_, rfl⟩
  have hlt := b.toNat_lt
  rw [hx] at hlt
  obtain ⟨y, hy⟩ : ∃ y : Nat, c.toNat = y := ⟨_, rfl⟩
  rw [hy] at hc
  have c0 : w.cell? ⟨g, off, none⟩ = some (.int .u8 x) := by have := hcell 0 (by (try simp); (try omega)); first | (simp [*]; done) | simpa [*] using this
  have d0 : ∀ o, (w.alloc o).cell? ⟨g, off, none⟩ = some (.int .u8 x) := fun o => ((Kp.refl (fun _ => False) w).alloc o).cell c0 (fun h => h)
  have e0 : ∀ o1 o2, ((w.alloc o1).alloc o2).cell? ⟨g, off, none⟩ = some (.int .u8 x) := fun o1 o2 => (((Kp.refl (fun _ => False) w).alloc o1).alloc o2).cell c0 (fun h => h)
  have c1 : w.cell? ⟨g, off + 1, none⟩ = some (.int .u8 y) := by have := hcell 1 (by (try simp); (try omega)); first | (simp [*]; done) | simpa [*] using this
  have d1 : ∀ o, (w.alloc o).cell? ⟨g, off + 1, none⟩ = some (.int .u8 y) := fun o => ((Kp.refl (fun _ => False) w).alloc o).cell c1 (fun h => h)
  have e1 : ∀ o1 o2, ((w.alloc o1).alloc o2).cell? ⟨g, off + 1, none⟩ = some (.int .u8 y) := fun o1 o2 => (((Kp.refl (fun _ => False) w).alloc o1).alloc o2).cell c1 (fun h => h)
  have hm : decide (0 < bits .and .u8 (x : Int) 32) = m := by rw [u8_bit5 x hlt]; exact hm'
  have HK : Hid (kindB (x / 64) (x % 32) m = true) := Lib.hid (by simpa [topB, hx, hm'] using htop)
  have KK : Hid (Kp (fun _ => False) w ((w.alloc (.cells #[.int .i64 0, .int .i64 0, .bool false, .int .i64 0] 85)).alloc (.cells #[.int .i64 (↑x / 64), .int .i64 (↑x % 32), .bool m, .int .i64 0] 85)).drew) := Lib.hid ((((Kp.refl _ _).alloc _).alloc _).drew)
  have HR : Hid (rdV (b :: c :: u) = .tuple #[hdV (↑x / 64, ↑x % 32, m, ↑y), .int .i64 2, .int .i64 0]) := Lib.hid (by simp [rdV, rd, htop, hy, hc, hdB, hx, hm'])
  clear hcell hr hv hm' hx htop
  rw [List.length_cons, List.length_cons] at *
  generalize u.length = n at *
  clear hy
  have KS0 : ∀ z : Int, Kp (fun _ => False) w ((w.alloc (.cells #[.int .i64 (↑x / 64), .int .i64 (↑x % 32), .bool m, .int .i64 z] 85)).alloc (.cells #[.int .i64 (↑x / 64), .int .i64 (↑x % 32), .bool m, .int .i64 z] 85)).drew := fun z => ((((Kp.refl _ _).alloc _).alloc _).drew)
  have KS := Lib.hid KS0
  clear KS0
  go_enter Tryd.func62, Tryd.ntmps62
  go_wp2_with fail
  go_region
  go_wp2_with fail
  refine (kind_any _ _ _ _ (htab.kp KK.out)).mono ?_
  rintro e w2 ⟨rfl, rfl⟩
  rw [if_pos HK.out]
  go_wp2_with fail
  refine bodyPost_ret (v := .tuple #[hdV (↑x / 64, ↑x % 32, m, ↑y), .int .i64 2, .int .i64 0]) (by simp [results, Tryd.results62, go_sem, hdV]) rfl ⟨by rw [HR.out], KS.out y⟩

set_option maxRecDepth 100000 in
set_option maxHeartbeats 1600000 in
theorem read_128 (w : World) (ok : Nat → Prop) (b c : UInt8) (u : List UInt8) (hc : c.toNat = 128) (v : Value) (hv : BR w ok v (b :: c :: u)) (htab : Tab w) (hl : (b :: c :: u).length ≤ 140737488355328) (htop : topB b = true) :
    Calls Tryd.prog 62 #[v] w fun e w' => e = .returned (rdV (b :: c :: u)) ∧ Kp (fun _ => False) w w' := by
  obtain ⟨A, cp, rfl, hlc, hr⟩ := id hv
  obtain ⟨g, off, rfl, hok, -⟩ := hr.byte (k := 0) (by simp)
  have hcell : ∀ k (hk : k < (b :: c :: u).length), w.cell? ⟨g, off + k, none⟩ = some (.int .u8 ((b :: c :: u)[k].toNat : Int)) := by
    intro k hk
    obtain ⟨g', off', e', _, h⟩ := hr.byte hk
    simp only [Option.some.injEq, Addr.mk.injEq, and_true] at e'
    obtain ⟨rfl, rfl⟩ := e'
    exact h
  obtain ⟨x, hx⟩ : ∃ x : Nat, b.toNat = x := ⟨_, rfl⟩
  obtain ⟨m, hm'⟩ : ∃ m, (x / 32 % 2 == 1) = m := ⟨_, rfl⟩
  have hlt := b.toNat_lt
  rw [hx] at hlt
  obtain ⟨y, hy⟩ : ∃ y : Nat, c.toNat = y := ⟨_, rfl⟩
  rw [hy] at hc
  have c0 : w.cell? ⟨g, off, none⟩ = some (.int .u8 x) := by have := hcell 0 (by (try simp); (try omega)); first | (simp [*]; done) | simpa [*] using this
  have d0 : ∀ o, (w.alloc o).cell? ⟨g, off, none⟩ = some (.int .u8 x) := fun o => ((Kp.refl (fun _ => False) w).alloc o).cell c0 (fun h => h)
  have e0 : ∀ o1 o2, ((w.alloc o1).alloc o2).cell? ⟨g, off, none⟩ = some (.int .u8 x) := fun o1 o2 => (((Kp.refl (fun _ => False) w).alloc o1).alloc o2).cell c0 (fun h => h)
  have c1 : w.cell? ⟨g, off + 1, none⟩ = some (.int .u8 y) := by have := hcell 1 (by (try simp); (try omega)); first | (simp [*]; done) | simpa [*] using this
  have d1 : ∀ o, (w.alloc o).cell? ⟨g, off + 1, none⟩ = some (.int .u8 y) := fun o => ((Kp.refl (fun _ => False) w).alloc o).cell c1 (fun h => h)
  have e1 : ∀ o1 o2, ((w.alloc o1).alloc o2).cell? ⟨g, off + 1, none⟩ = some (.int .u8 y) := fun o1 o2 => (((Kp.refl (fun _ => False) w).alloc o1).alloc o2).cell c1 (fun h => h)
  have hm : decide (0 < bits .and .u8 (x : Int) 32) = m := by rw [u8_bit5 x hlt]; exact hm'
  have HK : Hid (kindB (x / 64) (x % 32) m = true) := Lib.hid (by simpa [topB, hx, hm'] using htop)
  have KK : Hid (Kp (fun _ => False) w ((w.alloc (.cells #[.int .i64 0, .int .i64 0, .bool false, .int .i64 0] 85)).alloc (.cells #[.int .i64 (↑x / 64), .int .i64 (↑x % 32), .bool m, .int .i64 0] 85)).drew) := Lib.hid ((((Kp.refl _ _).alloc _).alloc _).drew)
  have hy2 := c.toNat_lt
  rw [hy] at hy2
  have hq : ¬ y < 128 := by omega
  have HR : Hid (rdV (b :: c :: u) = .tuple #[hdV hd0, .int .i64 1, .int .i64 13]) := Lib.hid (by simp [rdV, rd, htop, hy, hc])
  clear hcell hr hv hm' hx htop
  rw [List.length_cons, List.length_cons] at *
  generalize u.length = n at *
  clear hy
  subst hc
  go_enter Tryd.func62, Tryd.ntmps62
  go_wp2_with fail
  go_region
  go_wp2_with fail
  refine (kind_any _ _ _ _ (htab.kp KK.out)).mono ?_
  rintro e w2 ⟨rfl, rfl⟩
  rw [if_pos HK.out]
  go_wp2_with fail
  refine bodyPost_ret (v := .tuple #[hdV hd0, .int .i64 1, .int .i64 13]) (by simp [results, Tryd.results62, go_sem, hdV, hd0]) rfl ⟨by rw [HR.out], KK.out⟩

set_option maxRecDepth 100000 in
set_option maxHeartbeats 1600000 in
theorem read_132 (w : World) (ok : Nat → Prop) (b c : UInt8) (u : List UInt8) (hc : 131 < c.toNat) (v : Value) (hv : BR w ok v (b :: c :: u)) (htab : Tab w) (hl : (b :: c :: u).length ≤ 140737488355328) (htop : topB b = true) :
    Calls Tryd.prog 62 #[v] w fun e w' => e = .returned (rdV (b :: c :: u)) ∧ Kp (fun _ => False) w w' := by
  obtain ⟨A, cp, rfl, hlc, hr⟩ := id hv
  obtain ⟨g, off, rfl, hok, -⟩ := hr.byte (k := 0) (by simp)
  have hcell : ∀ k (hk : k < (b :: c :: u).length), w.cell? ⟨g, off + k, none⟩ = some (.int .u8 ((b :: c :: u)[k].toNat : Int)) := by
    intro k hk
    obtain ⟨g', off', e', _, h⟩ := hr.byte hk
    simp only [Option.some.injEq, Addr.mk.injEq, and_true] at e'
    obtain ⟨rfl, rfl⟩ := e'
    exact h
  obtain ⟨x, hx⟩ : ∃ x : Nat, b.toNat = x := ⟨_, rfl⟩
  obtain ⟨m, hm'⟩ : ∃ m, (x / 32 % 2 == 1) = m := ⟨_, rfl⟩
  have hlt := b.toNat_lt
  rw [hx] at hlt
  obtain ⟨y, hy⟩ : ∃ y : Nat, c.toNat = y := ⟨_, rfl⟩
  rw [hy] at hc
  have c0 : w.cell? ⟨g, off, none⟩ = some (.int .u8 x) := by have := hcell 0 (by (try simp); (try omega)); first | (simp [*]; done) | simpa [*] using this
  have d0 : ∀ o, (w.alloc o).cell? ⟨g, off, none⟩ = some (.int .u8 x) := fun o => ((Kp.refl (fun _ => False) w).alloc o).cell c0 (fun h => h)
  have e0 : ∀ o1 o2, ((w.alloc o1).alloc o2).cell? ⟨g, off, none⟩ = some (.int .u8 x) := fun o1 o2 => (((Kp.refl (fun _ => False) w).alloc o1).alloc o2).cell c0 (fun h => h)
  have c1 : w.cell? ⟨g, off + 1, none⟩ = some (.int .u8 y) := by have := hcell 1 (by (try simp); (try omega)); first | (simp [*]; done) | simpa [*] using this
  have d1 : ∀ o, (w.alloc o).cell? ⟨g, off + 1, none⟩ = some (.int .u8 y) := fun o => ((Kp.refl (fun _ => False) w).alloc o).cell c1 (fun h => h)
  have e1 : ∀ o1 o2, ((w.alloc o1).alloc o2).cell? ⟨g, off + 1, none⟩ = some (.int .u8 y) := fun o1 o2 => (((Kp.refl (fun _ => False) w).alloc o1).alloc o2).cell c1 (fun h => h)
  have hm : decide (0 < bits .and .u8 (x : Int) 32) = m := by rw [u8_bit5 x hlt]; exact hm'
  have HK : Hid (kindB (x / 64) (x % 32) m = true) := Lib.hid (by simpa [topB, hx, hm'] using htop)
  have KK : Hid (Kp (fun _ => False) w ((w.alloc (.cells #[.int .i64 0, .int .i64 0, .bool false, .int .i64 0] 85)).alloc (.cells #[.int .i64 (↑x / 64), .int .i64 (↑x % 32), .bool m, .int .i64 0] 85)).drew) := Lib.hid ((((Kp.refl _ _).alloc _).alloc _).drew)
  have hy2 := c.toNat_lt
  rw [hy] at hy2
  have hq : ¬ y < 128 := by omega
  have HR : Hid (rdV (b :: c :: u) = .tuple #[hdV hd0, .int .i64 1, .int .i64 13]) := Lib.hid (by simp [rdV, rd, htop, hy, hc, hq])
  clear hcell hr hv hm' hx htop
  rw [List.length_cons, List.length_cons] at *
  generalize u.length = n at *
  clear hy
  have hq2 : ((y : Int) == 128) = false := by simp; omega
  go_enter Tryd.func62, Tryd.ntmps62
  go_wp2_with fail
  go_region
  go_wp2_with fail
  refine (kind_any _ _ _ _ (htab.kp KK.out)).mono ?_
  rintro e w2 ⟨rfl, rfl⟩
  rw [if_pos HK.out]
  go_wp2_with fail
  refine bodyPost_ret (v := .tuple #[hdV hd0, .int .i64 1, .int .i64 13]) (by simp [results, Tryd.results62, go_sem, hdV, hd0]) rfl ⟨by rw [HR.out], KK.out⟩

set_option maxRecDepth 100000 in
set_option maxHeartbeats 1600000 in
theorem read_short1 (w : World) (ok : Nat → Prop) (b c : UInt8) (u : List UInt8) (hc : c.toNat = 129) (hu : u.length < 1) (v : Value) (hv : BR w ok v (b :: c :: u)) (htab : Tab w) (_hl : (b :: c :: u).length ≤ 140737488355328) (htop : topB b = true) :
    Calls Tryd.prog 62 #[v] w fun e w' => e = .returned (rdV (b :: c :: u)) ∧ Kp (fun _ => False) w w' := by
  obtain ⟨A, cp, rfl, hlc, hr⟩ := id hv
  obtain ⟨g, off, rfl, hok, -⟩ := hr.byte (k := 0) (by simp)
  have hcell : ∀ k (hk : k < (b :: c :: u).length), w.cell? ⟨g, off + k, none⟩ = some (.int .u8 ((b :: c :: u)[k].toNat : Int)) := by
    intro k hk
    obtain ⟨g', off', e', _, h⟩ := hr.byte hk
    simp only [Option.some.injEq, Addr.mk.injEq, and_true] at e'
    obtain ⟨rfl, rfl⟩ := e'
    exact h
  obtain ⟨x, hx⟩ : ∃ x : Nat, b.toNat = x := ⟨_, rfl⟩
  obtain ⟨m, hm'⟩ : ∃ m, (x / 32 % 2 == 1) = m := ⟨_, rfl⟩
  have hlt := b.toNat_lt
  rw [hx] at hlt
  have c0 : w.cell? ⟨g, off, none⟩ = some (.int .u8 x) := by have := hcell 0 (by (try simp); (try omega)); first | (simp [*]; done) | simpa [*] using this
  have d0 : ∀ o, (w.alloc o).cell? ⟨g, off, none⟩ = some (.int .u8 x) := fun o => ((Kp.refl (fun _ => False) w).alloc o).cell c0 (fun h => h)
  have e0 : ∀ o1 o2, ((w.alloc o1).alloc o2).cell? ⟨g, off, none⟩ = some (.int .u8 x) := fun o1 o2 => (((Kp.refl (fun _ => False) w).alloc o1).alloc o2).cell c0 (fun h => h)
  have c1 : w.cell? ⟨g, off + 1, none⟩ = some (.int .u8 129) := by have := hcell 1 (by (try simp); (try omega)); first | (simp [*]; done) | simpa [*] using this
  have d1 : ∀ o, (w.alloc o).cell? ⟨g, off + 1, none⟩ = some (.int .u8 129) := fun o => ((Kp.refl (fun _ => False) w).alloc o).cell c1 (fun h => h)
  have e1 : ∀ o1 o2, ((w.alloc o1).alloc o2).cell? ⟨g, off + 1, none⟩ = some (.int .u8 129) := fun o1 o2 => (((Kp.refl (fun _ => False) w).alloc o1).alloc o2).cell c1 (fun h => h)
  have hm : decide (0 < bits .and .u8 (x : Int) 32) = m := by rw [u8_bit5 x hlt]; exact hm'
  have HK : Hid (kindB (x / 64) (x % 32) m = true) := Lib.hid (by simpa [topB, hx, hm'] using htop)
  have KK : Hid (Kp (fun _ => False) w ((w.alloc (.cells #[.int .i64 0, .int .i64 0, .bool false, .int .i64 0] 85)).alloc (.cells #[.int .i64 (↑x / 64), .int .i64 (↑x % 32), .bool m, .int .i64 0] 85)).drew) := Lib.hid ((((Kp.refl _ _).alloc _).alloc _).drew)
  have HR : Hid (rdV (b :: c :: u) = .tuple #[hdV hd0, .int .i64 ((u.length : Int) + 1 + 1), .int .i64 4]) := Lib.hid (by simp [rdV, rd, htop, hc, hu]; omega)
  clear hcell hr hv hm' hx htop
  rw [List.length_cons, List.length_cons] at *
  generalize u.length = n at *
  have hmask : bits .and .u8 129 127 = 1 := by decide
  have hs : (n : Int) + 1 + 1 < 3 := by omega
  clear hc
  go_enter Tryd.func62, Tryd.ntmps62
  go_wp2_with fail
  go_region
  go_wp2_with fail
  refine (kind_any _ _ _ _ (htab.kp KK.out)).mono ?_
  rintro e w2 ⟨rfl, rfl⟩
  rw [if_pos HK.out]
  go_wp2_with fail
  refine bodyPost_ret (v := .tuple #[hdV hd0, .int .i64 ((n : Int) + 1 + 1), .int .i64 4]) (by simp [results, Tryd.results62, go_sem, hdV, hd0]) rfl ⟨by rw [HR.out], KK.out⟩

set_option maxRecDepth 100000 in
set_option maxHeartbeats 1600000 in
theorem read_short2 (w : World) (ok : Nat → Prop) (b c : UInt8) (u : List UInt8) (hc : c.toNat = 130) (hu : u.length < 2) (v : Value) (hv : BR w ok v (b :: c :: u)) (htab : Tab w) (_hl : (b :: c :: u).length ≤ 140737488355328) (htop : topB b = true) :
    Calls Tryd.prog 62 #[v] w fun e w' => e = .returned (rdV (b :: c :: u)) ∧ Kp (fun _ => False) w w' := by
  obtain ⟨A, cp, rfl, hlc, hr⟩ := id hv
  obtain ⟨g, off, rfl, hok, -⟩ := hr.byte (k := 0) (by simp)
  have hcell : ∀ k (hk : k < (b :: c :: u).length), w.cell? ⟨g, off + k, none⟩ = some (.int .u8 ((b :: c :: u)[k].toNat : Int)) := by
    intro k hk
    obtain ⟨g', off', e', _, h⟩ := hr.byte hk
    simp only [Option.some.injEq, Addr.mk.injEq, and_true] at e'
    obtain ⟨rfl, rfl⟩ := e'
    exact h
  obtain ⟨x, hx⟩ : ∃ x : Nat, b.toNat = x := ⟨_, rfl⟩
  obtain ⟨m, hm'⟩ : ∃ m, (x / 32 % 2 == 1) = m := ⟨_, rfl⟩
  have hlt := b.toNat_lt
  rw [hx] at hlt
  have c0 : w.cell? ⟨g, off, none⟩ = some (.int .u8 x) := by have := hcell 0 (by (try simp); (try omega)); first | (simp [*]; done) | simpa [*] using this
  have d0 : ∀ o, (w.alloc o).cell? ⟨g, off, none⟩ = some (.int .u8 x) := fun o => ((Kp.refl (fun _ => False) w).alloc o).cell c0 (fun h => h)
  have e0 : ∀ o1 o2, ((w.alloc o1).alloc o2).cell? ⟨g, off, none⟩ = some (.int .u8 x) := fun o1 o2 => (((Kp.refl (fun _ => False) w).alloc o1).alloc o2).cell c0 (fun h => h)
  have c1 : w.cell? ⟨g, off + 1, none⟩ = some (.int .u8 130) := by have := hcell 1 (by (try simp); (try omega)); first | (simp [*]; done) | simpa [*] using this
  have d1 : ∀ o, (w.alloc o).cell? ⟨g, off + 1, none⟩ = some (.int .u8 130) := fun o => ((Kp.refl (fun _ => False) w).alloc o).cell c1 (fun h => h)
  have e1 : ∀ o1 o2, ((w.alloc o1).alloc o2).cell? ⟨g, off + 1, none⟩ = some (.int .u8 130) := fun o1 o2 => (((Kp.refl (fun _ => False) w).alloc o1).alloc o2).cell c1 (fun h => h)
  have hm : decide (0 < bits .and .u8 (x : Int) 32) = m := by rw [u8_bit5 x hlt]; exact hm'
  have HK : Hid (kindB (x / 64) (x % 32) m = true) := Lib.hid (by simpa [topB, hx, hm'] using htop)
  have KK : Hid (Kp (fun _ => False) w ((w.alloc (.cells #[.int .i64 0, .int .i64 0, .bool false, .int .i64 0] 85)).alloc (.cells #[.int .i64 (↑x / 64), .int .i64 (↑x % 32), .bool m, .int .i64 0] 85)).drew) := Lib.hid ((((Kp.refl _ _).alloc _).alloc _).drew)
  have HR : Hid (rdV (b :: c :: u) = .tuple #[hdV hd0, .int .i64 ((u.length : Int) + 1 + 1), .int .i64 4]) := Lib.hid (by simp [rdV, rd, htop, hc, hu]; omega)
  clear hcell hr hv hm' hx htop
  rw [List.length_cons, List.length_cons] at *
  generalize u.length = n at *
  have hmask : bits .and .u8 130 127 = 2 := by decide
  have hs : (n : Int) + 1 + 1 < 4 := by omega
  clear hc
  go_enter Tryd.func62, Tryd.ntmps62
  go_wp2_with fail
  go_region
  go_wp2_with fail
  refine (kind_any _ _ _ _ (htab.kp KK.out)).mono ?_
  rintro e w2 ⟨rfl, rfl⟩
  rw [if_pos HK.out]
  go_wp2_with fail
  refine bodyPost_ret (v := .tuple #[hdV hd0, .int .i64 ((n : Int) + 1 + 1), .int .i64 4]) (by simp [results, Tryd.results62, go_sem, hdV, hd0]) rfl ⟨by rw [HR.out], KK.out⟩

set_option maxRecDepth 100000 in
set_option maxHeartbeats 1600000 in
theorem read_short3 (w : World) (ok : Nat → Prop) (b c : UInt8) (u : List UInt8) (hc : c.toNat = 131) (hu : u.length < 3) (v : Value) (hv : BR w ok v (b :: c :: u)) (htab : Tab w) (_hl : (b :: c :: u).length ≤ 140737488355328) (htop : topB b = true) :
    Calls Tryd.prog 62 #[v] w fun e w' => e = .returned (rdV (b :: c :: u)) ∧ Kp (fun _ => False) w w' := by
  obtain ⟨A, cp, rfl, hlc, hr⟩ := id hv
  obtain ⟨g, off, rfl, hok, -⟩ := hr.byte (k := 0) (by simp)
  have hcell : ∀ k (hk : k < (b :: c :: u).length), w.cell? ⟨g, off + k, none⟩ = some (.int .u8 ((b :: c :: u)[k].toNat : Int)) := by
    intro k hk
    obtain ⟨g', off', e', _, h⟩ := hr.byte hk
    simp only [Option.some.injEq, Addr.mk.injEq, and_true] at e'
    obtain ⟨rfl, rfl⟩ := e'
    exact h
  obtain ⟨x, hx⟩ : ∃ x : Nat, b.toNat = x := ⟨_, rfl⟩
  obtain ⟨m, hm'⟩ : ∃ m, (x / 32 % 2 == 1) = m := ⟨_, rfl⟩
  have hlt := b.toNat_lt
  rw [hx] at hlt
  have c0 : w.cell? ⟨g, off, none⟩ = some (.int .u8 x) := by have := hcell 0 (by (try simp); (try omega)); first | (simp [*]; done) | simpa [*] using this
  have d0 : ∀ o, (w.alloc o).cell? ⟨g, off, none⟩ = some (.int .u8 x) := fun o => ((Kp.refl (fun _ => False) w).alloc o).cell c0 (fun h => h)
  have e0 : ∀ o1 o2, ((w.alloc o1).alloc o2).cell? ⟨g, off, none⟩ = some (.int .u8 x) := fun o1 o2 => (((Kp.refl (fun _ => False) w).alloc o1).alloc o2).cell c0 (fun h => h)
  have c1 : w.cell? ⟨g, off + 1, none⟩ = some (.int .u8 131) := by have := hcell 1 (by (try simp); (try omega)); first | (simp [*]; done) | simpa [*] using this
  have d1 : ∀ o, (w.alloc o).cell? ⟨g, off + 1, none⟩ = some (.int .u8 131) := fun o => ((Kp.refl (fun _ => False) w).alloc o).cell c1 (fun h => h)
  have e1 : ∀ o1 o2, ((w.alloc o1).alloc o2).cell? ⟨g, off + 1, none⟩ = some (.int .u8 131) := fun o1 o2 => (((Kp.refl (fun _ => False) w).alloc o1).alloc o2).cell c1 (fun h => h)
  have hm : decide (0 < bits .and .u8 (x : Int) 32) = m := by rw [u8_bit5 x hlt]; exact hm'
  have HK : Hid (kindB (x / 64) (x % 32) m = true) := Lib.hid (by simpa [topB, hx, hm'] using htop)
  have KK : Hid (Kp (fun _ => False) w ((w.alloc (.cells #[.int .i64 0, .int .i64 0, .bool false, .int .i64 0] 85)).alloc (.cells #[.int .i64 (↑x / 64), .int .i64 (↑x % 32), .bool m, .int .i64 0] 85)).drew) := Lib.hid ((((Kp.refl _ _).alloc _).alloc _).drew)
  have HR : Hid (rdV (b :: c :: u) = .tuple #[hdV hd0, .int .i64 ((u.length : Int) + 1 + 1), .int .i64 4]) := Lib.hid (by simp [rdV, rd, htop, hc, hu]; omega)
  clear hcell hr hv hm' hx htop
  rw [List.length_cons, List.length_cons] at *
  generalize u.length = n at *
  have hmask : bits .and .u8 131 127 = 3 := by decide
  have hs : (n : Int) + 1 + 1 < 5 := by omega
  clear hc
  go_enter Tryd.func62, Tryd.ntmps62
  go_wp2_with fail
  go_region
  go_wp2_with fail
  refine (kind_any _ _ _ _ (htab.kp KK.out)).mono ?_
  rintro e w2 ⟨rfl, rfl⟩
  rw [if_pos HK.out]
  go_wp2_with fail
  refine bodyPost_ret (v := .tuple #[hdV hd0, .int .i64 ((n : Int) + 1 + 1), .int .i64 4]) (by simp [results, Tryd.results62, go_sem, hdV, hd0]) rfl ⟨by rw [HR.out], KK.out⟩

end Go.Proofs.YtgjbfgkcbehjnaaDoor

namespace Go.Proofs.YtgjbfgkcbehjnaaDoor
open Go.RowKit

theorem u8_info3 : (Tryd.prog.info? 5).map (fun i => (i.zero, i.size, i.bytes)) = some (some (.int .u8 0), 1, 1) := by kernel_rfl

theorem Own.lit (w : World) (l : List UInt8) (cs : Array Value) (n B : Nat) (hn : l.length = n) (hcs : cs = (bc l).toArray) (hB : B ≤ w.heap.size) (hm : n ≤ maxLen) :
    Own (w.alloc (.cells cs 5)) (B ≤ ·) 5 1 (.slice (some ⟨w.heap.size, 0, none⟩) n n) n (bc l) := by
  subst hn hcs
  refine ⟨⟨by rw [bc_length]; omega, .inr ⟨w.heap.size, l.length, _, rfl, Nat.zero_le _, heap_alloc_new w _, Nat.le_refl _, hm, by simp [bc_length], ?_⟩⟩, fun k hk => ?_⟩
  · rw [Nat.mul_one]
    exact List.take_of_length_le (by rw [bc_length]; omega)
  · have : w.heap.size = k := by simpa [Value.ownBlock] using hk
    omega

/-- append of bytes to bytes of the call's own. -/
theorem app_bytes {w : World} {ops : Array Oper} {rest : List Oper} {o : Oper} {a : Act} {Q : Exit → Act → World → Prop} (hgd : o.guard = none) (s x : Operand)
    (ho : o.op = .call { callee := .builtin .append, args := #[s, x], argTypes := #[22, 22] })
    (B : Nat) (A : Option Addr) (n c : Nat) (l : List UInt8) (hs : a.eval s = .slice A n c) (_hn : l.length = n) (hown : Own w (B ≤ ·) 5 1 (.slice A n c) n (bc l))
    (ok : Nat → Prop) (Ax : Option Addr) (m cx : Nat) (lx : List UInt8) (hx : a.eval x = .slice Ax m cx) (hm : lx.length = m) (hr : BR w ok (.slice Ax m cx) lx)
    (k : Nat) (hk : n + m = k) (hk2 : k ≤ 140737488355328) (hB : B ≤ w.heap.size)
    (h : ∀ A' c' w', Own w' (B ≤ ·) 5 1 (.slice A' k c') k (bc (l ++ lx)) → Kp (B ≤ ·) w w' → wpList Tryd.prog ops Q rest (a.put o.dst (.slice A' k c')) w') : wpList Tryd.prog ops Q (o :: rest) a w := by
  obtain ⟨i0, hi0, hz0, hz1, hz2⟩ := info_parts u8_info3
  obtain ⟨Ax', cx', e, hcx, hrd⟩ := hr
  injection e with e1 e2 e3
  subst e1 e3
  rw [hm] at hrd
  refine wpList_append_any w hgd s x _ ho 0 5 i0 _ 1 1 Tryd.underlying22 hi0 hz0 hz1 hz2 rfl (by omega) (.slice A n c) n (bc l) hs hown.1 ok Ax m cx (bc lx) hx hrd (bc_one _) (by simp only [maxLen]; omega) (by omega) (Nat.zero_le _) ?_
  intro v' w' h1 h2 h3
  rw [hk, ← bc_append] at h1
  have hk' : Kp (B ≤ ·) w w' := (Kp.refl _ _).grown h2 (fun j hj => .inl (hown.2 j hj))
  have ho' : Own w' (B ≤ ·) 5 1 v' k (bc (l ++ lx)) := ⟨h1, fun j hj => by
    rcases h3 with e | e
    · exact hown.2 j (e ▸ hj)
    · rw [e] at hj
      injection hj with hj
      omega⟩
  obtain ⟨A', c', e, _⟩ := ho'.shape
  subst e
  exact h A' c' w' ho' hk'

theorem Own.br {w : World} {ok : Nat → Prop} {A : Option Addr} {n c : Nat} {l : List UInt8} (h : Own w ok 5 1 (.slice A n c) n (bc l)) (hn : l.length = n) : BR w ok (.slice A n c) l := by
  obtain ⟨A', c', e, hc⟩ := h.shape
  injection e with e1 e2 e3
  subst e1 e3 hn
  exact ⟨A, c, rfl, hc, h.rd⟩

/-- A call's own turns leave what was there. -/
theorem Kp.base {w w1 w2 : World} (h : Kp (fun _ => False) w w1) (k : Kp (w.heap.size ≤ ·) w1 w2) : Kp (fun _ => False) w w2 := h.then_ k (fun _ hi => .inr hi)
end Go.Proofs.YtgjbfgkcbehjnaaDoor

namespace Go.Proofs.YtgjbfgkcbehjnaaDoor
open Go.RowKit

theorem bitLen_ge1 : ∀ n : Fin 256, n.val ≠ 0 → 1 ≤ Lib.bitLen n.val := by decide +kernel
theorem bitLen_top : ∀ n : Fin 256, 128 ≤ n.val → Lib.bitLen n.val = 8 := by decide +kernel

set_option maxHeartbeats 4000000 in
set_option maxRecDepth 100000 in
theorem len64_any (x : Int) (w : World) (h0 : 0 ≤ x) (h1 : x ≤ 16777215) :
    Calls Tryd.prog 91 #[.int .u64 x] w fun e w' => e = .returned (.int .i64 (Lib.bitLen x.toNat)) ∧ w = w' := by
  have h2 : x ≤ 255 ∨ (256 ≤ x ∧ x ≤ 65535) ∨ 65536 ≤ x := by omega
  rcases h2 with h2 | ⟨h2, h3⟩ | h2
  · go_enter Tryd.func91, Tryd.ntmps91
    go_wp2
    go_ret
    refine ⟨congrArg Ending.returned (congrArg (Value.int IntKind.i64) ?_), rfl⟩
    rw [Lib.len8_of x h0 h2]
    have l := Lib.bitLen_le8' x h0 h2
    simp only [wrap64]
    omega
  · have h4 : 0 ≤ x / 256 := by omega
    have h5 : x / 256 ≤ 255 := by omega
    go_enter Tryd.func91, Tryd.ntmps91
    go_wp2
    go_ret
    refine ⟨congrArg Ending.returned (congrArg (Value.int IntKind.i64) ?_), rfl⟩
    rw [Lib.len8_of (x / 256) h4 h5]
    have l := Lib.bitLen_le8' (x / 256) h4 h5
    have e : (x / 256).toNat = x.toNat / 256 := by omega
    have s := Lib.bitLen_shift8 x.toNat (by omega) (by omega)
    rw [e] at l ⊢
    simp only [wrap64]
    omega
  · have h4 : 0 ≤ x / 65536 := by omega
    have h5 : x / 65536 ≤ 255 := by omega
    go_enter Tryd.func91, Tryd.ntmps91
    go_wp2
    go_ret
    refine ⟨congrArg Ending.returned (congrArg (Value.int IntKind.i64) ?_), rfl⟩
    rw [Lib.len8_of (x / 65536) h4 h5]
    have l := Lib.bitLen_le8' (x / 65536) h4 h5
    have e : (x / 65536).toNat = x.toNat / 65536 := by omega
    have s := Lib.bitLen_shift16 x.toNat (by omega) (by omega)
    rw [e] at l ⊢
    simp only [wrap64]
    omega

theorem len_any (x : Int) (w : World) (h0 : 0 ≤ x) (h1 : x ≤ 16777215) :
    Calls Tryd.prog 72 #[.int .u64 x] w fun e w' => e = .returned (.int .i64 (Lib.bitLen x.toNat)) ∧ w = w' := by
  go_enter Tryd.func72, Tryd.ntmps72
  go_wp2_with (go_at_call 91; ((with_reducible refine (len64_any _ _ h0 h1).mono ?_); rintro e w' ⟨rfl, rfl⟩))
  go_ret
  exact ⟨rfl, rfl⟩

/-- So many bytes have the lengths from 128 on. -/
theorem len_bytes (n : Nat) (h : 128 ≤ n) (h1 : n ≤ 16777215) : ∃ L : Nat, Lib.bitLen n = L ∧ (L + 7) / 8 = (if n < 256 then 1 else if n < 65536 then 2 else 3) := by
  refine ⟨_, rfl, ?_⟩
  split
  · rw [show Lib.bitLen n = 8 from bitLen_top ⟨n, by omega⟩ h]
  · split
    · have s := Lib.bitLen_shift8 n (by omega) (by omega)
      have l := Lib.bitLen_le8 ⟨n / 256, by omega⟩
      have g := bitLen_ge1 ⟨n / 256, by omega⟩ (show n / 256 ≠ 0 by omega)
      simp only at l g
      omega
    · have s := Lib.bitLen_shift16 n (by omega) (by omega)
      have l := Lib.bitLen_le8 ⟨n / 65536, by omega⟩
      have g := bitLen_ge1 ⟨n / 65536, by omega⟩ (show n / 65536 ≠ 0 by omega)
      simp only at l g
      omega

/-! ### A head's bytes. -/
def hb (c t : Int) (m : Bool) : UInt8 := UInt8.ofNat (c * 64 + t + if m then 32 else 0).toNat
def lenB (n : Nat) : List UInt8 := if n < 128 then [UInt8.ofNat n] else if n < 256 then [129, UInt8.ofNat n] else if n < 65536 then 130 :: beB 2 n else 131 :: beB 3 n
def pt (c t : Int) (m : Bool) (n : Int) : List UInt8 × Int :=
  if kindB c t m then (if n < 0 ∨ 16777215 < n then ([], 5) else (hb c t m :: lenB n.toNat, 0)) else ([], 13)
def PutP (c t : Int) (m : Bool) (n : Int) (w : World) (e : Ending) (w' : World) : Prop :=
  ∃ A cp, e = .returned (.tuple #[.slice A (pt c t m n).1.length cp, .int .i64 (pt c t m n).2]) ∧ BR w' (w.heap.size ≤ ·) (.slice A (pt c t m n).1.length cp) (pt c t m n).1 ∧ Kp (fun _ => False) w w'

theorem kindB_cases {c t : Int} {m : Bool} (h : kindB c t m = true) : (c = 0 ∨ c = 2) ∧ 0 ≤ t ∧ t ≤ 30 := by
  simp only [kindB, Bool.or_eq_true, Bool.and_eq_true, decide_eq_true_eq, beq_iff_eq] at h
  rcases h with ⟨h1, h2⟩ | ⟨h1, h2⟩
  · exact ⟨.inr h1, h2⟩
  · refine ⟨.inl h1, ?_⟩
    cases m <;> simp [madeT, plainT] at h2 <;> omega

set_option maxRecDepth 100000 in
theorem put_bad (w : World) (ht : Tab w) (c t : Int) (m : Bool) (n : Int) (hk : kindB c t m = false) : Calls Tryd.prog 54 #[.agg #[.int .i64 c, .int .i64 t, .bool m, .int .i64 n]] w (PutP c t m n w) := by
  have kk : Kp (fun _ => False) w (w.alloc (.cells #[.int .i64 c, .int .i64 t, .bool m, .int .i64 n] 85)) := (Kp.refl _ _).alloc _
  have hP : PutP c t m n w (.returned (.tuple #[.slice none 0 0, .int .i64 13])) (w.alloc (.cells #[.int .i64 c, .int .i64 t, .bool m, .int .i64 n] 85)) := by
    rw [PutP, show pt c t m n = ([], 13) from by rw [pt, if_neg (by rw [hk]; decide)]]
    exact ⟨none, 0, rfl, BR.nil, kk⟩
  have HP := Lib.hid hP
  have HK := Lib.hid hk
  clear hP hk
  go_enter Tryd.func54, Tryd.ntmps54
  go_wp2_with fail
  refine (kind_any _ _ _ _ (ht.kp kk)).mono ?_
  rintro e w2 ⟨rfl, rfl⟩
  rw [if_neg (by rw [HK.out]; decide)]
  go_wp2_with fail
  go_ret2
  exact HP.out

set_option maxRecDepth 100000 in
theorem put_len (w : World) (ht : Tab w) (c t : Int) (m : Bool) (n : Int) (hk : kindB c t m = true) (hn : n < 0 ∨ 16777215 < n) : Calls Tryd.prog 54 #[.agg #[.int .i64 c, .int .i64 t, .bool m, .int .i64 n]] w (PutP c t m n w) := by
  have kk : Kp (fun _ => False) w (w.alloc (.cells #[.int .i64 c, .int .i64 t, .bool m, .int .i64 n] 85)) := (Kp.refl _ _).alloc _
  have hP : PutP c t m n w (.returned (.tuple #[.slice none 0 0, .int .i64 5])) (w.alloc (.cells #[.int .i64 c, .int .i64 t, .bool m, .int .i64 n] 85)) := by
    rw [PutP, show pt c t m n = ([], 5) from by rw [pt, if_pos hk, if_pos hn]]
    exact ⟨none, 0, rfl, BR.nil, kk⟩
  have HP := Lib.hid hP
  have HK := Lib.hid hk
  have hn2 : n < 0 ∨ 0 ≤ n ∧ 16777215 < n := by omega
  clear hP hk hn
  rcases hn2 with hn2 | ⟨hn2, hn3⟩
  all_goals
    go_enter Tryd.func54, Tryd.ntmps54
    go_wp2_with fail
    refine (kind_any _ _ _ _ (ht.kp kk)).mono ?_
    rintro e w2 ⟨rfl, rfl⟩
    rw [if_pos HK.out]
    go_wp2_with fail
    go_ret2
    exact HP.out

/-- The first byte, as it is made. -/
theorem hb_first {c t : Int} {m : Bool} (h : kindB c t m = true) : ∃ f g : Nat, bits .or .i64 (c * 64) t = f ∧ f < 256 ∧ bits .or .u8 (f : Int) 32 = g ∧ hb c t m = UInt8.ofNat (if m then g else f) ∧ g < 256 ∧ (f : Int) = c * 64 + t ∧ g = f + 32 := by
  obtain ⟨hc, h0, h1⟩ := kindB_cases h
  obtain ⟨T, rfl⟩ := Int.eq_ofNat_of_zero_le h0
  have hT : T < 32 := by omega
  have key : ∀ C : Nat, C = 0 ∨ C = 2 → (C * 64 ||| T = C * 64 + T) ∧ ((C * 64 + T) ||| 32 = C * 64 + T + 32) := by
    rintro C (rfl | rfl)
    · refine ⟨by simp, ?_⟩
      have := Nat.two_pow_add_eq_or_of_lt (i := 5) (b := T) (by omega) 1
      simp only [Nat.zero_mul, Nat.zero_add]
      rw [Nat.or_comm, show (32 : Nat) = 2 ^ 5 * 1 from rfl, ← this]
      omega
    · have a1 := Nat.two_pow_add_eq_or_of_lt (i := 7) (b := T) (by omega) 1
      have a2 := Nat.two_pow_add_eq_or_of_lt (i := 5) (b := T) (by omega) 1
      have e1 : 2 * 64 ||| T = 2 * 64 + T := by
        rw [show (2 * 64 : Nat) = 2 ^ 7 * 1 from rfl, ← a1]
      refine ⟨e1, ?_⟩
      rw [← e1, Nat.or_assoc, Nat.or_comm T 32, show (32 : Nat) = 2 ^ 5 * 1 from rfl, ← a2, show (2 * 64 : Nat) = 2 ^ 7 * 1 from rfl, ← Nat.two_pow_add_eq_or_of_lt (i := 7) (by omega) 1, e1]
      omega
  obtain ⟨C, rfl, hC⟩ : ∃ C : Nat, c = C ∧ (C = 0 ∨ C = 2) := by
    rcases hc with rfl | rfl
    · exact ⟨0, rfl, .inl rfl⟩
    · exact ⟨2, rfl, .inr rfl⟩
  obtain ⟨k1, k2⟩ := key C hC
  have b1 : C * 64 + T < 256 := by omega
  refine ⟨C * 64 + T, C * 64 + T + 32, ?_, b1, ?_, ?_, by omega, by omega, rfl⟩
  · rw [show ((C : Int) * 64) = ((C * 64 : Nat) : Int) from by omega, i64_or_nat _ _ (by omega) (by omega), k1]
  · rw [show (32 : Int) = ((32 : Nat) : Int) from rfl, u8_or_nat _ _ b1 (by omega), k2]
  · rw [hb]
    congr 1
    cases m <;> simp <;> omega

set_option maxRecDepth 100000 in
set_option maxHeartbeats 1600000 in
theorem put_ok_f0 (w : World) (ht : Tab w) (c t : Int) (n : Nat) (hk : kindB c t false = true) (h1 : 0 ≤ n) (h2 : n < 128) : Calls Tryd.prog 54 #[.agg #[.int .i64 c, .int .i64 t, .bool false, .int .i64 n]] w (PutP c t false n w) := by
  obtain ⟨hcc, ht0, ht1⟩ := kindB_cases hk
  obtain ⟨f, g, hf, hf2, hg, hhb, hg2, -, -⟩ := hb_first hk
  have kk : Kp (fun _ => False) w (w.alloc (.cells #[.int .i64 c, .int .i64 t, .bool false, .int .i64 n] 85)) := (Kp.refl _ _).alloc _
  have hpt : pt c t false n = (UInt8.ofNat f :: [UInt8.ofNat n], 0) := by
    rw [pt, if_pos hk, if_neg (by omega), hhb, Int.toNat_natCast, lenB]
    simp only [if_pos h2]
    rfl
  have hP : ∀ A cp w', BR w' (w.heap.size ≤ ·) (.slice A 2 cp) (UInt8.ofNat f :: [UInt8.ofNat n]) → Kp (fun _ => False) w w' → PutP c t false n w (.returned (.tuple #[.slice A 2 cp, .int .i64 0])) w' := by
    intro A cp w' q1 q2
    rw [PutP, hpt]
    exact ⟨A, cp, rfl, q1, q2⟩
  have HP := Lib.hid hP
  have HK := Lib.hid hk
  clear hP hk hpt hhb
  have hF : (UInt8.ofNat f).toNat = f := by rw [UInt8.toNat_ofNat']; omega
  have hlit : #[Value.int .u8 (f : Int), .int .u8 (n : Int)] = (bc [UInt8.ofNat f, UInt8.ofNat n]).toArray := by
    simp only [bc, List.map_cons, List.map_nil, hF, UInt8.toNat_ofNat', show n % 2 ^ 8 = n from by omega]
  have HB := Lib.hid (fun W : World => BR.lit W 5 [UInt8.ofNat f, UInt8.ofNat n] _ 2 rfl hlit)
  clear hlit hF
  go_enter Tryd.func54, Tryd.ntmps54
  go_wp2_with fail
  refine (kind_any _ _ _ _ (ht.kp kk)).mono ?_
  rintro e w2 ⟨rfl, rfl⟩
  rw [if_pos HK.out]
  go_wp2_with fail
  go_ret2
  refine HP.out _ _ _ ?_ (kk.alloc _)
  have := HB.out (w.alloc (.cells #[.int .i64 c, .int .i64 t, .bool false, .int .i64 n] 85))
  simp only [World.size_alloc] at this
  exact this.mono (fun i hi => by subst hi; (try simp); (try omega))

set_option maxRecDepth 100000 in
set_option maxHeartbeats 1600000 in
theorem put_ok_f1 (w : World) (ht : Tab w) (c t : Int) (n : Nat) (hk : kindB c t false = true) (h1 : 128 ≤ n) (h2 : n < 256) : Calls Tryd.prog 54 #[.agg #[.int .i64 c, .int .i64 t, .bool false, .int .i64 n]] w (PutP c t false n w) := by
  obtain ⟨hcc, ht0, ht1⟩ := kindB_cases hk
  obtain ⟨f, g, hf, hf2, hg, hhb, hg2, -, -⟩ := hb_first hk
  have kk : Kp (fun _ => False) w (w.alloc (.cells #[.int .i64 c, .int .i64 t, .bool false, .int .i64 n] 85)) := (Kp.refl _ _).alloc _
  have hpt : pt c t false n = (UInt8.ofNat f :: [129, UInt8.ofNat n], 0) := by
    rw [pt, if_pos hk, if_neg (by omega), hhb, Int.toNat_natCast, lenB]
    simp only [if_neg (show ¬ n < 128 by omega), if_pos h2]
    rfl
  have hP : ∀ A cp w', BR w' (w.heap.size ≤ ·) (.slice A 3 cp) (UInt8.ofNat f :: [129, UInt8.ofNat n]) → Kp (fun _ => False) w w' → PutP c t false n w (.returned (.tuple #[.slice A 3 cp, .int .i64 0])) w' := by
    intro A cp w' q1 q2
    rw [PutP, hpt]
    exact ⟨A, cp, rfl, q1, q2⟩
  have HP := Lib.hid hP
  have HK := Lib.hid hk
  clear hP hk hpt hhb
  have hF : (UInt8.ofNat f).toNat = f := by rw [UInt8.toNat_ofNat']; omega
  obtain ⟨L, hL, hL8⟩ := len_bytes n (by omega) (by omega)
  rw [if_pos h2] at hL8
  have d1 : ((L : Int) + 7).tdiv 8 = 1 := by rw [Int.tdiv_eq_ediv_of_nonneg (by omega)]; omega
  have d2 : ((L : Int) + 7) / 8 = 1 := by omega
  have hL64 : L ≤ 64 := by omega
  have o1 : bits .or .i64 128 1 = 129 := by decide
  have hlit : #[Value.int .u8 (f : Int), .int .u8 129] = (bc [UInt8.ofNat f, 129]).toArray := by
    simp only [bc, List.map_cons, List.map_nil, hF]
    rfl
  have HO := Lib.hid (fun (W : World) (B : Nat) (hB : B ≤ W.heap.size) => Own.lit W [UInt8.ofNat f, 129] _ 2 B rfl hlit hB (by decide))
  have hl0 : #[Value.int .u8 ((n : Int))] = (bc [UInt8.ofNat (n)]).toArray := by
    simp only [bc, List.map_cons, List.map_nil, UInt8.toNat_ofNat']
    congr 3
    try omega
  have HL0 := Lib.hid (fun W : World => BR.lit W 5 [UInt8.ofNat (n)] _ 1 rfl hl0)
  clear hlit hF hL8 hl0
  have HLen := Lib.hid hL
  clear hL
  go_enter Tryd.func54, Tryd.ntmps54
  go_wp2_with fail
  refine (kind_any _ _ _ _ (ht.kp kk)).mono ?_
  rintro e w2 ⟨rfl, rfl⟩
  rw [if_pos HK.out]
  go_wp2_with fail
  refine (len_any _ _ (by omega) (by omega)).mono ?_
  rw [Int.toNat_natCast, HLen.out]
  rintro e w2 ⟨rfl, rfl⟩
  go_wp2_with fail
  refine wp_loop_rounds 2 ?_
  have o0 := HO.out (w.alloc (.cells #[.int .i64 c, .int .i64 t, .bool false, .int .i64 n] 85)) (w.heap.size + 1) (by simp)
  simp only [World.size_alloc] at o0
  have b0 := (Blk.new w 85 #[.int .i64 c, .int .i64 t, .bool false, .int .i64 n]).alloc (.cells #[.int .u8 (f : Int), .int .u8 129] 5)
  have k0 := kk.alloc (.cells #[.int .u8 (f : Int), .int .u8 129] 5)
  have z0 : w.heap.size + 1 ≤ ((w.alloc (.cells #[.int .i64 c, .int .i64 t, .bool false, .int .i64 n] 85)).alloc (.cells #[.int .u8 (f : Int), .int .u8 129] 5)).heap.size := by simp
  generalize (w.alloc (.cells #[.int .i64 c, .int .i64 t, .bool false, .int .i64 n] 85)).alloc (.cells #[.int .u8 (f : Int), .int .u8 129] 5) = W0 at o0 b0 k0 z0 ⊢
  have c0 := b0.cell 3
  have O0 := Lib.hid (o0.kp ((Kp.refl (fun _ => False) W0).alloc (.cells #[.int .u8 ((n : Int))] 5)) (fun _ _ h => h))
  rw [rounds_succ]
  go_wp2_with (at_builtin; refine app_bytes rfl (.tmp 63) (.tmp 70) rfl (w.heap.size + 1) _ 2 _ [UInt8.ofNat f, 129] rfl rfl O0.out (· = W0.heap.size) _ 1 1 [UInt8.ofNat (n)] rfl rfl (HL0.out W0) 3 rfl (by omega) (by simp; omega) ?_; intro A1 c1' W1 o1 q1)
  have k1 := k0.then_ (((Kp.refl _ _).alloc (.cells #[.int .u8 ((n : Int))] 5)).then_ (S := (w.heap.size + 1 ≤ ·)) q1 (fun _ h => .inl h)) (fun i hi => .inr (by omega))
  have b1 := (b0.alloc (.cells #[.int .u8 ((n : Int))] 5)).kp q1 (by omega)
  have z1 : w.heap.size + 1 ≤ W1.heap.size := by have := q1.size; simp at this; omega
  rw [rounds_succ]
  go_wp2_with fail
  go_ret2
  exact HP.out _ _ _ ((o1.br rfl).mono (fun i hi => by omega)) k1

set_option maxRecDepth 100000 in
set_option maxHeartbeats 1600000 in
theorem put_ok_f2 (w : World) (ht : Tab w) (c t : Int) (n : Nat) (hk : kindB c t false = true) (h1 : 256 ≤ n) (h2 : n < 65536) : Calls Tryd.prog 54 #[.agg #[.int .i64 c, .int .i64 t, .bool false, .int .i64 n]] w (PutP c t false n w) := by
  obtain ⟨hcc, ht0, ht1⟩ := kindB_cases hk
  obtain ⟨f, g, hf, hf2, hg, hhb, hg2, -, -⟩ := hb_first hk
  have kk : Kp (fun _ => False) w (w.alloc (.cells #[.int .i64 c, .int .i64 t, .bool false, .int .i64 n] 85)) := (Kp.refl _ _).alloc _
  have hpt : pt c t false n = (UInt8.ofNat f :: [130, UInt8.ofNat (n / 256), UInt8.ofNat n], 0) := by
    rw [pt, if_pos hk, if_neg (by omega), hhb, Int.toNat_natCast, lenB]
    simp only [if_neg (show ¬ n < 128 by omega), if_neg (show ¬ n < 256 by omega), if_pos h2, beB, List.nil_append, List.cons_append]
    rfl
  have hP : ∀ A cp w', BR w' (w.heap.size ≤ ·) (.slice A 4 cp) (UInt8.ofNat f :: [130, UInt8.ofNat (n / 256), UInt8.ofNat n]) → Kp (fun _ => False) w w' → PutP c t false n w (.returned (.tuple #[.slice A 4 cp, .int .i64 0])) w' := by
    intro A cp w' q1 q2
    rw [PutP, hpt]
    exact ⟨A, cp, rfl, q1, q2⟩
  have HP := Lib.hid hP
  have HK := Lib.hid hk
  clear hP hk hpt hhb
  have hF : (UInt8.ofNat f).toNat = f := by rw [UInt8.toNat_ofNat']; omega
  obtain ⟨L, hL, hL8⟩ := len_bytes n (by omega) (by omega)
  rw [if_neg (by omega), if_pos h2] at hL8
  have d1 : ((L : Int) + 7).tdiv 8 = 2 := by rw [Int.tdiv_eq_ediv_of_nonneg (by omega)]; omega
  have d2 : ((L : Int) + 7) / 8 = 2 := by omega
  have hL64 : L ≤ 64 := by omega
  have o1 : bits .or .i64 128 2 = 130 := by decide
  have hlit : #[Value.int .u8 (f : Int), .int .u8 130] = (bc [UInt8.ofNat f, 130]).toArray := by
    simp only [bc, List.map_cons, List.map_nil, hF]
    rfl
  have HO := Lib.hid (fun (W : World) (B : Nat) (hB : B ≤ W.heap.size) => Own.lit W [UInt8.ofNat f, 130] _ 2 B rfl hlit hB (by decide))
  have hl0 : #[Value.int .u8 ((n : Int) / 256)] = (bc [UInt8.ofNat (n / 256)]).toArray := by
    simp only [bc, List.map_cons, List.map_nil, UInt8.toNat_ofNat']
    congr 3
    try omega
  have HL0 := Lib.hid (fun W : World => BR.lit W 5 [UInt8.ofNat (n / 256)] _ 1 rfl hl0)
  have hl1 : #[Value.int .u8 ((n : Int) % 256)] = (bc [UInt8.ofNat (n)]).toArray := by
    simp only [bc, List.map_cons, List.map_nil, UInt8.toNat_ofNat']
    congr 3
    try omega
  have HL1 := Lib.hid (fun W : World => BR.lit W 5 [UInt8.ofNat (n)] _ 1 rfl hl1)
  clear hlit hF hL8 hl0 hl1
  have HLen := Lib.hid hL
  clear hL
  go_enter Tryd.func54, Tryd.ntmps54
  go_wp2_with fail
  refine (kind_any _ _ _ _ (ht.kp kk)).mono ?_
  rintro e w2 ⟨rfl, rfl⟩
  rw [if_pos HK.out]
  go_wp2_with fail
  refine (len_any _ _ (by omega) (by omega)).mono ?_
  rw [Int.toNat_natCast, HLen.out]
  rintro e w2 ⟨rfl, rfl⟩
  go_wp2_with fail
  refine wp_loop_rounds 3 ?_
  have o0 := HO.out (w.alloc (.cells #[.int .i64 c, .int .i64 t, .bool false, .int .i64 n] 85)) (w.heap.size + 1) (by simp)
  simp only [World.size_alloc] at o0
  have b0 := (Blk.new w 85 #[.int .i64 c, .int .i64 t, .bool false, .int .i64 n]).alloc (.cells #[.int .u8 (f : Int), .int .u8 130] 5)
  have k0 := kk.alloc (.cells #[.int .u8 (f : Int), .int .u8 130] 5)
  have z0 : w.heap.size + 1 ≤ ((w.alloc (.cells #[.int .i64 c, .int .i64 t, .bool false, .int .i64 n] 85)).alloc (.cells #[.int .u8 (f : Int), .int .u8 130] 5)).heap.size := by simp
  generalize (w.alloc (.cells #[.int .i64 c, .int .i64 t, .bool false, .int .i64 n] 85)).alloc (.cells #[.int .u8 (f : Int), .int .u8 130] 5) = W0 at o0 b0 k0 z0 ⊢
  have c0 := b0.cell 3
  have O0 := Lib.hid (o0.kp ((Kp.refl (fun _ => False) W0).alloc (.cells #[.int .u8 ((n : Int) / 256)] 5)) (fun _ _ h => h))
  rw [rounds_succ]
  go_wp2_with (at_builtin; refine app_bytes rfl (.tmp 63) (.tmp 70) rfl (w.heap.size + 1) _ 2 _ [UInt8.ofNat f, 130] rfl rfl O0.out (· = W0.heap.size) _ 1 1 [UInt8.ofNat (n / 256)] rfl rfl (HL0.out W0) 3 rfl (by omega) (by simp; omega) ?_; intro A1 c1' W1 o1 q1)
  have k1 := k0.then_ (((Kp.refl _ _).alloc (.cells #[.int .u8 ((n : Int) / 256)] 5)).then_ (S := (w.heap.size + 1 ≤ ·)) q1 (fun _ h => .inl h)) (fun i hi => .inr (by omega))
  have b1 := (b0.alloc (.cells #[.int .u8 ((n : Int) / 256)] 5)).kp q1 (by omega)
  have z1 : w.heap.size + 1 ≤ W1.heap.size := by have := q1.size; simp at this; omega
  have c1 := b1.cell 3
  have O1 := Lib.hid (o1.kp ((Kp.refl (fun _ => False) W1).alloc (.cells #[.int .u8 ((n : Int) % 256)] 5)) (fun _ _ h => h))
  rw [rounds_succ]
  go_wp2_with (at_builtin; refine app_bytes rfl (.tmp 63) (.tmp 70) rfl (w.heap.size + 1) _ 3 _ ([UInt8.ofNat f, 130] ++ [UInt8.ofNat (n / 256)]) rfl rfl O1.out (· = W1.heap.size) _ 1 1 [UInt8.ofNat (n)] rfl rfl (HL1.out W1) 4 rfl (by omega) (by simp; omega) ?_; intro A2 c2' W2 o2 q2)
  have k2 := k1.then_ (((Kp.refl _ _).alloc (.cells #[.int .u8 ((n : Int) % 256)] 5)).then_ (S := (w.heap.size + 1 ≤ ·)) q2 (fun _ h => .inl h)) (fun i hi => .inr (by omega))
  have b2 := (b1.alloc (.cells #[.int .u8 ((n : Int) % 256)] 5)).kp q2 (by omega)
  have z2 : w.heap.size + 1 ≤ W2.heap.size := by have := q2.size; simp at this; omega
  rw [rounds_succ]
  go_wp2_with fail
  go_ret2
  exact HP.out _ _ _ ((o2.br rfl).mono (fun i hi => by omega)) k2

set_option maxRecDepth 100000 in
set_option maxHeartbeats 1600000 in
theorem put_ok_f3 (w : World) (ht : Tab w) (c t : Int) (n : Nat) (hk : kindB c t false = true) (h1 : 65536 ≤ n) (h2 : n < 16777216) : Calls Tryd.prog 54 #[.agg #[.int .i64 c, .int .i64 t, .bool false, .int .i64 n]] w (PutP c t false n w) := by
  obtain ⟨hcc, ht0, ht1⟩ := kindB_cases hk
  obtain ⟨f, g, hf, hf2, hg, hhb, hg2, -, -⟩ := hb_first hk
  have kk : Kp (fun _ => False) w (w.alloc (.cells #[.int .i64 c, .int .i64 t, .bool false, .int .i64 n] 85)) := (Kp.refl _ _).alloc _
  have hpt : pt c t false n = (UInt8.ofNat f :: [131, UInt8.ofNat (n / 65536), UInt8.ofNat (n / 256), UInt8.ofNat n], 0) := by
    rw [pt, if_pos hk, if_neg (by omega), hhb, Int.toNat_natCast, lenB]
    simp only [if_neg (show ¬ n < 128 by omega), if_neg (show ¬ n < 256 by omega), if_neg (show ¬ n < 65536 by omega), beB, List.nil_append, List.cons_append, Nat.div_div_eq_div_mul]
    rfl
  have hP : ∀ A cp w', BR w' (w.heap.size ≤ ·) (.slice A 5 cp) (UInt8.ofNat f :: [131, UInt8.ofNat (n / 65536), UInt8.ofNat (n / 256), UInt8.ofNat n]) → Kp (fun _ => False) w w' → PutP c t false n w (.returned (.tuple #[.slice A 5 cp, .int .i64 0])) w' := by
    intro A cp w' q1 q2
    rw [PutP, hpt]
    exact ⟨A, cp, rfl, q1, q2⟩
  have HP := Lib.hid hP
  have HK := Lib.hid hk
  clear hP hk hpt hhb
  have hF : (UInt8.ofNat f).toNat = f := by rw [UInt8.toNat_ofNat']; omega
  obtain ⟨L, hL, hL8⟩ := len_bytes n (by omega) (by omega)
  rw [if_neg (by omega), if_neg (by omega)] at hL8
  have d1 : ((L : Int) + 7).tdiv 8 = 3 := by rw [Int.tdiv_eq_ediv_of_nonneg (by omega)]; omega
  have d2 : ((L : Int) + 7) / 8 = 3 := by omega
  have hL64 : L ≤ 64 := by omega
  have o1 : bits .or .i64 128 3 = 131 := by decide
  have hlit : #[Value.int .u8 (f : Int), .int .u8 131] = (bc [UInt8.ofNat f, 131]).toArray := by
    simp only [bc, List.map_cons, List.map_nil, hF]
    rfl
  have HO := Lib.hid (fun (W : World) (B : Nat) (hB : B ≤ W.heap.size) => Own.lit W [UInt8.ofNat f, 131] _ 2 B rfl hlit hB (by decide))
  have hl0 : #[Value.int .u8 ((n : Int) / 65536)] = (bc [UInt8.ofNat (n / 65536)]).toArray := by
    simp only [bc, List.map_cons, List.map_nil, UInt8.toNat_ofNat']
    congr 3
    try omega
  have HL0 := Lib.hid (fun W : World => BR.lit W 5 [UInt8.ofNat (n / 65536)] _ 1 rfl hl0)
  have hl1 : #[Value.int .u8 ((n : Int) / 256 % 256)] = (bc [UInt8.ofNat (n / 256)]).toArray := by
    simp only [bc, List.map_cons, List.map_nil, UInt8.toNat_ofNat']
    congr 3
    try omega
  have HL1 := Lib.hid (fun W : World => BR.lit W 5 [UInt8.ofNat (n / 256)] _ 1 rfl hl1)
  have hl2 : #[Value.int .u8 ((n : Int) % 256)] = (bc [UInt8.ofNat (n)]).toArray := by
    simp only [bc, List.map_cons, List.map_nil, UInt8.toNat_ofNat']
    congr 3
    try omega
  have HL2 := Lib.hid (fun W : World => BR.lit W 5 [UInt8.ofNat (n)] _ 1 rfl hl2)
  clear hlit hF hL8 hl0 hl1 hl2
  have HLen := Lib.hid hL
  clear hL
  go_enter Tryd.func54, Tryd.ntmps54
  go_wp2_with fail
  refine (kind_any _ _ _ _ (ht.kp kk)).mono ?_
  rintro e w2 ⟨rfl, rfl⟩
  rw [if_pos HK.out]
  go_wp2_with fail
  refine (len_any _ _ (by omega) (by omega)).mono ?_
  rw [Int.toNat_natCast, HLen.out]
  rintro e w2 ⟨rfl, rfl⟩
  go_wp2_with fail
  refine wp_loop_rounds 4 ?_
  have o0 := HO.out (w.alloc (.cells #[.int .i64 c, .int .i64 t, .bool false, .int .i64 n] 85)) (w.heap.size + 1) (by simp)
  simp only [World.size_alloc] at o0
  have b0 := (Blk.new w 85 #[.int .i64 c, .int .i64 t, .bool false, .int .i64 n]).alloc (.cells #[.int .u8 (f : Int), .int .u8 131] 5)
  have k0 := kk.alloc (.cells #[.int .u8 (f : Int), .int .u8 131] 5)
  have z0 : w.heap.size + 1 ≤ ((w.alloc (.cells #[.int .i64 c, .int .i64 t, .bool false, .int .i64 n] 85)).alloc (.cells #[.int .u8 (f : Int), .int .u8 131] 5)).heap.size := by simp
  generalize (w.alloc (.cells #[.int .i64 c, .int .i64 t, .bool false, .int .i64 n] 85)).alloc (.cells #[.int .u8 (f : Int), .int .u8 131] 5) = W0 at o0 b0 k0 z0 ⊢
  have c0 := b0.cell 3
  have O0 := Lib.hid (o0.kp ((Kp.refl (fun _ => False) W0).alloc (.cells #[.int .u8 ((n : Int) / 65536)] 5)) (fun _ _ h => h))
  rw [rounds_succ]
  go_wp2_with (at_builtin; refine app_bytes rfl (.tmp 63) (.tmp 70) rfl (w.heap.size + 1) _ 2 _ [UInt8.ofNat f, 131] rfl rfl O0.out (· = W0.heap.size) _ 1 1 [UInt8.ofNat (n / 65536)] rfl rfl (HL0.out W0) 3 rfl (by omega) (by simp; omega) ?_; intro A1 c1' W1 o1 q1)
  have k1 := k0.then_ (((Kp.refl _ _).alloc (.cells #[.int .u8 ((n : Int) / 65536)] 5)).then_ (S := (w.heap.size + 1 ≤ ·)) q1 (fun _ h => .inl h)) (fun i hi => .inr (by omega))
  have b1 := (b0.alloc (.cells #[.int .u8 ((n : Int) / 65536)] 5)).kp q1 (by omega)
  have z1 : w.heap.size + 1 ≤ W1.heap.size := by have := q1.size; simp at this; omega
  have c1 := b1.cell 3
  have O1 := Lib.hid (o1.kp ((Kp.refl (fun _ => False) W1).alloc (.cells #[.int .u8 ((n : Int) / 256 % 256)] 5)) (fun _ _ h => h))
  rw [rounds_succ]
  go_wp2_with (at_builtin; refine app_bytes rfl (.tmp 63) (.tmp 70) rfl (w.heap.size + 1) _ 3 _ ([UInt8.ofNat f, 131] ++ [UInt8.ofNat (n / 65536)]) rfl rfl O1.out (· = W1.heap.size) _ 1 1 [UInt8.ofNat (n / 256)] rfl rfl (HL1.out W1) 4 rfl (by omega) (by simp; omega) ?_; intro A2 c2' W2 o2 q2)
  have k2 := k1.then_ (((Kp.refl _ _).alloc (.cells #[.int .u8 ((n : Int) / 256 % 256)] 5)).then_ (S := (w.heap.size + 1 ≤ ·)) q2 (fun _ h => .inl h)) (fun i hi => .inr (by omega))
  have b2 := (b1.alloc (.cells #[.int .u8 ((n : Int) / 256 % 256)] 5)).kp q2 (by omega)
  have z2 : w.heap.size + 1 ≤ W2.heap.size := by have := q2.size; simp at this; omega
  have c2 := b2.cell 3
  have O2 := Lib.hid (o2.kp ((Kp.refl (fun _ => False) W2).alloc (.cells #[.int .u8 ((n : Int) % 256)] 5)) (fun _ _ h => h))
  rw [rounds_succ]
  go_wp2_with (at_builtin; refine app_bytes rfl (.tmp 63) (.tmp 70) rfl (w.heap.size + 1) _ 4 _ (([UInt8.ofNat f, 131] ++ [UInt8.ofNat (n / 65536)]) ++ [UInt8.ofNat (n / 256)]) rfl rfl O2.out (· = W2.heap.size) _ 1 1 [UInt8.ofNat (n)] rfl rfl (HL2.out W2) 5 rfl (by omega) (by simp; omega) ?_; intro A3 c3' W3 o3 q3)
  have k3 := k2.then_ (((Kp.refl _ _).alloc (.cells #[.int .u8 ((n : Int) % 256)] 5)).then_ (S := (w.heap.size + 1 ≤ ·)) q3 (fun _ h => .inl h)) (fun i hi => .inr (by omega))
  have b3 := (b2.alloc (.cells #[.int .u8 ((n : Int) % 256)] 5)).kp q3 (by omega)
  have z3 : w.heap.size + 1 ≤ W3.heap.size := by have := q3.size; simp at this; omega
  rw [rounds_succ]
  go_wp2_with fail
  go_ret2
  exact HP.out _ _ _ ((o3.br rfl).mono (fun i hi => by omega)) k3

set_option maxRecDepth 100000 in
set_option maxHeartbeats 1600000 in
theorem put_ok_t0 (w : World) (ht : Tab w) (c t : Int) (n : Nat) (hk : kindB c t true = true) (h1 : 0 ≤ n) (h2 : n < 128) : Calls Tryd.prog 54 #[.agg #[.int .i64 c, .int .i64 t, .bool true, .int .i64 n]] w (PutP c t true n w) := by
  obtain ⟨hcc, ht0, ht1⟩ := kindB_cases hk
  obtain ⟨f, g, hf, hf2, hg, hhb, hg2, -, -⟩ := hb_first hk
  have kk : Kp (fun _ => False) w (w.alloc (.cells #[.int .i64 c, .int .i64 t, .bool true, .int .i64 n] 85)) := (Kp.refl _ _).alloc _
  have hpt : pt c t true n = (UInt8.ofNat g :: [UInt8.ofNat n], 0) := by
    rw [pt, if_pos hk, if_neg (by omega), hhb, Int.toNat_natCast, lenB]
    simp only [if_pos h2]
    rfl
  have hP : ∀ A cp w', BR w' (w.heap.size ≤ ·) (.slice A 2 cp) (UInt8.ofNat g :: [UInt8.ofNat n]) → Kp (fun _ => False) w w' → PutP c t true n w (.returned (.tuple #[.slice A 2 cp, .int .i64 0])) w' := by
    intro A cp w' q1 q2
    rw [PutP, hpt]
    exact ⟨A, cp, rfl, q1, q2⟩
  have HP := Lib.hid hP
  have HK := Lib.hid hk
  clear hP hk hpt hhb
  have hF : (UInt8.ofNat g).toNat = g := by rw [UInt8.toNat_ofNat']; omega
  have hlit : #[Value.int .u8 (g : Int), .int .u8 (n : Int)] = (bc [UInt8.ofNat g, UInt8.ofNat n]).toArray := by
    simp only [bc, List.map_cons, List.map_nil, hF, UInt8.toNat_ofNat', show n % 2 ^ 8 = n from by omega]
  have HB := Lib.hid (fun W : World => BR.lit W 5 [UInt8.ofNat g, UInt8.ofNat n] _ 2 rfl hlit)
  clear hlit hF
  go_enter Tryd.func54, Tryd.ntmps54
  go_wp2_with fail
  refine (kind_any _ _ _ _ (ht.kp kk)).mono ?_
  rintro e w2 ⟨rfl, rfl⟩
  rw [if_pos HK.out]
  go_wp2_with fail
  go_ret2
  refine HP.out _ _ _ ?_ (kk.alloc _)
  have := HB.out (w.alloc (.cells #[.int .i64 c, .int .i64 t, .bool true, .int .i64 n] 85))
  simp only [World.size_alloc] at this
  exact this.mono (fun i hi => by subst hi; (try simp); (try omega))

set_option maxRecDepth 100000 in
set_option maxHeartbeats 1600000 in
theorem put_ok_t1 (w : World) (ht : Tab w) (c t : Int) (n : Nat) (hk : kindB c t true = true) (h1 : 128 ≤ n) (h2 : n < 256) : Calls Tryd.prog 54 #[.agg #[.int .i64 c, .int .i64 t, .bool true, .int .i64 n]] w (PutP c t true n w) := by
  obtain ⟨hcc, ht0, ht1⟩ := kindB_cases hk
  obtain ⟨f, g, hf, hf2, hg, hhb, hg2, -, -⟩ := hb_first hk
  have kk : Kp (fun _ => False) w (w.alloc (.cells #[.int .i64 c, .int .i64 t, .bool true, .int .i64 n] 85)) := (Kp.refl _ _).alloc _
  have hpt : pt c t true n = (UInt8.ofNat g :: [129, UInt8.ofNat n], 0) := by
    rw [pt, if_pos hk, if_neg (by omega), hhb, Int.toNat_natCast, lenB]
    simp only [if_neg (show ¬ n < 128 by omega), if_pos h2]
    rfl
  have hP : ∀ A cp w', BR w' (w.heap.size ≤ ·) (.slice A 3 cp) (UInt8.ofNat g :: [129, UInt8.ofNat n]) → Kp (fun _ => False) w w' → PutP c t true n w (.returned (.tuple #[.slice A 3 cp, .int .i64 0])) w' := by
    intro A cp w' q1 q2
    rw [PutP, hpt]
    exact ⟨A, cp, rfl, q1, q2⟩
  have HP := Lib.hid hP
  have HK := Lib.hid hk
  clear hP hk hpt hhb
  have hF : (UInt8.ofNat g).toNat = g := by rw [UInt8.toNat_ofNat']; omega
  obtain ⟨L, hL, hL8⟩ := len_bytes n (by omega) (by omega)
  rw [if_pos h2] at hL8
  have d1 : ((L : Int) + 7).tdiv 8 = 1 := by rw [Int.tdiv_eq_ediv_of_nonneg (by omega)]; omega
  have d2 : ((L : Int) + 7) / 8 = 1 := by omega
  have hL64 : L ≤ 64 := by omega
  have o1 : bits .or .i64 128 1 = 129 := by decide
  have hlit : #[Value.int .u8 (g : Int), .int .u8 129] = (bc [UInt8.ofNat g, 129]).toArray := by
    simp only [bc, List.map_cons, List.map_nil, hF]
    rfl
  have HO := Lib.hid (fun (W : World) (B : Nat) (hB : B ≤ W.heap.size) => Own.lit W [UInt8.ofNat g, 129] _ 2 B rfl hlit hB (by decide))
  have hl0 : #[Value.int .u8 ((n : Int))] = (bc [UInt8.ofNat (n)]).toArray := by
    simp only [bc, List.map_cons, List.map_nil, UInt8.toNat_ofNat']
    congr 3
    try omega
  have HL0 := Lib.hid (fun W : World => BR.lit W 5 [UInt8.ofNat (n)] _ 1 rfl hl0)
  clear hlit hF hL8 hl0
  have HLen := Lib.hid hL
  clear hL
  go_enter Tryd.func54, Tryd.ntmps54
  go_wp2_with fail
  refine (kind_any _ _ _ _ (ht.kp kk)).mono ?_
  rintro e w2 ⟨rfl, rfl⟩
  rw [if_pos HK.out]
  go_wp2_with fail
  refine (len_any _ _ (by omega) (by omega)).mono ?_
  rw [Int.toNat_natCast, HLen.out]
  rintro e w2 ⟨rfl, rfl⟩
  go_wp2_with fail
  refine wp_loop_rounds 2 ?_
  have o0 := HO.out (w.alloc (.cells #[.int .i64 c, .int .i64 t, .bool true, .int .i64 n] 85)) (w.heap.size + 1) (by simp)
  simp only [World.size_alloc] at o0
  have b0 := (Blk.new w 85 #[.int .i64 c, .int .i64 t, .bool true, .int .i64 n]).alloc (.cells #[.int .u8 (g : Int), .int .u8 129] 5)
  have k0 := kk.alloc (.cells #[.int .u8 (g : Int), .int .u8 129] 5)
  have z0 : w.heap.size + 1 ≤ ((w.alloc (.cells #[.int .i64 c, .int .i64 t, .bool true, .int .i64 n] 85)).alloc (.cells #[.int .u8 (g : Int), .int .u8 129] 5)).heap.size := by simp
  generalize (w.alloc (.cells #[.int .i64 c, .int .i64 t, .bool true, .int .i64 n] 85)).alloc (.cells #[.int .u8 (g : Int), .int .u8 129] 5) = W0 at o0 b0 k0 z0 ⊢
  have c0 := b0.cell 3
  have O0 := Lib.hid (o0.kp ((Kp.refl (fun _ => False) W0).alloc (.cells #[.int .u8 ((n : Int))] 5)) (fun _ _ h => h))
  rw [rounds_succ]
  go_wp2_with (at_builtin; refine app_bytes rfl (.tmp 63) (.tmp 70) rfl (w.heap.size + 1) _ 2 _ [UInt8.ofNat g, 129] rfl rfl O0.out (· = W0.heap.size) _ 1 1 [UInt8.ofNat (n)] rfl rfl (HL0.out W0) 3 rfl (by omega) (by simp; omega) ?_; intro A1 c1' W1 o1 q1)
  have k1 := k0.then_ (((Kp.refl _ _).alloc (.cells #[.int .u8 ((n : Int))] 5)).then_ (S := (w.heap.size + 1 ≤ ·)) q1 (fun _ h => .inl h)) (fun i hi => .inr (by omega))
  have b1 := (b0.alloc (.cells #[.int .u8 ((n : Int))] 5)).kp q1 (by omega)
  have z1 : w.heap.size + 1 ≤ W1.heap.size := by have := q1.size; simp at this; omega
  rw [rounds_succ]
  go_wp2_with fail
  go_ret2
  exact HP.out _ _ _ ((o1.br rfl).mono (fun i hi => by omega)) k1

set_option maxRecDepth 100000 in
set_option maxHeartbeats 1600000 in
theorem put_ok_t2 (w : World) (ht : Tab w) (c t : Int) (n : Nat) (hk : kindB c t true = true) (h1 : 256 ≤ n) (h2 : n < 65536) : Calls Tryd.prog 54 #[.agg #[.int .i64 c, .int .i64 t, .bool true, .int .i64 n]] w (PutP c t true n w) := by
  obtain ⟨hcc, ht0, ht1⟩ := kindB_cases hk
  obtain ⟨f, g, hf, hf2, hg, hhb, hg2, -, -⟩ := hb_first hk
  have kk : Kp (fun _ => False) w (w.alloc (.cells #[.int .i64 c, .int .i64 t, .bool true, .int .i64 n] 85)) := (Kp.refl _ _).alloc _
  have hpt : pt c t true n = (UInt8.ofNat g :: [130, UInt8.ofNat (n / 256), UInt8.ofNat n], 0) := by
    rw [pt, if_pos hk, if_neg (by omega), hhb, Int.toNat_natCast, lenB]
    simp only [if_neg (show ¬ n < 128 by omega), if_neg (show ¬ n < 256 by omega), if_pos h2, beB, List.nil_append, List.cons_append]
    rfl
  have hP : ∀ A cp w', BR w' (w.heap.size ≤ ·) (.slice A 4 cp) (UInt8.ofNat g :: [130, UInt8.ofNat (n / 256), UInt8.ofNat n]) → Kp (fun _ => False) w w' → PutP c t true n w (.returned (.tuple #[.slice A 4 cp, .int .i64 0])) w' := by
    intro A cp w' q1 q2
    rw [PutP, hpt]
    exact ⟨A, cp, rfl, q1, q2⟩
  have HP := Lib.hid hP
  have HK := Lib.hid hk
  clear hP hk hpt hhb
  have hF : (UInt8.ofNat g).toNat = g := by rw [UInt8.toNat_ofNat']; omega
  obtain ⟨L, hL, hL8⟩ := len_bytes n (by omega) (by omega)
  rw [if_neg (by omega), if_pos h2] at hL8
  have d1 : ((L : Int) + 7).tdiv 8 = 2 := by rw [Int.tdiv_eq_ediv_of_nonneg (by omega)]; omega
  have d2 : ((L : Int) + 7) / 8 = 2 := by omega
  have hL64 : L ≤ 64 := by omega
  have o1 : bits .or .i64 128 2 = 130 := by decide
  have hlit : #[Value.int .u8 (g : Int), .int .u8 130] = (bc [UInt8.ofNat g, 130]).toArray := by
    simp only [bc, List.map_cons, List.map_nil, hF]
    rfl
  have HO := Lib.hid (fun (W : World) (B : Nat) (hB : B ≤ W.heap.size) => Own.lit W [UInt8.ofNat g, 130] _ 2 B rfl hlit hB (by decide))
  have hl0 : #[Value.int .u8 ((n : Int) / 256)] = (bc [UInt8.ofNat (n / 256)]).toArray := by
    simp only [bc, List.map_cons, List.map_nil, UInt8.toNat_ofNat']
    congr 3
    try omega
  have HL0 := Lib.hid (fun W : World => BR.lit W 5 [UInt8.ofNat (n / 256)] _ 1 rfl hl0)
  have hl1 : #[Value.int .u8 ((n : Int) % 256)] = (bc [UInt8.ofNat (n)]).toArray := by
    simp only [bc, List.map_cons, List.map_nil, UInt8.toNat_ofNat']
    congr 3
    try omega
  have HL1 := Lib.hid (fun W : World => BR.lit W 5 [UInt8.ofNat (n)] _ 1 rfl hl1)
  clear hlit hF hL8 hl0 hl1
  have HLen := Lib.hid hL
  clear hL
  go_enter Tryd.func54, Tryd.ntmps54
  go_wp2_with fail
  refine (kind_any _ _ _ _ (ht.kp kk)).mono ?_
  rintro e w2 ⟨rfl, rfl⟩
  rw [if_pos HK.out]
  go_wp2_with fail
  refine (len_any _ _ (by omega) (by omega)).mono ?_
  rw [Int.toNat_natCast, HLen.out]
  rintro e w2 ⟨rfl, rfl⟩
  go_wp2_with fail
  refine wp_loop_rounds 3 ?_
  have o0 := HO.out (w.alloc (.cells #[.int .i64 c, .int .i64 t, .bool true, .int .i64 n] 85)) (w.heap.size + 1) (by simp)
  simp only [World.size_alloc] at o0
  have b0 := (Blk.new w 85 #[.int .i64 c, .int .i64 t, .bool true, .int .i64 n]).alloc (.cells #[.int .u8 (g : Int), .int .u8 130] 5)
  have k0 := kk.alloc (.cells #[.int .u8 (g : Int), .int .u8 130] 5)
  have z0 : w.heap.size + 1 ≤ ((w.alloc (.cells #[.int .i64 c, .int .i64 t, .bool true, .int .i64 n] 85)).alloc (.cells #[.int .u8 (g : Int), .int .u8 130] 5)).heap.size := by simp
  generalize (w.alloc (.cells #[.int .i64 c, .int .i64 t, .bool true, .int .i64 n] 85)).alloc (.cells #[.int .u8 (g : Int), .int .u8 130] 5) = W0 at o0 b0 k0 z0 ⊢
  have c0 := b0.cell 3
  have O0 := Lib.hid (o0.kp ((Kp.refl (fun _ => False) W0).alloc (.cells #[.int .u8 ((n : Int) / 256)] 5)) (fun _ _ h => h))
  rw [rounds_succ]
  go_wp2_with (at_builtin; refine app_bytes rfl (.tmp 63) (.tmp 70) rfl (w.heap.size + 1) _ 2 _ [UInt8.ofNat g, 130] rfl rfl O0.out (· = W0.heap.size) _ 1 1 [UInt8.ofNat (n / 256)] rfl rfl (HL0.out W0) 3 rfl (by omega) (by simp; omega) ?_; intro A1 c1' W1 o1 q1)
  have k1 := k0.then_ (((Kp.refl _ _).alloc (.cells #[.int .u8 ((n : Int) / 256)] 5)).then_ (S := (w.heap.size + 1 ≤ ·)) q1 (fun _ h => .inl h)) (fun i hi => .inr (by omega))
  have b1 := (b0.alloc (.cells #[.int .u8 ((n : Int) / 256)] 5)).kp q1 (by omega)
  have z1 : w.heap.size + 1 ≤ W1.heap.size := by have := q1.size; simp at this; omega
  have c1 := b1.cell 3
  have O1 := Lib.hid (o1.kp ((Kp.refl (fun _ => False) W1).alloc (.cells #[.int .u8 ((n : Int) % 256)] 5)) (fun _ _ h => h))
  rw [rounds_succ]
  go_wp2_with (at_builtin; refine app_bytes rfl (.tmp 63) (.tmp 70) rfl (w.heap.size + 1) _ 3 _ ([UInt8.ofNat g, 130] ++ [UInt8.ofNat (n / 256)]) rfl rfl O1.out (· = W1.heap.size) _ 1 1 [UInt8.ofNat (n)] rfl rfl (HL1.out W1) 4 rfl (by omega) (by simp; omega) ?_; intro A2 c2' W2 o2 q2)
  have k2 := k1.then_ (((Kp.refl _ _).alloc (.cells #[.int .u8 ((n : Int) % 256)] 5)).then_ (S := (w.heap.size + 1 ≤ ·)) q2 (fun _ h => .inl h)) (fun i hi => .inr (by omega))
  have b2 := (b1.alloc (.cells #[.int .u8 ((n : Int) % 256)] 5)).kp q2 (by omega)
  have z2 : w.heap.size + 1 ≤ W2.heap.size := by have := q2.size; simp at this; omega
  rw [rounds_succ]
  go_wp2_with fail
  go_ret2
  exact HP.out _ _ _ ((o2.br rfl).mono (fun i hi => by omega)) k2

set_option maxRecDepth 100000 in
set_option maxHeartbeats 1600000 in
theorem put_ok_t3 (w : World) (ht : Tab w) (c t : Int) (n : Nat) (hk : kindB c t true = true) (h1 : 65536 ≤ n) (h2 : n < 16777216) : Calls Tryd.prog 54 #[.agg #[.int .i64 c, .int .i64 t, .bool true, .int .i64 n]] w (PutP c t true n w) := by
  obtain ⟨hcc, ht0, ht1⟩ := kindB_cases hk
  obtain ⟨f, g, hf, hf2, hg, hhb, hg2, -, -⟩ := hb_first hk
  have kk : Kp (fun _ => False) w (w.alloc (.cells #[.int .i64 c, .int .i64 t, .bool true, .int .i64 n] 85)) := (Kp.refl _ _).alloc _
  have hpt : pt c t true n = (UInt8.ofNat g :: [131, UInt8.ofNat (n / 65536), UInt8.ofNat (n / 256), UInt8.ofNat n], 0) := by
    rw [pt, if_pos hk, if_neg (by omega), hhb, Int.toNat_natCast, lenB]
    simp only [if_neg (show ¬ n < 128 by omega), if_neg (show ¬ n < 256 by omega), if_neg (show ¬ n < 65536 by omega), beB, List.nil_append, List.cons_append, Nat.div_div_eq_div_mul]
    rfl
  have hP : ∀ A cp w', BR w' (w.heap.size ≤ ·) (.slice A 5 cp) (UInt8.ofNat g :: [131, UInt8.ofNat (n / 65536), UInt8.ofNat (n / 256), UInt8.ofNat n]) → Kp (fun _ => False) w w' → PutP c t true n w (.returned (.tuple #[.slice A 5 cp, .int .i64 0])) w' := by
    intro A cp w' q1 q2
    rw [PutP, hpt]
    exact ⟨A, cp, rfl, q1, q2⟩
  have HP := Lib.hid hP
  have HK := Lib.hid hk
  clear hP hk hpt hhb
  have hF : (UInt8.ofNat g).toNat = g := by rw [UInt8.toNat_ofNat']; omega
  obtain ⟨L, hL, hL8⟩ := len_bytes n (by omega) (by omega)
  rw [if_neg (by omega), if_neg (by omega)] at hL8
  have d1 : ((L : Int) + 7).tdiv 8 = 3 := by rw [Int.tdiv_eq_ediv_of_nonneg (by omega)]; omega
  have d2 : ((L : Int) + 7) / 8 = 3 := by omega
  have hL64 : L ≤ 64 := by omega
  have o1 : bits .or .i64 128 3 = 131 := by decide
  have hlit : #[Value.int .u8 (g : Int), .int .u8 131] = (bc [UInt8.ofNat g, 131]).toArray := by
    simp only [bc, List.map_cons, List.map_nil, hF]
    rfl
  have HO := Lib.hid (fun (W : World) (B : Nat) (hB : B ≤ W.heap.size) => Own.lit W [UInt8.ofNat g, 131] _ 2 B rfl hlit hB (by decide))
  have hl0 : #[Value.int .u8 ((n : Int) / 65536)] = (bc [UInt8.ofNat (n / 65536)]).toArray := by
    simp only [bc, List.map_cons, List.map_nil, UInt8.toNat_ofNat']
    congr 3
    try omega
  have HL0 := Lib.hid (fun W : World => BR.lit W 5 [UInt8.ofNat (n / 65536)] _ 1 rfl hl0)
  have hl1 : #[Value.int .u8 ((n : Int) / 256 % 256)] = (bc [UInt8.ofNat (n / 256)]).toArray := by
    simp only [bc, List.map_cons, List.map_nil, UInt8.toNat_ofNat']
    congr 3
    try omega
  have HL1 := Lib.hid (fun W : World => BR.lit W 5 [UInt8.ofNat (n / 256)] _ 1 rfl hl1)
  have hl2 : #[Value.int .u8 ((n : Int) % 256)] = (bc [UInt8.ofNat (n)]).toArray := by
    simp only [bc, List.map_cons, List.map_nil, UInt8.toNat_ofNat']
    congr 3
    try omega
  have HL2 := Lib.hid (fun W : World => BR.lit W 5 [UInt8.ofNat (n)] _ 1 rfl hl2)
  clear hlit hF hL8 hl0 hl1 hl2
  have HLen := Lib.hid hL
  clear hL
  go_enter Tryd.func54, Tryd.ntmps54
  go_wp2_with fail
  refine (kind_any _ _ _ _ (ht.kp kk)).mono ?_
  rintro e w2 ⟨rfl, rfl⟩
  rw [if_pos HK.out]
  go_wp2_with fail
  refine (len_any _ _ (by omega) (by omega)).mono ?_
  rw [Int.toNat_natCast, HLen.out]
  rintro e w2 ⟨rfl, rfl⟩
  go_wp2_with fail
  refine wp_loop_rounds 4 ?_
  have o0 := HO.out (w.alloc (.cells #[.int .i64 c, .int .i64 t, .bool true, .int .i64 n] 85)) (w.heap.size + 1) (by simp)
  simp only [World.size_alloc] at o0
  have b0 := (Blk.new w 85 #[.int .i64 c, .int .i64 t, .bool true, .int .i64 n]).alloc (.cells #[.int .u8 (g : Int), .int .u8 131] 5)
  have k0 := kk.alloc (.cells #[.int .u8 (g : Int), .int .u8 131] 5)
  have z0 : w.heap.size + 1 ≤ ((w.alloc (.cells #[.int .i64 c, .int .i64 t, .bool true, .int .i64 n] 85)).alloc (.cells #[.int .u8 (g : Int), .int .u8 131] 5)).heap.size := by simp
  generalize (w.alloc (.cells #[.int .i64 c, .int .i64 t, .bool true, .int .i64 n] 85)).alloc (.cells #[.int .u8 (g : Int), .int .u8 131] 5) = W0 at o0 b0 k0 z0 ⊢
  have c0 := b0.cell 3
  have O0 := Lib.hid (o0.kp ((Kp.refl (fun _ => False) W0).alloc (.cells #[.int .u8 ((n : Int) / 65536)] 5)) (fun _ _ h => h))
  rw [rounds_succ]
  go_wp2_with (at_builtin; refine app_bytes rfl (.tmp 63) (.tmp 70) rfl (w.heap.size + 1) _ 2 _ [UInt8.ofNat g, 131] rfl rfl O0.out (· = W0.heap.size) _ 1 1 [UInt8.ofNat (n / 65536)] rfl rfl (HL0.out W0) 3 rfl (by omega) (by simp; omega) ?_; intro A1 c1' W1 o1 q1)
  have k1 := k0.then_ (((Kp.refl _ _).alloc (.cells #[.int .u8 ((n : Int) / 65536)] 5)).then_ (S := (w.heap.size + 1 ≤ ·)) q1 (fun _ h => .inl h)) (fun i hi => .inr (by omega))
  have b1 := (b0.alloc (.cells #[.int .u8 ((n : Int) / 65536)] 5)).kp q1 (by omega)
  have z1 : w.heap.size + 1 ≤ W1.heap.size := by have := q1.size; simp at this; omega
  have c1 := b1.cell 3
  have O1 := Lib.hid (o1.kp ((Kp.refl (fun _ => False) W1).alloc (.cells #[.int .u8 ((n : Int) / 256 % 256)] 5)) (fun _ _ h => h))
  rw [rounds_succ]
  go_wp2_with (at_builtin; refine app_bytes rfl (.tmp 63) (.tmp 70) rfl (w.heap.size + 1) _ 3 _ ([UInt8.ofNat g, 131] ++ [UInt8.ofNat (n / 65536)]) rfl rfl O1.out (· = W1.heap.size) _ 1 1 [UInt8.ofNat (n / 256)] rfl rfl (HL1.out W1) 4 rfl (by omega) (by simp; omega) ?_; intro A2 c2' W2 o2 q2)
  have k2 := k1.then_ (((Kp.refl _ _).alloc (.cells #[.int .u8 ((n : Int) / 256 % 256)] 5)).then_ (S := (w.heap.size + 1 ≤ ·)) q2 (fun _ h => .inl h)) (fun i hi => .inr (by omega))
  have b2 := (b1.alloc (.cells #[.int .u8 ((n : Int) / 256 % 256)] 5)).kp q2 (by omega)
  have z2 : w.heap.size + 1 ≤ W2.heap.size := by have := q2.size; simp at this; omega
  have c2 := b2.cell 3
  have O2 := Lib.hid (o2.kp ((Kp.refl (fun _ => False) W2).alloc (.cells #[.int .u8 ((n : Int) % 256)] 5)) (fun _ _ h => h))
  rw [rounds_succ]
  go_wp2_with (at_builtin; refine app_bytes rfl (.tmp 63) (.tmp 70) rfl (w.heap.size + 1) _ 4 _ (([UInt8.ofNat g, 131] ++ [UInt8.ofNat (n / 65536)]) ++ [UInt8.ofNat (n / 256)]) rfl rfl O2.out (· = W2.heap.size) _ 1 1 [UInt8.ofNat (n)] rfl rfl (HL2.out W2) 5 rfl (by omega) (by simp; omega) ?_; intro A3 c3' W3 o3 q3)
  have k3 := k2.then_ (((Kp.refl _ _).alloc (.cells #[.int .u8 ((n : Int) % 256)] 5)).then_ (S := (w.heap.size + 1 ≤ ·)) q3 (fun _ h => .inl h)) (fun i hi => .inr (by omega))
  have b3 := (b2.alloc (.cells #[.int .u8 ((n : Int) % 256)] 5)).kp q3 (by omega)
  have z3 : w.heap.size + 1 ≤ W3.heap.size := by have := q3.size; simp at this; omega
  rw [rounds_succ]
  go_wp2_with fail
  go_ret2
  exact HP.out _ _ _ ((o3.br rfl).mono (fun i hi => by omega)) k3

theorem put_any (w : World) (ht : Tab w) (c t : Int) (m : Bool) (n : Int) : Calls Tryd.prog 54 #[.agg #[.int .i64 c, .int .i64 t, .bool m, .int .i64 n]] w (PutP c t m n w) := by
  cases hk : kindB c t m
  · exact put_bad w ht c t m n hk
  by_cases hn : n < 0 ∨ 16777215 < n
  · exact put_len w ht c t m n hk hn
  obtain ⟨N, rfl⟩ := Int.eq_ofNat_of_zero_le (show 0 ≤ n by omega)
  cases m
  · rcases Nat.lt_or_ge N 128 with h | h
    · exact put_ok_f0 w ht c t N hk (Nat.zero_le _) h
    rcases Nat.lt_or_ge N 256 with h' | h'
    · exact put_ok_f1 w ht c t N hk h h'
    rcases Nat.lt_or_ge N 65536 with h'' | h''
    · exact put_ok_f2 w ht c t N hk h' h''
    · exact put_ok_f3 w ht c t N hk h'' (by omega)
  · rcases Nat.lt_or_ge N 128 with h | h
    · exact put_ok_t0 w ht c t N hk (Nat.zero_le _) h
    rcases Nat.lt_or_ge N 256 with h' | h'
    · exact put_ok_t1 w ht c t N hk h h'
    rcases Nat.lt_or_ge N 65536 with h'' | h''
    · exact put_ok_t2 w ht c t N hk h' h''
    · exact put_ok_t3 w ht c t N hk h'' (by omega)

end Go.Proofs.YtgjbfgkcbehjnaaDoor

namespace Go.Proofs.YtgjbfgkcbehjnaaDoor
open Go.RowKit

/-- 'b[:k]' of bytes. -/
theorem BR.head2 {w : World} {ok : Nat → Prop} {A : Option Addr} {c k : Nat} {l : List UInt8} (hr : Rd w ok 1 A l.length (bc l)) (hlc : l.length ≤ c) (hk : k ≤ l.length) : BR w ok (.slice A k c) (l.take k) := by
  have h := hr.take (k := k) hk
  rw [Nat.mul_one, bc_take] at h
  have hlen : (l.take k).length = k := by simp; omega
  exact ⟨A, c, by rw [hlen], by omega, by rw [hlen]; exact h⟩

theorem hb_parts {c t : Int} {m : Bool} (h : kindB c t m = true) : ((hb c t m).toNat : Int) / 64 = c ∧ ((hb c t m).toNat : Int) % 32 = t ∧ ((hb c t m).toNat / 32 % 2 == 1) = m := by
  obtain ⟨hc, h0, h1⟩ := kindB_cases h
  have e : (hb c t m).toNat = (c * 64 + t + if m then 32 else 0).toNat := by
    rw [hb, UInt8.toNat_ofNat']
    cases m <;> simp <;> omega
  rw [e]
  cases m
  · refine ⟨by simp; omega, by simp; omega, ?_⟩
    simp
    omega
  · refine ⟨by simp; omega, by simp; omega, ?_⟩
    simp
    omega
theorem hb_top {c t : Int} {m : Bool} (h : kindB c t m = true) : topB (hb c t m) = true := by
  obtain ⟨h1, h2, h3⟩ := hb_parts h
  rw [topB, h1, h2, h3]
  exact h
theorem hb_hd {c t : Int} {m : Bool} (h : kindB c t m = true) (n : Nat) : hdB (hb c t m) n = (c, t, m, (n : Int)) := by
  obtain ⟨h1, h2, h3⟩ := hb_parts h
  rw [hdB, h1, h2, h3]

theorem lenB_len (N : Nat) : 1 ≤ (lenB N).length ∧ (lenB N).length ≤ 4 := by
  unfold lenB
  split
  · simp
  split
  · simp
  split
  · simp [beB_length]
  · simp [beB_length]

theorem be_front (n x : Nat) (r : List UInt8) (h : x < 256 ^ n) : be ((beB n x ++ r).take n) = x := by
  rw [List.take_append_of_le_length (by rw [beB_length]; omega), List.take_of_length_le (by rw [beB_length]; omega), be_beB, Nat.mod_eq_of_lt h]

theorem rd_put {c t : Int} {m : Bool} {N : Nat} (h : kindB c t m = true) (hN : N ≤ 16777215) (r : List UInt8) :
    rd (hb c t m :: (lenB N ++ r)) = ((c, t, m, (N : Int)), (((lenB N).length + 1 : Nat) : Int), 0) := by
  have htop := hb_top h
  unfold lenB
  by_cases h1 : N < 128
  · rw [if_pos h1]
    have e : (UInt8.ofNat N).toNat = N := by rw [UInt8.toNat_ofNat']; omega
    show rd (hb c t m :: UInt8.ofNat N :: r) = _
    rw [rd, if_pos htop, e, if_pos h1, hb_hd h]
    rfl
  rw [if_neg h1]
  by_cases h2 : N < 256
  · rw [if_pos h2]
    have e : be ([UInt8.ofNat N] ++ r |>.take 1) = N := by
      have := be_front 1 N r (by simpa using h2)
      have e2 : beB 1 N = [UInt8.ofNat N] := rfl
      rwa [e2] at this
    show rd (hb c t m :: 129 :: ([UInt8.ofNat N] ++ r)) = _
    rw [rd_long (k := 1) htop rfl (by omega) (by omega) (by simp) e, if_neg (by simp; omega), hb_hd h]
    rfl
  rw [if_neg h2]
  by_cases h3 : N < 65536
  · rw [if_pos h3]
    show rd (hb c t m :: 130 :: (beB 2 N ++ r)) = _
    rw [rd_long (k := 2) htop rfl (by omega) (by omega) (by simp [beB_length]) (be_front 2 N r (by simpa using h3)), if_neg (by simp; omega), hb_hd h]
    simp [beB_length]
  · rw [if_neg h3]
    show rd (hb c t m :: 131 :: (beB 3 N ++ r)) = _
    rw [rd_long (k := 3) htop rfl (by omega) (by omega) (by simp [beB_length]) (be_front 3 N r (by simp; omega)), if_neg (by simp; omega), hb_hd h]
    simp [beB_length]

theorem rd_cut2 {b c : UInt8} {k : Nat} (htop : topB b = true) (hc : c.toNat = 128 + k) (h1 : 1 ≤ k) (h3 : k ≤ 3) (u : List UInt8) (hu : u.length < k) : rd (b :: c :: u) = (hd0, ((u.length + 2 : Nat) : Int), 4) := by
  rw [rd, if_pos htop, if_neg (by omega), if_neg (by omega), if_pos (by omega)]
  rfl

/-- Cut off. -/
theorem rd_cut {c t : Int} {m : Bool} {N : Nat} (h : kindB c t m = true) (i : Nat) (hi : i < (lenB N).length + 1) : rd ((hb c t m :: lenB N).take i) = (hd0, (i : Int), 4) := by
  have htop := hb_top h
  rcases i with _ | _ | i
  · rfl
  · simp only [List.take_succ_cons, List.take_zero]
    rw [rd, if_pos htop]
    rfl
  · revert hi
    unfold lenB
    by_cases h1 : N < 128
    · rw [if_pos h1]; intro hi; exact absurd hi (by simp)
    rw [if_neg h1]
    by_cases h2 : N < 256
    · rw [if_pos h2]
      intro hi
      obtain rfl : i = 0 := by simp at hi; omega
      simp only [List.take_succ_cons, List.take_zero]
      rw [rd_cut2 (k := 1) htop rfl (by omega) (by omega) [] (by simp)]
      rfl
    rw [if_neg h2]
    by_cases h3 : N < 65536
    · rw [if_pos h3]
      intro hi
      simp [beB_length] at hi
      simp only [List.take_succ_cons]
      rw [rd_cut2 (k := 2) htop rfl (by omega) (by omega) _ (by simp [beB_length]; omega)]
      simp [beB_length]
      omega
    · rw [if_neg h3]
      intro hi
      simp [beB_length] at hi
      simp only [List.take_succ_cons]
      rw [rd_cut2 (k := 3) htop rfl (by omega) (by omega) _ (by simp [beB_length]; omega)]
      simp [beB_length]
      omega
end Go.Proofs.YtgjbfgkcbehjnaaDoor

namespace Go.Proofs.YtgjbfgkcbehjnaaDoor
open Go.RowKit

def RPutP (c t : Int) (m : Bool) (n : Int) (w : World) (e : Ending) (w' : World) : Prop :=
  ∃ A cp, e = .returned (.slice A (pt c t m n).1.length cp) ∧ BR w' (w.heap.size ≤ ·) (.slice A (pt c t m n).1.length cp) (pt c t m n).1 ∧ Kp (fun _ => False) w w'

set_option maxRecDepth 100000 in
set_option maxHeartbeats 1600000 in
theorem rput_ok_f0 (w : World) (c t : Int) (n : Nat) (hk : kindB c t false = true) (h1 : 0 ≤ n) (h2 : n < 128) : Calls Tryd.prog 57 #[.agg #[.int .i64 c, .int .i64 t, .bool false, .int .i64 n]] w (RPutP c t false n w) := by
  obtain ⟨hcc, ht0, ht1⟩ := kindB_cases hk
  obtain ⟨f, g, -, hf2, -, hhb, hg2, hf, hg⟩ := hb_first hk
  have kk : Kp (fun _ => False) w (w.alloc (.cells #[.int .i64 c, .int .i64 t, .bool false, .int .i64 n] 89)) := (Kp.refl _ _).alloc _
  have hpt : pt c t false n = (UInt8.ofNat f :: [UInt8.ofNat n], 0) := by
    rw [pt, if_pos hk, if_neg (by omega), hhb, Int.toNat_natCast, lenB]
    simp only [if_pos h2]
    rfl
  have hP : ∀ A cp w', BR w' (w.heap.size ≤ ·) (.slice A 2 cp) (UInt8.ofNat f :: [UInt8.ofNat n]) → Kp (fun _ => False) w w' → RPutP c t false n w (.returned (.slice A 2 cp)) w' := by
    intro A cp w' q1 q2
    rw [RPutP, hpt]
    exact ⟨A, cp, rfl, q1, q2⟩
  clear hk hpt hhb
  have hl1 : #[Value.int .u8 (64 * c + t)] = (bc [UInt8.ofNat f]).toArray := by
    simp only [bc, List.map_cons, List.map_nil, UInt8.toNat_ofNat']
    congr 3
    omega
  have hl2 : #[Value.int .u8 ((n : Int))] = (bc [UInt8.ofNat n]).toArray := by
    simp only [bc, List.map_cons, List.map_nil, UInt8.toNat_ofNat']
    have e0 : ((n % 2 ^ 8 : Nat) : Int) = (n : Int) := by omega
    rw [e0]
    all_goals rfl
  obtain ⟨z, hz⟩ : ∃ z : Int, (n : Int) = z := ⟨_, rfl⟩
  have g1 : (0 : Int) ≤ z := by omega
  have g2 : z < 128 := by omega
  rw [hz] at kk hP hl2 ⊢
  clear h1 h2 hz
  have HP := Lib.hid hP
  clear hP
  have HO := Lib.hid (fun (W : World) (B : Nat) (hB : B ≤ W.heap.size) => Own.lit W [UInt8.ofNat f] _ 1 B rfl hl1 hB (by decide))
  have HL := Lib.hid (fun W : World => BR.lit W 5 [UInt8.ofNat n] _ 1 rfl hl2)
  clear hl1 hl2
  have o0 := HO.out (w.alloc (.cells #[.int .i64 c, .int .i64 t, .bool false, .int .i64 z] 89)) w.heap.size (by simp)
  simp only [World.size_alloc] at o0
  have k0 := kk.alloc (.cells #[.int .u8 (64 * c + t)] 5)
  have l0 := HL.out ((w.alloc (.cells #[.int .i64 c, .int .i64 t, .bool false, .int .i64 z] 89)).alloc (.cells #[.int .u8 (64 * c + t)] 5))
  simp only [World.size_alloc] at l0
  have O0 := Lib.hid (o0.kp ((Kp.refl (fun _ => False) _).alloc (.cells #[.int .u8 (z)] 5)) (fun _ _ h => h))
  have L0 := Lib.hid l0
  have K1 := Lib.hid (k0.alloc (.cells #[.int .u8 (z)] 5))
  clear o0 l0
  go_enter Tryd.func57, Tryd.ntmps57
  go_wp2_with (at_builtin; refine app_bytes rfl (.tmp 21) (.tmp 25) rfl w.heap.size _ 1 _ [UInt8.ofNat f] rfl rfl O0.out _ _ 1 _ [UInt8.ofNat n] rfl rfl L0.out 2 rfl (by omega) (by simp; omega) ?_; intro A1 c1 W1 o1 q1)
  go_ret
  exact HP.out _ _ _ (o1.br rfl) (K1.out.then_ q1 (fun _ h => .inr h))

set_option maxRecDepth 100000 in
set_option maxHeartbeats 1600000 in
theorem rput_ok_f1 (w : World) (c t : Int) (n : Nat) (hk : kindB c t false = true) (h1 : 128 ≤ n) (h2 : n < 256) : Calls Tryd.prog 57 #[.agg #[.int .i64 c, .int .i64 t, .bool false, .int .i64 n]] w (RPutP c t false n w) := by
  obtain ⟨hcc, ht0, ht1⟩ := kindB_cases hk
  obtain ⟨f, g, -, hf2, -, hhb, hg2, hf, hg⟩ := hb_first hk
  have kk : Kp (fun _ => False) w (w.alloc (.cells #[.int .i64 c, .int .i64 t, .bool false, .int .i64 n] 89)) := (Kp.refl _ _).alloc _
  have hpt : pt c t false n = (UInt8.ofNat f :: [129, UInt8.ofNat n], 0) := by
    rw [pt, if_pos hk, if_neg (by omega), hhb, Int.toNat_natCast, lenB]
    simp only [if_neg (show ¬ n < 128 by omega), if_pos h2]
    rfl
  have hP : ∀ A cp w', BR w' (w.heap.size ≤ ·) (.slice A 3 cp) (UInt8.ofNat f :: [129, UInt8.ofNat n]) → Kp (fun _ => False) w w' → RPutP c t false n w (.returned (.slice A 3 cp)) w' := by
    intro A cp w' q1 q2
    rw [RPutP, hpt]
    exact ⟨A, cp, rfl, q1, q2⟩
  clear hk hpt hhb
  have hl1 : #[Value.int .u8 (64 * c + t)] = (bc [UInt8.ofNat f]).toArray := by
    simp only [bc, List.map_cons, List.map_nil, UInt8.toNat_ofNat']
    congr 3
    omega
  have hl2 : #[Value.int .u8 (129), .int .u8 ((n : Int))] = (bc [129, UInt8.ofNat n]).toArray := by
    simp only [bc, List.map_cons, List.map_nil, UInt8.toNat_ofNat']
    have e0 : ((n % 2 ^ 8 : Nat) : Int) = (n : Int) := by omega
    rw [e0]
    all_goals rfl
  obtain ⟨z, hz⟩ : ∃ z : Int, (n : Int) = z := ⟨_, rfl⟩
  have g1 : (128 : Int) ≤ z := by omega
  have g2 : z < 256 := by omega
  rw [hz] at kk hP hl2 ⊢
  clear h1 h2 hz
  have HP := Lib.hid hP
  clear hP
  have HO := Lib.hid (fun (W : World) (B : Nat) (hB : B ≤ W.heap.size) => Own.lit W [UInt8.ofNat f] _ 1 B rfl hl1 hB (by decide))
  have HL := Lib.hid (fun W : World => BR.lit W 5 [129, UInt8.ofNat n] _ 2 rfl hl2)
  clear hl1 hl2
  have o0 := HO.out (w.alloc (.cells #[.int .i64 c, .int .i64 t, .bool false, .int .i64 z] 89)) w.heap.size (by simp)
  simp only [World.size_alloc] at o0
  have k0 := kk.alloc (.cells #[.int .u8 (64 * c + t)] 5)
  have l0 := HL.out ((w.alloc (.cells #[.int .i64 c, .int .i64 t, .bool false, .int .i64 z] 89)).alloc (.cells #[.int .u8 (64 * c + t)] 5))
  simp only [World.size_alloc] at l0
  have O0 := Lib.hid (o0.kp ((Kp.refl (fun _ => False) _).alloc (.cells #[.int .u8 (129), .int .u8 (z)] 5)) (fun _ _ h => h))
  have L0 := Lib.hid l0
  have K1 := Lib.hid (k0.alloc (.cells #[.int .u8 (129), .int .u8 (z)] 5))
  clear o0 l0
  go_enter Tryd.func57, Tryd.ntmps57
  go_wp2_with (at_builtin; refine app_bytes rfl (.tmp 30) (.tmp 34) rfl w.heap.size _ 1 _ [UInt8.ofNat f] rfl rfl O0.out _ _ 2 _ [129, UInt8.ofNat n] rfl rfl L0.out 3 rfl (by omega) (by simp; omega) ?_; intro A1 c1 W1 o1 q1)
  go_ret
  exact HP.out _ _ _ (o1.br rfl) (K1.out.then_ q1 (fun _ h => .inr h))

set_option maxRecDepth 100000 in
set_option maxHeartbeats 1600000 in
theorem rput_ok_f2 (w : World) (c t : Int) (n : Nat) (hk : kindB c t false = true) (h1 : 256 ≤ n) (h2 : n < 65536) : Calls Tryd.prog 57 #[.agg #[.int .i64 c, .int .i64 t, .bool false, .int .i64 n]] w (RPutP c t false n w) := by
  obtain ⟨hcc, ht0, ht1⟩ := kindB_cases hk
  obtain ⟨f, g, -, hf2, -, hhb, hg2, hf, hg⟩ := hb_first hk
  have kk : Kp (fun _ => False) w (w.alloc (.cells #[.int .i64 c, .int .i64 t, .bool false, .int .i64 n] 89)) := (Kp.refl _ _).alloc _
  have hpt : pt c t false n = (UInt8.ofNat f :: [130, UInt8.ofNat (n / 256), UInt8.ofNat n], 0) := by
    rw [pt, if_pos hk, if_neg (by omega), hhb, Int.toNat_natCast, lenB]
    simp only [if_neg (show ¬ n < 128 by omega), if_neg (show ¬ n < 256 by omega), if_pos h2, beB, List.nil_append, List.cons_append]
    rfl
  have hP : ∀ A cp w', BR w' (w.heap.size ≤ ·) (.slice A 4 cp) (UInt8.ofNat f :: [130, UInt8.ofNat (n / 256), UInt8.ofNat n]) → Kp (fun _ => False) w w' → RPutP c t false n w (.returned (.slice A 4 cp)) w' := by
    intro A cp w' q1 q2
    rw [RPutP, hpt]
    exact ⟨A, cp, rfl, q1, q2⟩
  clear hk hpt hhb
  have hl1 : #[Value.int .u8 (64 * c + t)] = (bc [UInt8.ofNat f]).toArray := by
    simp only [bc, List.map_cons, List.map_nil, UInt8.toNat_ofNat']
    congr 3
    omega
  have hl2 : #[Value.int .u8 (130), .int .u8 ((n : Int) / 256), .int .u8 ((n : Int) % 256)] = (bc [130, UInt8.ofNat (n / 256), UInt8.ofNat n]).toArray := by
    simp only [bc, List.map_cons, List.map_nil, UInt8.toNat_ofNat']
    have e0 : ((n % 2 ^ 8 : Nat) : Int) = (n : Int) % 256 := by omega
    have e1 : ((n / 256 % 2 ^ 8 : Nat) : Int) = (n : Int) / 256 := by omega
    rw [e0, e1]
    all_goals rfl
  obtain ⟨z, hz⟩ : ∃ z : Int, (n : Int) = z := ⟨_, rfl⟩
  have g1 : (256 : Int) ≤ z := by omega
  have g2 : z < 65536 := by omega
  rw [hz] at kk hP hl2 ⊢
  clear h1 h2 hz
  have HP := Lib.hid hP
  clear hP
  have HO := Lib.hid (fun (W : World) (B : Nat) (hB : B ≤ W.heap.size) => Own.lit W [UInt8.ofNat f] _ 1 B rfl hl1 hB (by decide))
  have HL := Lib.hid (fun W : World => BR.lit W 5 [130, UInt8.ofNat (n / 256), UInt8.ofNat n] _ 3 rfl hl2)
  clear hl1 hl2
  have o0 := HO.out (w.alloc (.cells #[.int .i64 c, .int .i64 t, .bool false, .int .i64 z] 89)) w.heap.size (by simp)
  simp only [World.size_alloc] at o0
  have k0 := kk.alloc (.cells #[.int .u8 (64 * c + t)] 5)
  have l0 := HL.out ((w.alloc (.cells #[.int .i64 c, .int .i64 t, .bool false, .int .i64 z] 89)).alloc (.cells #[.int .u8 (64 * c + t)] 5))
  simp only [World.size_alloc] at l0
  have O0 := Lib.hid (o0.kp ((Kp.refl (fun _ => False) _).alloc (.cells #[.int .u8 (130), .int .u8 (z / 256), .int .u8 (z % 256)] 5)) (fun _ _ h => h))
  have L0 := Lib.hid l0
  have K1 := Lib.hid (k0.alloc (.cells #[.int .u8 (130), .int .u8 (z / 256), .int .u8 (z % 256)] 5))
  clear o0 l0
  go_enter Tryd.func57, Tryd.ntmps57
  go_wp2_with (at_builtin; refine app_bytes rfl (.tmp 39) (.tmp 48) rfl w.heap.size _ 1 _ [UInt8.ofNat f] rfl rfl O0.out _ _ 3 _ [130, UInt8.ofNat (n / 256), UInt8.ofNat n] rfl rfl L0.out 4 rfl (by omega) (by simp; omega) ?_; intro A1 c1 W1 o1 q1)
  go_ret
  exact HP.out _ _ _ (o1.br rfl) (K1.out.then_ q1 (fun _ h => .inr h))

set_option maxRecDepth 100000 in
set_option maxHeartbeats 1600000 in
theorem rput_ok_f3 (w : World) (c t : Int) (n : Nat) (hk : kindB c t false = true) (h1 : 65536 ≤ n) (h2 : n < 16777216) : Calls Tryd.prog 57 #[.agg #[.int .i64 c, .int .i64 t, .bool false, .int .i64 n]] w (RPutP c t false n w) := by
  obtain ⟨hcc, ht0, ht1⟩ := kindB_cases hk
  obtain ⟨f, g, -, hf2, -, hhb, hg2, hf, hg⟩ := hb_first hk
  have kk : Kp (fun _ => False) w (w.alloc (.cells #[.int .i64 c, .int .i64 t, .bool false, .int .i64 n] 89)) := (Kp.refl _ _).alloc _
  have hpt : pt c t false n = (UInt8.ofNat f :: [131, UInt8.ofNat (n / 65536), UInt8.ofNat (n / 256), UInt8.ofNat n], 0) := by
    rw [pt, if_pos hk, if_neg (by omega), hhb, Int.toNat_natCast, lenB]
    simp only [if_neg (show ¬ n < 128 by omega), if_neg (show ¬ n < 256 by omega), if_neg (show ¬ n < 65536 by omega), beB, List.nil_append, List.cons_append, Nat.div_div_eq_div_mul]
    rfl
  have hP : ∀ A cp w', BR w' (w.heap.size ≤ ·) (.slice A 5 cp) (UInt8.ofNat f :: [131, UInt8.ofNat (n / 65536), UInt8.ofNat (n / 256), UInt8.ofNat n]) → Kp (fun _ => False) w w' → RPutP c t false n w (.returned (.slice A 5 cp)) w' := by
    intro A cp w' q1 q2
    rw [RPutP, hpt]
    exact ⟨A, cp, rfl, q1, q2⟩
  clear hk hpt hhb
  have hl1 : #[Value.int .u8 (64 * c + t)] = (bc [UInt8.ofNat f]).toArray := by
    simp only [bc, List.map_cons, List.map_nil, UInt8.toNat_ofNat']
    congr 3
    omega
  have hl2 : #[Value.int .u8 (131), .int .u8 ((n : Int) / 65536), .int .u8 ((n : Int) / 256 % 256), .int .u8 ((n : Int) % 256)] = (bc [131, UInt8.ofNat (n / 65536), UInt8.ofNat (n / 256), UInt8.ofNat n]).toArray := by
    simp only [bc, List.map_cons, List.map_nil, UInt8.toNat_ofNat']
    have e0 : ((n % 2 ^ 8 : Nat) : Int) = (n : Int) % 256 := by omega
    have e1 : ((n / 256 % 2 ^ 8 : Nat) : Int) = (n : Int) / 256 % 256 := by omega
    have e2 : ((n / 65536 % 2 ^ 8 : Nat) : Int) = (n : Int) / 65536 := by omega
    rw [e0, e1, e2]
    all_goals rfl
  obtain ⟨z, hz⟩ : ∃ z : Int, (n : Int) = z := ⟨_, rfl⟩
  have g1 : (65536 : Int) ≤ z := by omega
  have g2 : z < 16777216 := by omega
  rw [hz] at kk hP hl2 ⊢
  clear h1 h2 hz
  have HP := Lib.hid hP
  clear hP
  have HO := Lib.hid (fun (W : World) (B : Nat) (hB : B ≤ W.heap.size) => Own.lit W [UInt8.ofNat f] _ 1 B rfl hl1 hB (by decide))
  have HL := Lib.hid (fun W : World => BR.lit W 5 [131, UInt8.ofNat (n / 65536), UInt8.ofNat (n / 256), UInt8.ofNat n] _ 4 rfl hl2)
  clear hl1 hl2
  have o0 := HO.out (w.alloc (.cells #[.int .i64 c, .int .i64 t, .bool false, .int .i64 z] 89)) w.heap.size (by simp)
  simp only [World.size_alloc] at o0
  have k0 := kk.alloc (.cells #[.int .u8 (64 * c + t)] 5)
  have l0 := HL.out ((w.alloc (.cells #[.int .i64 c, .int .i64 t, .bool false, .int .i64 z] 89)).alloc (.cells #[.int .u8 (64 * c + t)] 5))
  simp only [World.size_alloc] at l0
  have O0 := Lib.hid (o0.kp ((Kp.refl (fun _ => False) _).alloc (.cells #[.int .u8 (131), .int .u8 (z / 65536), .int .u8 (z / 256 % 256), .int .u8 (z % 256)] 5)) (fun _ _ h => h))
  have L0 := Lib.hid l0
  have K1 := Lib.hid (k0.alloc (.cells #[.int .u8 (131), .int .u8 (z / 65536), .int .u8 (z / 256 % 256), .int .u8 (z % 256)] 5))
  clear o0 l0
  go_enter Tryd.func57, Tryd.ntmps57
  go_wp2_with (at_builtin; refine app_bytes rfl (.tmp 50) (.tmp 64) rfl w.heap.size _ 1 _ [UInt8.ofNat f] rfl rfl O0.out _ _ 4 _ [131, UInt8.ofNat (n / 65536), UInt8.ofNat (n / 256), UInt8.ofNat n] rfl rfl L0.out 5 rfl (by omega) (by simp; omega) ?_; intro A1 c1 W1 o1 q1)
  go_ret
  exact HP.out _ _ _ (o1.br rfl) (K1.out.then_ q1 (fun _ h => .inr h))

set_option maxRecDepth 100000 in
set_option maxHeartbeats 1600000 in
theorem rput_ok_t0 (w : World) (c t : Int) (n : Nat) (hk : kindB c t true = true) (h1 : 0 ≤ n) (h2 : n < 128) : Calls Tryd.prog 57 #[.agg #[.int .i64 c, .int .i64 t, .bool true, .int .i64 n]] w (RPutP c t true n w) := by
  obtain ⟨hcc, ht0, ht1⟩ := kindB_cases hk
  obtain ⟨f, g, -, hf2, -, hhb, hg2, hf, hg⟩ := hb_first hk
  have kk : Kp (fun _ => False) w (w.alloc (.cells #[.int .i64 c, .int .i64 t, .bool true, .int .i64 n] 89)) := (Kp.refl _ _).alloc _
  have hpt : pt c t true n = (UInt8.ofNat g :: [UInt8.ofNat n], 0) := by
    rw [pt, if_pos hk, if_neg (by omega), hhb, Int.toNat_natCast, lenB]
    simp only [if_pos h2]
    rfl
  have hP : ∀ A cp w', BR w' (w.heap.size ≤ ·) (.slice A 2 cp) (UInt8.ofNat g :: [UInt8.ofNat n]) → Kp (fun _ => False) w w' → RPutP c t true n w (.returned (.slice A 2 cp)) w' := by
    intro A cp w' q1 q2
    rw [RPutP, hpt]
    exact ⟨A, cp, rfl, q1, q2⟩
  clear hk hpt hhb
  have hl1 : #[Value.int .u8 (64 * c + t + 32)] = (bc [UInt8.ofNat g]).toArray := by
    simp only [bc, List.map_cons, List.map_nil, UInt8.toNat_ofNat']
    congr 3
    omega
  have hl2 : #[Value.int .u8 ((n : Int))] = (bc [UInt8.ofNat n]).toArray := by
    simp only [bc, List.map_cons, List.map_nil, UInt8.toNat_ofNat']
    have e0 : ((n % 2 ^ 8 : Nat) : Int) = (n : Int) := by omega
    rw [e0]
    all_goals rfl
  obtain ⟨z, hz⟩ : ∃ z : Int, (n : Int) = z := ⟨_, rfl⟩
  have g1 : (0 : Int) ≤ z := by omega
  have g2 : z < 128 := by omega
  rw [hz] at kk hP hl2 ⊢
  clear h1 h2 hz
  have HP := Lib.hid hP
  clear hP
  have HO := Lib.hid (fun (W : World) (B : Nat) (hB : B ≤ W.heap.size) => Own.lit W [UInt8.ofNat g] _ 1 B rfl hl1 hB (by decide))
  have HL := Lib.hid (fun W : World => BR.lit W 5 [UInt8.ofNat n] _ 1 rfl hl2)
  clear hl1 hl2
  have o0 := HO.out (w.alloc (.cells #[.int .i64 c, .int .i64 t, .bool true, .int .i64 z] 89)) w.heap.size (by simp)
  simp only [World.size_alloc] at o0
  have k0 := kk.alloc (.cells #[.int .u8 (64 * c + t + 32)] 5)
  have l0 := HL.out ((w.alloc (.cells #[.int .i64 c, .int .i64 t, .bool true, .int .i64 z] 89)).alloc (.cells #[.int .u8 (64 * c + t + 32)] 5))
  simp only [World.size_alloc] at l0
  have O0 := Lib.hid (o0.kp ((Kp.refl (fun _ => False) _).alloc (.cells #[.int .u8 (z)] 5)) (fun _ _ h => h))
  have L0 := Lib.hid l0
  have K1 := Lib.hid (k0.alloc (.cells #[.int .u8 (z)] 5))
  clear o0 l0
  go_enter Tryd.func57, Tryd.ntmps57
  go_wp2_with (at_builtin; refine app_bytes rfl (.tmp 21) (.tmp 25) rfl w.heap.size _ 1 _ [UInt8.ofNat g] rfl rfl O0.out _ _ 1 _ [UInt8.ofNat n] rfl rfl L0.out 2 rfl (by omega) (by simp; omega) ?_; intro A1 c1 W1 o1 q1)
  go_ret
  exact HP.out _ _ _ (o1.br rfl) (K1.out.then_ q1 (fun _ h => .inr h))

set_option maxRecDepth 100000 in
set_option maxHeartbeats 1600000 in
theorem rput_ok_t1 (w : World) (c t : Int) (n : Nat) (hk : kindB c t true = true) (h1 : 128 ≤ n) (h2 : n < 256) : Calls Tryd.prog 57 #[.agg #[.int .i64 c, .int .i64 t, .bool true, .int .i64 n]] w (RPutP c t true n w) := by
  obtain ⟨hcc, ht0, ht1⟩ := kindB_cases hk
  obtain ⟨f, g, -, hf2, -, hhb, hg2, hf, hg⟩ := hb_first hk
  have kk : Kp (fun _ => False) w (w.alloc (.cells #[.int .i64 c, .int .i64 t, .bool true, .int .i64 n] 89)) := (Kp.refl _ _).alloc _
  have hpt : pt c t true n = (UInt8.ofNat g :: [129, UInt8.ofNat n], 0) := by
    rw [pt, if_pos hk, if_neg (by omega), hhb, Int.toNat_natCast, lenB]
    simp only [if_neg (show ¬ n < 128 by omega), if_pos h2]
    rfl
  have hP : ∀ A cp w', BR w' (w.heap.size ≤ ·) (.slice A 3 cp) (UInt8.ofNat g :: [129, UInt8.ofNat n]) → Kp (fun _ => False) w w' → RPutP c t true n w (.returned (.slice A 3 cp)) w' := by
    intro A cp w' q1 q2
    rw [RPutP, hpt]
    exact ⟨A, cp, rfl, q1, q2⟩
  clear hk hpt hhb
  have hl1 : #[Value.int .u8 (64 * c + t + 32)] = (bc [UInt8.ofNat g]).toArray := by
    simp only [bc, List.map_cons, List.map_nil, UInt8.toNat_ofNat']
    congr 3
    omega
  have hl2 : #[Value.int .u8 (129), .int .u8 ((n : Int))] = (bc [129, UInt8.ofNat n]).toArray := by
    simp only [bc, List.map_cons, List.map_nil, UInt8.toNat_ofNat']
    have e0 : ((n % 2 ^ 8 : Nat) : Int) = (n : Int) := by omega
    rw [e0]
    all_goals rfl
  obtain ⟨z, hz⟩ : ∃ z : Int, (n : Int) = z := ⟨_, rfl⟩
  have g1 : (128 : Int) ≤ z := by omega
  have g2 : z < 256 := by omega
  rw [hz] at kk hP hl2 ⊢
  clear h1 h2 hz
  have HP := Lib.hid hP
  clear hP
  have HO := Lib.hid (fun (W : World) (B : Nat) (hB : B ≤ W.heap.size) => Own.lit W [UInt8.ofNat g] _ 1 B rfl hl1 hB (by decide))
  have HL := Lib.hid (fun W : World => BR.lit W 5 [129, UInt8.ofNat n] _ 2 rfl hl2)
  clear hl1 hl2
  have o0 := HO.out (w.alloc (.cells #[.int .i64 c, .int .i64 t, .bool true, .int .i64 z] 89)) w.heap.size (by simp)
  simp only [World.size_alloc] at o0
  have k0 := kk.alloc (.cells #[.int .u8 (64 * c + t + 32)] 5)
  have l0 := HL.out ((w.alloc (.cells #[.int .i64 c, .int .i64 t, .bool true, .int .i64 z] 89)).alloc (.cells #[.int .u8 (64 * c + t + 32)] 5))
  simp only [World.size_alloc] at l0
  have O0 := Lib.hid (o0.kp ((Kp.refl (fun _ => False) _).alloc (.cells #[.int .u8 (129), .int .u8 (z)] 5)) (fun _ _ h => h))
  have L0 := Lib.hid l0
  have K1 := Lib.hid (k0.alloc (.cells #[.int .u8 (129), .int .u8 (z)] 5))
  clear o0 l0
  go_enter Tryd.func57, Tryd.ntmps57
  go_wp2_with (at_builtin; refine app_bytes rfl (.tmp 30) (.tmp 34) rfl w.heap.size _ 1 _ [UInt8.ofNat g] rfl rfl O0.out _ _ 2 _ [129, UInt8.ofNat n] rfl rfl L0.out 3 rfl (by omega) (by simp; omega) ?_; intro A1 c1 W1 o1 q1)
  go_ret
  exact HP.out _ _ _ (o1.br rfl) (K1.out.then_ q1 (fun _ h => .inr h))

set_option maxRecDepth 100000 in
set_option maxHeartbeats 1600000 in
theorem rput_ok_t2 (w : World) (c t : Int) (n : Nat) (hk : kindB c t true = true) (h1 : 256 ≤ n) (h2 : n < 65536) : Calls Tryd.prog 57 #[.agg #[.int .i64 c, .int .i64 t, .bool true, .int .i64 n]] w (RPutP c t true n w) := by
  obtain ⟨hcc, ht0, ht1⟩ := kindB_cases hk
  obtain ⟨f, g, -, hf2, -, hhb, hg2, hf, hg⟩ := hb_first hk
  have kk : Kp (fun _ => False) w (w.alloc (.cells #[.int .i64 c, .int .i64 t, .bool true, .int .i64 n] 89)) := (Kp.refl _ _).alloc _
  have hpt : pt c t true n = (UInt8.ofNat g :: [130, UInt8.ofNat (n / 256), UInt8.ofNat n], 0) := by
    rw [pt, if_pos hk, if_neg (by omega), hhb, Int.toNat_natCast, lenB]
    simp only [if_neg (show ¬ n < 128 by omega), if_neg (show ¬ n < 256 by omega), if_pos h2, beB, List.nil_append, List.cons_append]
    rfl
  have hP : ∀ A cp w', BR w' (w.heap.size ≤ ·) (.slice A 4 cp) (UInt8.ofNat g :: [130, UInt8.ofNat (n / 256), UInt8.ofNat n]) → Kp (fun _ => False) w w' → RPutP c t true n w (.returned (.slice A 4 cp)) w' := by
    intro A cp w' q1 q2
    rw [RPutP, hpt]
    exact ⟨A, cp, rfl, q1, q2⟩
  clear hk hpt hhb
  have hl1 : #[Value.int .u8 (64 * c + t + 32)] = (bc [UInt8.ofNat g]).toArray := by
    simp only [bc, List.map_cons, List.map_nil, UInt8.toNat_ofNat']
    congr 3
    omega
  have hl2 : #[Value.int .u8 (130), .int .u8 ((n : Int) / 256), .int .u8 ((n : Int) % 256)] = (bc [130, UInt8.ofNat (n / 256), UInt8.ofNat n]).toArray := by
    simp only [bc, List.map_cons, List.map_nil, UInt8.toNat_ofNat']
    have e0 : ((n % 2 ^ 8 : Nat) : Int) = (n : Int) % 256 := by omega
    have e1 : ((n / 256 % 2 ^ 8 : Nat) : Int) = (n : Int) / 256 := by omega
    rw [e0, e1]
    all_goals rfl
  obtain ⟨z, hz⟩ : ∃ z : Int, (n : Int) = z := ⟨_, rfl⟩
  have g1 : (256 : Int) ≤ z := by omega
  have g2 : z < 65536 := by omega
  rw [hz] at kk hP hl2 ⊢
  clear h1 h2 hz
  have HP := Lib.hid hP
  clear hP
  have HO := Lib.hid (fun (W : World) (B : Nat) (hB : B ≤ W.heap.size) => Own.lit W [UInt8.ofNat g] _ 1 B rfl hl1 hB (by decide))
  have HL := Lib.hid (fun W : World => BR.lit W 5 [130, UInt8.ofNat (n / 256), UInt8.ofNat n] _ 3 rfl hl2)
  clear hl1 hl2
  have o0 := HO.out (w.alloc (.cells #[.int .i64 c, .int .i64 t, .bool true, .int .i64 z] 89)) w.heap.size (by simp)
  simp only [World.size_alloc] at o0
  have k0 := kk.alloc (.cells #[.int .u8 (64 * c + t + 32)] 5)
  have l0 := HL.out ((w.alloc (.cells #[.int .i64 c, .int .i64 t, .bool true, .int .i64 z] 89)).alloc (.cells #[.int .u8 (64 * c + t + 32)] 5))
  simp only [World.size_alloc] at l0
  have O0 := Lib.hid (o0.kp ((Kp.refl (fun _ => False) _).alloc (.cells #[.int .u8 (130), .int .u8 (z / 256), .int .u8 (z % 256)] 5)) (fun _ _ h => h))
  have L0 := Lib.hid l0
  have K1 := Lib.hid (k0.alloc (.cells #[.int .u8 (130), .int .u8 (z / 256), .int .u8 (z % 256)] 5))
  clear o0 l0
  go_enter Tryd.func57, Tryd.ntmps57
  go_wp2_with (at_builtin; refine app_bytes rfl (.tmp 39) (.tmp 48) rfl w.heap.size _ 1 _ [UInt8.ofNat g] rfl rfl O0.out _ _ 3 _ [130, UInt8.ofNat (n / 256), UInt8.ofNat n] rfl rfl L0.out 4 rfl (by omega) (by simp; omega) ?_; intro A1 c1 W1 o1 q1)
  go_ret
  exact HP.out _ _ _ (o1.br rfl) (K1.out.then_ q1 (fun _ h => .inr h))

set_option maxRecDepth 100000 in
set_option maxHeartbeats 1600000 in
theorem rput_ok_t3 (w : World) (c t : Int) (n : Nat) (hk : kindB c t true = true) (h1 : 65536 ≤ n) (h2 : n < 16777216) : Calls Tryd.prog 57 #[.agg #[.int .i64 c, .int .i64 t, .bool true, .int .i64 n]] w (RPutP c t true n w) := by
  obtain ⟨hcc, ht0, ht1⟩ := kindB_cases hk
  obtain ⟨f, g, -, hf2, -, hhb, hg2, hf, hg⟩ := hb_first hk
  have kk : Kp (fun _ => False) w (w.alloc (.cells #[.int .i64 c, .int .i64 t, .bool true, .int .i64 n] 89)) := (Kp.refl _ _).alloc _
  have hpt : pt c t true n = (UInt8.ofNat g :: [131, UInt8.ofNat (n / 65536), UInt8.ofNat (n / 256), UInt8.ofNat n], 0) := by
    rw [pt, if_pos hk, if_neg (by omega), hhb, Int.toNat_natCast, lenB]
    simp only [if_neg (show ¬ n < 128 by omega), if_neg (show ¬ n < 256 by omega), if_neg (show ¬ n < 65536 by omega), beB, List.nil_append, List.cons_append, Nat.div_div_eq_div_mul]
    rfl
  have hP : ∀ A cp w', BR w' (w.heap.size ≤ ·) (.slice A 5 cp) (UInt8.ofNat g :: [131, UInt8.ofNat (n / 65536), UInt8.ofNat (n / 256), UInt8.ofNat n]) → Kp (fun _ => False) w w' → RPutP c t true n w (.returned (.slice A 5 cp)) w' := by
    intro A cp w' q1 q2
    rw [RPutP, hpt]
    exact ⟨A, cp, rfl, q1, q2⟩
  clear hk hpt hhb
  have hl1 : #[Value.int .u8 (64 * c + t + 32)] = (bc [UInt8.ofNat g]).toArray := by
    simp only [bc, List.map_cons, List.map_nil, UInt8.toNat_ofNat']
    congr 3
    omega
  have hl2 : #[Value.int .u8 (131), .int .u8 ((n : Int) / 65536), .int .u8 ((n : Int) / 256 % 256), .int .u8 ((n : Int) % 256)] = (bc [131, UInt8.ofNat (n / 65536), UInt8.ofNat (n / 256), UInt8.ofNat n]).toArray := by
    simp only [bc, List.map_cons, List.map_nil, UInt8.toNat_ofNat']
    have e0 : ((n % 2 ^ 8 : Nat) : Int) = (n : Int) % 256 := by omega
    have e1 : ((n / 256 % 2 ^ 8 : Nat) : Int) = (n : Int) / 256 % 256 := by omega
    have e2 : ((n / 65536 % 2 ^ 8 : Nat) : Int) = (n : Int) / 65536 := by omega
    rw [e0, e1, e2]
    all_goals rfl
  obtain ⟨z, hz⟩ : ∃ z : Int, (n : Int) = z := ⟨_, rfl⟩
  have g1 : (65536 : Int) ≤ z := by omega
  have g2 : z < 16777216 := by omega
  rw [hz] at kk hP hl2 ⊢
  clear h1 h2 hz
  have HP := Lib.hid hP
  clear hP
  have HO := Lib.hid (fun (W : World) (B : Nat) (hB : B ≤ W.heap.size) => Own.lit W [UInt8.ofNat g] _ 1 B rfl hl1 hB (by decide))
  have HL := Lib.hid (fun W : World => BR.lit W 5 [131, UInt8.ofNat (n / 65536), UInt8.ofNat (n / 256), UInt8.ofNat n] _ 4 rfl hl2)
  clear hl1 hl2
  have o0 := HO.out (w.alloc (.cells #[.int .i64 c, .int .i64 t, .bool true, .int .i64 z] 89)) w.heap.size (by simp)
  simp only [World.size_alloc] at o0
  have k0 := kk.alloc (.cells #[.int .u8 (64 * c + t + 32)] 5)
  have l0 := HL.out ((w.alloc (.cells #[.int .i64 c, .int .i64 t, .bool true, .int .i64 z] 89)).alloc (.cells #[.int .u8 (64 * c + t + 32)] 5))
  simp only [World.size_alloc] at l0
  have O0 := Lib.hid (o0.kp ((Kp.refl (fun _ => False) _).alloc (.cells #[.int .u8 (131), .int .u8 (z / 65536), .int .u8 (z / 256 % 256), .int .u8 (z % 256)] 5)) (fun _ _ h => h))
  have L0 := Lib.hid l0
  have K1 := Lib.hid (k0.alloc (.cells #[.int .u8 (131), .int .u8 (z / 65536), .int .u8 (z / 256 % 256), .int .u8 (z % 256)] 5))
  clear o0 l0
  go_enter Tryd.func57, Tryd.ntmps57
  go_wp2_with (at_builtin; refine app_bytes rfl (.tmp 50) (.tmp 64) rfl w.heap.size _ 1 _ [UInt8.ofNat g] rfl rfl O0.out _ _ 4 _ [131, UInt8.ofNat (n / 65536), UInt8.ofNat (n / 256), UInt8.ofNat n] rfl rfl L0.out 5 rfl (by omega) (by simp; omega) ?_; intro A1 c1 W1 o1 q1)
  go_ret
  exact HP.out _ _ _ (o1.br rfl) (K1.out.then_ q1 (fun _ h => .inr h))

theorem rput_any (w : World) (c t : Int) (m : Bool) (N : Nat) (hk : kindB c t m = true) (hN : N ≤ 16777215) : Calls Tryd.prog 57 #[.agg #[.int .i64 c, .int .i64 t, .bool m, .int .i64 N]] w (RPutP c t m N w) := by
  cases m
  · rcases Nat.lt_or_ge N 128 with h | h
    · exact rput_ok_f0 w c t N hk (Nat.zero_le _) h
    rcases Nat.lt_or_ge N 256 with h' | h'
    · exact rput_ok_f1 w c t N hk h h'
    rcases Nat.lt_or_ge N 65536 with h'' | h''
    · exact rput_ok_f2 w c t N hk h' h''
    · exact rput_ok_f3 w c t N hk h'' (by omega)
  · rcases Nat.lt_or_ge N 128 with h | h
    · exact rput_ok_t0 w c t N hk (Nat.zero_le _) h
    rcases Nat.lt_or_ge N 256 with h' | h'
    · exact rput_ok_t1 w c t N hk h h'
    rcases Nat.lt_or_ge N 65536 with h'' | h''
    · exact rput_ok_t2 w c t N hk h' h''
    · exact rput_ok_t3 w c t N hk h'' (by omega)

end Go.Proofs.YtgjbfgkcbehjnaaDoor

namespace Go.Proofs.YtgjbfgkcbehjnaaDoor
open Go.RowKit

/-- The first byte is made again. -/
theorem hb_self {b : UInt8} (_h : topB b = true) : hb ((b.toNat : Int) / 64) ((b.toNat : Int) % 32) (b.toNat / 32 % 2 == 1) = b := by
  have hlt := b.toNat_lt
  apply UInt8.toNat_inj.1
  rw [hb, UInt8.toNat_ofNat']
  have e : (if (b.toNat / 32 % 2 == 1) = true then (32 : Int) else 0) = (b.toNat / 32 % 2 * 32 : Nat) := by
    rcases Nat.mod_two_eq_zero_or_one (b.toNat / 32) with h | h
    · rw [h]; rfl
    · rw [h]; rfl
  rw [e]
  omega
theorem cells4 {w : World} {g : Nat} {t : TypeId} {a b c d : Value} (h : Blk w g t #[a, b, c, d]) : w.cell? ⟨g, 0, none⟩ = some a ∧ w.cell? ⟨g, 1, none⟩ = some b ∧ w.cell? ⟨g, 2, none⟩ = some c ∧ w.cell? ⟨g, 3, none⟩ = some d :=
  ⟨h.cell 0, h.cell 1, h.cell 2, h.cell 3⟩
theorem pt_top {b : UInt8} (h : topB b = true) (L : Nat) (hL : L ≤ 16777215) : pt ((b.toNat : Int) / 64) ((b.toNat : Int) % 32) (b.toNat / 32 % 2 == 1) L = (b :: lenB L, 0) := by
  rw [pt, if_pos (show kindB ((b.toNat : Int) / 64) ((b.toNat : Int) % 32) (b.toNat / 32 % 2 == 1) = true from h), if_neg (by omega), hb_self h, Int.toNat_natCast]

set_option maxRecDepth 100000 in
theorem rread_nil (w : World) (ok : Nat → Prop) (v : Value) (hv : BR w ok v []) : Calls Tryd.prog 66 #[v] w fun e w' => e = .returned (rdV []) ∧ Kp (fun _ => False) w w' := by
  obtain ⟨A, cp, rfl, hlc, hr⟩ := id hv
  have hkk : Kp (fun _ => False) w (w.alloc (.cells #[.int .i64 0, .int .i64 0, .bool false, .int .i64 0] 89)) := (Kp.refl _ _).alloc _
  have HKK := Lib.hid hkk
  clear hkk
  go_enter Tryd.func66, Tryd.ntmps66
  go_wp2_with fail
  refine bodyPost_ret (v := .tuple #[hdV hd0, .int .i64 0, .int .i64 4]) (by simp [results, Tryd.results66, go_sem, hdV, hd0]) rfl ⟨rfl, HKK.out⟩

set_option maxRecDepth 100000 in
set_option maxHeartbeats 1600000 in
theorem rread_bad (w : World) (ok : Nat → Prop) (b : UInt8) (t : List UInt8) (v : Value) (hv : BR w ok v (b :: t)) (hl : (b :: t).length ≤ 140737488351232) (htop : topB b = false) :
    Calls Tryd.prog 66 #[v] w fun e w' => e = .returned (rdV (b :: t)) ∧ Kp (fun _ => False) w w' := by
  obtain ⟨A, cp, rfl, hlc, hr⟩ := id hv
  obtain ⟨g, off, rfl, hok, -⟩ := hr.byte (k := 0) (by simp)
  have hcell : ∀ k (hk : k < (b :: t).length), w.cell? ⟨g, off + k, none⟩ = some (.int .u8 ((b :: t)[k].toNat : Int)) := by
    intro k hk
    obtain ⟨g', off', e', _, h⟩ := hr.byte hk
    simp only [Option.some.injEq, Addr.mk.injEq, and_true] at e'
    obtain ⟨rfl, rfl⟩ := e'
    exact h
  obtain ⟨x, hx⟩ : ∃ x : Nat, b.toNat = x := ⟨_, rfl⟩
  obtain ⟨m, hm'⟩ : ∃ m, (x / 32 % 2 == 1) = m := ⟨_, rfl⟩
  have hlt := b.toNat_lt
  rw [hx] at hlt
  have c0 : w.cell? ⟨g, off, none⟩ = some (.int .u8 x) := by have := hcell 0 (by (try simp); (try omega)); first | (simp [*]; done) | simpa [*] using this
  have d0 : ∀ o, (w.alloc o).cell? ⟨g, off, none⟩ = some (.int .u8 x) := fun o => ((Kp.refl (fun _ => False) w).alloc o).cell c0 (fun h => h)
  have e0 : ∀ o1 o2, ((w.alloc o1).alloc o2).cell? ⟨g, off, none⟩ = some (.int .u8 x) := fun o1 o2 => (((Kp.refl (fun _ => False) w).alloc o1).alloc o2).cell c0 (fun h => h)
  have hm : ((x : Int) / 32 % 2 == 1) = m := by rw [← hm']; rcases Nat.mod_two_eq_zero_or_one (x / 32) with h | h <;> simp [h] <;> omega
  have HK : Hid (kindB (x / 64) (x % 32) m = false) := Lib.hid (by simpa [topB, hx, hm'] using htop)
  have KK : Hid (Kp (fun _ => False) w ((w.alloc (.cells #[.int .i64 0, .int .i64 0, .bool false, .int .i64 0] 89)).alloc (.cells #[.int .i64 (↑x / 64), .int .i64 (↑x % 32), .bool m, .int .i64 0] 89)).drew) := Lib.hid ((((Kp.refl _ _).alloc _).alloc _).drew)
  have HR : Hid (rdV (b :: t) = .tuple #[hdV hd0, .int .i64 0, .int .i64 13]) := Lib.hid (by rw [rdV, rd_bad htop])
  clear hcell hr hv hm' htop
  rw [List.length_cons] at *
  generalize t.length = n at *
  go_enter Tryd.func66, Tryd.ntmps66
  go_wp2_with fail
  go_region
  go_wp2_with fail
  refine (rkind_any _ _ _ _).mono ?_
  rintro e w2 ⟨rfl, rfl⟩
  rw [HK.out]
  go_wp2_with fail
  refine bodyPost_ret (v := .tuple #[hdV hd0, .int .i64 0, .int .i64 13]) (by simp [results, Tryd.results66, go_sem, hdV, hd0]) rfl ⟨by rw [HR.out], KK.out⟩

set_option maxRecDepth 100000 in
set_option maxHeartbeats 1600000 in
theorem rread_one (w : World) (ok : Nat → Prop) (b : UInt8) (v : Value) (hv : BR w ok v ([b])) (_hl : ([b]).length ≤ 140737488351232) (htop : topB b = true) :
    Calls Tryd.prog 66 #[v] w fun e w' => e = .returned (rdV ([b])) ∧ Kp (fun _ => False) w w' := by
  obtain ⟨A, cp, rfl, hlc, hr⟩ := id hv
  obtain ⟨g, off, rfl, hok, -⟩ := hr.byte (k := 0) (by simp)
  have hcell : ∀ k (hk : k < ([b]).length), w.cell? ⟨g, off + k, none⟩ = some (.int .u8 (([b])[k].toNat : Int)) := by
    intro k hk
    obtain ⟨g', off', e', _, h⟩ := hr.byte hk
    simp only [Option.some.injEq, Addr.mk.injEq, and_true] at e'
    obtain ⟨rfl, rfl⟩ := e'
    exact h
  obtain ⟨x, hx⟩ : ∃ x : Nat, b.toNat = x := ⟨_, rfl⟩
  obtain ⟨m, hm'⟩ : ∃ m, (x / 32 % 2 == 1) = m := ⟨_, rfl⟩
  have hlt := b.toNat_lt
  rw [hx] at hlt
  have c0 : w.cell? ⟨g, off, none⟩ = some (.int .u8 x) := by have := hcell 0 (by (try simp); (try omega)); first | (simp [*]; done) | simpa [*] using this
  have d0 : ∀ o, (w.alloc o).cell? ⟨g, off, none⟩ = some (.int .u8 x) := fun o => ((Kp.refl (fun _ => False) w).alloc o).cell c0 (fun h => h)
  have e0 : ∀ o1 o2, ((w.alloc o1).alloc o2).cell? ⟨g, off, none⟩ = some (.int .u8 x) := fun o1 o2 => (((Kp.refl (fun _ => False) w).alloc o1).alloc o2).cell c0 (fun h => h)
  have hm : ((x : Int) / 32 % 2 == 1) = m := by rw [← hm']; rcases Nat.mod_two_eq_zero_or_one (x / 32) with h | h <;> simp [h] <;> omega
  have HK : Hid (kindB (x / 64) (x % 32) m = true) := Lib.hid (by simpa [topB, hx, hm'] using htop)
  have KK : Hid (Kp (fun _ => False) w ((w.alloc (.cells #[.int .i64 0, .int .i64 0, .bool false, .int .i64 0] 89)).alloc (.cells #[.int .i64 (↑x / 64), .int .i64 (↑x % 32), .bool m, .int .i64 0] 89)).drew) := Lib.hid ((((Kp.refl _ _).alloc _).alloc _).drew)
  have HR : Hid (rdV [b] = .tuple #[hdV hd0, .int .i64 1, .int .i64 4]) := Lib.hid (by simp [rdV, rd, htop])
  clear hcell hr hv hm' htop
  rw [List.length_singleton] at *
  go_enter Tryd.func66, Tryd.ntmps66
  go_wp2_with fail
  go_region
  go_wp2_with fail
  refine (rkind_any _ _ _ _).mono ?_
  rintro e w2 ⟨rfl, rfl⟩
  rw [HK.out]
  go_wp2_with fail
  refine bodyPost_ret (v := .tuple #[hdV hd0, .int .i64 1, .int .i64 4]) (by simp [results, Tryd.results66, go_sem, hdV, hd0]) rfl ⟨by rw [HR.out], KK.out⟩

set_option maxRecDepth 100000 in
set_option maxHeartbeats 1600000 in
theorem rread_128 (w : World) (ok : Nat → Prop) (b c : UInt8) (u : List UInt8) (hc : c.toNat = 128) (v : Value) (hv : BR w ok v (b :: c :: u)) (hl : (b :: c :: u).length ≤ 140737488351232) (htop : topB b = true) :
    Calls Tryd.prog 66 #[v] w fun e w' => e = .returned (rdV (b :: c :: u)) ∧ Kp (fun _ => False) w w' := by
  obtain ⟨A, cp, rfl, hlc, hr⟩ := id hv
  obtain ⟨g, off, rfl, hok, -⟩ := hr.byte (k := 0) (by simp)
  have hcell : ∀ k (hk : k < (b :: c :: u).length), w.cell? ⟨g, off + k, none⟩ = some (.int .u8 ((b :: c :: u)[k].toNat : Int)) := by
    intro k hk
    obtain ⟨g', off', e', _, h⟩ := hr.byte hk
    simp only [Option.some.injEq, Addr.mk.injEq, and_true] at e'
    obtain ⟨rfl, rfl⟩ := e'
    exact h
  obtain ⟨x, hx⟩ : ∃ x : Nat, b.toNat = x := ⟨_, rfl⟩
  obtain ⟨m, hm'⟩ : ∃ m, (x / 32 % 2 == 1) = m := ⟨_, rfl⟩
  have hlt := b.toNat_lt
  rw [hx] at hlt
  obtain ⟨y, hy⟩ : ∃ y : Nat, c.toNat = y := ⟨_, rfl⟩
  rw [hy] at hc
  have c0 : w.cell? ⟨g, off, none⟩ = some (.int .u8 x) := by have := hcell 0 (by (try simp); (try omega)); first | (simp [*]; done) | simpa [*] using this
  have d0 : ∀ o, (w.alloc o).cell? ⟨g, off, none⟩ = some (.int .u8 x) := fun o => ((Kp.refl (fun _ => False) w).alloc o).cell c0 (fun h => h)
  have e0 : ∀ o1 o2, ((w.alloc o1).alloc o2).cell? ⟨g, off, none⟩ = some (.int .u8 x) := fun o1 o2 => (((Kp.refl (fun _ => False) w).alloc o1).alloc o2).cell c0 (fun h => h)
  have c1 : w.cell? ⟨g, off + 1, none⟩ = some (.int .u8 y) := by have := hcell 1 (by (try simp); (try omega)); first | (simp [*]; done) | simpa [*] using this
  have d1 : ∀ o, (w.alloc o).cell? ⟨g, off + 1, none⟩ = some (.int .u8 y) := fun o => ((Kp.refl (fun _ => False) w).alloc o).cell c1 (fun h => h)
  have e1 : ∀ o1 o2, ((w.alloc o1).alloc o2).cell? ⟨g, off + 1, none⟩ = some (.int .u8 y) := fun o1 o2 => (((Kp.refl (fun _ => False) w).alloc o1).alloc o2).cell c1 (fun h => h)
  have hm : ((x : Int) / 32 % 2 == 1) = m := by rw [← hm']; rcases Nat.mod_two_eq_zero_or_one (x / 32) with h | h <;> simp [h] <;> omega
  have HK : Hid (kindB (x / 64) (x % 32) m = true) := Lib.hid (by simpa [topB, hx, hm'] using htop)
  have KK : Hid (Kp (fun _ => False) w ((w.alloc (.cells #[.int .i64 0, .int .i64 0, .bool false, .int .i64 0] 89)).alloc (.cells #[.int .i64 (↑x / 64), .int .i64 (↑x % 32), .bool m, .int .i64 0] 89)).drew) := Lib.hid ((((Kp.refl _ _).alloc _).alloc _).drew)
  have hy2 := c.toNat_lt
  rw [hy] at hy2
  have hq : ¬ y < 128 := by omega
  have HR : Hid (rdV (b :: c :: u) = .tuple #[hdV hd0, .int .i64 1, .int .i64 13]) := Lib.hid (by simp [rdV, rd, htop, hy, hc])
  clear hcell hr hv hm' htop
  rw [List.length_cons, List.length_cons] at *
  generalize u.length = n at *
  clear hy
  subst hc
  go_enter Tryd.func66, Tryd.ntmps66
  go_wp2_with fail
  go_region
  go_wp2_with fail
  refine (rkind_any _ _ _ _).mono ?_
  rintro e w2 ⟨rfl, rfl⟩
  rw [HK.out]
  go_wp2_with fail
  refine bodyPost_ret (v := .tuple #[hdV hd0, .int .i64 1, .int .i64 13]) (by simp [results, Tryd.results66, go_sem, hdV, hd0]) rfl ⟨by rw [HR.out], KK.out⟩

set_option maxRecDepth 100000 in
set_option maxHeartbeats 1600000 in
theorem rread_132 (w : World) (ok : Nat → Prop) (b c : UInt8) (u : List UInt8) (hc : 131 < c.toNat) (v : Value) (hv : BR w ok v (b :: c :: u)) (hl : (b :: c :: u).length ≤ 140737488351232) (htop : topB b = true) :
    Calls Tryd.prog 66 #[v] w fun e w' => e = .returned (rdV (b :: c :: u)) ∧ Kp (fun _ => False) w w' := by
  obtain ⟨A, cp, rfl, hlc, hr⟩ := id hv
  obtain ⟨g, off, rfl, hok, -⟩ := hr.byte (k := 0) (by simp)
  have hcell : ∀ k (hk : k < (b :: c :: u).length), w.cell? ⟨g, off + k, none⟩ = some (.int .u8 ((b :: c :: u)[k].toNat : Int)) := by
    intro k hk
    obtain ⟨g', off', e', _, h⟩ := hr.byte hk
    simp only [Option.some.injEq, Addr.mk.injEq, and_true] at e'
    obtain ⟨rfl, rfl⟩ := e'
    exact h
  obtain ⟨x, hx⟩ : ∃ x : Nat, b.toNat = x := ⟨_, rfl⟩
  obtain ⟨m, hm'⟩ : ∃ m, (x / 32 % 2 == 1) = m := ⟨_, rfl⟩
  have hlt := b.toNat_lt
  rw [hx] at hlt
  obtain ⟨y, hy⟩ : ∃ y : Nat, c.toNat = y := ⟨_, rfl⟩
  rw [hy] at hc
  have c0 : w.cell? ⟨g, off, none⟩ = some (.int .u8 x) := by have := hcell 0 (by (try simp); (try omega)); first | (simp [*]; done) | simpa [*] using this
  have d0 : ∀ o, (w.alloc o).cell? ⟨g, off, none⟩ = some (.int .u8 x) := fun o => ((Kp.refl (fun _ => False) w).alloc o).cell c0 (fun h => h)
  have e0 : ∀ o1 o2, ((w.alloc o1).alloc o2).cell? ⟨g, off, none⟩ = some (.int .u8 x) := fun o1 o2 => (((Kp.refl (fun _ => False) w).alloc o1).alloc o2).cell c0 (fun h => h)
  have c1 : w.cell? ⟨g, off + 1, none⟩ = some (.int .u8 y) := by have := hcell 1 (by (try simp); (try omega)); first | (simp [*]; done) | simpa [*] using this
  have d1 : ∀ o, (w.alloc o).cell? ⟨g, off + 1, none⟩ = some (.int .u8 y) := fun o => ((Kp.refl (fun _ => False) w).alloc o).cell c1 (fun h => h)
  have e1 : ∀ o1 o2, ((w.alloc o1).alloc o2).cell? ⟨g, off + 1, none⟩ = some (.int .u8 y) := fun o1 o2 => (((Kp.refl (fun _ => False) w).alloc o1).alloc o2).cell c1 (fun h => h)
  have hm : ((x : Int) / 32 % 2 == 1) = m := by rw [← hm']; rcases Nat.mod_two_eq_zero_or_one (x / 32) with h | h <;> simp [h] <;> omega
  have HK : Hid (kindB (x / 64) (x % 32) m = true) := Lib.hid (by simpa [topB, hx, hm'] using htop)
  have KK : Hid (Kp (fun _ => False) w ((w.alloc (.cells #[.int .i64 0, .int .i64 0, .bool false, .int .i64 0] 89)).alloc (.cells #[.int .i64 (↑x / 64), .int .i64 (↑x % 32), .bool m, .int .i64 0] 89)).drew) := Lib.hid ((((Kp.refl _ _).alloc _).alloc _).drew)
  have hy2 := c.toNat_lt
  rw [hy] at hy2
  have hq : ¬ y < 128 := by omega
  have HR : Hid (rdV (b :: c :: u) = .tuple #[hdV hd0, .int .i64 1, .int .i64 13]) := Lib.hid (by simp [rdV, rd, htop, hy, hc, hq])
  clear hcell hr hv hm' htop
  rw [List.length_cons, List.length_cons] at *
  generalize u.length = n at *
  clear hy
  have hq2 : ((y : Int) == 128) = false := by simp; omega
  go_enter Tryd.func66, Tryd.ntmps66
  go_wp2_with fail
  go_region
  go_wp2_with fail
  refine (rkind_any _ _ _ _).mono ?_
  rintro e w2 ⟨rfl, rfl⟩
  rw [HK.out]
  go_wp2_with fail
  refine bodyPost_ret (v := .tuple #[hdV hd0, .int .i64 1, .int .i64 13]) (by simp [results, Tryd.results66, go_sem, hdV, hd0]) rfl ⟨by rw [HR.out], KK.out⟩

set_option maxRecDepth 100000 in
set_option maxHeartbeats 1600000 in
theorem rread_short1 (w : World) (ok : Nat → Prop) (b c : UInt8) (u : List UInt8) (hc : c.toNat = 129) (hu : u.length < 1) (v : Value) (hv : BR w ok v (b :: c :: u)) (_hl : (b :: c :: u).length ≤ 140737488351232) (htop : topB b = true) :
    Calls Tryd.prog 66 #[v] w fun e w' => e = .returned (rdV (b :: c :: u)) ∧ Kp (fun _ => False) w w' := by
  obtain ⟨A, cp, rfl, hlc, hr⟩ := id hv
  obtain ⟨g, off, rfl, hok, -⟩ := hr.byte (k := 0) (by simp)
  have hcell : ∀ k (hk : k < (b :: c :: u).length), w.cell? ⟨g, off + k, none⟩ = some (.int .u8 ((b :: c :: u)[k].toNat : Int)) := by
    intro k hk
    obtain ⟨g', off', e', _, h⟩ := hr.byte hk
    simp only [Option.some.injEq, Addr.mk.injEq, and_true] at e'
    obtain ⟨rfl, rfl⟩ := e'
    exact h
  obtain ⟨x, hx⟩ : ∃ x : Nat, b.toNat = x := ⟨_, rfl⟩
  obtain ⟨m, hm'⟩ : ∃ m, (x / 32 % 2 == 1) = m := ⟨_, rfl⟩
  have hlt := b.toNat_lt
  rw [hx] at hlt
  have c0 : w.cell? ⟨g, off, none⟩ = some (.int .u8 x) := by have := hcell 0 (by (try simp); (try omega)); first | (simp [*]; done) | simpa [*] using this
  have d0 : ∀ o, (w.alloc o).cell? ⟨g, off, none⟩ = some (.int .u8 x) := fun o => ((Kp.refl (fun _ => False) w).alloc o).cell c0 (fun h => h)
  have e0 : ∀ o1 o2, ((w.alloc o1).alloc o2).cell? ⟨g, off, none⟩ = some (.int .u8 x) := fun o1 o2 => (((Kp.refl (fun _ => False) w).alloc o1).alloc o2).cell c0 (fun h => h)
  have c1 : w.cell? ⟨g, off + 1, none⟩ = some (.int .u8 129) := by have := hcell 1 (by (try simp); (try omega)); first | (simp [*]; done) | simpa [*] using this
  have d1 : ∀ o, (w.alloc o).cell? ⟨g, off + 1, none⟩ = some (.int .u8 129) := fun o => ((Kp.refl (fun _ => False) w).alloc o).cell c1 (fun h => h)
  have e1 : ∀ o1 o2, ((w.alloc o1).alloc o2).cell? ⟨g, off + 1, none⟩ = some (.int .u8 129) := fun o1 o2 => (((Kp.refl (fun _ => False) w).alloc o1).alloc o2).cell c1 (fun h => h)
  have hm : ((x : Int) / 32 % 2 == 1) = m := by rw [← hm']; rcases Nat.mod_two_eq_zero_or_one (x / 32) with h | h <;> simp [h] <;> omega
  have HK : Hid (kindB (x / 64) (x % 32) m = true) := Lib.hid (by simpa [topB, hx, hm'] using htop)
  have KK : Hid (Kp (fun _ => False) w ((w.alloc (.cells #[.int .i64 0, .int .i64 0, .bool false, .int .i64 0] 89)).alloc (.cells #[.int .i64 (↑x / 64), .int .i64 (↑x % 32), .bool m, .int .i64 0] 89)).drew) := Lib.hid ((((Kp.refl _ _).alloc _).alloc _).drew)
  have HR : Hid (rdV (b :: c :: u) = .tuple #[hdV hd0, .int .i64 ((u.length : Int) + 1 + 1), .int .i64 4]) := Lib.hid (by simp [rdV, rd, htop, hc, hu]; omega)
  clear hcell hr hv hm' htop
  rw [List.length_cons, List.length_cons] at *
  generalize u.length = n at *
  have hs : (n : Int) + 1 + 1 < 3 := by omega
  have KK2 := Lib.hid (fun z : Int => (show Kp (fun _ => False) w ((w.alloc (.cells #[.int .i64 0, .int .i64 0, .bool false, .int .i64 0] 89)).alloc (.cells #[.int .i64 (↑x / 64), .int .i64 (↑x % 32), .bool m, .int .i64 z] 89)).drew from ((((Kp.refl _ _).alloc _).alloc _).drew)))
  clear hc
  go_enter Tryd.func66, Tryd.ntmps66
  go_wp2_with fail
  go_region
  go_wp2_with fail
  refine (rkind_any _ _ _ _).mono ?_
  rintro e w2 ⟨rfl, rfl⟩
  rw [HK.out]
  go_wp2_with fail
  refine bodyPost_ret (v := .tuple #[hdV hd0, .int .i64 ((n : Int) + 1 + 1), .int .i64 4]) (by simp [results, Tryd.results66, go_sem, hdV, hd0]) rfl ⟨by rw [HR.out], KK2.out _⟩

set_option maxRecDepth 100000 in
set_option maxHeartbeats 1600000 in
theorem rread_short2 (w : World) (ok : Nat → Prop) (b c : UInt8) (u : List UInt8) (hc : c.toNat = 130) (hu : u.length < 2) (v : Value) (hv : BR w ok v (b :: c :: u)) (_hl : (b :: c :: u).length ≤ 140737488351232) (htop : topB b = true) :
    Calls Tryd.prog 66 #[v] w fun e w' => e = .returned (rdV (b :: c :: u)) ∧ Kp (fun _ => False) w w' := by
  obtain ⟨A, cp, rfl, hlc, hr⟩ := id hv
  obtain ⟨g, off, rfl, hok, -⟩ := hr.byte (k := 0) (by simp)
  have hcell : ∀ k (hk : k < (b :: c :: u).length), w.cell? ⟨g, off + k, none⟩ = some (.int .u8 ((b :: c :: u)[k].toNat : Int)) := by
    intro k hk
    obtain ⟨g', off', e', _, h⟩ := hr.byte hk
    simp only [Option.some.injEq, Addr.mk.injEq, and_true] at e'
    obtain ⟨rfl, rfl⟩ := e'
    exact h
  obtain ⟨x, hx⟩ : ∃ x : Nat, b.toNat = x := ⟨_, rfl⟩
  obtain ⟨m, hm'⟩ : ∃ m, (x / 32 % 2 == 1) = m := ⟨_, rfl⟩
  have hlt := b.toNat_lt
  rw [hx] at hlt
  have c0 : w.cell? ⟨g, off, none⟩ = some (.int .u8 x) := by have := hcell 0 (by (try simp); (try omega)); first | (simp [*]; done) | simpa [*] using this
  have d0 : ∀ o, (w.alloc o).cell? ⟨g, off, none⟩ = some (.int .u8 x) := fun o => ((Kp.refl (fun _ => False) w).alloc o).cell c0 (fun h => h)
  have e0 : ∀ o1 o2, ((w.alloc o1).alloc o2).cell? ⟨g, off, none⟩ = some (.int .u8 x) := fun o1 o2 => (((Kp.refl (fun _ => False) w).alloc o1).alloc o2).cell c0 (fun h => h)
  have c1 : w.cell? ⟨g, off + 1, none⟩ = some (.int .u8 130) := by have := hcell 1 (by (try simp); (try omega)); first | (simp [*]; done) | simpa [*] using this
  have d1 : ∀ o, (w.alloc o).cell? ⟨g, off + 1, none⟩ = some (.int .u8 130) := fun o => ((Kp.refl (fun _ => False) w).alloc o).cell c1 (fun h => h)
  have e1 : ∀ o1 o2, ((w.alloc o1).alloc o2).cell? ⟨g, off + 1, none⟩ = some (.int .u8 130) := fun o1 o2 => (((Kp.refl (fun _ => False) w).alloc o1).alloc o2).cell c1 (fun h => h)
  have hm : ((x : Int) / 32 % 2 == 1) = m := by rw [← hm']; rcases Nat.mod_two_eq_zero_or_one (x / 32) with h | h <;> simp [h] <;> omega
  have HK : Hid (kindB (x / 64) (x % 32) m = true) := Lib.hid (by simpa [topB, hx, hm'] using htop)
  have KK : Hid (Kp (fun _ => False) w ((w.alloc (.cells #[.int .i64 0, .int .i64 0, .bool false, .int .i64 0] 89)).alloc (.cells #[.int .i64 (↑x / 64), .int .i64 (↑x % 32), .bool m, .int .i64 0] 89)).drew) := Lib.hid ((((Kp.refl _ _).alloc _).alloc _).drew)
  have HR : Hid (rdV (b :: c :: u) = .tuple #[hdV hd0, .int .i64 ((u.length : Int) + 1 + 1), .int .i64 4]) := Lib.hid (by simp [rdV, rd, htop, hc, hu]; omega)
  clear hcell hr hv hm' htop
  rw [List.length_cons, List.length_cons] at *
  generalize u.length = n at *
  have hs : (n : Int) + 1 + 1 < 4 := by omega
  have KK2 := Lib.hid (fun z : Int => (show Kp (fun _ => False) w ((w.alloc (.cells #[.int .i64 0, .int .i64 0, .bool false, .int .i64 0] 89)).alloc (.cells #[.int .i64 (↑x / 64), .int .i64 (↑x % 32), .bool m, .int .i64 z] 89)).drew from ((((Kp.refl _ _).alloc _).alloc _).drew)))
  clear hc
  go_enter Tryd.func66, Tryd.ntmps66
  go_wp2_with fail
  go_region
  go_wp2_with fail
  refine (rkind_any _ _ _ _).mono ?_
  rintro e w2 ⟨rfl, rfl⟩
  rw [HK.out]
  go_wp2_with fail
  refine bodyPost_ret (v := .tuple #[hdV hd0, .int .i64 ((n : Int) + 1 + 1), .int .i64 4]) (by simp [results, Tryd.results66, go_sem, hdV, hd0]) rfl ⟨by rw [HR.out], KK2.out _⟩

set_option maxRecDepth 100000 in
set_option maxHeartbeats 1600000 in
theorem rread_short3 (w : World) (ok : Nat → Prop) (b c : UInt8) (u : List UInt8) (hc : c.toNat = 131) (hu : u.length < 3) (v : Value) (hv : BR w ok v (b :: c :: u)) (_hl : (b :: c :: u).length ≤ 140737488351232) (htop : topB b = true) :
    Calls Tryd.prog 66 #[v] w fun e w' => e = .returned (rdV (b :: c :: u)) ∧ Kp (fun _ => False) w w' := by
  obtain ⟨A, cp, rfl, hlc, hr⟩ := id hv
  obtain ⟨g, off, rfl, hok, -⟩ := hr.byte (k := 0) (by simp)
  have hcell : ∀ k (hk : k < (b :: c :: u).length), w.cell? ⟨g, off + k, none⟩ = some (.int .u8 ((b :: c :: u)[k].toNat : Int)) := by
    intro k hk
    obtain ⟨g', off', e', _, h⟩ := hr.byte hk
    simp only [Option.some.injEq, Addr.mk.injEq, and_true] at e'
    obtain ⟨rfl, rfl⟩ := e'
    exact h
  obtain ⟨x, hx⟩ : ∃ x : Nat, b.toNat = x := ⟨_, rfl⟩
  obtain ⟨m, hm'⟩ : ∃ m, (x / 32 % 2 == 1) = m := ⟨_, rfl⟩
  have hlt := b.toNat_lt
  rw [hx] at hlt
  have c0 : w.cell? ⟨g, off, none⟩ = some (.int .u8 x) := by have := hcell 0 (by (try simp); (try omega)); first | (simp [*]; done) | simpa [*] using this
  have d0 : ∀ o, (w.alloc o).cell? ⟨g, off, none⟩ = some (.int .u8 x) := fun o => ((Kp.refl (fun _ => False) w).alloc o).cell c0 (fun h => h)
  have e0 : ∀ o1 o2, ((w.alloc o1).alloc o2).cell? ⟨g, off, none⟩ = some (.int .u8 x) := fun o1 o2 => (((Kp.refl (fun _ => False) w).alloc o1).alloc o2).cell c0 (fun h => h)
  have c1 : w.cell? ⟨g, off + 1, none⟩ = some (.int .u8 131) := by have := hcell 1 (by (try simp); (try omega)); first | (simp [*]; done) | simpa [*] using this
  have d1 : ∀ o, (w.alloc o).cell? ⟨g, off + 1, none⟩ = some (.int .u8 131) := fun o => ((Kp.refl (fun _ => False) w).alloc o).cell c1 (fun h => h)
  have e1 : ∀ o1 o2, ((w.alloc o1).alloc o2).cell? ⟨g, off + 1, none⟩ = some (.int .u8 131) := fun o1 o2 => (((Kp.refl (fun _ => False) w).alloc o1).alloc o2).cell c1 (fun h => h)
  have hm : ((x : Int) / 32 % 2 == 1) = m := by rw [← hm']; rcases Nat.mod_two_eq_zero_or_one (x / 32) with h | h <;> simp [h] <;> omega
  have HK : Hid (kindB (x / 64) (x % 32) m = true) := Lib.hid (by simpa [topB, hx, hm'] using htop)
  have KK : Hid (Kp (fun _ => False) w ((w.alloc (.cells #[.int .i64 0, .int .i64 0, .bool false, .int .i64 0] 89)).alloc (.cells #[.int .i64 (↑x / 64), .int .i64 (↑x % 32), .bool m, .int .i64 0] 89)).drew) := Lib.hid ((((Kp.refl _ _).alloc _).alloc _).drew)
  have HR : Hid (rdV (b :: c :: u) = .tuple #[hdV hd0, .int .i64 ((u.length : Int) + 1 + 1), .int .i64 4]) := Lib.hid (by simp [rdV, rd, htop, hc, hu]; omega)
  clear hcell hr hv hm' htop
  rw [List.length_cons, List.length_cons] at *
  generalize u.length = n at *
  have hs : (n : Int) + 1 + 1 < 5 := by omega
  have KK2 := Lib.hid (fun z : Int => (show Kp (fun _ => False) w ((w.alloc (.cells #[.int .i64 0, .int .i64 0, .bool false, .int .i64 0] 89)).alloc (.cells #[.int .i64 (↑x / 64), .int .i64 (↑x % 32), .bool m, .int .i64 z] 89)).drew from ((((Kp.refl _ _).alloc _).alloc _).drew)))
  clear hc
  go_enter Tryd.func66, Tryd.ntmps66
  go_wp2_with fail
  go_region
  go_wp2_with fail
  refine (rkind_any _ _ _ _).mono ?_
  rintro e w2 ⟨rfl, rfl⟩
  rw [HK.out]
  go_wp2_with fail
  refine bodyPost_ret (v := .tuple #[hdV hd0, .int .i64 ((n : Int) + 1 + 1), .int .i64 4]) (by simp [results, Tryd.results66, go_sem, hdV, hd0]) rfl ⟨by rw [HR.out], KK2.out _⟩

set_option maxRecDepth 100000 in
set_option maxHeartbeats 1600000 in
theorem rread_small (w : World) (ok : Nat → Prop) (b c : UInt8) (u : List UInt8) (hc : c.toNat < 128) (v : Value) (hv : BR w ok v (b :: c :: u)) (hl : (b :: c :: u).length ≤ 140737488351232) (htop : topB b = true) :
    Calls Tryd.prog 66 #[v] w fun e w' => e = .returned (rdV (b :: c :: u)) ∧ Kp (fun _ => False) w w' := by
  obtain ⟨A, cp, rfl, hlc, hr⟩ := id hv
  obtain ⟨g, off, rfl, hok, -⟩ := hr.byte (k := 0) (by simp)
  have hcell : ∀ k (hk : k < (b :: c :: u).length), w.cell? ⟨g, off + k, none⟩ = some (.int .u8 ((b :: c :: u)[k].toNat : Int)) := by
    intro k hk
    obtain ⟨g', off', e', _, h⟩ := hr.byte hk
    simp only [Option.some.injEq, Addr.mk.injEq, and_true] at e'
    obtain ⟨rfl, rfl⟩ := e'
    exact h
  obtain ⟨x, hx⟩ : ∃ x : Nat, b.toNat = x := ⟨_, rfl⟩
  obtain ⟨m, hm'⟩ : ∃ m, (x / 32 % 2 == 1) = m := ⟨_, rfl⟩
  have hlt := b.toNat_lt
  rw [hx] at hlt
  obtain ⟨y, hy⟩ : ∃ y : Nat, c.toNat = y := ⟨_, rfl⟩
  rw [hy] at hc
  have c0 : w.cell? ⟨g, off, none⟩ = some (.int .u8 x) := by have := hcell 0 (by (try simp); (try omega)); first | (simp [*]; done) | simpa [*] using this
  have d0 : ∀ o, (w.alloc o).cell? ⟨g, off, none⟩ = some (.int .u8 x) := fun o => ((Kp.refl (fun _ => False) w).alloc o).cell c0 (fun h => h)
  have e0 : ∀ o1 o2, ((w.alloc o1).alloc o2).cell? ⟨g, off, none⟩ = some (.int .u8 x) := fun o1 o2 => (((Kp.refl (fun _ => False) w).alloc o1).alloc o2).cell c0 (fun h => h)
  have c1 : w.cell? ⟨g, off + 1, none⟩ = some (.int .u8 y) := by have := hcell 1 (by (try simp); (try omega)); first | (simp [*]; done) | simpa [*] using this
  have d1 : ∀ o, (w.alloc o).cell? ⟨g, off + 1, none⟩ = some (.int .u8 y) := fun o => ((Kp.refl (fun _ => False) w).alloc o).cell c1 (fun h => h)
  have e1 : ∀ o1 o2, ((w.alloc o1).alloc o2).cell? ⟨g, off + 1, none⟩ = some (.int .u8 y) := fun o1 o2 => (((Kp.refl (fun _ => False) w).alloc o1).alloc o2).cell c1 (fun h => h)
  have hm : ((x : Int) / 32 % 2 == 1) = m := by rw [← hm']; rcases Nat.mod_two_eq_zero_or_one (x / 32) with h | h <;> simp [h] <;> omega
  have HK : Hid (kindB (x / 64) (x % 32) m = true) := Lib.hid (by simpa [topB, hx, hm'] using htop)
  have KK : Hid (Kp (fun _ => False) w ((w.alloc (.cells #[.int .i64 0, .int .i64 0, .bool false, .int .i64 0] 89)).alloc (.cells #[.int .i64 (↑x / 64), .int .i64 (↑x % 32), .bool m, .int .i64 0] 89)).drew) := Lib.hid ((((Kp.refl _ _).alloc _).alloc _).drew)
  have HR : Hid (rdV (b :: c :: u) = .tuple #[hdV (↑x / 64, ↑x % 32, m, ↑y), .int .i64 2, .int .i64 0]) := Lib.hid (by simp [rdV, rd, htop, hy, hc, hdB, hx, hm'])
  have hpt : pt (↑x / 64) (↑x % 32) m (y : Int) = ([b, c], 0) := by
    have h := pt_top htop y (by omega)
    rw [hx, hm'] at h
    rw [h, lenB, if_pos hc, ← hy]
    simp
  have hkin : kindB (x / 64) (x % 32) m = true := HK.out
  have hput := fun W => rput_any W (↑x / 64) (↑x % 32) m y hkin (by omega)
  unfold RPutP at hput
  simp only [hpt, List.length_cons, List.length_nil, Nat.reduceAdd] at hput
  have HPut := Lib.hid hput
  clear hpt hkin hput
  clear hcell hr hv hm' htop
  rw [List.length_cons, List.length_cons] at *
  generalize u.length = n at *
  have hq2 : ((y : Int) == 128) = false := by simp; omega
  have KK2 := Lib.hid (fun z : Int => (show Kp (fun _ => False) w ((w.alloc (.cells #[.int .i64 0, .int .i64 0, .bool false, .int .i64 0] 89)).alloc (.cells #[.int .i64 (↑x / 64), .int .i64 (↑x % 32), .bool m, .int .i64 z] 89)).drew from ((((Kp.refl _ _).alloc _).alloc _).drew)))
  go_enter Tryd.func66, Tryd.ntmps66
  go_wp2_with fail
  go_region
  go_wp2_with fail
  refine (rkind_any _ _ _ _).mono ?_
  rintro e w2 ⟨rfl, rfl⟩
  rw [HK.out]
  go_wp2_with fail
  refine (HPut.out _).mono ?_
  rintro e w3 ⟨A3, cp3, rfl, hb3, hk3⟩
  have KW : Kp (fun _ => False) w w3 := (KK2.out y).then_ hk3 (fun _ h => h.elim)
  have bres := (((Blk.new w 89 #[.int .i64 0, .int .i64 0, .bool false, .int .i64 0]).alloc (.cells #[.int .i64 (↑x / 64), .int .i64 (↑x % 32), .bool m, .int .i64 ↑y] 89)).drew).kp hk3 (fun h => h)
  have bh := ((Blk.new (w.alloc (.cells #[.int .i64 0, .int .i64 0, .bool false, .int .i64 0] 89)) 89 #[.int .i64 (↑x / 64), .int .i64 (↑x % 32), .bool m, .int .i64 ↑y]).drew).kp hk3 (fun h => h)
  simp only [World.size_alloc] at bh
  replace c0 := KW.cell c0 (fun h => h)
  replace c1 := KW.cell c1 (fun h => h)
  clear hk3 d0 e0 d1 e1
  obtain ⟨A', cp', e, -, hrd⟩ := hb3
  injection e with e1 e2 e3
  subst e1 e3
  obtain ⟨g3, off3, rfl, -, -⟩ := hrd.byte (k := 0) (by simp)
  have hcell3 : ∀ k (hk : k < ([b, c]).length), w3.cell? ⟨g3, off3 + k, none⟩ = some (.int .u8 (([b, c])[k].toNat : Int)) := by
    intro k hk
    obtain ⟨g', off', e', _, h⟩ := hrd.byte hk
    simp only [Option.some.injEq, Addr.mk.injEq, and_true] at e'
    obtain ⟨rfl, rfl⟩ := e'
    exact h
  have o0 : w3.cell? ⟨g3, off3, none⟩ = some (.int .u8 x) := (hcell3 0 (by (try simp); (try omega))).trans (congrArg (fun t : Nat => some (Value.int .u8 (t : Int))) hx)
  have o1 : w3.cell? ⟨g3, off3 + 1, none⟩ = some (.int .u8 y) := (hcell3 1 (by (try simp); (try omega))).trans (congrArg (fun t : Nat => some (Value.int .u8 (t : Int))) hy)
  clear hcell3 hrd
  obtain ⟨r0, r1, r2, r3⟩ := cells4 bres
  obtain ⟨h0, h1, h2, h3⟩ := cells4 bh
  have f0 := bres.frozen 0
  have f1 := bres.frozen 1
  have f2 := bres.frozen 2
  have f3 := bres.frozen 3
  have q0 : decide ((n : Int) + 1 + 1 ≤ 0) = false := decide_eq_false (by omega)
  have q1 : decide ((n : Int) + 1 + 1 ≤ 1) = false := decide_eq_false (by omega)
  go_wp2_with fail
  refine wp_loop_rounds 3 ?_
  rw [rounds_succ]
  go_wp2_with fail
  go_quiet (fail)
  go_wp2_with fail
  rw [rounds_succ]
  go_wp2_with fail
  go_quiet (fail)
  go_wp2_with fail
  rw [rounds_succ]
  go_wp2_with fail
  have bf : ∀ q, Blk (((((w3.drewN q).setCell ⟨w.heap.size, 0, none⟩ (.int .i64 (↑x / 64))).setCell ⟨w.heap.size, 1, none⟩ (.int .i64 (↑x % 32))).setCell ⟨w.heap.size, 2, none⟩ (.bool m)).setCell ⟨w.heap.size, 3, none⟩ (.int .i64 ↑y)) w.heap.size 89 #[.int .i64 (↑x / 64), .int .i64 (↑x % 32), .bool m, .int .i64 ↑y] := fun q => ((((bres.drewN q).set_ 0 _).set_ 1 _).set_ 2 _).set_ 3 _
  have p0 := fun q => (cells4 (bf q)).1
  have p1 := fun q => (cells4 (bf q)).2.1
  have p2 := fun q => (cells4 (bf q)).2.2.1
  have p3 := fun q => (cells4 (bf q)).2.2.2
  refine bodyPost_ret (v := .tuple #[.agg #[.int .i64 (↑x / 64), .int .i64 (↑x % 32), .bool m, .int .i64 ↑y], .int .i64 2, .int .i64 0]) (by simp [results, Tryd.results66, go_sem, p0, p1, p2, p3]) rfl ⟨by rw [HR.out]; rfl, ?_⟩
  repeat (first | exact KW | refine Kp.setCell ?_ (.inr (by simp)) _ | apply Kp.drewN | apply Kp.drew)

end Go.Proofs.YtgjbfgkcbehjnaaDoor

namespace Go.Proofs.YtgjbfgkcbehjnaaDoor
open Go.RowKit

theorem lenB_long {c : UInt8} {ps : List UInt8} {k : Nat} (h1 : 1 ≤ k) (h3 : k ≤ 3) (hl : ps.length = k) (hc : c.toNat = 128 + k) (hb : 128 ≤ be ps) (hd : be ps / 256 ^ (k - 1) ≠ 0) : lenB (be ps) = c :: ps := by
  have h := beB_be ps
  rw [hl] at h
  have hlt := be_lt ps
  rw [hl] at hlt
  have hk : k = 1 ∨ k = 2 ∨ k = 3 := by omega
  rcases hk with rfl | rfl | rfl
  · have hcc : c = 129 := UInt8.toNat_inj.1 (by rw [hc]; rfl)
    rw [lenB, if_neg (by omega), if_pos (by omega), hcc]
    exact congrArg _ h
  · have hcc : c = 130 := UInt8.toNat_inj.1 (by rw [hc]; rfl)
    simp at hd hlt
    rw [lenB, if_neg (by omega), if_neg (by omega), if_pos (by omega), hcc]
    exact congrArg _ h
  · have hcc : c = 131 := UInt8.toNat_inj.1 (by rw [hc]; rfl)
    simp at hd hlt
    rw [lenB, if_neg (by omega), if_neg (by omega), if_neg (by omega), hcc]
    exact congrArg _ h

/-- What is read: an error without a head, or a head that is put as those bytes. -/
theorem rd_back (l : List UInt8) (h : Int × Int × Bool × Int) (k er : Int) (hq : rd l = (h, k, er)) :
    (er ≠ 0 ∧ h = hd0 ∧ 0 ≤ k ∧ k ≤ l.length) ∨ (er = 0 ∧ ∃ K : Nat, k = K ∧ K ≤ l.length ∧ pt h.1 h.2.1 h.2.2.1 h.2.2.2 = (l.take K, 0)) := by
  match l, hq with
  | [], hq =>
    simp only [rd, Prod.mk.injEq] at hq
    obtain ⟨rfl, rfl, rfl⟩ := hq
    exact .inl ⟨by decide, rfl, by decide, by decide⟩
  | [b], hq =>
    left
    rw [rd] at hq
    split at hq
    all_goals
      simp only [Prod.mk.injEq] at hq
      obtain ⟨rfl, rfl, rfl⟩ := hq
      exact ⟨by decide, rfl, by decide, by simp⟩
  | b :: c :: u, hq =>
    cases htop : topB b
    · rw [rd_bad htop] at hq
      simp only [Prod.mk.injEq] at hq
      obtain ⟨rfl, rfl, rfl⟩ := hq
      exact .inl ⟨by decide, rfl, by decide, by simp; omega⟩
    rcases Nat.lt_or_ge c.toNat 128 with h1 | h1
    · rw [rd, if_pos htop, if_pos h1] at hq
      simp only [Prod.mk.injEq] at hq
      obtain ⟨rfl, rfl, rfl⟩ := hq
      refine .inr ⟨rfl, 2, rfl, by simp, ?_⟩
      rw [hdB]
      simp only
      rw [pt_top htop _ (by omega), lenB, if_pos h1]
      simp
    by_cases h2 : c.toNat = 128 ∨ 131 < c.toNat
    · rw [rd, if_pos htop, if_neg (by omega), if_pos h2] at hq
      simp only [Prod.mk.injEq] at hq
      obtain ⟨rfl, rfl, rfl⟩ := hq
      exact .inl ⟨by decide, rfl, by decide, by simp; omega⟩
    obtain ⟨n, hn⟩ : ∃ n, c.toNat = 128 + n := ⟨c.toNat - 128, by omega⟩
    by_cases h3 : u.length < n
    · rw [rd, if_pos htop, if_neg (by omega), if_neg h2, if_pos (by omega)] at hq
      simp only [Prod.mk.injEq] at hq
      obtain ⟨rfl, rfl, rfl⟩ := hq
      exact .inl ⟨by decide, rfl, by omega, by simp; omega⟩
    rw [rd_long htop hn (by omega) (by omega) (by omega) rfl] at hq
    by_cases h4 : be (u.take n) < 128 ∨ be (u.take n) / 256 ^ (n - 1) = 0
    · rw [if_pos h4] at hq
      simp only [Prod.mk.injEq] at hq
      obtain ⟨rfl, rfl, rfl⟩ := hq
      exact .inl ⟨by decide, rfl, by decide, by simp; omega⟩
    · rw [if_neg h4] at hq
      simp only [Prod.mk.injEq] at hq
      obtain ⟨rfl, rfl, rfl⟩ := hq
      refine .inr ⟨rfl, n + 2, by omega, by simp; omega, ?_⟩
      have hlt : (u.take n).length = n := by simp; omega
      have hbl := be_lt (u.take n)
      rw [hlt] at hbl
      have hb3 : 256 ^ n ≤ 256 ^ 3 := Nat.pow_le_pow_right (by omega) (by omega)
      have e3 : (256 : Nat) ^ 3 = 16777216 := by decide
      rw [hdB]
      simp only
      rw [pt_top htop _ (by omega), lenB_long (k := n) (by omega) (by omega) hlt hn (by omega) (by omega)]
      simp
end Go.Proofs.YtgjbfgkcbehjnaaDoor

namespace Go.Proofs.YtgjbfgkcbehjnaaDoor
open Go

/-- A byte of a list, as a number; behind its end 0. -/
def bt (l : List UInt8) (i : Nat) : Nat := (l[i]?.getD 0).toNat
theorem bt_at {l : List UInt8} {i : Nat} (h : i < l.length) : bt l i = (l[i]'h).toNat := by
  rw [bt, List.getElem?_eq_getElem h]
  rfl
theorem bt_lt (l : List UInt8) (i : Nat) : bt l i < 256 := UInt8.toNat_lt _

/-- May bytes be a bit string's? -/
def bitsB (l : List UInt8) : Bool :=
  decide (0 < l.length) && decide (bt l 0 ≤ 7) && (if l.length = 1 then decide (bt l 0 = 0) else decide (bt l (l.length - 1) % 2 ^ bt l 0 = 0))

def isDig (c : UInt8) : Bool := decide (48 ≤ c.toNat) && decide (c.toNat ≤ 57)
def digs (l : List UInt8) : Bool := l.all isDig
/-- The number that digits are. -/
def num (l : List UInt8) : Nat := l.foldl (fun n c => n * 10 + (c.toNat - 48)) 0
theorem num_snoc (l : List UInt8) (c : UInt8) : num (l ++ [c]) = num l * 10 + (c.toNat - 48) := by simp [num]
theorem digs_append (l m : List UInt8) : digs (l ++ m) = (digs l && digs m) := by simp [digs]
theorem digs_sub {l : List UInt8} {n i m : Nat} (h : digs (l.take n) = true) (him : i + m ≤ n) : digs ((l.drop i).take m) = true := by
  refine List.all_eq_true.2 fun c hc => List.all_eq_true.1 h c ?_
  have e : (l.drop i).take m = ((l.take n).drop i).take m := by
    rw [List.drop_take, List.take_take, Nat.min_eq_left (by omega)]
  rw [e] at hc
  exact List.mem_of_mem_drop (List.mem_of_mem_take hc)
theorem num_take (l : List UInt8) (k : Nat) (h : k < l.length) : num (l.take (k + 1)) = num (l.take k) * 10 + (l[k].toNat - 48) := by
  rw [List.take_succ_eq_append_getElem h, num_snoc]
theorem num_lt (l : List UInt8) (h : digs l = true) : num l < 10 ^ l.length := by
  obtain ⟨m, rfl⟩ : ∃ m : List UInt8, l = m.reverse := ⟨l.reverse, by simp⟩
  induction m with
  | nil => simp [num]
  | cons c m ih =>
    rw [List.reverse_cons, digs_append, Bool.and_eq_true] at h
    have h1 := ih h.1
    have h2 : isDig c = true := by simpa [digs] using h.2
    simp only [isDig, Bool.and_eq_true, decide_eq_true_eq] at h2
    rw [List.reverse_cons, num_snoc, List.length_append, List.length_singleton, Nat.pow_succ]
    omega
theorem num1 (a : UInt8) : num [a] = a.toNat - 48 := by simp [num]
theorem num2 (a b : UInt8) : num [a, b] = (a.toNat - 48) * 10 + (b.toNat - 48) := by simp [num]

/-- Six numbers. -/
structure T6 where
  (a b c d e f : Nat)
deriving DecidableEq
def T6.v (t : T6) : Value := .agg #[.int .i64 t.a, .int .i64 t.b, .int .i64 t.c, .int .i64 t.d, .int .i64 t.e, .int .i64 t.f]
def T6.zero : T6 := ⟨0, 0, 0, 0, 0, 0⟩

/-- The days of a month. -/
def leapN (y : Nat) : Bool := decide (y % 4 = 0) && (decide (y % 100 ≠ 0) || decide (y % 400 = 0))
def dim (y m : Nat) : Nat := if m = 4 ∨ m = 6 ∨ m = 9 ∨ m = 11 then 30 else if m = 2 then (if leapN y = true then 29 else 28) else 31
def okT (t : T6) : Bool := decide (1 ≤ t.b) && decide (t.b ≤ 12) && decide (1 ≤ t.c) && decide (t.c ≤ dim t.a t.b) && decide (t.d ≤ 23) && decide (t.e ≤ 59) && decide (t.f ≤ 59)
/-- The numbers of fourteen digits. -/
def t15 (l : List UInt8) : T6 := ⟨num (l.take 4), num ((l.drop 4).take 2), num ((l.drop 6).take 2), num ((l.drop 8).take 2), num ((l.drop 10).take 2), num ((l.drop 12).take 2)⟩
def time15 (l : List UInt8) : Option T6 :=
  if l.length = 15 ∧ bt l 14 = 90 ∧ digs (l.take 14) = true then (if okT (t15 l) = true then some (t15 l) else none) else none
/-- The century of a year of two digits. -/
def cent (l : List UInt8) : List UInt8 := if 53 ≤ bt l 0 then [49, 57] else [50, 48]
def timeR (tag : Int) (l : List UInt8) : Option T6 :=
  if tag = 23 then (if l.length = 13 then time15 (cent l ++ l) else none) else time15 l

theorem atoi_digs (l : List UInt8) (h0 : l ≠ []) (h : digs l = true) : Lib.atoi l = some (num l : Int) := by
  have key : ∀ (m : List UInt8) (acc : Nat), digs m = true → Lib.decFrom acc m = some (m.foldl (fun n c => n * 10 + (c.toNat - 48)) acc) := by
    intro m
    induction m with
    | nil => intro acc _; rfl
    | cons c m ih =>
      intro acc hm
      simp only [digs, List.all_cons, Bool.and_eq_true] at hm
      have h2 := hm.1
      simp only [isDig, Bool.and_eq_true, decide_eq_true_eq] at h2
      rw [Lib.decFrom, Lib.digitVal, if_pos h2]
      exact ih _ hm.2
  cases l with
  | nil => exact absurd rfl h0
  | cons c m =>
    have hk := key (c :: m) 0 h
    have h2 : isDig c = true := by
      simp only [digs, List.all_cons, Bool.and_eq_true] at h
      exact h.1
    simp only [isDig, Bool.and_eq_true, decide_eq_true_eq] at h2
    have e1 : (c == 45) = false := by
      rw [beq_eq_false_iff_ne]
      rintro rfl
      simp at h2
    have e2 : (c == 43) = false := by
      rw [beq_eq_false_iff_ne]
      rintro rfl
      simp at h2
    rw [Lib.atoi, e1, e2]
    simp only [Bool.false_eq_true, if_false, Lib.decNat, List.isEmpty_cons, hk, Option.map_some]
    rfl
end Go.Proofs.YtgjbfgkcbehjnaaDoor

namespace Go.Proofs.YtgjbfgkcbehjnaaDoor
open Go

/-- The document's digits. -/
def digitsR (l : List UInt8) : Int := if digs l = true then (num l : Int) else -1
theorem digitsR_yes {l : List UInt8} (h : digs l = true) : digitsR l = (num l : Int) := if_pos h
theorem digitsR_no {l : List UInt8} (h : digs l = false) : digitsR l = -1 := if_neg (by simp [h])

/-- The document's time, of a year of n digits. -/
def chunk (l : List UInt8) (n i : Nat) : List UInt8 := (l.drop (n + 2 * i - 2)).take 2
def yearR (n y : Nat) : Nat := if n = 2 then (if 50 ≤ y then y + 1900 else y + 2000) else y
def tR (n : Nat) (l : List UInt8) : T6 := ⟨yearR n (num (l.take n)), num (chunk l n 1), num (chunk l n 2), num (chunk l n 3), num (chunk l n 4), num (chunk l n 5)⟩
def timeD (n : Nat) (l : List UInt8) : Option T6 :=
  if l.length = n + 11 ∧ bt l (n + 10) = 90 ∧ digs (l.take n) = true ∧ digs (chunk l n 1) = true ∧ digs (chunk l n 2) = true ∧ digs (chunk l n 3) = true ∧ digs (chunk l n 4) = true ∧ digs (chunk l n 5) = true ∧ okT (tR n l) = true then some (tR n l) else none

theorem fifteen {l : List UInt8} (h : l.length = 15) : ∃ a0 a1 a2 a3 a4 a5 a6 a7 a8 a9 a10 a11 a12 a13 a14, l = [a0, a1, a2, a3, a4, a5, a6, a7, a8, a9, a10, a11, a12, a13, a14] := by
  match l, h with
  | [a0, a1, a2, a3, a4, a5, a6, a7, a8, a9, a10, a11, a12, a13, a14], _ => exact ⟨a0, a1, a2, a3, a4, a5, a6, a7, a8, a9, a10, a11, a12, a13, a14, rfl⟩
theorem thirteen {l : List UInt8} (h : l.length = 13) : ∃ a0 a1 a2 a3 a4 a5 a6 a7 a8 a9 a10 a11 a12, l = [a0, a1, a2, a3, a4, a5, a6, a7, a8, a9, a10, a11, a12] := by
  match l, h with
  | [a0, a1, a2, a3, a4, a5, a6, a7, a8, a9, a10, a11, a12], _ => exact ⟨a0, a1, a2, a3, a4, a5, a6, a7, a8, a9, a10, a11, a12, rfl⟩

theorem timeD_long (l : List UInt8) : timeD 4 l = timeR 24 l := by
  rw [timeR, if_neg (by decide)]
  by_cases h : l.length = 15
  · obtain ⟨a0, a1, a2, a3, a4, a5, a6, a7, a8, a9, a10, a11, a12, a13, a14, rfl⟩ := fifteen h
    have e1 : tR 4 [a0, a1, a2, a3, a4, a5, a6, a7, a8, a9, a10, a11, a12, a13, a14] = t15 [a0, a1, a2, a3, a4, a5, a6, a7, a8, a9, a10, a11, a12, a13, a14] := rfl
    have e2 : digs ([a0, a1, a2, a3, a4, a5, a6, a7, a8, a9, a10, a11, a12, a13, a14].take 14) = (digs [a0, a1, a2, a3] && digs [a4, a5] && digs [a6, a7] && digs [a8, a9] && digs [a10, a11] && digs [a12, a13]) := by
      rw [show [a0, a1, a2, a3, a4, a5, a6, a7, a8, a9, a10, a11, a12, a13, a14].take 14 = [a0, a1, a2, a3] ++ [a4, a5] ++ [a6, a7] ++ [a8, a9] ++ [a10, a11] ++ [a12, a13] from rfl]
      simp only [digs_append]
    rw [timeD, time15, e1, e2]
    have c0 : [a0, a1, a2, a3, a4, a5, a6, a7, a8, a9, a10, a11, a12, a13, a14].take 4 = [a0, a1, a2, a3] := rfl
    have c1 : chunk [a0, a1, a2, a3, a4, a5, a6, a7, a8, a9, a10, a11, a12, a13, a14] 4 1 = [a4, a5] := rfl
    have c2 : chunk [a0, a1, a2, a3, a4, a5, a6, a7, a8, a9, a10, a11, a12, a13, a14] 4 2 = [a6, a7] := rfl
    have c3 : chunk [a0, a1, a2, a3, a4, a5, a6, a7, a8, a9, a10, a11, a12, a13, a14] 4 3 = [a8, a9] := rfl
    have c4 : chunk [a0, a1, a2, a3, a4, a5, a6, a7, a8, a9, a10, a11, a12, a13, a14] 4 4 = [a10, a11] := rfl
    have c5 : chunk [a0, a1, a2, a3, a4, a5, a6, a7, a8, a9, a10, a11, a12, a13, a14] 4 5 = [a12, a13] := rfl
    rw [c0, c1, c2, c3, c4, c5]
    generalize t15 [a0, a1, a2, a3, a4, a5, a6, a7, a8, a9, a10, a11, a12, a13, a14] = t
    cases digs [a0, a1, a2, a3] <;> cases digs [a4, a5] <;> cases digs [a6, a7] <;> cases digs [a8, a9] <;> cases digs [a10, a11] <;> cases digs [a12, a13] <;> cases okT t <;> simp
  · rw [timeD, time15, if_neg (fun x => h x.1), if_neg (fun x => h x.1)]
theorem timeD_short (l : List UInt8) : timeD 2 l = timeR 23 l := by
  rw [timeR, if_pos rfl]
  by_cases h : l.length = 13
  · rw [if_pos h]
    obtain ⟨a0, a1, a2, a3, a4, a5, a6, a7, a8, a9, a10, a11, a12, rfl⟩ := thirteen h
    have b0 : bt [a0, a1, a2, a3, a4, a5, a6, a7, a8, a9, a10, a11, a12] 0 = a0.toNat := rfl
    obtain ⟨p, q, hpq, hp, hq, hn⟩ : ∃ p q, cent [a0, a1, a2, a3, a4, a5, a6, a7, a8, a9, a10, a11, a12] = [p, q] ∧ isDig p = true ∧ isDig q = true ∧ (digs [a0, a1] = true → num [p, q, a0, a1] = yearR 2 (num [a0, a1])) := by
      rw [cent, b0]
      have hh : ∀ c : UInt8, isDig c = true → 48 ≤ c.toNat ∧ c.toNat ≤ 57 := fun c hc => by simpa [isDig] using hc
      by_cases h53 : 53 ≤ a0.toNat
      · rw [if_pos h53]
        refine ⟨49, 57, rfl, rfl, rfl, fun hd => ?_⟩
        simp only [digs, List.all_cons, List.all_nil, Bool.and_true, Bool.and_eq_true] at hd
        have g0 := hh _ hd.1
        have g1 := hh _ hd.2
        rw [yearR, if_pos rfl, num2, if_pos (by omega)]
        show ((((0 * 10 + 1) * 10 + 9) * 10 + (a0.toNat - 48)) * 10 + (a1.toNat - 48)) = _
        omega
      · rw [if_neg h53]
        refine ⟨50, 48, rfl, rfl, rfl, fun hd => ?_⟩
        simp only [digs, List.all_cons, List.all_nil, Bool.and_true, Bool.and_eq_true] at hd
        have g0 := hh _ hd.1
        have g1 := hh _ hd.2
        rw [yearR, if_pos rfl, num2, if_neg (by omega)]
        show ((((0 * 10 + 2) * 10 + 0) * 10 + (a0.toNat - 48)) * 10 + (a1.toNat - 48)) = _
        omega
    rw [hpq]
    have hl : [p, q] ++ [a0, a1, a2, a3, a4, a5, a6, a7, a8, a9, a10, a11, a12] = [p, q, a0, a1, a2, a3, a4, a5, a6, a7, a8, a9, a10, a11, a12] := rfl
    rw [hl]
    have e2 : digs ([p, q, a0, a1, a2, a3, a4, a5, a6, a7, a8, a9, a10, a11, a12].take 14) = (digs [a0, a1] && digs [a2, a3] && digs [a4, a5] && digs [a6, a7] && digs [a8, a9] && digs [a10, a11]) := by
      rw [show [p, q, a0, a1, a2, a3, a4, a5, a6, a7, a8, a9, a10, a11, a12].take 14 = [p, q] ++ [a0, a1] ++ [a2, a3] ++ [a4, a5] ++ [a6, a7] ++ [a8, a9] ++ [a10, a11] from rfl]
      simp only [digs_append]
      have : digs [p, q] = true := by simp [digs, hp, hq]
      rw [this, Bool.true_and]
    have c0 : [a0, a1, a2, a3, a4, a5, a6, a7, a8, a9, a10, a11, a12].take 2 = [a0, a1] := rfl
    have c1 : chunk [a0, a1, a2, a3, a4, a5, a6, a7, a8, a9, a10, a11, a12] 2 1 = [a2, a3] := rfl
    have c2 : chunk [a0, a1, a2, a3, a4, a5, a6, a7, a8, a9, a10, a11, a12] 2 2 = [a4, a5] := rfl
    have c3 : chunk [a0, a1, a2, a3, a4, a5, a6, a7, a8, a9, a10, a11, a12] 2 3 = [a6, a7] := rfl
    have c4 : chunk [a0, a1, a2, a3, a4, a5, a6, a7, a8, a9, a10, a11, a12] 2 4 = [a8, a9] := rfl
    have c5 : chunk [a0, a1, a2, a3, a4, a5, a6, a7, a8, a9, a10, a11, a12] 2 5 = [a10, a11] := rfl
    have z1 : bt [a0, a1, a2, a3, a4, a5, a6, a7, a8, a9, a10, a11, a12] (2 + 10) = bt [p, q, a0, a1, a2, a3, a4, a5, a6, a7, a8, a9, a10, a11, a12] 14 := rfl
    have e1 : digs [a0, a1] = true → tR 2 [a0, a1, a2, a3, a4, a5, a6, a7, a8, a9, a10, a11, a12] = t15 [p, q, a0, a1, a2, a3, a4, a5, a6, a7, a8, a9, a10, a11, a12] := by
      intro hd
      have := hn hd
      show T6.mk (yearR 2 (num [a0, a1])) _ _ _ _ _ = T6.mk (num [p, q, a0, a1]) _ _ _ _ _
      rw [this]
      rfl
    rw [timeD, time15, e2, c0, c1, c2, c3, c4, c5, z1]
    generalize bt [p, q, a0, a1, a2, a3, a4, a5, a6, a7, a8, a9, a10, a11, a12] 14 = z
    cases hd : digs [a0, a1]
    · simp
    · rw [e1 hd]
      generalize t15 [p, q, a0, a1, a2, a3, a4, a5, a6, a7, a8, a9, a10, a11, a12] = t
      cases digs [a2, a3] <;> cases digs [a4, a5] <;> cases digs [a6, a7] <;> cases digs [a8, a9] <;> cases digs [a10, a11] <;> cases okT t <;> simp
  · rw [if_neg h, timeD, if_neg (fun x => h (by omega))]

/-! ### Dates that are written. -/
def two (n : Nat) : List UInt8 := [UInt8.ofNat (48 + n / 10 % 10), UInt8.ofNat (48 + n % 10)]
theorem two_digs (n : Nat) : digs (two n) = true := by
  have h1 : (UInt8.ofNat (48 + n / 10 % 10)).toNat = 48 + n / 10 % 10 := by rw [UInt8.toNat_ofNat']; omega
  have h2 : (UInt8.ofNat (48 + n % 10)).toNat = 48 + n % 10 := by rw [UInt8.toNat_ofNat']; omega
  simp only [two, digs, List.all_cons, List.all_nil, isDig, h1, h2, Bool.and_true, Bool.and_eq_true, decide_eq_true_eq]
  omega
theorem num_two (l : List UInt8) (n : Nat) : num (l ++ two n) = num l * 100 + n % 100 := by
  have h1 : (UInt8.ofNat (48 + n / 10 % 10)).toNat = 48 + n / 10 % 10 := by rw [UInt8.toNat_ofNat']; omega
  have h2 : (UInt8.ofNat (48 + n % 10)).toNat = 48 + n % 10 := by rw [UInt8.toNat_ofNat']; omega
  rw [show l ++ two n = (l ++ [UInt8.ofNat (48 + n / 10 % 10)]) ++ [UInt8.ofNat (48 + n % 10)] from by simp [two], num_snoc, num_snoc, h1, h2]
  omega
theorem num_two0 (n : Nat) : num (two n) = n % 100 := by
  have := num_two [] n
  simpa [num] using this
/-- A date and a time of day, the last byte. -/
def dateL (C y m d h i s : Nat) (c : UInt8) : List UInt8 := two C ++ two y ++ two m ++ two d ++ two h ++ two i ++ two s ++ [c]
theorem time15_date (C y m d h i s : Nat) (c : UInt8) : time15 (dateL C y m d h i s c) =
    if c.toNat = 90 ∧ okT ⟨C % 100 * 100 + y % 100, m % 100, d % 100, h % 100, i % 100, s % 100⟩ = true then some ⟨C % 100 * 100 + y % 100, m % 100, d % 100, h % 100, i % 100, s % 100⟩ else none := by
  have e : t15 (dateL C y m d h i s c) = ⟨C % 100 * 100 + y % 100, m % 100, d % 100, h % 100, i % 100, s % 100⟩ := by
    show T6.mk (num (two C ++ two y)) (num (two m)) (num (two d)) (num (two h)) (num (two i)) (num (two s)) = _
    simp only [num_two, num_two0]
  have hd : digs ((dateL C y m d h i s c).take 14) = true := by
    show digs (two C ++ two y ++ two m ++ two d ++ two h ++ two i ++ two s) = true
    simp only [digs_append, two_digs, Bool.and_true]
  have hz : bt (dateL C y m d h i s c) 14 = c.toNat := rfl
  have hl : (dateL C y m d h i s c).length = 15 := rfl
  rw [time15, e, hd, hz, hl]
  by_cases h1 : c.toNat = 90
  · by_cases h2 : okT ⟨C % 100 * 100 + y % 100, m % 100, d % 100, h % 100, i % 100, s % 100⟩ = true
    · rw [if_pos ⟨rfl, h1, rfl⟩, if_pos h2, if_pos ⟨h1, h2⟩]
    · rw [if_pos ⟨rfl, h1, rfl⟩, if_neg h2, if_neg (fun x => h2 x.2)]
  · rw [if_neg (fun x => h1 x.2.1), if_neg (fun x => h1 x.1)]
/-- The same, of a year of two digits. -/
theorem time23_date (y m d h i s : Nat) (c : UInt8) : timeR 23 (two y ++ two m ++ two d ++ two h ++ two i ++ two s ++ [c]) = time15 (dateL (if 50 ≤ y % 100 then 19 else 20) y m d h i s c) := by
  have hl : (two y ++ two m ++ two d ++ two h ++ two i ++ two s ++ [c]).length = 13 := rfl
  rw [timeR, if_pos rfl, if_pos hl]
  have hb : bt (two y ++ two m ++ two d ++ two h ++ two i ++ two s ++ [c]) 0 = 48 + y / 10 % 10 := by
    show (UInt8.ofNat (48 + y / 10 % 10)).toNat = _
    rw [UInt8.toNat_ofNat']
    omega
  rw [cent, hb]
  by_cases h5 : 50 ≤ y % 100
  · rw [if_pos (by omega), if_pos h5]
    rfl
  · rw [if_neg (by omega), if_neg h5]
    rfl
end Go.Proofs.YtgjbfgkcbehjnaaDoor

namespace Go.Proofs.YtgjbfgkcbehjnaaDoor
open Go.RowKit

def daysT : List Int := [31, 28, 31, 30, 31, 30, 31, 31, 30, 31, 30, 31]
/-- The table of days lies as the program's text lays it. -/
def Tab10 (w : World) : Prop := ∀ i, i < 12 → w.cell? ⟨2, i, none⟩ = some (.int .i64 (daysT.getD i 0))
theorem Tab10.kp {w w' : World} (h : Tab10 w) (hk : Kp (fun _ => False) w w') : Tab10 w' := fun i hi => hk.cell (h i hi) (fun h => h)
theorem tab10 {W : World} {laid : List (String × DataW Unit)} (h : laidMetH Tryd.prog laid W)
    (hf : (laid.filter fun x => x.1 == "passepartout/dertype.days") = [("passepartout/dertype.days", Lib.tabData .i64 daysT)]) : Tab10 W := by
  have h1 := h.filter (fun x => x.1 == "passepartout/dertype.days")
  rw [hf, MakeChecks.laidMetH_plain _ _ _ (by kernel_rfl)] at h1
  have g0 : Tryd.prog.globalNamed "passepartout/dertype.days" = some 2 := by kernel_rfl
  have t0 := Lib.tabIs_of_head (t := 139) (e := 3) (n := 12) g0 (by kernel_rfl) Tryd.underlying139 Tryd.underlying3 (by kernel_rfl) (by kernel_rfl) h1
  exact fun i hi => t0.cell g0 i hi

/-! ### leap. -/
def leapI (y m : Nat) : Nat := if m = 2 ∧ leapN y = true then 1 else 0
theorem dim_days (y m : Nat) (h1 : 1 ≤ m) (h2 : m ≤ 12) : ∃ d : Nat, daysT.getD (m - 1) 0 = (d : Int) ∧ dim y m = d + leapI y m ∧ d ≤ 31 := by
  have hm : m = 1 ∨ m = 2 ∨ m = 3 ∨ m = 4 ∨ m = 5 ∨ m = 6 ∨ m = 7 ∨ m = 8 ∨ m = 9 ∨ m = 10 ∨ m = 11 ∨ m = 12 := by omega
  rcases hm with rfl | rfl | rfl | rfl | rfl | rfl | rfl | rfl | rfl | rfl | rfl | rfl
  case inr.inl =>
    refine ⟨28, rfl, ?_, by omega⟩
    cases h : leapN y <;> simp [dim, leapI, h]
  all_goals first
    | exact ⟨31, rfl, by simp [dim, leapI], by omega⟩
    | exact ⟨30, rfl, by simp [dim, leapI], by omega⟩

set_option maxRecDepth 100000 in
theorem leap_any (y m : Nat) (hy : y < 10000) (hm : m < 100) (w : World) :
    Calls Tryd.prog 102 #[.int .i64 (y : Int), .int .i64 (m : Int)] w fun e w' => e = .returned (.int .i64 (leapI y m : Int)) ∧ w = w' := by
  by_cases h2 : m = 2
  · subst h2
    have e4 : ((y : Int) % 4 == 0) = decide (y % 4 = 0) := by rw [Bool.eq_iff_iff]; simp; omega
    have e100 : ((y : Int) % 100 != 0) = decide (y % 100 ≠ 0) := by rw [Bool.eq_iff_iff]; simp; omega
    have e400 : ((y : Int) % 400 == 0) = decide (y % 400 = 0) := by rw [Bool.eq_iff_iff]; simp; omega
    by_cases h4 : y % 4 = 0
    · rw [decide_eq_true h4] at e4
      by_cases h100 : y % 100 ≠ 0
      · rw [decide_eq_true h100] at e100
        have hr : leapI y 2 = 1 := by rw [leapI, leapN, decide_eq_true h4, decide_eq_true h100]; rfl
        rw [hr]
        clear e400 hr h100 h4
        go_enter Tryd.func102, Tryd.ntmps102
        go_wp2_with fail
        go_ret
        exact ⟨rfl, rfl⟩
      · rw [decide_eq_false h100] at e100
        by_cases h400 : y % 400 = 0
        · rw [decide_eq_true h400] at e400
          have hr : leapI y 2 = 1 := by rw [leapI, leapN, decide_eq_true h4, decide_eq_true h400]; simp
          rw [hr]
          clear hr h100 h4 h400
          go_enter Tryd.func102, Tryd.ntmps102
          go_wp2_with fail
          go_ret
          exact ⟨rfl, rfl⟩
        · rw [decide_eq_false h400] at e400
          have hr : leapI y 2 = 0 := by rw [leapI, leapN, decide_eq_false h400, decide_eq_false h100]; simp
          rw [hr]
          clear hr h100 h4 h400
          go_enter Tryd.func102, Tryd.ntmps102
          go_wp2_with fail
          go_ret
          exact ⟨rfl, rfl⟩
    · rw [decide_eq_false h4] at e4
      have hr : leapI y 2 = 0 := by rw [leapI, leapN, decide_eq_false h4]; simp
      rw [hr]
      clear e100 e400 hr h4
      go_enter Tryd.func102, Tryd.ntmps102
      go_wp2_with fail
      go_ret
      exact ⟨rfl, rfl⟩
  · have hr : leapI y m = 0 := by rw [leapI, if_neg (fun x => h2 x.1)]
    rw [hr]
    have e2 : ((m : Int) == 2) = false := by simp; omega
    clear hr h2
    go_enter Tryd.func102, Tryd.ntmps102
    go_wp2_with fail
    go_ret
    exact ⟨rfl, rfl⟩

/-! ### strconv.Atoi of digits. -/
theorem bytesWorld_kp (w : World) (e : TypeId) (s : ByteArray) : Kp (fun _ => False) w (Lib.bytesWorld w e s) := Kp.of_below (Lib.bytesWorld_below w e s)

set_option maxRecDepth 100000 in
set_option maxHeartbeats 3200000 in
theorem iatoi_any (s : ByteArray) (l : List UInt8) (hs : s.data.toList = l) (h0 : 1 ≤ l.length) (h4 : l.length ≤ 4) (hd : digs l = true) (w : World) :
    Calls Tryd.prog 103 #[.string s] w fun e w' => e = .returned (.tuple #[.int .i64 (num l : Int), .nilIface]) ∧ Kp (fun _ => False) w w' := by
  have hsz : s.size = l.length := by rw [Lib.size_eq, hs]
  have hdig : ∀ k (hk : k < l.length), 48 ≤ (l[k]).toNat ∧ (l[k]).toNat ≤ 57 := by
    intro k hk
    have := List.all_eq_true.1 hd l[k] (List.getElem_mem hk)
    simpa [isDig] using this
  have hpos : 0 < s.size := by omega
  have hs0 : s[0]'hpos = l[0]'(by omega) := by
    have := Lib.getD_at s 0 hpos
    rw [hs] at this
    rw [this, List.getD_eq_getElem?_getD, List.getElem?_eq_getElem (by omega)]
    rfl
  have d0 := hdig 0 (by omega)
  obtain ⟨b0, hb0⟩ : ∃ b, l[0]'(by omega) = b := ⟨_, rfl⟩
  rw [hb0] at hs0 d0
  have h45 : ((b0.toNat : Int) == 45) = false := by simp; omega
  have h43 : ((b0.toNat : Int) == 43) = false := by simp; omega
  have hcv := Lib.run_convert_string_bytes (P := Tryd.prog) w 9 22 5 s (u := .string) Tryd.underlying9 Tryd.underlying22 Tryd.underlying5
  have hB : ∀ j (hj : j < l.length), (Lib.bytesWorld w 5 s).cell? ⟨w.heap.size, j, none⟩ = some (.int .u8 ((l[j]).toNat : Int)) := fun j hj => by
    rw [Lib.bytesWorld_cell w 5 s j (by omega), hs, List.getD_eq_getElem?_getD, List.getElem?_eq_getElem hj]
    rfl
  have hkw := bytesWorld_kp w 5 s
  obtain ⟨W1, hW1⟩ : ∃ W1, W1 = Lib.bytesWorld w 5 s := ⟨_, rfl⟩
  rw [← hW1] at hcv hB hkw
  have HB := Lib.hid hB
  have HDG := Lib.hid hdig
  have HNL := Lib.hid (num_lt l hd)
  have HS := Lib.hid hs
  have HLN := Lib.hid hsz
  have hl18 : s.size ≤ 18 := by omega
  have hnum : ∀ k, k ≤ l.length → num (l.take k) < 10 ^ k := by
    intro k hk
    have := num_lt (l.take k) (List.all_eq_true.2 fun c hc => List.all_eq_true.1 hd c (List.mem_of_mem_take hc))
    rwa [List.length_take, Nat.min_eq_left hk] at this
  have HNUM := Lib.hid hnum
  have HD := Lib.hid hd
  clear hW1 hB hdig hs hsz hnum hd hb0
  go_enter Tryd.func103, Tryd.ntmps103
  go_wp2_with fail
  go_loop [49, 6] (fun vi vn => ∃ (k acc : Nat), k ≤ s.size ∧ vi = .int .i64 k ∧ vn = .int .i64 acc ∧ Hid (num (l.take k) = acc)) (fun vi _ => s.size - (RowKit.intOf vi).toNat)
  case atStart => exact ⟨0, 0, Nat.zero_le _, rfl, rfl, rfl⟩
  case round =>
    obtain ⟨k, acc, hk, rfl, rfl, hacc⟩ := hrel
    by_cases hkn : k < s.size
    · have hkl : k < l.length := by have := HLN.out; omega
      have hc1 := HB.out k hkl
      obtain ⟨h48, h57⟩ := HDG.out k hkl
      have hst := num_take l k hkl
      have hlt := HNUM.out k (by have := HLN.out; omega)
      have hlt2 : 10 ^ k ≤ 10 ^ 3 := Nat.pow_le_pow_right (by omega) (by omega)
      have ha := hacc.out
      rw [ha] at hlt hst
      have hacc3 : acc < 1000 := by omega
      clear hlt hlt2 ha
      generalize (l[k]).toNat = x at hc1 h48 h57 hst
      have HST := Lib.hid hst
      clear hst
      go_wp2_with fail
      go_round
      case rel => exact ⟨k + 1, acc * 10 + (x - 48), by omega, by go_num, by first | go_num | (congr 1; omega), HST.out⟩
      case measure => simp [RowKit.intOf]; omega
    · have hke : k = s.size := by omega
      subst hke
      have hfin : num l = acc := by
        have h1 := hacc.out
        rwa [List.take_of_length_le (by have := HLN.out; omega)] at h1
      have HF := Lib.hid hfin
      clear hfin
      go_wp2_with fail
      go_ret2
      exact ⟨by rw [HF.out]; rfl, hkw⟩

set_option maxRecDepth 100000 in
theorem atoi_any (s : ByteArray) (l : List UInt8) (hs : s.data.toList = l) (h0 : 1 ≤ l.length) (h4 : l.length ≤ 4) (hd : digs l = true) (w : World) :
    Calls Tryd.prog 101 #[.string s] w fun e w' => e = .returned (.tuple #[.int .i64 (num l : Int), .nilIface]) ∧ Kp (fun _ => False) w w' := by
  have HI := Lib.hid (iatoi_any s l hs h0 h4 hd w)
  clear hs h0 h4 hd
  go_enter Tryd.func101, Tryd.ntmps101
  go_wp2_with fail
  refine HI.out.mono ?_
  rintro e w1 ⟨rfl, hk1⟩
  go_wp2_with fail
  go_ret2
  exact ⟨rfl, hk1⟩
end Go.Proofs.YtgjbfgkcbehjnaaDoor

namespace Go.Proofs.YtgjbfgkcbehjnaaDoor
open Go.RowKit

/-- What Time tells. -/
abbrev resT : Option T6 → T6 × Int
  | some t => (t, 0)
  | none => (T6.zero, 13)
def timeV (tag : Int) (l : List UInt8) : T6 × Int := if tag = 23 ∨ tag = 24 then resT (timeR tag l) else (T6.zero, 2)

def zero6 : Array Value := #[.int .i64 0, .int .i64 0, .int .i64 0, .int .i64 0, .int .i64 0, .int .i64 0]

set_option maxRecDepth 100000 in
theorem time_arg (tag : Int) (h1 : tag ≠ 23) (h2 : tag ≠ 24) (v : Value) (w : World) :
    Calls Tryd.prog 94 #[.int .i64 tag, v] w fun e w' => e = .returned (.tuple #[T6.zero.v, .int .i64 2]) ∧ Kp (fun _ => False) w w' := by
  have e1 : (tag != 23) = true := by simpa using h1
  have e2 : (tag != 24) = true := by simpa using h2
  clear h1 h2
  have hk : Kp (fun _ => False) w (w.alloc (.cells #[.int .i64 0, .int .i64 0, .int .i64 0, .int .i64 0, .int .i64 0, .int .i64 0] 31)) := (Kp.refl _ _).alloc _
  go_enter Tryd.func94, Tryd.ntmps94
  go_wp2_with fail
  refine bodyPost_ret (v := .tuple #[T6.zero.v, .int .i64 2]) (by simp [results, Tryd.results94, go_sem, T6.v, T6.zero]) rfl ⟨rfl, hk⟩

set_option maxRecDepth 100000 in
theorem time_13 (ok : Nat → Prop) (v : Value) (l : List UInt8) (w : World) (hv : BR w ok v l) (h13 : l.length ≠ 13) :
    Calls Tryd.prog 94 #[.int .i64 23, v] w fun e w' => e = .returned (.tuple #[T6.zero.v, .int .i64 13]) ∧ Kp (fun _ => False) w w' := by
  have hk : Kp (fun _ => False) w (w.alloc (.cells #[.int .i64 0, .int .i64 0, .int .i64 0, .int .i64 0, .int .i64 0, .int .i64 0] 31)) := (Kp.refl _ _).alloc _
  have hcv := run_str (P := Tryd.prog) (src := 22) (dst := 9) (e := 5) Tryd.underlying22 Tryd.underlying5 Tryd.underlying9 (hv.kp hk (fun _ _ h => h))
  have hs : (str l).size = l.length := str_size l
  generalize str l = S at hcv hs
  have h1 : ((S.size : Int) == 13) = false := by simp; omega
  have h2 : S.size ≠ 13 := by omega
  clear hv hs h13
  go_enter Tryd.func94, Tryd.ntmps94
  go_wp2_with fail
  refine bodyPost_ret (v := .tuple #[T6.zero.v, .int .i64 13]) (by simp [results, Tryd.results94, go_sem, T6.v, T6.zero]) rfl ⟨rfl, hk⟩

set_option maxRecDepth 100000 in
theorem time_15 (ok : Nat → Prop) (v : Value) (l : List UInt8) (w : World) (hv : BR w ok v l) (h15 : l.length ≠ 15) :
    Calls Tryd.prog 94 #[.int .i64 24, v] w fun e w' => e = .returned (.tuple #[T6.zero.v, .int .i64 13]) ∧ Kp (fun _ => False) w w' := by
  have hk : Kp (fun _ => False) w (w.alloc (.cells #[.int .i64 0, .int .i64 0, .int .i64 0, .int .i64 0, .int .i64 0, .int .i64 0] 31)) := (Kp.refl _ _).alloc _
  have hcv := run_str (P := Tryd.prog) (src := 22) (dst := 9) (e := 5) Tryd.underlying22 Tryd.underlying5 Tryd.underlying9 (hv.kp hk (fun _ _ h => h))
  have hs : (str l).size = l.length := str_size l
  generalize str l = S at hcv hs
  have h1 : ((S.size : Int) == 15) = false := by simp; omega
  have h2 : ((S.size : Int) != 15) = true := by simp; omega
  have h3 : S.size ≠ 15 := by omega
  clear hv hs h15
  go_enter Tryd.func94, Tryd.ntmps94
  go_wp2_with fail
  refine bodyPost_ret (v := .tuple #[T6.zero.v, .int .i64 13]) (by simp [results, Tryd.results94, go_sem, T6.v, T6.zero]) rfl ⟨rfl, hk⟩
end Go.Proofs.YtgjbfgkcbehjnaaDoor

namespace Go.Proofs.YtgjbfgkcbehjnaaDoor
open Go.RowKit

set_option maxRecDepth 100000 in
set_option maxHeartbeats 12800000 in
theorem time_a (ok : Nat → Prop) (v : Value) (l L : List UInt8) (w : World) (hv : BR w ok v l) (htab : Tab10 w) (h15 : L.length = 15) (hL : L = l) (r : T6 × Int) (hr : resT (time15 L) = r) :
    Calls Tryd.prog 94 #[.int .i64 24, v] w fun e w' => e = .returned (.tuple #[r.1.v, .int .i64 r.2]) ∧ Kp (fun _ => False) w w' := by
  have hk : Kp (fun _ => False) w (w.alloc (.cells #[.int .i64 0, .int .i64 0, .int .i64 0, .int .i64 0, .int .i64 0, .int .i64 0] 31)) := (Kp.refl _ _).alloc _
  have hcv := run_str (P := Tryd.prog) (src := 22) (dst := 9) (e := 5) Tryd.underlying22 Tryd.underlying5 Tryd.underlying9 (hv.kp hk (fun _ _ h => h))
  subst hL
  have hsz : (str L).size = 15 := by rw [str_size, h15]
  have hat : ∀ k (hk : k < (str L).size) (hk' : k < L.length), (str L)[k]'hk = L[k]'hk' := fun k hk hk' => by
    have := Lib.getD_at (str L) k hk
    rw [str_toList, List.getD_eq_getElem?_getD, List.getElem?_eq_getElem hk'] at this
    exact this
  have hex : ∀ i j, ((str L).extract i j).data.toList = (L.drop i).take (j - i) := fun i j => by rw [Lib.extract_data, str_toList]
  generalize str L = S at hcv hsz hat hex
  clear hv
  have hz := hat 14 (by omega) (by omega)
  have hbz := bt_at (l := L) (i := 14) (by omega)
  obtain ⟨z, hzz⟩ : ∃ z, L[14]'(by omega) = z := ⟨_, rfl⟩
  rw [hzz] at hz hbz
  have hlt14 : 14 < S.size := by omega
  clear hzz
  have HAT := Lib.hid hat
  have HEX := Lib.hid hex
  have HTAB := Lib.hid htab
  have HR := Lib.hid hr
  have H15 := Lib.hid h15
  have HBZ := Lib.hid hbz
  clear hat hex htab hr h15 hbz
  by_cases hz90 : z.toNat = 90
  case neg =>
    have g1 : ((z.toNat : Int) != 90) = true := by simp; omega
    have g2 : ((z.toNat : Int) == 90) = false := by simp; omega
    have HR2 := Lib.hid (show r = (T6.zero, 13) by
      rw [← HR.out, time15, if_neg (fun x => hz90 (by rw [← HBZ.out]; exact x.2.1))])
    clear hz90
    go_enter Tryd.func94, Tryd.ntmps94
    go_wp2_with fail
    refine bodyPost_ret (v := .tuple #[T6.zero.v, .int .i64 13]) (by simp [results, Tryd.results94, go_sem, T6.v, T6.zero]) rfl ⟨by rw [HR2.out], hk⟩
  have g1 : ((z.toNat : Int) != 90) = false := by simp; omega
  have g2 : ((z.toNat : Int) == 90) = true := by simp; omega
  have HZ := Lib.hid hz90
  clear hz90
  go_enter Tryd.func94, Tryd.ntmps94
  go_wp2_with fail
  go_loop [45] (fun i => ∃ k : Nat, k ≤ 14 ∧ i = .int .i64 k ∧ digs (L.take k) = true) (fun i => 14 - (intOf i).toNat)
  case atStart => exact ⟨0, Nat.zero_le _, rfl, rfl⟩
  case round =>
    obtain ⟨k, hk14, rfl, hdk⟩ := hrel
    have HDK := Lib.hid hdk
    clear hdk
    by_cases hlt : k < 14
    · have hkS : k < S.size := by omega
      have hkL : k < L.length := by have := H15.out; omega
      have hsk := HAT.out k hkS hkL
      have hts := Lib.hid (List.take_succ_eq_append_getElem hkL)
      obtain ⟨c, hc⟩ : ∃ c, L[k] = c := ⟨_, rfl⟩
      rw [hc] at hsk hts
      have hk15 : (k : Int) < 15 := by omega
      clear hc
      by_cases hd : isDig c = true
      · have hd2 := hd
        simp only [isDig, Bool.and_eq_true, decide_eq_true_eq] at hd2
        obtain ⟨hd3, hd4⟩ := hd2
        have d1 : decide ((c.toNat : Int) < 48) = false := by simp; omega
        have d2 : decide ((57 : Int) < (c.toNat : Int)) = false := by simp; omega
        have HD := Lib.hid hd
        clear hd hd3 hd4
        go_wp2_with fail
        go_round
        case rel => exact ⟨k + 1, by omega, by go_num, by rw [hts.out, digs_append, HDK.out]; simp [digs, HD.out]⟩
        case measure => simp [intOf]; omega
      · have HR2 := Lib.hid (show r = (T6.zero, 13) by
          rw [← HR.out, time15, if_neg (fun x => hd (by
            have h1 := x.2.2
            have h2 := List.all_eq_true.1 h1 c (List.mem_iff_getElem.2 ⟨k, by rw [List.length_take]; omega, by
              have : (L.take (k + 1))[k]'(by rw [List.length_take]; omega) = c := by
                have := hts.out
                simp only [this]
                rw [List.getElem_append_right (by rw [List.length_take]; omega)]
                simp
              simpa using this⟩)
            exact h2))])
        have hd2 : c.toNat < 48 ∨ 57 < c.toNat := by
          simp only [isDig, Bool.and_eq_true, decide_eq_true_eq] at hd
          omega
        have hd5 : (decide ((c.toNat : Int) < 48) = true) ∨ (decide ((c.toNat : Int) < 48) = false ∧ decide ((57 : Int) < (c.toNat : Int)) = true) := by
          rcases hd2 with h | h
          · exact .inl (by simp; omega)
          · exact .inr ⟨by simp; omega, by simp; omega⟩
        clear hd hd2
        rcases hd5 with d1 | ⟨d1, d2⟩
        · go_wp2_with fail
          refine bodyPost_ret (v := .tuple #[T6.zero.v, .int .i64 13]) (by simp [results, Tryd.results94, go_sem, T6.v, T6.zero]) rfl ⟨by rw [HR2.out], hk⟩
        · go_wp2_with fail
          refine bodyPost_ret (v := .tuple #[T6.zero.v, .int .i64 13]) (by simp [results, Tryd.results94, go_sem, T6.v, T6.zero]) rfl ⟨by rw [HR2.out], hk⟩
    · obtain rfl : k = 14 := by omega
      have AT : ∀ i m, 1 ≤ m → m ≤ 4 → i + m ≤ 14 → ∀ W, Calls Tryd.prog 101 #[.string (S.extract i (i + m))] W fun e w' => e = .returned (.tuple #[.int .i64 (num ((L.drop i).take m) : Int), .nilIface]) ∧ Kp (fun _ => False) W w' := by
        intro i m hm1 hm4 him W
        have hlen : ((L.drop i).take m).length = m := by rw [List.length_take, List.length_drop, H15.out]; omega
        refine atoi_any _ _ ?_ (by omega) (by omega) (digs_sub HDK.out him) W
        rw [HEX.out, show i + m - i = m by omega]
      have bx : ∀ i m, i + m ≤ 14 → num ((L.drop i).take m) < 10 ^ m := by
        intro i m him
        have hlen : ((L.drop i).take m).length = m := by rw [List.length_take, List.length_drop, H15.out]; omega
        have := num_lt _ (digs_sub HDK.out him)
        rwa [hlen] at this
      have HT := Lib.hid (show t15 L = ⟨num ((L.drop 0).take 4), num ((L.drop 4).take 2), num ((L.drop 6).take 2), num ((L.drop 8).take 2), num ((L.drop 10).take 2), num ((L.drop 12).take 2)⟩ from rfl)
      have x0b := bx 0 4 (by omega)
      have x1b := bx 4 2 (by omega)
      have x2b := bx 6 2 (by omega)
      have x3b := bx 8 2 (by omega)
      have x4b := bx 10 2 (by omega)
      have x5b := bx 12 2 (by omega)
      have AT0 := AT 0 4 (by omega) (by omega) (by omega)
      have AT1 := AT 4 2 (by omega) (by omega) (by omega)
      have AT2 := AT 6 2 (by omega) (by omega) (by omega)
      have AT3 := AT 8 2 (by omega) (by omega) (by omega)
      have AT4 := AT 10 2 (by omega) (by omega) (by omega)
      have AT5 := AT 12 2 (by omega) (by omega) (by omega)
      generalize num ((L.drop 0).take 4) = x0 at AT0 x0b HT
      generalize num ((L.drop 4).take 2) = x1 at AT1 x1b HT
      generalize num ((L.drop 6).take 2) = x2 at AT2 x2b HT
      generalize num ((L.drop 8).take 2) = x3 at AT3 x3b HT
      generalize num ((L.drop 10).take 2) = x4 at AT4 x4b HT
      generalize num ((L.drop 12).take 2) = x5 at AT5 x5b HT
      simp only [Nat.reduceAdd, Nat.reducePow] at AT0 AT1 AT2 AT3 AT4 AT5 x0b x1b x2b x3b x4b x5b
      have A0 := Lib.hid AT0
      have A1 := Lib.hid AT1
      have A2 := Lib.hid AT2
      have A3 := Lib.hid AT3
      have A4 := Lib.hid AT4
      have A5 := Lib.hid AT5
      have HTIME := Lib.hid (show time15 L = if okT ⟨x0, x1, x2, x3, x4, x5⟩ = true then some ⟨x0, x1, x2, x3, x4, x5⟩ else none by
        rw [time15, HT.out, if_pos ⟨H15.out, by rw [HBZ.out]; exact HZ.out, HDK.out⟩])
      clear AT bx AT0 AT1 AT2 AT3 AT4 AT5 HDK
      have hR := (Blk.new w 31 #[.int .i64 0, .int .i64 0, .int .i64 0, .int .i64 0, .int .i64 0, .int .i64 0]).alloc (.cells #[.int .i64 0, .int .i64 0, .int .i64 0, .int .i64 0, .int .i64 0, .int .i64 0] 31)
      have hB := Blk.new (w.alloc (.cells #[.int .i64 0, .int .i64 0, .int .i64 0, .int .i64 0, .int .i64 0, .int .i64 0] 31)) 31 #[.int .i64 0, .int .i64 0, .int .i64 0, .int .i64 0, .int .i64 0, .int .i64 0]
      have hk2 := hk.alloc (.cells #[.int .i64 0, .int .i64 0, .int .i64 0, .int .i64 0, .int .i64 0, .int .i64 0] 31)
      rw [World.size_alloc] at hB
      go_wp2_with fail
      refine (A0.out _).mono ?_
      rintro e w1 ⟨rfl, q1⟩
      have hR1 := hR.kp q1 (fun h => h)
      have hB1 := hB.kp q1 (fun h => h)
      have hk3 := hk2.then_ q1 (fun _ h => h.elim)
      clear hR hB hk2 hk q1
      have c1 := hB1.cell 0
      have f1 := hB1.frozen 0
      simp only [List.getElem?_toArray, List.getElem?_cons_zero] at c1
      have hB2 := hB1.set_ 0 (.int .i64 (x0 : Int))
      have hR2 := hR1.far (p := ⟨w.heap.size + 1, 0, none⟩) (by simp) (.int .i64 (x0 : Int))
      have hk4 := hk3.setCell (p := ⟨w.heap.size + 1, 0, none⟩) (.inr (by simp)) (.int .i64 (x0 : Int))
      clear hB1 hR1 hk3
      go_wp2_with fail
      refine wp_loop_rounds 6 ?_
      rw [rounds_succ]
      go_wp2_with fail
      refine (A1.out _).mono ?_
      rintro e w2 ⟨rfl, q2⟩
      have hR2a := hR2.kp q2 (fun h => h)
      have hB2a := hB2.kp q2 (fun h => h)
      have hk2a := hk4.then_ q2 (fun _ h => h.elim)
      clear hR2 hB2 hk4 q2
      have c2 := hB2a.cell 1
      have f2 := hB2a.frozen 1
      simp [Array.setIfInBounds] at c2
      have hB3 := hB2a.set_ 1 (.int .i64 (x1 : Int))
      have hR3 := hR2a.far (p := ⟨w.heap.size + 1, 1, none⟩) (by simp) (.int .i64 (x1 : Int))
      have hk5 := hk2a.setCell (p := ⟨w.heap.size + 1, 1, none⟩) (.inr (by simp)) (.int .i64 (x1 : Int))
      clear hB2a hR2a hk2a
      go_wp2_with fail
      rw [rounds_succ]
      go_wp2_with fail
      refine (A2.out _).mono ?_
      rintro e w3 ⟨rfl, q3⟩
      have hR3a := hR3.kp q3 (fun h => h)
      have hB3a := hB3.kp q3 (fun h => h)
      have hk3a := hk5.then_ q3 (fun _ h => h.elim)
      clear hR3 hB3 hk5 q3
      have c3 := hB3a.cell 2
      have f3 := hB3a.frozen 2
      simp [Array.setIfInBounds] at c3
      have hB4 := hB3a.set_ 2 (.int .i64 (x2 : Int))
      have hR4 := hR3a.far (p := ⟨w.heap.size + 1, 2, none⟩) (by simp) (.int .i64 (x2 : Int))
      have hk6 := hk3a.setCell (p := ⟨w.heap.size + 1, 2, none⟩) (.inr (by simp)) (.int .i64 (x2 : Int))
      clear hB3a hR3a hk3a
      go_wp2_with fail
      rw [rounds_succ]
      go_wp2_with fail
      refine (A3.out _).mono ?_
      rintro e w4 ⟨rfl, q4⟩
      have hR4a := hR4.kp q4 (fun h => h)
      have hB4a := hB4.kp q4 (fun h => h)
      have hk4a := hk6.then_ q4 (fun _ h => h.elim)
      clear hR4 hB4 hk6 q4
      have c4 := hB4a.cell 3
      have f4 := hB4a.frozen 3
      simp [Array.setIfInBounds] at c4
      have hB5 := hB4a.set_ 3 (.int .i64 (x3 : Int))
      have hR5 := hR4a.far (p := ⟨w.heap.size + 1, 3, none⟩) (by simp) (.int .i64 (x3 : Int))
      have hk7 := hk4a.setCell (p := ⟨w.heap.size + 1, 3, none⟩) (.inr (by simp)) (.int .i64 (x3 : Int))
      clear hB4a hR4a hk4a
      go_wp2_with fail
      rw [rounds_succ]
      go_wp2_with fail
      refine (A4.out _).mono ?_
      rintro e w5 ⟨rfl, q5⟩
      have hR5a := hR5.kp q5 (fun h => h)
      have hB5a := hB5.kp q5 (fun h => h)
      have hk5a := hk7.then_ q5 (fun _ h => h.elim)
      clear hR5 hB5 hk7 q5
      have c5 := hB5a.cell 4
      have f5 := hB5a.frozen 4
      simp [Array.setIfInBounds] at c5
      have hB6 := hB5a.set_ 4 (.int .i64 (x4 : Int))
      have hR6 := hR5a.far (p := ⟨w.heap.size + 1, 4, none⟩) (by simp) (.int .i64 (x4 : Int))
      have hk8 := hk5a.setCell (p := ⟨w.heap.size + 1, 4, none⟩) (.inr (by simp)) (.int .i64 (x4 : Int))
      clear hB5a hR5a hk5a
      go_wp2_with fail
      rw [rounds_succ]
      go_wp2_with fail
      refine (A5.out _).mono ?_
      rintro e w6 ⟨rfl, q6⟩
      have hR6a := hR6.kp q6 (fun h => h)
      have hB6a := hB6.kp q6 (fun h => h)
      have hk6a := hk8.then_ q6 (fun _ h => h.elim)
      clear hR6 hB6 hk8 q6
      have c6 := hB6a.cell 5
      have f6 := hB6a.frozen 5
      simp [Array.setIfInBounds] at c6
      have hB7 := hB6a.set_ 5 (.int .i64 (x5 : Int))
      have hR7 := hR6a.far (p := ⟨w.heap.size + 1, 5, none⟩) (by simp) (.int .i64 (x5 : Int))
      have hk9 := hk6a.setCell (p := ⟨w.heap.size + 1, 5, none⟩) (.inr (by simp)) (.int .i64 (x5 : Int))
      clear hB6a hR6a hk6a
      go_wp2_with fail
      rw [rounds_succ]
      go_wp2_with fail
      have hT7 := HTAB.out.kp hk9
      simp [Array.setIfInBounds] at hB7
      obtain ⟨W, hW⟩ : ∃ W, w6.setCell ⟨w.heap.size + 1, 5, none⟩ (.int .i64 (x5 : Int)) = W := ⟨_, rfl⟩
      rw [hW] at hT7 hB7 hR7 hk9 ⊢
      clear hW
      have d0 := hB7.cell 0
      have e0 := hR7.cell 0
      have g10 := hR7.frozen 0
      have d1 := hB7.cell 1
      have e1 := hR7.cell 1
      have g11 := hR7.frozen 1
      have d2 := hB7.cell 2
      have e2 := hR7.cell 2
      have g12 := hR7.frozen 2
      have d3 := hB7.cell 3
      have e3 := hR7.cell 3
      have g13 := hR7.frozen 3
      have d4 := hB7.cell 4
      have e4 := hR7.cell 4
      have g14 := hR7.frozen 4
      have d5 := hB7.cell 5
      have e5 := hR7.cell 5
      have g15 := hR7.frozen 5
      simp at d0 d1 d2 d3 d4 d5 e0 e1 e2 e3 e4 e5
      clear hB7 hR7
      have HK8 := Lib.hid hk9
      clear hk9
      have HNO := Lib.hid (show okT ⟨x0, x1, x2, x3, x4, x5⟩ = false → r = (T6.zero, 13) from fun h => by
        rw [← HR.out, HTIME.out, h]
        rfl)
      have HYES := Lib.hid (show okT ⟨x0, x1, x2, x3, x4, x5⟩ = true → r = (⟨x0, x1, x2, x3, x4, x5⟩, 0) from fun h => by
        rw [← HR.out, HTIME.out, h]
        rfl)
      clear HR HTIME A0 A1 A2 A3 A4 A5 HT
      by_cases b1 : x1 < 1
      · have t1 : decide ((x1 : Int) < 1) = true := by simp; omega
        have HR2 := Lib.hid (HNO.out (by simp [okT]; omega))
        clear b1 HNO HYES
        go_quiet (fail)
        go_wp2_with fail
        refine bodyPost_ret (v := .tuple #[T6.zero.v, .int .i64 13]) (by simp [results, Tryd.results94, go_sem, T6.v, T6.zero, e0, e1, e2, e3, e4, e5]) rfl ⟨by rw [HR2.out], ?_⟩
        exact (Kp.setCell (p := ⟨w.heap.size, 5, none⟩) (Kp.setCell (p := ⟨w.heap.size, 4, none⟩) (Kp.setCell (p := ⟨w.heap.size, 3, none⟩) (Kp.setCell (p := ⟨w.heap.size, 2, none⟩) (Kp.setCell (p := ⟨w.heap.size, 1, none⟩) (Kp.setCell (p := ⟨w.heap.size, 0, none⟩) (HK8.out.drewN _) (.inr (Nat.le_refl _)) _) (.inr (Nat.le_refl _)) _) (.inr (Nat.le_refl _)) _) (.inr (Nat.le_refl _)) _) (.inr (Nat.le_refl _)) _) (.inr (Nat.le_refl _)) _)
      obtain ⟨m, rfl⟩ : ∃ m, x1 = m + 1 := ⟨x1 - 1, by omega⟩
      have t1 : decide ((m : Int) + 1 < 1) = false := by simp; omega
      by_cases b2 : 12 < m + 1
      · have t2 : decide ((12 : Int) < (m : Int) + 1) = true := by simp; omega
        have HR2 := Lib.hid (HNO.out (by simp [okT]; omega))
        clear b1 b2 HNO HYES
        go_quiet (fail)
        go_wp2_with fail
        refine bodyPost_ret (v := .tuple #[T6.zero.v, .int .i64 13]) (by simp [results, Tryd.results94, go_sem, T6.v, T6.zero, e0, e1, e2, e3, e4, e5]) rfl ⟨by rw [HR2.out], ?_⟩
        exact (Kp.setCell (p := ⟨w.heap.size, 5, none⟩) (Kp.setCell (p := ⟨w.heap.size, 4, none⟩) (Kp.setCell (p := ⟨w.heap.size, 3, none⟩) (Kp.setCell (p := ⟨w.heap.size, 2, none⟩) (Kp.setCell (p := ⟨w.heap.size, 1, none⟩) (Kp.setCell (p := ⟨w.heap.size, 0, none⟩) (HK8.out.drewN _) (.inr (Nat.le_refl _)) _) (.inr (Nat.le_refl _)) _) (.inr (Nat.le_refl _)) _) (.inr (Nat.le_refl _)) _) (.inr (Nat.le_refl _)) _) (.inr (Nat.le_refl _)) _)
      have t2 : decide ((12 : Int) < (m : Int) + 1) = false := by simp; omega
      by_cases b3 : x2 < 1
      · have t3 : decide ((x2 : Int) < 1) = true := by simp; omega
        have HR2 := Lib.hid (HNO.out (by simp [okT]; omega))
        clear b1 b2 b3 HNO HYES
        go_quiet (fail)
        go_wp2_with fail
        refine bodyPost_ret (v := .tuple #[T6.zero.v, .int .i64 13]) (by simp [results, Tryd.results94, go_sem, T6.v, T6.zero, e0, e1, e2, e3, e4, e5]) rfl ⟨by rw [HR2.out], ?_⟩
        exact (Kp.setCell (p := ⟨w.heap.size, 5, none⟩) (Kp.setCell (p := ⟨w.heap.size, 4, none⟩) (Kp.setCell (p := ⟨w.heap.size, 3, none⟩) (Kp.setCell (p := ⟨w.heap.size, 2, none⟩) (Kp.setCell (p := ⟨w.heap.size, 1, none⟩) (Kp.setCell (p := ⟨w.heap.size, 0, none⟩) (HK8.out.drewN _) (.inr (Nat.le_refl _)) _) (.inr (Nat.le_refl _)) _) (.inr (Nat.le_refl _)) _) (.inr (Nat.le_refl _)) _) (.inr (Nat.le_refl _)) _) (.inr (Nat.le_refl _)) _)
      have t3 : decide ((x2 : Int) < 1) = false := by simp; omega
      obtain ⟨dd, hdd, hdim, hd31⟩ := dim_days x0 (m + 1) (by omega) (by omega)
      have dday := hT7 m (by omega)
      rw [show m + 1 - 1 = m by omega] at hdd
      rw [hdd] at dday
      have LEAP := fun W => leap_any x0 (m + 1) x0b x1b W
      have lv1 : leapI x0 (m + 1) ≤ 1 := by unfold leapI; split <;> omega
      generalize leapI x0 (m + 1) = lv at hdim LEAP lv1
      obtain ⟨D, hD⟩ : ∃ D, dd + lv = D := ⟨_, rfl⟩
      rw [hD] at hdim
      have s0 : IntKind.i64.wrap ((dd : Int) + (lv : Int)) = (D : Int) := by
        rw [show (dd : Int) + (lv : Int) = (D : Int) by omega]
        exact IntWalk.i64_in _ (by omega)
      have s1 : IntKind.i64.wrap ((m : Int) + 1 - 1) = (m : Int) := by
        rw [show (m : Int) + 1 - 1 = m by omega]
        exact IntWalk.i64_in _ (by omega)
      have s4 : IntKind.i64.wrap (m : Int) = (m : Int) := IntWalk.i64_in _ (by omega)
      have s2 : (0 : Int) ≤ (m : Int) := by omega
      have s3 : (m : Int) < 12 := by omega
      have HL := Lib.hid (show ∀ W, Calls Tryd.prog 102 #[.int .i64 (x0 : Int), .int .i64 ((m : Int) + 1)] W fun e w' => e = .returned (.int .i64 (lv : Int)) ∧ W = w' from fun W => by
        have := LEAP W
        rwa [show ((m + 1 : Nat) : Int) = (m : Int) + 1 from by omega] at this)
      clear LEAP hdd hD hd31 lv1 hT7
      by_cases b4 : D < x2
      · have t4 : decide (D < x2) = true := by simp; omega
        have HR2 := Lib.hid (HNO.out (by simp [okT, hdim]; omega))
        clear b1 b2 b3 b4 HNO HYES hdim
        go_quiet ((go_at_call 102; exact quiet_left (HL.out _)))
        go_wp2_with fail
        refine bodyPost_ret (v := .tuple #[T6.zero.v, .int .i64 13]) (by simp [results, Tryd.results94, go_sem, T6.v, T6.zero, e0, e1, e2, e3, e4, e5]) rfl ⟨by rw [HR2.out], ?_⟩
        exact (Kp.setCell (p := ⟨w.heap.size, 5, none⟩) (Kp.setCell (p := ⟨w.heap.size, 4, none⟩) (Kp.setCell (p := ⟨w.heap.size, 3, none⟩) (Kp.setCell (p := ⟨w.heap.size, 2, none⟩) (Kp.setCell (p := ⟨w.heap.size, 1, none⟩) (Kp.setCell (p := ⟨w.heap.size, 0, none⟩) (HK8.out.drewN _) (.inr (Nat.le_refl _)) _) (.inr (Nat.le_refl _)) _) (.inr (Nat.le_refl _)) _) (.inr (Nat.le_refl _)) _) (.inr (Nat.le_refl _)) _) (.inr (Nat.le_refl _)) _)
      have t4 : decide (D < x2) = false := by simp; omega
      by_cases b5 : 23 < x3
      · have t5 : decide ((23 : Int) < (x3 : Int)) = true := by simp; omega
        have HR2 := Lib.hid (HNO.out (by simp [okT, hdim]; omega))
        clear b1 b2 b3 b4 b5 HNO HYES hdim
        go_quiet ((go_at_call 102; exact quiet_left (HL.out _)))
        go_wp2_with fail
        refine bodyPost_ret (v := .tuple #[T6.zero.v, .int .i64 13]) (by simp [results, Tryd.results94, go_sem, T6.v, T6.zero, e0, e1, e2, e3, e4, e5]) rfl ⟨by rw [HR2.out], ?_⟩
        exact (Kp.setCell (p := ⟨w.heap.size, 5, none⟩) (Kp.setCell (p := ⟨w.heap.size, 4, none⟩) (Kp.setCell (p := ⟨w.heap.size, 3, none⟩) (Kp.setCell (p := ⟨w.heap.size, 2, none⟩) (Kp.setCell (p := ⟨w.heap.size, 1, none⟩) (Kp.setCell (p := ⟨w.heap.size, 0, none⟩) (HK8.out.drewN _) (.inr (Nat.le_refl _)) _) (.inr (Nat.le_refl _)) _) (.inr (Nat.le_refl _)) _) (.inr (Nat.le_refl _)) _) (.inr (Nat.le_refl _)) _) (.inr (Nat.le_refl _)) _)
      have t5 : decide ((23 : Int) < (x3 : Int)) = false := by simp; omega
      by_cases b6 : 59 < x4
      · have t6 : decide ((59 : Int) < (x4 : Int)) = true := by simp; omega
        have HR2 := Lib.hid (HNO.out (by simp [okT, hdim]; omega))
        clear b1 b2 b3 b4 b5 b6 HNO HYES hdim
        go_quiet ((go_at_call 102; exact quiet_left (HL.out _)))
        go_wp2_with fail
        refine bodyPost_ret (v := .tuple #[T6.zero.v, .int .i64 13]) (by simp [results, Tryd.results94, go_sem, T6.v, T6.zero, e0, e1, e2, e3, e4, e5]) rfl ⟨by rw [HR2.out], ?_⟩
        exact (Kp.setCell (p := ⟨w.heap.size, 5, none⟩) (Kp.setCell (p := ⟨w.heap.size, 4, none⟩) (Kp.setCell (p := ⟨w.heap.size, 3, none⟩) (Kp.setCell (p := ⟨w.heap.size, 2, none⟩) (Kp.setCell (p := ⟨w.heap.size, 1, none⟩) (Kp.setCell (p := ⟨w.heap.size, 0, none⟩) (HK8.out.drewN _) (.inr (Nat.le_refl _)) _) (.inr (Nat.le_refl _)) _) (.inr (Nat.le_refl _)) _) (.inr (Nat.le_refl _)) _) (.inr (Nat.le_refl _)) _) (.inr (Nat.le_refl _)) _)
      have t6 : decide ((59 : Int) < (x4 : Int)) = false := by simp; omega
      by_cases b7 : 59 < x5
      · have t7 : decide ((59 : Int) < (x5 : Int)) = true := by simp; omega
        have HR2 := Lib.hid (HNO.out (by simp [okT, hdim]; omega))
        clear b1 b2 b3 b4 b5 b6 b7 HNO HYES hdim
        go_quiet ((go_at_call 102; exact quiet_left (HL.out _)))
        go_wp2_with fail
        refine bodyPost_ret (v := .tuple #[T6.zero.v, .int .i64 13]) (by simp [results, Tryd.results94, go_sem, T6.v, T6.zero, e0, e1, e2, e3, e4, e5]) rfl ⟨by rw [HR2.out], ?_⟩
        exact (Kp.setCell (p := ⟨w.heap.size, 5, none⟩) (Kp.setCell (p := ⟨w.heap.size, 4, none⟩) (Kp.setCell (p := ⟨w.heap.size, 3, none⟩) (Kp.setCell (p := ⟨w.heap.size, 2, none⟩) (Kp.setCell (p := ⟨w.heap.size, 1, none⟩) (Kp.setCell (p := ⟨w.heap.size, 0, none⟩) (HK8.out.drewN _) (.inr (Nat.le_refl _)) _) (.inr (Nat.le_refl _)) _) (.inr (Nat.le_refl _)) _) (.inr (Nat.le_refl _)) _) (.inr (Nat.le_refl _)) _) (.inr (Nat.le_refl _)) _)
      have t7 : decide ((59 : Int) < (x5 : Int)) = false := by simp; omega
      have HR2 := Lib.hid (HYES.out (by simp [okT, hdim]; omega))
      clear b1 b2 b3 b4 b5 b6 b7 HNO HYES hdim
      go_quiet ((go_at_call 102; exact quiet_left (HL.out _)))
      go_wp2_with fail
      refine bodyPost_ret (v := .tuple #[T6.v ⟨x0, m + 1, x2, x3, x4, x5⟩, .int .i64 0]) (by simp [results, Tryd.results94, go_sem, T6.v, e0, e1, e2, e3, e4, e5]) rfl ⟨by rw [HR2.out], ?_⟩
      exact (Kp.setCell (p := ⟨w.heap.size, 5, none⟩) (Kp.setCell (p := ⟨w.heap.size, 4, none⟩) (Kp.setCell (p := ⟨w.heap.size, 3, none⟩) (Kp.setCell (p := ⟨w.heap.size, 2, none⟩) (Kp.setCell (p := ⟨w.heap.size, 1, none⟩) (Kp.setCell (p := ⟨w.heap.size, 0, none⟩) (HK8.out.drewN _) (.inr (Nat.le_refl _)) _) (.inr (Nat.le_refl _)) _) (.inr (Nat.le_refl _)) _) (.inr (Nat.le_refl _)) _) (.inr (Nat.le_refl _)) _) (.inr (Nat.le_refl _)) _)
end Go.Proofs.YtgjbfgkcbehjnaaDoor
