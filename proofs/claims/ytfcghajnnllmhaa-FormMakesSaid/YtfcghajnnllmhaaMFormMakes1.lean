/-
  The law FormMakes: for every input it returns true, and its arguments read behind the call as before it. No condition.
-/
import Derived.WalkKit
import Derived.WalkSpells
import Derived.WalkLawsBesides
import Derived.Lib.Hide
import Derived.Below
import Derived.Laws.OwnMore
import Derived.Deep.AppendLies
import Derived.Deep.Draws
import Derived.Laws.Rows
import Derived.Maps.AppendAt
import Derived.RegionTactic
import Derived.OwnWalk
import Derived.Lib.ConvBytes
import Derived.Laws.BytesArg
import Derived.Deep.QuietTactic
import Derived.BigQuiet
import Derived.ProofKit
import Derived.OpenShut
import Derived.ShutString
import Derived.SizedLaws
import Derived.Deep.Slices
import Derived.Deep.Fields
import Derived.Test.YtfcghajnnllmhaaProg
import Derived.IntWalk
import Derived.Deep.RegionHeld3
import Derived.Deep.LoopGhost
import Derived.Deep.CutRange
import Derived.Deep.RegionWith
import Derived.Deep.DeepCutAuto
import Derived.Lib.SmallJoins
import Derived.Test.YtfcghajnnllmhaaRows

set_option linter.unusedVariables false
set_option linter.unusedSimpArgs false
namespace Go.Proofs.Ytfcghajnnllmhaa
open Go.RowKit

theorem block_add (a : Addr) (n : Nat) : (a.add n).block = a.block := by unfold Addr.add; split <;> rfl
theorem add_add (a : Addr) (i j : Nat) : (a.add i).add j = a.add (i + j) := by
  unfold Addr.add
  by_cases hi : i = 0 <;> by_cases hj : j = 0 <;> simp [hi, hj, Nat.add_assoc]
theorem cell_lt {w : World} {a : Addr} {v : Value} (h : w.cell? a = some v) : a.block < w.heap.size := by
  rcases Nat.lt_or_ge a.block w.heap.size with hlt | hge
  · exact hlt
  · unfold World.cell? at h; rw [Array.getElem?_eq_none hge] at h; cases h

/-! ### What a call may have turned: of the blocks that there were those of S alone. -/
structure Kp (S : Nat → Prop) (w w' : World) : Prop where
  os : w'.os = w.os
  tape : w'.tape = w.tape
  output : w'.output = w.output
  size : w.heap.size ≤ w'.heap.size
  block : ∀ k, k < w.heap.size → ¬ S k → w'.heap[k]? = w.heap[k]?

section
variable {S T : Nat → Prop} {a b c w w' : World}
theorem Kp.refl (S : Nat → Prop) (w : World) : Kp S w w := ⟨rfl, rfl, rfl, Nat.le_refl _, fun _ _ _ => rfl⟩
/-- Behind the first step: what is new since the beginning, and S, may turn. -/
theorem Kp.trans (h : Kp S a b) (k : Kp (fun i => S i ∨ a.heap.size ≤ i) b c) : Kp S a c :=
  ⟨k.os.trans h.os, k.tape.trans h.tape, k.output.trans h.output, Nat.le_trans h.size k.size, fun i hi hs =>
    (k.block i (Nat.lt_of_lt_of_le hi h.size) (fun x => x.elim hs (fun y => absurd hi (Nat.not_lt.2 y)))).trans (h.block i hi hs)⟩
theorem Kp.then_ (h : Kp S a b) (k : Kp T b c) (ht : ∀ i, T i → S i ∨ a.heap.size ≤ i) : Kp S a c :=
  h.trans ⟨k.os, k.tape, k.output, k.size, fun i hi hs => k.block i hi (fun x => hs (ht i x))⟩
theorem Kp.mono (h : Kp S a b) (hs : ∀ i, i < a.heap.size → S i → T i) : Kp T a b :=
  ⟨h.os, h.tape, h.output, h.size, fun i hi ht => h.block i hi (fun x => ht (hs i hi x))⟩
theorem Kp.drew (h : Kp S a w) : Kp S a w.drew := ⟨h.os, h.tape, h.output, h.size, h.block⟩
theorem Kp.drewN (h : Kp S a w) (n : Nat) : Kp S a (w.drewN n) := ⟨h.os, h.tape, h.output, h.size, h.block⟩
theorem Kp.alloc (h : Kp S a w) (o : Obj) : Kp S a (w.alloc o) :=
  ⟨h.os, h.tape, h.output, Nat.le_trans h.size (by simp), fun i hi hs => (Below.heap_alloc w o i (Nat.lt_of_lt_of_le hi h.size)).trans (h.block i hi hs)⟩
theorem Kp.setCell (h : Kp S a w) {p : Addr} (hp : S p.block ∨ a.heap.size ≤ p.block) (u : Value) : Kp S a (w.setCell p u) :=
  ⟨h.os, h.tape, h.output, by simpa [World.setCell] using h.size, fun i hi hs => (Below.heap_setCell w p u i (by
    rintro rfl
    rcases hp with hp | hp
    · exact hs hp
    · omega)).trans (h.block i hi hs)⟩
theorem Kp.grown (h : Kp S a w) {row : Option Nat} (hg : w.grownBy w' row) (hr : ∀ k, row = some k → S k ∨ a.heap.size ≤ k) : Kp S a w' :=
  ⟨hg.os.trans h.os, hg.tape.trans h.tape, hg.output.trans h.output, Nat.le_trans h.size hg.size, fun i hi hs =>
    (hg.block i (Nat.lt_of_lt_of_le hi h.size) (fun e => by
      rcases hr i e.symm with hr | hr
      · exact hs hr
      · omega)).trans (h.block i hi hs)⟩
theorem Kp.below (h : Kp (fun _ => False) a b) : Below a.heap.size a b := ⟨h.os, h.tape, h.output, h.size, fun k hk => h.block k hk id⟩
theorem Kp.cell (h : Kp S a b) {p : Addr} {v : Value} (hc : a.cell? p = some v) (hs : ¬ S p.block) : b.cell? p = some v :=
  (World.cell?_of_block (h.block p.block (cell_lt hc) hs)).trans hc
end

/-! ### A slice that reads as a list of cells; its block is one of 'ok'. -/
def Rd (w : World) (ok : Nat → Prop) (size : Nat) (A : Option Addr) (n : Nat) (xs : List Value) : Prop :=
  xs.length = n * size ∧ (0 < n → ∃ ad, A = some ad ∧ ad.spot = none ∧ ok ad.block ∧ ∀ j u, xs[j]? = some u → w.cell? (ad.add j) = some u)

section
variable {w w' : World} {ok ok' S : Nat → Prop} {size n : Nat} {A : Option Addr} {xs : List Value}
theorem Rd.none_ : Rd w ok size A 0 [] := ⟨by simp, fun h => absurd h (by omega)⟩
theorem Rd.at_ {k : Nat} (h : Rd w ok 1 A n xs) (hk : k < n) : ∃ b off u, A = some ⟨b, off, none⟩ ∧ ok b ∧ xs[k]? = some u ∧ w.cell? ⟨b, off + k, none⟩ = some u := by
  obtain ⟨ad, e, hsp, hb, hc⟩ := h.2 (by omega)
  have hl : k < xs.length := by have := h.1; omega
  obtain ⟨b, off, spot⟩ := ad
  obtain rfl : spot = none := hsp
  have := hc k _ (List.getElem?_eq_getElem hl)
  refine ⟨b, off, xs[k], e, hb, List.getElem?_eq_getElem hl, ?_⟩
  rcases k with _ | k
  · simpa [Addr.add] using this
  · simpa [Addr.add] using this
theorem Rd.kp (h : Rd w ok size A n xs) (hk : Kp S w w') (hd : ∀ i, ok i → ¬ S i) : Rd w' ok size A n xs :=
  ⟨h.1, fun hn => by
    obtain ⟨ad, e, hsp, hb, hc⟩ := h.2 hn
    exact ⟨ad, e, hsp, hb, fun j u hu => hk.cell (hc j u hu) (by rw [block_add]; exact hd _ hb)⟩⟩
theorem Rd.mono (h : Rd w ok size A n xs) (hd : ∀ i, ok i → ok' i) : Rd w ok' size A n xs :=
  ⟨h.1, fun hn => by
    obtain ⟨ad, e, hsp, hb, hc⟩ := h.2 hn
    exact ⟨ad, e, hsp, hd _ hb, hc⟩⟩
theorem Rd.take (h : Rd w ok size A n xs) {k : Nat} (hk : k ≤ n) : Rd w ok size A k (xs.take (k * size)) := by
  refine ⟨by rw [List.length_take, h.1]; have := Nat.mul_le_mul_right size hk; omega, fun hn => ?_⟩
  obtain ⟨ad, rfl, hsp, hb, hcell⟩ := h.2 (by omega)
  refine ⟨ad, rfl, hsp, hb, fun j u hu => hcell j u ?_⟩
  rw [List.getElem?_take] at hu
  split at hu
  · exact hu
  · cases hu
theorem Rd.of_own {base : Nat} {e : TypeId} {c : Nat} (h : w.ownsRow base e size (.slice A n c) n xs) (hok : ∀ g, A = some ⟨g, 0, none⟩ → ok g) : Rd w ok size A n xs := by
  refine ⟨h.1, fun hn => ?_⟩
  obtain ⟨g, cap, hv, _, hlt⟩ := h.form hn
  have hA : A = some ⟨g, 0, none⟩ := by injection hv
  subst hA
  exact ⟨_, rfl, rfl, hok _ rfl, h.cells (g := g) rfl⟩
end

/-- Rows of several cells: element k's j-th cell. -/
theorem Rd.row {α : Type} {w : World} {ok : Nat → Prop} {size : Nat} {A : Option Addr} {l : List α} {enc : α → List Value} (h : Rd w ok size A l.length (l.flatMap enc)) (he : ∀ x, (enc x).length = size) {k : Nat} (hk : k < l.length) :
    ∃ b off, A = some ⟨b, off, none⟩ ∧ ok b ∧ ∀ j u, (enc (l[k]'hk))[j]? = some u → w.cell? ⟨b, off + k * size + j, none⟩ = some u := by
  obtain ⟨ad, e, hsp, hb, hc⟩ := h.2 (by omega)
  obtain ⟨b, off, spot⟩ := ad
  obtain rfl : spot = none := hsp
  refine ⟨b, off, e, hb, fun j u hj => ?_⟩
  have hjl : j < size := by rw [← he (l[k]'hk)]; exact (List.getElem?_eq_some_iff.1 hj).1
  have hx : (l.flatMap enc)[k * size + j]? = some u := by
    clear h hc hb e
    induction l generalizing k with
    | nil => simp at hk
    | cons x l ih =>
      rw [List.flatMap_cons]
      cases k with
      | zero =>
        rw [List.getElem?_append_left (by rw [he]; omega)]
        simpa using hj
      | succ k =>
        rw [List.getElem?_append_right (by rw [he, Nat.succ_mul]; omega), he]
        rw [show (k + 1) * size + j - size = k * size + j from by rw [Nat.succ_mul]; omega]
        exact ih (by simpa using hk) (by simpa using hj)
  have := hc _ _ hx
  rw [show (⟨b, off, none⟩ : Addr).add (k * size + j) = ⟨b, off + k * size + j, none⟩ from by
    unfold Addr.add
    split
    · next h0 => rw [Nat.add_assoc, h0, Nat.add_zero]
    · rw [Nat.add_assoc]] at this
  exact this

/-! ### A block that is known whole. -/
def Blk (w : World) (g : Nat) (t : TypeId) (cs : Array Value) : Prop := w.heap[g]? = some (.cells cs t (0, 0))

section
variable {w w' : World} {g : Nat} {t : TypeId} {cs : Array Value} {S : Nat → Prop}
theorem Blk.lt (h : Blk w g t cs) : g < w.heap.size := by
  rcases Nat.lt_or_ge g w.heap.size with hlt | hge
  · exact hlt
  · unfold Blk at h; rw [Array.getElem?_eq_none hge] at h; cases h
theorem Blk.cell (h : Blk w g t cs) (i : Nat) : w.cell? ⟨g, i, none⟩ = cs[i]? := cell_of_row w g i cs t (0, 0) h
theorem Blk.frozen (h : Blk w g t cs) (i : Nat) : w.frozen? ⟨g, i, none⟩ = false := by
  unfold Blk at h
  simp [World.frozen?, h]
theorem Blk.new (w : World) (t : TypeId) (cs : Array Value) : Blk (w.alloc (.cells cs t)) w.heap.size t cs := heap_alloc_new w _
theorem Blk.drew (h : Blk w g t cs) : Blk w.drew g t cs := h
theorem Blk.drewN (h : Blk w g t cs) (n : Nat) : Blk (w.drewN n) g t cs := h
theorem Blk.alloc (h : Blk w g t cs) (o : Obj) : Blk (w.alloc o) g t cs := (Below.heap_alloc w o g h.lt).trans h
theorem Blk.set_ (h : Blk w g t cs) (i : Nat) (u : Value) : Blk (w.setCell ⟨g, i, none⟩ u) g t (cs.setIfInBounds i u) := by
  unfold Blk at h ⊢
  simp [World.setCell, Array.getElem?_modify, h]
theorem Blk.kp (h : Blk w g t cs) (hk : Kp S w w') (hg : ¬ S g) : Blk w' g t cs := (hk.block g h.lt hg).trans h
theorem Blk.ne_ {g' : Nat} {t' : TypeId} {cs' : Array Value} (h : Blk w g t cs) (h' : Blk w g' t' cs') (hne : t ≠ t') : g ≠ g' := by
  rintro rfl
  unfold Blk at h h'
  rw [h] at h'
  injection h' with h'
  injection h' with _ ht
  exact hne ht
end

/-! ### append onto a row of the call's own: the source nil, empty or not. -/
section
variable {P : Program} (w : World)
theorem run_append_of_nil (base : Nat) (t ty e : TypeId) (i : TypeInfo) (size : Nat) (ht : P.underlying t = some (.slice e)) (hi : P.info? e = some i)
    (v : Value) (n : Nat) (xs : List Value) (hown : w.ownsRow base e size v n xs) (c : Nat) : (Builtin.append_ #[t, t] ty #[v, .slice none 0 c]).run P w = .ok v w := by
  rcases hown.2 with ⟨rfl, rfl⟩ | ⟨g, cap, cur, rfl, _, _, hnc, _⟩
  · simp [Builtin.append_, run_underlying ht, sizeOf, typeInfo, hi, Builtin.lenOf, Builtin.firstCells]
  · simp [Builtin.append_, run_underlying ht, sizeOf, typeInfo, hi, Builtin.lenOf, Builtin.firstCells, hnc, storeCells]

theorem run_append_any (base : Nat) (t ty e : TypeId) (i : TypeInfo) (z : Value) (size bytes : Nat) (ht : P.underlying t = some (.slice e)) (hi : P.info? e = some i) (hz : i.zero = some z)
    (hsize : i.size = size) (hby : i.bytes = bytes) (hzs : z.cells.size = size) (hsz : 0 < size)
    (v : Value) (n : Nat) (xs : List Value) (hown : w.ownsRow base e size v n xs)
    (ok : Nat → Prop) (A : Option Addr) (m c : Nat) (news : List Value) (hr : Rd w ok size A m news) (h1 : ∀ u ∈ news, u.oneCell' = true)
    (h63 : n + m ≤ maxLen) (hbytes : (n + m) * bytes ≤ 140737488355328) (hbase : base ≤ w.heap.size) :
    ∃ v' w', (Builtin.append_ #[t, t] ty #[v, .slice A m c]).run P w = .ok v' w' ∧ w'.ownsRow base e size v' (n + m) (xs ++ news) ∧ w.grownBy w' v.ownBlock ∧
      (v'.ownBlock = v.ownBlock ∨ v'.ownBlock = some w.heap.size) := by
  rcases A with _ | ad
  · have hm : m = 0 := by
      rcases Nat.eq_zero_or_pos m with h0 | h0
      · exact h0
      · obtain ⟨ad, h, _⟩ := hr.2 h0
        cases h
    subst hm
    have hn : news = [] := List.eq_nil_of_length_eq_zero (by simpa using hr.1)
    subst hn
    exact ⟨v, w, run_append_of_nil w base t ty e i size ht hi v n xs hown c, by simpa using hown, World.grownBy.refl w _, .inl rfl⟩
  · have hcells : ∀ j u, news[j]? = some u → w.cell? (ad.add j) = some u := by
      intro j u hu
      rcases Nat.eq_zero_or_pos m with h0 | h0
      · subst h0
        have hn : news = [] := List.eq_nil_of_length_eq_zero (by simpa using hr.1)
        subst hn
        simp at hu
      · obtain ⟨ad', h, _, _, hc⟩ := hr.2 h0
        injection h with h
        subst h
        exact hc j u hu
    obtain ⟨v', w', hrun, h2, h3, _, h5⟩ := run_append_own_at (P := P) w base t ty e i z size bytes ht hi hz hsize hby hzs hsz v n xs hown ad m c news hr.1 hcells h1 h63 hbytes hbase
    exact ⟨v', w', hrun, h2, h3, h5⟩

theorem wp_append_any {o : Oper} {a : Act} {K : Act → World → Prop} {Q : Exit → Act → World → Prop} (s x : Operand) (t : TypeId)
    (ho : o.op = .call { callee := .builtin .append, args := #[s, x], argTypes := #[t, t] })
    (base : Nat) (e : TypeId) (i : TypeInfo) (z : Value) (size bytes : Nat) (ht : P.underlying t = some (.slice e)) (hi : P.info? e = some i) (hz : i.zero = some z)
    (hsize : i.size = size) (hby : i.bytes = bytes) (hzs : z.cells.size = size) (hsz : 0 < size)
    (v : Value) (n : Nat) (xs : List Value) (hs : a.eval s = v) (hown : w.ownsRow base e size v n xs)
    (ok : Nat → Prop) (A : Option Addr) (m c : Nat) (news : List Value) (hx : a.eval x = .slice A m c) (hr : Rd w ok size A m news) (h1 : ∀ u ∈ news, u.oneCell' = true)
    (h63 : n + m ≤ maxLen) (hbytes : (n + m) * bytes ≤ 140737488355328) (hbase : base ≤ w.heap.size)
    (h : ∀ v' w', w'.ownsRow base e size v' (n + m) (xs ++ news) → w.grownBy w' v.ownBlock → (v'.ownBlock = v.ownBlock ∨ v'.ownBlock = some w.heap.size) → K (a.put o.dst v') w') : o.wp P a w K Q := by
  obtain ⟨v', w', hrun, h2, h3, h4⟩ := run_append_any (P := P) w base t o.type e i z size bytes ht hi hz hsize hby hzs hsz v n xs hown ok A m c news hr h1 h63 hbytes hbase
  unfold Oper.wp execOp
  simp only [ho, resolve, invoke, builtin, Sem.run_bind, Sem.run_pure, Result.andThen_ok, List.map_toArray, List.map_cons, List.map_nil, hs, hx, hrun]
  exact h v' w' h2 h3 h4

theorem wpList_append_any {ops : Array Oper} {rest : List Oper} {o : Oper} {a : Act} {Q : Exit → Act → World → Prop} (hgd : o.guard = none) (s x : Operand) (t : TypeId)
    (ho : o.op = .call { callee := .builtin .append, args := #[s, x], argTypes := #[t, t] })
    (base : Nat) (e : TypeId) (i : TypeInfo) (z : Value) (size bytes : Nat) (ht : P.underlying t = some (.slice e)) (hi : P.info? e = some i) (hz : i.zero = some z)
    (hsize : i.size = size) (hby : i.bytes = bytes) (hzs : z.cells.size = size) (hsz : 0 < size)
    (v : Value) (n : Nat) (xs : List Value) (hs : a.eval s = v) (hown : w.ownsRow base e size v n xs)
    (ok : Nat → Prop) (A : Option Addr) (m c : Nat) (news : List Value) (hx : a.eval x = .slice A m c) (hr : Rd w ok size A m news) (h1 : ∀ u ∈ news, u.oneCell' = true)
    (h63 : n + m ≤ maxLen) (hbytes : (n + m) * bytes ≤ 140737488355328) (hbase : base ≤ w.heap.size)
    (h : ∀ v' w', w'.ownsRow base e size v' (n + m) (xs ++ news) → w.grownBy w' v.ownBlock → (v'.ownBlock = v.ownBlock ∨ v'.ownBlock = some w.heap.size) → wpList P ops Q rest (a.put o.dst v') w') : wpList P ops Q (o :: rest) a w :=
  wpList_plain hgd fun _ hK => wp_append_any w s x t ho base e i z size bytes ht hi hz hsize hby hzs hsz v n xs hs hown ok A m c news hx hr h1 h63 hbytes hbase fun v' w' h2 h3 h4 => hK _ _ (h v' w' h2 h3 h4)

end

/-! ### A call that turns nothing, in a region that draws. -/
theorem quiet_left {P : Program} {f : FuncId} {args : Array Value} {w : World} {n : Nat} {v : Value}
    (h : Calls P f args (w.drewN n) fun e w' => e = .returned v ∧ w.drewN n = w') : Calls P f args (w.drewN n) fun e w' => e = .returned v ∧ ∃ m, w' = w.drewN m :=
  h.mono fun _ _ ⟨he, hm⟩ => ⟨he, n, hm.symm⟩

/-! ### Bytes. -/
def bc (l : List UInt8) : List Value := l.map fun b => Value.int .u8 (b.toNat : Int)
theorem bc_length (l : List UInt8) : (bc l).length = l.length := by simp [bc]
/-- A slice value that reads as these bytes. -/
def BR (w : World) (ok : Nat → Prop) (v : Value) (l : List UInt8) : Prop := ∃ A c, v = .slice A l.length c ∧ l.length ≤ c ∧ Rd w ok 1 A l.length (bc l)
section
variable {w w' : World} {ok ok' S : Nat → Prop} {v : Value} {l : List UInt8}
theorem BR.nil : BR w ok (.slice none 0 0) [] := ⟨none, 0, rfl, Nat.le_refl _, Rd.none_⟩
theorem BR.kp (h : BR w ok v l) (hk : Kp S w w') (hd : ∀ i, ok i → ¬ S i) : BR w' ok v l := by
  obtain ⟨A, c, e, hc, hr⟩ := h
  exact ⟨A, c, e, hc, hr.kp hk hd⟩
theorem BR.mono (h : BR w ok v l) (hd : ∀ i, ok i → ok' i) : BR w ok' v l := by
  obtain ⟨A, c, e, hc, hr⟩ := h
  exact ⟨A, c, e, hc, hr.mono hd⟩
/-- The string of bytes. -/
def str (l : List UInt8) : ByteArray := ⟨l.toArray⟩
theorem BR.of_own {base : Nat} {e : TypeId} {n : Nat} (h : w.ownsRow base e 1 v n (bc l)) (hok : ∀ g, v.ownBlock = some g → ok g) : BR w ok v l := by
  have hn : n = l.length := by have := h.1; rw [bc_length] at this; omega
  subst hn
  rcases h.2 with ⟨rfl, h0⟩ | ⟨g, cap, cur, rfl, _, _, hcap, _⟩
  · obtain rfl : l = [] := List.eq_nil_of_length_eq_zero h0
    exact BR.nil
  · exact ⟨_, cap, rfl, by first | exact hcap | (exact hcap.1) | omega, Rd.of_own h (fun g' e => hok g' (by simp only [Option.some.injEq, Addr.mk.injEq] at e; simp [Value.ownBlock, e]))⟩
end

/-! ### A row of the call's own whose block is one of 'ok'. -/
def Own (w : World) (ok : Nat → Prop) (e size : Nat) (v : Value) (n : Nat) (xs : List Value) : Prop := w.ownsRow 0 e size v n xs ∧ ∀ k, v.ownBlock = some k → ok k
section
variable {w w' : World} {ok ok' S : Nat → Prop} {e size n : Nat} {v : Value} {xs : List Value}
theorem Own.nil : Own w ok e size (.slice none 0 0) 0 [] := ⟨World.ownsRow_nil w 0 e size, fun k hk => by simp [Value.ownBlock] at hk⟩
theorem Own.lt (h : Own w ok e size v n xs) : ∀ k, v.ownBlock = some k → k < w.heap.size := fun k hk => (h.1.lt k hk).2
theorem Own.kp (h : Own w ok e size v n xs) (hk : Kp S w w') (hd : ∀ i, ok i → ¬ S i) : Own w' ok e size v n xs := by
  obtain ⟨⟨h1, h2⟩, h3⟩ := h
  refine ⟨⟨h1, ?_⟩, h3⟩
  rcases h2 with h2 | ⟨g, cap, cur, rfl, hg, hh, r⟩
  · exact .inl h2
  · have hok := h3 g rfl
    have hlt : g < w.heap.size := by
      rcases Nat.lt_or_ge g w.heap.size with h | h
      · exact h
      · rw [Array.getElem?_eq_none h] at hh; cases hh
    exact .inr ⟨g, cap, cur, rfl, hg, (hk.block g hlt (hd g hok)).trans hh, r⟩
theorem Own.mono (h : Own w ok e size v n xs) (hd : ∀ i, i < w.heap.size → ok i → ok' i) : Own w ok' e size v n xs := ⟨h.1, fun k hk => hd k (h.lt k hk) (h.2 k hk)⟩
theorem Own.shape (h : Own w ok e size v n xs) : ∃ A c, v = .slice A n c ∧ n ≤ c := by
  rcases h.1.2 with ⟨rfl, rfl⟩ | ⟨g, cap, cur, rfl, _, _, hn, _⟩
  · exact ⟨none, 0, rfl, Nat.le_refl _⟩
  · exact ⟨_, cap, rfl, hn⟩
theorem Own.rd {A : Option Addr} {c : Nat} (h : Own w ok e size (.slice A n c) n xs) : Rd w ok size A n xs := Rd.of_own h.1 (fun g hg => h.2 g (by rw [hg]; rfl))
theorem Own.block {t : TypeId} {g : Nat} {cs : Array Value} (h : Own w ok e size v n xs) (hb : Blk w g t cs) (hne : e ≠ t) : v.ownBlock ≠ some g := by
  rcases h.1.2 with ⟨rfl, _⟩ | ⟨g', cap, cur, rfl, _, hh, _⟩
  · simp [Value.ownBlock]
  · intro he
    have : g' = g := by simpa [Value.ownBlock] using he
    subst this
    exact Blk.ne_ (t := e) hh hb hne rfl
/-- Cut at its end. -/
theorem Own.take {A : Option Addr} {c : Nat} (h : Own w ok e size (.slice A n c) n xs) {k : Nat} (hk : k ≤ n) : Own w ok e size (.slice A k c) k (xs.take (k * size)) := by
  obtain ⟨⟨h1, h2⟩, h3⟩ := h
  have hlen : (xs.take (k * size)).length = k * size := by rw [List.length_take, h1]; have := Nat.mul_le_mul_right size hk; omega
  rcases h2 with ⟨h2, rfl⟩ | ⟨g, cap, cur, h2, hg, hh, hn, hc, hs, ht⟩
  · injection h2 with hA _ hc
    subst hA hc
    obtain rfl : k = 0 := by omega
    exact ⟨⟨hlen, .inl ⟨rfl, rfl⟩⟩, h3⟩
  · injection h2 with hA _ hc'
    subst hA hc'
    refine ⟨⟨hlen, .inr ⟨g, c, cur, rfl, hg, hh, by omega, hc, hs, ?_⟩⟩, h3⟩
    rw [← ht, List.take_take, Nat.min_eq_left (Nat.mul_le_mul_right size hk)]
end

end Go.Proofs.Ytfcghajnnllmhaa

namespace Go.Proofs.Ytfcghajnnllmhaa
open Go.ChangeShapes Go.WideShapes Go.ChangeAt Go.RowKit Go.Deep

/-- Integers of a kind, as cells. -/
def ic (k : IntKind) (l : List Int) : List Value := l.map fun n => Value.int k n
/-- A slice value that reads as these integers. -/
def IR (k : IntKind) (w : World) (ok : Nat → Prop) (v : Value) (l : List Int) : Prop := ∃ A c, v = .slice A l.length c ∧ l.length ≤ c ∧ Rd w ok 1 A l.length (ic k l)

theorem Rd.int {k : IntKind} {w : World} {ok : Nat → Prop} {A : Option Addr} {l : List Int} {i : Nat} (h : Rd w ok 1 A l.length (ic k l)) (hi : i < l.length) :
    ∃ b off, A = some ⟨b, off, none⟩ ∧ ok b ∧ w.cell? ⟨b, off + i, none⟩ = some (.int k (l[i]'hi)) := by
  obtain ⟨b, off, u, hA, hb, hu, hc⟩ := h.at_ hi
  refine ⟨b, off, hA, hb, ?_⟩
  rw [hc]
  simp [ic, hi] at hu
  rw [hu]
section
variable {H : Type} {enc : TypeId × Value → H} {P : Program} {w : World} {base : Nat} {spare sp : Nat → Bool} {held : Bool} {r : Reach} {b0 : Nat}

/-- How long a slice's datum is. -/
def lenD : DataW H → Nat
  | .slice es _ => es.length
  | _ => 0

theorem list_of {α : Type} {n : Nat} {p : Nat → α → Prop} (h : ∀ i, i < n → ∃ x, p i x) : ∃ l : List α, l.length = n ∧ ∀ i (hi : i < l.length), p i l[i] := by
  induction n with
  | zero => exact ⟨[], rfl, fun i hi => by simp at hi⟩
  | succ n ih =>
    obtain ⟨l, hl, hp⟩ := ih (fun i hi => h i (by omega))
    obtain ⟨x, hx⟩ := h n (by omega)
    refine ⟨l ++ [x], by simp [hl], fun i hi => ?_⟩
    rw [List.length_append, List.length_singleton] at hi
    rcases Nat.lt_or_ge i l.length with h1 | h1
    · rw [List.getElem_append_left h1]
      exact hp i h1
    · obtain rfl : i = n := by omega
      subst hl
      simpa using hx
end
end Go.Proofs.Ytfcghajnnllmhaa

namespace Go.Proofs.Ytfcghajnnllmhaa
open Go.RowKit

inductive RT (α : Type) where
  | mk (a : α) (l : List (RT α))
namespace RT
variable {α : Type}
def a : RT α → α
  | .mk a _ => a
def l : RT α → List (RT α)
  | .mk _ l => l
end RT

/-- How a struct's fields ahead of the slice read. -/
abbrev Head (α : Type) := World → (Nat → Prop) → α → List Value → Prop

section
variable {α : Type}
mutual
/-- A struct's cells read as a tree: its last field is the slice. -/
def TR (H : Head α) (n : Nat) (w : World) (ok : Nat → Prop) : RT α → List Value → Prop
  | .mk a l, cs => ∃ hd A c, cs = hd ++ [.slice A l.length c] ∧ hd.length + 1 = n ∧ H w ok a hd ∧ l.length ≤ c ∧ l.length ≤ 140737488355328 ∧ (0 < l.length → ∃ b off, A = some ⟨b, off, none⟩ ∧ ok b ∧ TRs H n w ok l b off)
def TRs (H : Head α) (n : Nat) (w : World) (ok : Nat → Prop) : List (RT α) → Nat → Nat → Prop
  | [], _, _ => True
  | t :: l, b, off => (∃ cs, TR H n w ok t cs ∧ ∀ j u, cs[j]? = some u → w.cell? ⟨b, off + j, none⟩ = some u) ∧ TRs H n w ok l b (off + n)
end
/-- A slice's address reads as a list of trees. -/
def TL (H : Head α) (n : Nat) (w : World) (ok : Nat → Prop) (l : List (RT α)) (A : Option Addr) : Prop :=
  0 < l.length → ∃ b off, A = some ⟨b, off, none⟩ ∧ ok b ∧ TRs H n w ok l b off
theorem TR_def (H : Head α) (n : Nat) (w : World) (ok : Nat → Prop) (t : RT α) (cs : List Value) :
    TR H n w ok t cs ↔ ∃ hd A c, cs = hd ++ [.slice A t.l.length c] ∧ hd.length + 1 = n ∧ H w ok t.a hd ∧ t.l.length ≤ c ∧ t.l.length ≤ 140737488355328 ∧ TL H n w ok t.l A := by
  cases t
  rw [TR]
  rfl
theorem TRs.at_ {H : Head α} {n : Nat} {w : World} {ok : Nat → Prop} {l : List (RT α)} {b off : Nat} (h : TRs H n w ok l b off) {i : Nat} (hi : i < l.length) :
    ∃ cs, TR H n w ok (l[i]'hi) cs ∧ ∀ j u, cs[j]? = some u → w.cell? ⟨b, off + i * n + j, none⟩ = some u := by
  induction l generalizing off i with
  | nil => simp at hi
  | cons t l ih =>
    rw [TRs] at h
    cases i with
    | zero => simpa using h.1
    | succ i =>
      obtain ⟨cs, h1, h2⟩ := ih h.2 (i := i) (by simpa using hi)
      refine ⟨cs, by simpa using h1, fun j u hu => ?_⟩
      rw [Nat.succ_mul, show off + (i * n + n) + j = off + n + i * n + j from by omega]
      exact h2 j u hu
theorem TRs.of {H : Head α} {n : Nat} {w : World} {ok : Nat → Prop} {l : List (RT α)} {b off : Nat}
    (h : ∀ i (hi : i < l.length), ∃ cs, TR H n w ok (l[i]'hi) cs ∧ ∀ j u, cs[j]? = some u → w.cell? ⟨b, off + i * n + j, none⟩ = some u) : TRs H n w ok l b off := by
  induction l generalizing off with
  | nil => rw [TRs]; trivial
  | cons t l ih =>
    rw [TRs]
    obtain ⟨c0, g1, g2⟩ := h 0 (by simp)
    refine ⟨⟨c0, g1, fun j u hu => by simpa using g2 j u hu⟩, ih (fun i hi => ?_)⟩
    obtain ⟨cs, h1, h2⟩ := h (i + 1) (by simpa using hi)
    refine ⟨cs, by simpa using h1, fun j u hu => ?_⟩
    have := h2 j u hu
    rw [Nat.succ_mul, show off + (i * n + n) + j = off + n + i * n + j from by omega] at this
    exact this
theorem TL.at_ {H : Head α} {n : Nat} {w : World} {ok : Nat → Prop} {l : List (RT α)} {A : Option Addr} (h : TL H n w ok l A) {i : Nat} (hi : i < l.length) :
    ∃ b off cs, A = some ⟨b, off, none⟩ ∧ ok b ∧ TR H n w ok (l[i]'hi) cs ∧ ∀ j u, cs[j]? = some u → w.cell? ⟨b, off + i * n + j, none⟩ = some u := by
  obtain ⟨b, off, e, hb, ht⟩ := h (by omega)
  obtain ⟨cs, h1, h2⟩ := ht.at_ hi
  exact ⟨b, off, cs, e, hb, h1, h2⟩

/-- A head that reads out of memory reads there as before, if its blocks are as before. -/
structure HeadKp (H : Head α) : Prop where
  kp : ∀ {w w' : World} {ok S : Nat → Prop} {a : α} {hd : List Value}, H w ok a hd → Kp S w w' → (∀ i, ok i → ¬ S i) → H w' ok a hd
  mono : ∀ {w : World} {ok ok' : Nat → Prop} {a : α} {hd : List Value}, H w ok a hd → (∀ i, ok i → ok' i) → H w ok' a hd

mutual
theorem TR.kp_ {H : Head α} (hH : HeadKp H) {n : Nat} {w w' : World} {ok ok' S : Nat → Prop} (hk : Kp S w w') (hd : ∀ i, ok i → ¬ S i) (hm : ∀ i, ok i → ok' i) : ∀ (t : RT α) (cs : List Value), TR H n w ok t cs → TR H n w' ok' t cs
  | .mk a l, cs, h => by
    rw [TR] at h ⊢
    obtain ⟨hds, A, c, e, hl, hh, hc, hc2, ht⟩ := h
    refine ⟨hds, A, c, e, hl, hH.mono (hH.kp hh hk hd) hm, hc, hc2, fun h0 => ?_⟩
    obtain ⟨b, off, e1, hb, hs⟩ := ht h0
    exact ⟨b, off, e1, hm b hb, TRs.kp_ hH hk hd hm l b off hb hs⟩
theorem TRs.kp_ {H : Head α} (hH : HeadKp H) {n : Nat} {w w' : World} {ok ok' S : Nat → Prop} (hk : Kp S w w') (hd : ∀ i, ok i → ¬ S i) (hm : ∀ i, ok i → ok' i) : ∀ (l : List (RT α)) (b off : Nat), ok b → TRs H n w ok l b off → TRs H n w' ok' l b off
  | [], _, _, _, _ => by rw [TRs]; trivial
  | t :: l, b, off, hb, h => by
    rw [TRs] at h ⊢
    obtain ⟨⟨cs, h1, h2⟩, h3⟩ := h
    exact ⟨⟨cs, TR.kp_ hH hk hd hm t cs h1, fun j u hu => hk.cell (h2 j u hu) (hd b hb)⟩, TRs.kp_ hH hk hd hm l b _ hb h3⟩
end
theorem TL.kp_ {H : Head α} (hH : HeadKp H) {n : Nat} {w w' : World} {ok ok' S : Nat → Prop} {l : List (RT α)} {A : Option Addr} (h : TL H n w ok l A) (hk : Kp S w w') (hd : ∀ i, ok i → ¬ S i) (hm : ∀ i, ok i → ok' i) : TL H n w' ok' l A := by
  intro h0
  obtain ⟨b, off, e1, hb, hs⟩ := h h0
  exact ⟨b, off, e1, hm b hb, TRs.kp_ hH hk hd hm l b off hb hs⟩
/-- The rest of a list. -/
theorem TL.drop {H : Head α} {n : Nat} {w : World} {ok : Nat → Prop} {l : List (RT α)} {b off : Nat} (h : TL H n w ok l (some ⟨b, off, none⟩)) (k : Nat) : TL H n w ok (l.drop k) (some ⟨b, off + k * n, none⟩) := by
  intro h0
  rw [List.length_drop] at h0
  obtain ⟨b', off', e, hb, hs⟩ := h (by omega)
  injection e with e
  injection e with e1 e2
  subst e1 e2
  refine ⟨b, _, rfl, hb, TRs.of (fun i hi => ?_)⟩
  rw [List.length_drop] at hi
  obtain ⟨cs, h1, h2⟩ := hs.at_ (i := k + i) (by omega)
  refine ⟨cs, by simpa using h1, fun j u hu => ?_⟩
  have := h2 j u hu
  rw [Nat.add_mul, show off + (k * n + i * n) + j = off + k * n + i * n + j from by omega] at this
  exact this
theorem TL.take {H : Head α} {n : Nat} {w : World} {ok : Nat → Prop} {l : List (RT α)} {A : Option Addr} (h : TL H n w ok l A) (k : Nat) : TL H n w ok (l.take k) A := by
  intro h0
  rw [List.length_take] at h0
  obtain ⟨b, off, e, hb, hs⟩ := h (by omega)
  refine ⟨b, off, e, hb, TRs.of (fun i hi => ?_)⟩
  rw [List.length_take] at hi
  obtain ⟨cs, h1, h2⟩ := hs.at_ (i := i) (by omega)
  exact ⟨cs, by simpa using h1, h2⟩
end

/-! ### Folds over trees. -/
theorem RT.induct {α : Type} {p : RT α → Prop} (h : ∀ a l, (∀ t ∈ l, p t) → p (.mk a l)) : ∀ t, p t := by
  intro t
  exact RT.rec (motive_1 := p) (motive_2 := fun l => ∀ t ∈ l, p t) (fun a l ih => h a l ih) (fun _ h => by simp at h)
    (fun t l h1 h2 x hx => by
      rcases List.mem_cons.1 hx with rfl | hx
      · exact h1
      · exact h2 x hx) t
end Go.Proofs.Ytfcghajnnllmhaa

namespace Go.Proofs.Ytfcghajnnllmhaa
open Go.ChangeShapes Go.WideShapes Go.ChangeAt Go.RowKit Go.Deep

section
variable {H : Type} {enc : TypeId × Value → H} {P : Program} {w : World} {sp : Nat → Bool} {held : Bool}

theorem weights_agg {t : TypeId} {fs : Array Field} {ds : List (DataW H)} (ht : P.underlying t = some (.struct fs)) (h : ((DataW.agg ds).weights P t).all (· ≤ reachBytes) = true) {i : Nat} {f : Field} {d : DataW H} (hf : fs[i]? = some f) (hd : ds[i]? = some d) :
    (d.weights P f.type).all (· ≤ reachBytes) = true := by
  rw [DataW.weights, ht] at h
  refine List.all_eq_true.2 fun n hn => List.all_eq_true.1 h n ?_
  exact DataW.weights_mem_each (ts := fs.toList.map (·.type)) (j := i) (t := f.type) (by simp [hf]) hd n hn
theorem weights_mem_all {e : TypeId} : ∀ {ds : List (DataW H)} {i : Nat} {d : DataW H}, ds[i]? = some d → ∀ n ∈ d.weights P e, n ∈ DataW.weightsAll P e ds
  | d0 :: ds, 0, d, hd, n, hn => by
    simp only [List.getElem?_cons_zero, Option.some.injEq] at hd
    subst hd
    simp only [DataW.weightsAll, List.mem_append]
    exact .inl hn
  | d0 :: ds, i + 1, d, hd, n, hn => by
    simp only [List.getElem?_cons_succ] at hd
    simp only [DataW.weightsAll, List.mem_append]
    exact .inr (weights_mem_all hd n hn)
  | [], _, _, hd, _, _ => by simp at hd
theorem weights_elem {t e : TypeId} {es rest : List (DataW H)} (ht : P.underlying t = some (.slice e)) (h : ((DataW.slice es rest).weights P t).all (· ≤ reachBytes) = true) {i : Nat} {d : DataW H} (hd : es[i]? = some d) :
    (d.weights P e).all (· ≤ reachBytes) = true := by
  rw [DataW.weights, ht] at h
  refine List.all_eq_true.2 fun n hn => List.all_eq_true.1 h n ?_
  simp only [List.mem_cons, List.mem_append]
  exact .inr (.inl (weights_mem_all hd n hn))
theorem weights_len {t e : TypeId} {es rest : List (DataW H)} (ht : P.underlying t = some (.slice e)) (h : ((DataW.slice es rest).weights P t).all (· ≤ reachBytes) = true) : es.length * P.bytesOf e ≤ 140737488351232 := by
  have h1 := List.all_eq_true.1 h ((es.length + rest.length) * P.bytesOf e) (by rw [DataW.weights, ht]; simp)
  have h2 := Nat.mul_le_mul_right (P.bytesOf e) (Nat.le_add_right es.length rest.length)
  have h3 : reachBytes = 140737488351232 := by decide
  simp only [decide_eq_true_eq] at h1
  omega

/-- What a tree's type must be. -/
structure TreeType (P : Program) (t ts : TypeId) (fs : Array Field) (n : Nat) : Prop where
  ht : P.underlying t = some (.struct fs)
  hone : oneCellFields P fs = true
  hC : P.cellsOf t = n + 1
  hn : fs.size = n + 1
  hlast : (fs[n]?).map (·.type) = some ts
  hts : P.underlying ts = some (.slice t)
  hB : 1 ≤ P.bytesOf t

/-- How the fields ahead of the slice are opened. -/
def HeadOpen {α : Type} (enc : TypeId × Value → H) (P : Program) (w : World) (sp : Nat → Bool) (held : Bool) (fs : Array Field) (n : Nat) (Hd : Head α) : Prop :=
  ∀ (vs : List Value) (ds : List (DataW H)), vs.length = n → (∀ i, i < n → ∃ f v d ps fuel, fs[i]? = some f ∧ vs[i]? = some v ∧ ds[i]? = some d ∧ DataW.trod enc P w 0 sp held fuel f.type [v] = some (d, ps) ∧ (d.weights P f.type).all (· ≤ reachBytes) = true) →
    ∃ a, Hd w (· < w.heap.size) a vs

theorem open_tree_ {α : Type} {Hd : Head α} {t ts : TypeId} {fs : Array Field} {n : Nat} (T : TreeType P t ts fs n) (hH : HeadOpen enc P w sp held fs n Hd) :
    ∀ (fuel : Nat),
      (∀ (cs : List Value) (d : DataW H) (ps : List MemPlace), DataW.trod enc P w 0 sp held fuel t cs = some (d, ps) → (d.weights P t).all (· ≤ reachBytes) = true → ∃ x : RT α, TR Hd (n + 1) w (· < w.heap.size) x cs) ∧
      (∀ (cs : List Value) (d : DataW H) (ps : List MemPlace), DataW.trod enc P w 0 sp held fuel ts cs = some (d, ps) → (d.weights P ts).all (· ≤ reachBytes) = true →
        ∃ (l : List (RT α)) (A : Option Addr) (c : Nat), cs = [.slice A l.length c] ∧ l.length ≤ c ∧ l.length ≤ 140737488355328 ∧ TL Hd (n + 1) w (· < w.heap.size) l A) := by
  intro fuel
  induction fuel with
  | zero =>
    constructor <;> intro cs d ps h <;> simp [DataW.trod] at h
  | succ fuel ih =>
    constructor
    · intro cs d ps h hw
      obtain ⟨ys, m, hm, hx, hlen, hyl, hf⟩ := DataW.trod_struct T.ht h
      obtain rfl : m = fuel := by omega
      simp only [Prod.mk.injEq] at hx
      obtain ⟨rfl, _⟩ := hx
      rw [T.hC] at hlen
      have field : ∀ i (hi : i < n + 1), ∃ f v y, fs[i]? = some f ∧ cs[i]? = some v ∧ ys[i]? = some y ∧ DataW.trod enc P w 0 sp held m f.type [v] = some y := by
        intro i hi
        have hfi : fs[i]? = some (fs[i]'(by rw [T.hn]; omega)) := Array.getElem?_eq_getElem _
        obtain ⟨ho, hk⟩ := hone_of T.hone i _ hfi
        have h1 := hf i _ hfi
        rw [ho, hk] at h1
        have hone' : (cs.drop i).take 1 = [cs[i]'(by omega)] := by
          rw [List.drop_eq_getElem_cons (by omega)]
          rfl
        rw [hone'] at h1
        have hys : ys[i]? = some (ys[i]'(by rw [hyl, T.hn]; omega)) := List.getElem?_eq_getElem _
        exact ⟨_, _, _, hfi, List.getElem?_eq_getElem (by omega), hys, h1.trans hys⟩
      obtain ⟨fl, vl, yl, hfl, hvl, hyl', htl⟩ := field n (by omega)
      have htt : fl.type = ts := by
        have := T.hlast
        rw [hfl] at this
        simpa using this
      rw [htt] at htl
      have hwl := weights_agg T.ht hw hfl (d := yl.1) (by simp [hyl'])
      rw [htt] at hwl
      obtain ⟨l, A, c, e1, e2, e3, e4⟩ := ih.2 [vl] yl.1 yl.2 (by rw [htl]) hwl
      simp only [List.cons.injEq, and_true] at e1
      subst e1
      obtain ⟨a, ha⟩ := hH (cs.take n) (ys.map (·.1)) (by rw [List.length_take]; omega) (fun i hi => by
        obtain ⟨f, v, y, h1, h2, h3, h4⟩ := field i (by omega)
        exact ⟨f, v, y.1, y.2, m, h1, by rw [List.getElem?_take, if_pos hi, h2], by simp [h3], by rw [h4], weights_agg T.ht hw h1 (by simp [h3])⟩)
      refine ⟨.mk a l, (TR_def _ _ _ _ _ _).2 ⟨cs.take n, A, c, ?_, by rw [List.length_take]; omega, ha, e2, e3, e4⟩⟩
      have hcl : cs = cs.take n ++ cs.drop n := (List.take_append_drop n cs).symm
      have hdr : cs.drop n = [.slice A l.length c] := by
        have hlt : n < cs.length := by omega
        rw [List.drop_eq_getElem_cons hlt, List.drop_of_length_le (by omega)]
        rw [List.getElem?_eq_getElem hlt] at hvl
        injection hvl with hvl
        rw [hvl]
      rw [hdr] at hcl
      exact hcl
    · intro cs d ps h hw
      rcases DataW.trod_slice T.hts h with ⟨rfl, hx⟩ | ⟨x, len, cap, es, rest, m, hm, rfl, hx, _, hlc, hcm, hel, hat, _, _⟩
      · exact ⟨[], none, 0, rfl, by simp, by simp, fun h => by simp at h⟩
      · obtain rfl : m = fuel := by omega
        simp only [Prod.mk.injEq] at hx
        obtain ⟨rfl, _⟩ := hx
        have hw2 := weights_len T.hts hw
        rw [List.length_map, hel] at hw2
        have hlen2 : len ≤ 140737488355328 := by
          have := Nat.mul_le_mul_left len T.hB
          omega
        have each : ∀ i, i < len → ∃ y : RT α, (i = 0 → x.spot = none) ∧ x.block < w.heap.size ∧ ∃ cs', TR Hd (n + 1) w (· < w.heap.size) y cs' ∧ ∀ j u, cs'[j]? = some u → w.cell? (x.add (i * (n + 1) + j)) = some u := by
          intro i hi
          have hb := hat i hi
          rw [T.hC, List.getElem?_eq_getElem (by omega)] at hb
          simp only [Option.bind_eq_some_iff] at hb
          obtain ⟨cs', hc, ht'⟩ := hb
          obtain ⟨_, hcl, hcat⟩ := World.cells?_some hc
          obtain ⟨y, hy⟩ := ih.1 cs' _ _ (show _ = some ((es[i]'(by omega)).1, (es[i]'(by omega)).2) from ht') (weights_elem T.hts hw (i := i) (by simp [List.getElem?_eq_getElem (show i < es.length by omega)]))
          have hj : ∀ j u, cs'[j]? = some u → w.cell? (x.add (i * (n + 1) + j)) = some u := by
            intro j u hu
            have hjl : j < n + 1 := by rw [← hcl]; exact (List.getElem?_eq_some_iff.1 hu).1
            have := hcat j hjl
            rw [Go.Deep.add_add, hu] at this
            exact this
          have h0 : cs'[0]? = some (cs'[0]'(by omega)) := List.getElem?_eq_getElem (by omega)
          have hc0 := hj 0 _ h0
          have hsp : i = 0 → x.spot = none := by
            rintro rfl
            have := World.cell?_spot hc0
            simpa [Addr.add] using this
          have hbk := cell_lt hc0
          rw [block_add] at hbk
          exact ⟨y, hsp, hbk, cs', hy, hj⟩
        obtain ⟨l, hll, hlp⟩ := list_of each
        refine ⟨l, some x, cap, by rw [hll], by omega, by omega, fun h0 => ?_⟩
        obtain ⟨hsp, hbk, _⟩ := hlp 0 h0
        obtain ⟨b, off, spot⟩ := x
        obtain rfl : spot = none := hsp rfl
        refine ⟨b, off, rfl, hbk, TRs.of (fun i hi => ?_)⟩
        obtain ⟨_, _, cs', h1, h2⟩ := hlp i hi
        refine ⟨cs', h1, fun j u hu => ?_⟩
        have := h2 j u hu
        rw [show (⟨b, off, none⟩ : Addr).add (i * (n + 1) + j) = ⟨b, off + i * (n + 1) + j, none⟩ from by
          unfold Addr.add
          split
          · next h0 => rw [Nat.add_assoc, h0, Nat.add_zero]
          · rw [Nat.add_assoc]] at this
        exact this
end
end Go.Proofs.Ytfcghajnnllmhaa

namespace Go.Proofs.Ytfcghajnnllmhaa
open Go.RowKit

/-- A form's numbers. -/
structure FH where
  (k s lo hi st : Int)
deriving DecidableEq
def i64B (x : Int) : Prop := -9223372036854775808 ≤ x ∧ x < 9223372036854775808
structure FH.ok (a : FH) : Prop where
  (k : i64B a.k)
  (s : i64B a.s)
  (lo : i64B a.lo)
  (hi : i64B a.hi)
  (st : i64B a.st)
def FHd : Head FH := fun _ _ a hd => hd = [.int .i64 a.k, .int .i64 a.s, .int .i64 a.lo, .int .i64 a.hi, .int .i64 a.st] ∧ a.ok
theorem FHd_kp : HeadKp FHd := ⟨fun h _ _ => h, fun h _ => h⟩
abbrev Fm := RT FH
/-- A slice value that reads as these forms. -/
def FsR (w : World) (ok : Nat → Prop) (v : Value) (l : List Fm) : Prop := ∃ A c, v = .slice A l.length c ∧ l.length ≤ c ∧ l.length ≤ 140737488355328 ∧ TL FHd 6 w ok l A
/-- A value that reads as a form. -/
def FmR (w : World) (ok : Nat → Prop) (v : Value) (f : Fm) : Prop :=
  ∃ sv, v = .agg #[.int .i64 f.a.k, .int .i64 f.a.s, .int .i64 f.a.lo, .int .i64 f.a.hi, .int .i64 f.a.st, sv] ∧ f.a.ok ∧ FsR w ok sv f.l
section
variable {w w' : World} {ok ok' S : Nat → Prop} {v : Value} {l : List Fm} {f : Fm}
theorem FsR.kp (h : FsR w ok v l) (hk : Kp S w w') (hd : ∀ i, ok i → ¬ S i) : FsR w' ok v l := by
  obtain ⟨A, c, e, h1, h2, h3⟩ := h
  exact ⟨A, c, e, h1, h2, h3.kp_ FHd_kp hk hd (fun _ h => h)⟩
theorem FsR.mono (h : FsR w ok v l) (hm : ∀ i, ok i → ok' i) : FsR w ok' v l := by
  obtain ⟨A, c, e, h1, h2, h3⟩ := h
  exact ⟨A, c, e, h1, h2, h3.kp_ FHd_kp (Kp.refl (fun _ => False) w) (fun _ _ h => h) hm⟩
theorem FmR.kp (h : FmR w ok v f) (hk : Kp S w w') (hd : ∀ i, ok i → ¬ S i) : FmR w' ok v f := by
  obtain ⟨sv, e, h1, h2⟩ := h
  exact ⟨sv, e, h1, h2.kp hk hd⟩
theorem FmR.mono (h : FmR w ok v f) (hm : ∀ i, ok i → ok' i) : FmR w ok' v f := by
  obtain ⟨sv, e, h1, h2⟩ := h
  exact ⟨sv, e, h1, h2.mono hm⟩
theorem FsR.nil : FsR w ok (.slice none 0 0) [] := ⟨none, 0, rfl, Nat.le_refl _, by simp, fun h => by simp at h⟩
theorem FmR.of_tr {cs : List Value} (h : TR FHd 6 w ok f cs) : FmR w ok (.agg cs.toArray) f ∧ cs.length = 6 := by
  obtain ⟨hd, A, c, e, hl, ⟨hh, ho⟩, h1, h2, h3⟩ := (TR_def _ _ _ _ _ _).1 h
  subst hh
  subst e
  exact ⟨⟨_, rfl, ho, A, c, rfl, h1, h2, h3⟩, by simp⟩
theorem FmR.tr (h : FmR w ok v f) : ∃ sv, v = .agg #[.int .i64 f.a.k, .int .i64 f.a.s, .int .i64 f.a.lo, .int .i64 f.a.hi, .int .i64 f.a.st, sv] ∧ TR FHd 6 w ok f [.int .i64 f.a.k, .int .i64 f.a.s, .int .i64 f.a.lo, .int .i64 f.a.hi, .int .i64 f.a.st, sv] := by
  obtain ⟨sv, e, h1, A, c, e2, h2, h3, h4⟩ := h
  subst e2
  exact ⟨_, e, (TR_def _ _ _ _ _ _).2 ⟨[.int .i64 f.a.k, .int .i64 f.a.s, .int .i64 f.a.lo, .int .i64 f.a.hi, .int .i64 f.a.st], A, c, rfl, rfl, ⟨rfl, h1⟩, h2, h3, h4⟩⟩
/-- An element: its value, and its cells. -/
theorem FsR.at_ {A : Option Addr} {n c : Nat} (h : FsR w ok (.slice A n c) l) {i : Nat} (hi : i < l.length) :
    ∃ b off A2 c2, A = some ⟨b, off, none⟩ ∧ ok b ∧ FmR w ok (.agg #[.int .i64 (l[i]'hi).a.k, .int .i64 (l[i]'hi).a.s, .int .i64 (l[i]'hi).a.lo, .int .i64 (l[i]'hi).a.hi, .int .i64 (l[i]'hi).a.st, .slice A2 (l[i]'hi).l.length c2]) (l[i]'hi) ∧
      w.cell? ⟨b, off + i * 6, none⟩ = some (.int .i64 (l[i]'hi).a.k) ∧ w.cell? ⟨b, off + i * 6 + 1, none⟩ = some (.int .i64 (l[i]'hi).a.s) ∧ w.cell? ⟨b, off + i * 6 + 2, none⟩ = some (.int .i64 (l[i]'hi).a.lo) ∧
      w.cell? ⟨b, off + i * 6 + 3, none⟩ = some (.int .i64 (l[i]'hi).a.hi) ∧ w.cell? ⟨b, off + i * 6 + 4, none⟩ = some (.int .i64 (l[i]'hi).a.st) ∧ w.cell? ⟨b, off + i * 6 + 5, none⟩ = some (.slice A2 (l[i]'hi).l.length c2) := by
  obtain ⟨A', c', e, _, _, h3⟩ := h
  injection e with e1 e2 e3
  subst e1
  obtain ⟨b, off, cs, hA, hb, ht, hc⟩ := h3.at_ hi
  have h1 := (FmR.of_tr ht).1
  obtain ⟨hd, A2, c2, e, hl, ⟨hh, ho⟩, _, _, _⟩ := (TR_def _ _ _ _ _ _).1 ht
  subst hh
  subst e
  exact ⟨b, off, _, _, hA, hb, h1, hc 0 _ rfl, hc 1 _ rfl, hc 2 _ rfl, hc 3 _ rfl, hc 4 _ rfl, hc 5 _ rfl⟩
end

/-- Those that play a part. -/
def partsF (f : Fm) : List Fm := if f.a.k = 2 ∨ f.a.k = 3 then f.l else []
/-- Is a form deeper than so much? -/
def deepB : Nat → Fm → Bool
  | 0, _ => true
  | n + 1, f => (partsF f).any (deepB n)
def boundsR (lo hi most : Int) : Int := if lo < 0 ∨ hi < lo ∨ most < hi then 5 else 0
/-- What is wrong with a form itself. -/
def ownN (k s lo hi st : Int) (n : Nat) : Int :=
  if k = 0 then (if s < 1 ∨ (4 < s ∧ s ≠ 8) then 3 else 0)
  else if k = 2 ∨ k = 1 then
    (if s < 1 ∨ 3 < s then 3 else if boundsR lo hi (256 ^ s.toNat - 1) ≠ 0 ∨ st < 1 ∨ 65536 < st then 5 else if k = 2 ∧ n ≠ 1 then 15 else 0)
  else if k = 3 then (if 32 < n then 15 else 0)
  else if k = 4 then boundsR lo hi 16777215
  else if k = 5 then boundsR lo lo 16777215
  else 2
def ownR (f : Fm) : Int := ownN f.a.k f.a.s f.a.lo f.a.hi f.a.st f.l.length
end Go.Proofs.Ytfcghajnnllmhaa

namespace Go.Proofs.Ytfcghajnnllmhaa
open Go.RowKit

set_option maxRecDepth 100000 in
theorem parts_any (ok : Nat → Prop) (v : Value) (f : Fm) (w : World) (hv : FmR w ok v f) :
    Calls Try.prog 54 #[v] w fun e w' => ∃ A n c, e = .returned (.slice A n c) ∧ n = (partsF f).length ∧ FsR w' ok (.slice A n c) (partsF f) ∧ Kp (fun _ => False) w w' := by
  obtain ⟨sv, rfl, hok, hs⟩ := hv
  have hka : ∀ o, Kp (fun _ => False) w (w.alloc o) := fun o => (Kp.refl _ _).alloc o
  have HS := Lib.hid (fun o => hs.kp (hka o) (fun _ _ h => h))
  have HK := Lib.hid hka
  obtain ⟨A, c, rfl, h1, h2, _⟩ := id hs
  obtain ⟨P, hP⟩ : ∃ P, partsF f = P := ⟨_, rfl⟩
  have HP := Lib.hid hP
  rw [hP]
  have hk := hok.k
  by_cases h2' : f.a.k = 2
  · have hP2 : P = f.l := by rw [← hP, partsF, if_pos (.inl h2')]
    have t : (f.a.k == 2) = true := by simpa using h2'
    subst hP2
    clear hka hs hP h2' HP hok hk
    go_enter Try.func54, Try.ntmps54
    go_wp2_with fail
    go_ret
    exact ⟨_, _, _, rfl, rfl, HS.out _, HK.out _⟩
  · by_cases h3 : f.a.k = 3
    · have hP2 : P = f.l := by rw [← hP, partsF, if_pos (.inr h3)]
      have t : (f.a.k == 2) = false := by simpa using h2'
      have t2 : (f.a.k == 3) = true := by simpa using h3
      subst hP2
      clear hka hs hP h2' h3 HP hok hk
      go_enter Try.func54, Try.ntmps54
      go_wp2_with fail
      go_ret
      exact ⟨_, _, _, rfl, rfl, HS.out _, HK.out _⟩
    · have hP2 : P = [] := by rw [← hP, partsF, if_neg (by omega)]
      have t : (f.a.k == 2) = false := by simpa using h2'
      have t2 : (f.a.k == 3) = false := by simpa using h3
      subst hP2
      clear hka hs hP h2' h3 HP hok hk
      go_enter Try.func54, Try.ntmps54
      go_wp2_with fail
      go_ret
      exact ⟨_, _, _, rfl, rfl, FsR.nil, HK.out _⟩

set_option maxRecDepth 100000 in
theorem bounds_any (lo hi most : Int) (w : World) : Calls Try.prog 68 #[.int .i64 lo, .int .i64 hi, .int .i64 most] w fun e w' => e = .returned (.int .i64 (boundsR lo hi most)) ∧ w = w' := by
  by_cases h0 : lo < 0
  · have e : boundsR lo hi most = 5 := by rw [boundsR, if_pos (.inl h0)]
    have t : decide (lo < 0) = true := decide_eq_true h0
    rw [e]
    clear e h0
    go_enter Try.func68, Try.ntmps68
    go_wp2_with fail
    go_ret
    exact ⟨rfl, rfl⟩
  have t : decide (lo < 0) = false := decide_eq_false h0
  by_cases h1 : hi < lo
  · have e : boundsR lo hi most = 5 := by rw [boundsR, if_pos (.inr (.inl h1))]
    have t1 : decide (hi < lo) = true := decide_eq_true h1
    rw [e]
    clear e h0 h1
    go_enter Try.func68, Try.ntmps68
    go_wp2_with fail
    go_ret
    exact ⟨rfl, rfl⟩
  have t1 : decide (hi < lo) = false := decide_eq_false h1
  by_cases h2 : most < hi
  · have e : boundsR lo hi most = 5 := by rw [boundsR, if_pos (.inr (.inr h2))]
    have t2 : decide (most < hi) = true := decide_eq_true h2
    rw [e]
    clear e h0 h1 h2
    go_enter Try.func68, Try.ntmps68
    go_wp2_with fail
    go_ret
    exact ⟨rfl, rfl⟩
  · have e : boundsR lo hi most = 0 := by rw [boundsR, if_neg (by omega)]
    have t2 : decide (most < hi) = false := decide_eq_false h2
    rw [e]
    clear e h0 h1 h2
    go_enter Try.func68, Try.ntmps68
    go_wp2_with fail
    go_ret
    exact ⟨rfl, rfl⟩

/-- How an element is reached. -/
def Each (w : World) (ok : Nat → Prop) (F : Nat) (cv : Value) (p : Fm → Bool) (l : List Fm) : Prop :=
  ∀ f, f ∈ l → ∀ (v : Value) (W : World), FmR W ok v f → Kp (fun _ => False) w W → Calls Try.prog F #[v, cv] W fun e w' => e = .returned (.bool (p f)) ∧ Kp (fun _ => False) W w'

set_option maxRecDepth 100000 in
set_option maxHeartbeats 1600000 in
theorem index_any (ok : Nat → Prop) (v : Value) (l : List Fm) (p : Fm → Bool) (cv : Value) (w : World) (hv : FsR w ok v l) (hE : Each w ok 62 cv p l) :
    Calls Try.prog 67 #[v, .func (.func 62) #[] #[cv]] w fun e w' => ∃ n : Int, e = .returned (.int .i64 n) ∧ -1 ≤ n ∧ n ≤ 140737488355328 ∧ (0 ≤ n ↔ l.any p = true) ∧ Kp (fun _ => False) w w' := by
  obtain ⟨A, c, rfl, h1, h2, _⟩ := id hv
  have HV := Lib.hid hv
  have HE := Lib.hid hE
  clear hv hE
  go_enter Try.func67, Try.ntmps67
  go_wp2_with fail
  go_loopw [8] (fun i wr => ∃ k : Nat, k ≤ l.length ∧ i = .int .i64 k ∧ (l.take k).any p = false ∧ Kp (fun _ => False) w wr) (fun i _ => l.length - (intOf i).toNat)
  case atStart => exact ⟨0, Nat.zero_le _, rfl, rfl, Kp.refl _ _⟩
  case round =>
    obtain ⟨k, hk, rfl, hno, hkr⟩ := hrel
    have HNO := Lib.hid hno
    have HKR := Lib.hid hkr
    clear hno
    by_cases hlt : k < l.length
    · obtain ⟨b, off, A2, c2, rfl, hb, hf, q0, q1, q2, q3, q4, q5⟩ := (HV.out.kp hkr (fun _ _ h => h)).at_ hlt
      have hmem : l[k] ∈ l := List.getElem_mem hlt
      have hts := Lib.hid (List.take_succ_eq_append_getElem hlt)
      obtain ⟨f, hfe⟩ : ∃ f, l[k] = f := ⟨_, rfl⟩
      rw [hfe] at hf q0 q1 q2 q3 q4 q5 hmem hts
      have HC := Lib.hid (HE.out f hmem _ wr hf hkr)
      have hi0 : (0 : Int) ≤ (k : Int) := by omega
      have hi1 : (k : Int) < (l.length : Int) := by omega
      cases hp : p f
      · rw [hp] at HC
        have HN2 := Lib.hid (show (l.take (k + 1)).any p = false by rw [hts.out, List.any_append, HNO.out]; simp [hp])
        clear hf hfe hmem hkr hp
        go_wp2_with fail
        refine HC.out.mono ?_
        rintro e w2 ⟨rfl, hk2⟩
        have HK2 := Lib.hid (HKR.out.then_ hk2 (fun _ h => h.elim))
        clear hk2
        go_wp2_with fail
        go_roundw
        case rel => exact ⟨k + 1, by omega, by go_num, HN2.out, HK2.out⟩
        case measure => simp [intOf]; omega
      · rw [hp] at HC
        have HY := Lib.hid (show l.any p = true from List.any_eq_true.2 ⟨f, hmem, hp⟩)
        clear hf hfe hmem hkr hp
        go_wp2_with fail
        refine HC.out.mono ?_
        rintro e w2 ⟨rfl, hk2⟩
        have HK2 := Lib.hid (HKR.out.then_ hk2 (fun _ h => h.elim))
        clear hk2
        go_wp2_with fail
        go_ret
        exact ⟨(k : Int), rfl, by omega, by omega, by rw [HY.out]; simp, HK2.out⟩
    · obtain rfl : k = l.length := by omega
      rw [List.take_of_length_le (Nat.le_refl _)] at HNO
      clear hkr
      go_wp2_with fail
      go_ret
      exact ⟨-1, rfl, by omega, by omega, by rw [HNO.out]; simp, HKR.out⟩

set_option maxRecDepth 100000 in
theorem contains_any (ok : Nat → Prop) (v : Value) (l : List Fm) (p : Fm → Bool) (cv : Value) (w : World) (hv : FsR w ok v l) (hE : Each w ok 62 cv p l) :
    Calls Try.prog 61 #[v, .func (.func 62) #[] #[cv]] w fun e w' => e = .returned (.bool (l.any p)) ∧ Kp (fun _ => False) w w' := by
  have HI := Lib.hid (index_any ok v l p cv w hv hE)
  generalize l.any p = r at HI ⊢
  clear hE hv
  go_enter Try.func61, Try.ntmps61
  go_wp2_with fail
  refine HI.out.mono ?_
  rintro e w1 ⟨n, rfl, h1, h2, h3, hk1⟩
  have t : decide (0 ≤ n) = r := by
    rw [Bool.eq_iff_iff, ← h3]
    simp
  clear h3
  go_wp2_with fail
  go_ret
  exact ⟨rfl, hk1⟩

set_option maxRecDepth 100000 in
/-- The closure: one level less. -/
theorem deep1_any (n : Nat) (hn : n ≤ 1000) (ok : Nat → Prop) (v : Value) (f : Fm) (B : Nat) (w : World) (hv : FmR w ok v f) (hc : w.cell? ⟨B, 0, none⟩ = some (.int .i64 ((n : Int) + 1)))
    (hrec : ∀ W, Kp (fun _ => False) w W → Calls Try.prog 43 #[v, .int .i64 (n : Int)] W fun e w' => e = .returned (.bool (deepB n f)) ∧ Kp (fun _ => False) W w') :
    Calls Try.prog 62 #[v, .pointer (some ⟨B, 0, none⟩)] w fun e w' => e = .returned (.bool (deepB n f)) ∧ Kp (fun _ => False) w w' := by
  obtain ⟨sv, rfl, hok, A, c, rfl, _, _, _⟩ := hv
  have hka : ∀ o, Kp (fun _ => False) w (w.alloc o) := fun o => (Kp.refl _ _).alloc o
  have hc2 : ∀ o, (w.alloc o).cell? ⟨B, 0, none⟩ = some (.int .i64 ((n : Int) + 1)) := fun o => (hka o).cell hc (fun h => h)
  have HK := Lib.hid hka
  have HR := Lib.hid hrec
  have s1 : IntKind.i64.wrap ((n : Int) + 1 - 1) = (n : Int) := by
    rw [show (n : Int) + 1 - 1 = n by omega]
    exact IntWalk.i64_in _ (by omega)
  clear hka hrec hc hok
  go_enter Try.func62, Try.ntmps62
  go_wp2_with fail
  refine (HR.out _ (HK.out _)).mono ?_
  rintro e w1 ⟨rfl, hk1⟩
  have hk := (HK.out _).then_ hk1 (fun _ h => h.elim)
  go_wp2_with fail
  go_ret
  exact ⟨rfl, hk⟩

set_option maxRecDepth 100000 in
theorem deep_any (n : Nat) (hn : n ≤ 1000) : ∀ (ok : Nat → Prop) (v : Value) (f : Fm) (w : World), FmR w ok v f →
    Calls Try.prog 43 #[v, .int .i64 (n : Int)] w fun e w' => e = .returned (.bool (deepB n f)) ∧ Kp (fun _ => False) w w' := by
  induction n with
  | zero =>
    intro ok v f w hv
    obtain ⟨sv, rfl, hok, hs⟩ := hv
    have hka : ∀ o o2, Kp (fun _ => False) w ((w.alloc o).alloc o2) := fun o o2 => ((Kp.refl _ _).alloc o).alloc o2
    have HK := Lib.hid hka
    obtain ⟨A, c, rfl, h1, h2, _⟩ := hs
    have e : deepB 0 f = true := rfl
    rw [e]
    clear e hka hok
    go_enter Try.func43, Try.ntmps43
    go_wp2_with fail
    go_ret
    exact ⟨rfl, HK.out _ _⟩
  | succ n ih =>
    intro ok v f w hv
    have e : deepB (n + 1) f = (partsF f).any (deepB n) := rfl
    rw [e]
    have HKA := Lib.hid (show ∀ o o2, Kp (fun _ => False) w ((w.alloc o).alloc o2) from fun o o2 => ((Kp.refl _ _).alloc o).alloc o2)
    have HP := Lib.hid (fun o o2 => parts_any ok v f ((w.alloc o).alloc o2) (hv.kp (((Kp.refl (fun _ => False) w).alloc o).alloc o2) (fun _ _ h => h)))
    have HMC := Lib.hid (show ∀ o, ((w.alloc o).alloc (.cells #[.int .i64 ((n : Int) + 1)] 3)).cell? ⟨w.heap.size + 1, 0, none⟩ = some (.int .i64 ((n : Int) + 1)) from fun o => by
      have h := (Blk.new (w.alloc o) 3 #[.int .i64 ((n : Int) + 1)]).cell 0
      rw [World.size_alloc] at h
      exact h)
    have IH := Lib.hid (ih (by omega))
    obtain ⟨sv, rfl, hok, A, c, rfl, _, _, _⟩ := id hv
    have t0 : ((n : Int) + 1 == 0) = false := by simp; omega
    clear hv hok ih e
    go_enter Try.func43, Try.ntmps43
    go_wp2_with fail
    refine (HP.out _ _).mono ?_
    rintro e w1 ⟨A1, n1, c1, rfl, hn1, hs1, hk1⟩
    have HK1 := Lib.hid ((HKA.out _ _).then_ hk1 (fun _ h => h.elim))
    have HMC1 := Lib.hid (hk1.cell (HMC.out _) (fun h => h))
    have HC := Lib.hid (contains_any ok _ _ (deepB n) (.pointer (some ⟨w.heap.size + 1, 0, none⟩)) w1 hs1 (fun f' _ v' W hv' hk' => deep1_any n (by omega) ok v' f' (w.heap.size + 1) W hv' (hk'.cell HMC1.out (fun h => h)) (fun W' hk'' => IH.out ok v' f' W' (hv'.kp hk'' (fun _ _ h => h)))))
    clear hn1 hs1 hk1
    go_wp2_with fail
    refine HC.out.mono ?_
    rintro e w2 ⟨rfl, hk2⟩
    have HK2 := Lib.hid (HK1.out.then_ hk2 (fun _ h => h.elim))
    clear hk2
    go_wp2_with fail
    go_ret
    exact ⟨rfl, HK2.out⟩
end Go.Proofs.Ytfcghajnnllmhaa

namespace Go.Proofs.Ytfcghajnnllmhaa
open Go.RowKit

theorem FmR.parts {w : World} {ok : Nat → Prop} {v : Value} {k s lo hi st : Int} {ps : List Fm} (h : FmR w ok v (.mk ⟨k, s, lo, hi, st⟩ ps)) :
    ∃ A c, v = .agg #[.int .i64 k, .int .i64 s, .int .i64 lo, .int .i64 hi, .int .i64 st, .slice A ps.length c] ∧ ps.length ≤ c ∧ ps.length ≤ 140737488355328 ∧ i64B k ∧ i64B s ∧ i64B lo ∧ i64B hi ∧ i64B st ∧ FsR w ok (.slice A ps.length c) ps := by
  obtain ⟨sv, rfl, ⟨h1, h2, h3, h4, h5⟩, A, c, rfl, h6, h7, h8⟩ := h
  exact ⟨A, c, rfl, h6, h7, h1, h2, h3, h4, h5, A, c, rfl, h6, h7, h8⟩

set_option maxRecDepth 100000 in
set_option maxHeartbeats 6400000 in
theorem own_len (k : Int) (hk : k = 1 ∨ k = 2) (ok : Nat → Prop) (v : Value) (s lo hi st : Int) (ps : List Fm) (w : World) (hv : FmR w ok v (.mk ⟨k, s, lo, hi, st⟩ ps)) :
    Calls Try.prog 63 #[v] w fun e w' => e = .returned (.int .i64 (ownR (.mk ⟨k, s, lo, hi, st⟩ ps))) ∧ Kp (fun _ => False) w w' := by
  obtain ⟨r, hr⟩ : ∃ r, ownR (.mk ⟨k, s, lo, hi, st⟩ ps) = r := ⟨_, rfl⟩
  rw [hr]
  have hr' : (if s < 1 ∨ 3 < s then 3 else if boundsR lo hi (256 ^ s.toNat - 1) ≠ 0 ∨ st < 1 ∨ 65536 < st then 5 else if k = 2 ∧ ps.length ≠ 1 then 15 else 0) = r := by
    rw [← hr]
    show _ = ownN k s lo hi st ps.length
    rw [ownN, if_neg (show ¬ k = 0 by omega), if_pos (show k = 2 ∨ k = 1 by omega)]
  clear hr
  obtain ⟨A, c, rfl, h1, h2, _, hs, hlo, hhi, hst, _⟩ := hv.parts
  clear hv
  have hk1 := (Kp.refl (fun _ => False) w).alloc (.cells #[.int .i64 k, .int .i64 s, .int .i64 lo, .int .i64 hi, .int .i64 st, .slice A ps.length c] 27)
  have HK := Lib.hid (fun n => hk1.drewN n)
  have HK0 := Lib.hid hk1
  clear hk1
  obtain ⟨hlo1, hlo2⟩ := hlo
  obtain ⟨hhi1, hhi2⟩ := hhi
  obtain ⟨hst1, hst2⟩ := hst
  by_cases s1 : s < 1
  · have t1 : decide (s < 1) = true := decide_eq_true s1
    rw [if_pos (.inl s1)] at hr'
    subst hr'
    clear s1
    rcases hk with rfl | rfl
    all_goals
      go_enter Try.func63, Try.ntmps63
      go_wp2_with fail
      go_ret
      exact ⟨rfl, HK0.out⟩
  have t1 : decide (s < 1) = false := decide_eq_false s1
  by_cases s3 : 3 < s
  · have t2 : decide (3 < s) = true := decide_eq_true s3
    rw [if_pos (.inr s3)] at hr'
    subst hr'
    clear s1 s3
    rcases hk with rfl | rfl
    all_goals
      go_enter Try.func63, Try.ntmps63
      go_wp2_with fail
      go_ret
      exact ⟨rfl, HK0.out⟩
  rw [if_neg (by omega)] at hr'
  have hs3 : s = 1 ∨ s = 2 ∨ s = 3 := by omega
  clear t1 s1 s3 hs
  obtain ⟨M, hM⟩ : ∃ M : Int, (256 : Int) ^ s.toNat - 1 = M := ⟨_, rfl⟩
  rw [hM] at hr'
  have HB := Lib.hid (fun W => bounds_any lo hi M W)
  generalize hb : boundsR lo hi M = b at HB hr'
  have hb5 : b = 0 ∨ b = 5 := by rw [← hb, boundsR]; split <;> simp
  clear hb
  have hlen : ((ps.length : Int) != 1) = decide (ps.length ≠ 1) := by rw [Bool.eq_iff_iff]; simp; omega
  have hcase : (b = 5) ∨ (b = 0 ∧ decide (st < 1) = true) ∨ (b = 0 ∧ decide (st < 1) = false ∧ decide (65536 < st) = true) ∨ (b = 0 ∧ decide (st < 1) = false ∧ decide (65536 < st) = false) := by
    rcases hb5 with h | h
    · by_cases p1 : st < 1
      · exact .inr (.inl ⟨h, decide_eq_true p1⟩)
      · by_cases p2 : 65536 < st
        · exact .inr (.inr (.inl ⟨h, decide_eq_false p1, decide_eq_true p2⟩))
        · exact .inr (.inr (.inr ⟨h, decide_eq_false p1, decide_eq_false p2⟩))
    · exact .inl h
  rcases hcase with rfl | ⟨rfl, g1⟩ | ⟨rfl, g1, g2⟩ | ⟨rfl, g1, g2⟩
  · rw [if_pos (.inl (by omega))] at hr'
    subst hr'
    clear hlen hb5
    rcases hk with rfl | rfl
    all_goals
      rcases hs3 with rfl | rfl | rfl
      all_goals
        have HB2 := Lib.hid (by rw [← hM] at HB; simpa using HB.out)
        clear HB hM
        go_enter Try.func63, Try.ntmps63
        go_wp2_with fail
        go_quiet ((go_at_call 68; exact quiet_left (HB2.out _)))
        go_wp2_with fail
        go_ret
        exact ⟨rfl, HK.out _⟩
  · rw [if_pos (.inr (.inl (of_decide_eq_true g1)))] at hr'
    subst hr'
    clear hlen hb5
    rcases hk with rfl | rfl
    all_goals
      rcases hs3 with rfl | rfl | rfl
      all_goals
        have HB2 := Lib.hid (by rw [← hM] at HB; simpa using HB.out)
        clear HB hM
        go_enter Try.func63, Try.ntmps63
        go_wp2_with fail
        go_quiet ((go_at_call 68; exact quiet_left (HB2.out _)))
        go_wp2_with fail
        go_ret
        exact ⟨rfl, HK.out _⟩
  · rw [if_pos (.inr (.inr (of_decide_eq_true g2)))] at hr'
    subst hr'
    clear hlen hb5
    rcases hk with rfl | rfl
    all_goals
      rcases hs3 with rfl | rfl | rfl
      all_goals
        have HB2 := Lib.hid (by rw [← hM] at HB; simpa using HB.out)
        clear HB hM
        go_enter Try.func63, Try.ntmps63
        go_wp2_with fail
        go_quiet ((go_at_call 68; exact quiet_left (HB2.out _)))
        go_wp2_with fail
        go_ret
        exact ⟨rfl, HK.out _⟩
  · have g1' := of_decide_eq_false g1
    have g2' := of_decide_eq_false g2
    rw [if_neg (by omega)] at hr'
    clear hb5 g1' g2'
    rcases hk with rfl | rfl
    · rw [if_neg (by omega)] at hr'
      subst hr'
      clear hlen
      rcases hs3 with rfl | rfl | rfl
      all_goals
        have HB2 := Lib.hid (by rw [← hM] at HB; simpa using HB.out)
        clear HB hM
        go_enter Try.func63, Try.ntmps63
        go_wp2_with fail
        go_quiet ((go_at_call 68; exact quiet_left (HB2.out _)))
        go_wp2_with fail
        go_ret
        exact ⟨rfl, HK.out _⟩
    · by_cases hl : ps.length ≠ 1
      · rw [if_pos ⟨rfl, hl⟩] at hr'
        rw [decide_eq_true hl] at hlen
        subst hr'
        clear hl
        rcases hs3 with rfl | rfl | rfl
        all_goals
          have HB2 := Lib.hid (by rw [← hM] at HB; simpa using HB.out)
          clear HB hM
          go_enter Try.func63, Try.ntmps63
          go_wp2_with fail
          go_quiet ((go_at_call 68; exact quiet_left (HB2.out _)))
          go_wp2_with fail
          go_ret
          exact ⟨rfl, HK.out _⟩
      · rw [if_neg (fun x => hl x.2)] at hr'
        rw [decide_eq_false hl] at hlen
        subst hr'
        clear hl
        rcases hs3 with rfl | rfl | rfl
        all_goals
          have HB2 := Lib.hid (by rw [← hM] at HB; simpa using HB.out)
          clear HB hM
          go_enter Try.func63, Try.ntmps63
          go_wp2_with fail
          go_quiet ((go_at_call 68; exact quiet_left (HB2.out _)))
          go_wp2_with fail
          go_ret
          exact ⟨rfl, HK.out _⟩

set_option maxRecDepth 100000 in
set_option maxHeartbeats 6400000 in
theorem own_any (ok : Nat → Prop) (v : Value) (f : Fm) (w : World) (hv : FmR w ok v f) :
    Calls Try.prog 63 #[v] w fun e w' => e = .returned (.int .i64 (ownR f)) ∧ Kp (fun _ => False) w w' := by
  obtain ⟨⟨k, s, lo, hi, st⟩, ps⟩ := f
  by_cases h12 : k = 1 ∨ k = 2
  · exact own_len k h12 ok v s lo hi st ps w hv
  obtain ⟨r, hr⟩ : ∃ r, ownR (.mk ⟨k, s, lo, hi, st⟩ ps) = r := ⟨_, rfl⟩
  rw [hr]
  have hr' : (if k = 0 then (if s < 1 ∨ (4 < s ∧ s ≠ 8) then 3 else 0) else if k = 3 then (if 32 < ps.length then 15 else 0) else if k = 4 then boundsR lo hi 16777215 else if k = 5 then boundsR lo lo 16777215 else (2 : Int)) = r := by
    rw [← hr]
    show _ = ownN k s lo hi st ps.length
    rw [ownN, if_neg (show ¬ (k = 2 ∨ k = 1) by omega)]
  clear hr
  obtain ⟨A, c, rfl, h1, h2, hk, hs, hlo, hhi, hst, _⟩ := hv.parts
  clear hv
  have hk1 := (Kp.refl (fun _ => False) w).alloc (.cells #[.int .i64 k, .int .i64 s, .int .i64 lo, .int .i64 hi, .int .i64 st, .slice A ps.length c] 27)
  have HK0 := Lib.hid hk1
  clear hk1
  have HB := Lib.hid (fun (a b : Int) W => bounds_any a b 16777215 W)
  by_cases k0 : k = 0
  · subst k0
    rw [if_pos rfl] at hr'
    by_cases s1 : s < 1
    · have t1 : decide (s < 1) = true := decide_eq_true s1
      rw [if_pos (.inl s1)] at hr'
      subst hr'
      clear s1
      go_enter Try.func63, Try.ntmps63
      go_wp2_with fail
      go_ret
      exact ⟨rfl, HK0.out⟩
    have t1 : decide (s < 1) = false := decide_eq_false s1
    by_cases s4 : 4 < s
    · have t2 : decide (4 < s) = true := decide_eq_true s4
      by_cases s8 : s = 8
      · subst s8
        rw [if_neg (by omega)] at hr'
        subst hr'
        clear s1 s4 t1 t2
        go_enter Try.func63, Try.ntmps63
        go_wp2_with fail
        go_ret
        exact ⟨rfl, HK0.out⟩
      · have t3 : (s != 8) = true := by simpa using s8
        rw [if_pos (.inr ⟨s4, s8⟩)] at hr'
        subst hr'
        clear s1 s4 s8
        go_enter Try.func63, Try.ntmps63
        go_wp2_with fail
        go_ret
        exact ⟨rfl, HK0.out⟩
    · have t2 : decide (4 < s) = false := decide_eq_false s4
      rw [if_neg (by omega)] at hr'
      subst hr'
      clear s1 s4
      go_enter Try.func63, Try.ntmps63
      go_wp2_with fail
      go_ret
      exact ⟨rfl, HK0.out⟩
  rw [if_neg k0] at hr'
  by_cases k3 : k = 3
  · subst k3
    rw [if_pos rfl] at hr'
    by_cases l32 : 32 < ps.length
    · have t1 : decide ((32 : Int) < (ps.length : Int)) = true := by simp; omega
      rw [if_pos l32] at hr'
      subst hr'
      clear l32
      go_enter Try.func63, Try.ntmps63
      go_wp2_with fail
      go_ret
      exact ⟨rfl, HK0.out⟩
    · have t1 : decide ((32 : Int) < (ps.length : Int)) = false := by simp; omega
      rw [if_neg l32] at hr'
      subst hr'
      clear l32
      go_enter Try.func63, Try.ntmps63
      go_wp2_with fail
      go_ret
      exact ⟨rfl, HK0.out⟩
  rw [if_neg k3] at hr'
  by_cases k4 : k = 4
  · subst k4
    rw [if_pos rfl] at hr'
    subst hr'
    go_enter Try.func63, Try.ntmps63
    go_wp2_with fail
    refine (HB.out _ _ _).mono ?_
    rintro e w1 ⟨rfl, rfl⟩
    go_wp2_with fail
    go_ret
    exact ⟨rfl, HK0.out⟩
  rw [if_neg k4] at hr'
  by_cases k5 : k = 5
  · subst k5
    rw [if_pos rfl] at hr'
    subst hr'
    go_enter Try.func63, Try.ntmps63
    go_wp2_with fail
    refine (HB.out _ _ _).mono ?_
    rintro e w1 ⟨rfl, rfl⟩
    go_wp2_with fail
    go_ret
    exact ⟨rfl, HK0.out⟩
  rw [if_neg k5] at hr'
  subst hr'
  have n0 : (k == 0) = false := by simpa using k0
  have n1 : (k == 1) = false := by simp; omega
  have n2 : (k == 2) = false := by simp; omega
  have n3 : (k == 3) = false := by simpa using k3
  have n4 : (k == 4) = false := by simpa using k4
  have n5 : (k == 5) = false := by simpa using k5
  clear k0 k3 k4 k5 h12
  go_enter Try.func63, Try.ntmps63
  go_wp2_with fail
  go_ret
  exact ⟨rfl, HK0.out⟩
end Go.Proofs.Ytfcghajnnllmhaa

namespace Go.Proofs.Ytfcghajnnllmhaa
open Go.RowKit

theorem i64_wrap (x : Int) : IntKind.i64.wrap x = wrap64 x := by
  have h1 : IntKind.i64.signed = true := rfl
  have h2 : IntKind.i64.bits = 64 := rfl
  simp only [IntKind.wrap, wrap64, h1, h2]
  simp
  split <;> omega
mutual
/-- How many bytes there may be, by a length of each. -/
def spanR (sel : FH → Int) : Fm → Int
  | .mk a l => if a.k = 0 then a.s else if a.k = 1 ∨ a.k = 2 then wrap64 (a.s + sel a) else if a.k = 4 then sel a else if a.k = 5 then a.lo else spanL sel 0 l
def spanL (sel : FH → Int) : Int → List Fm → Int
  | n, [] => n
  | n, f :: t => spanL sel (wrap64 (n + spanR sel f)) t
end
theorem spanR_mk (sel : FH → Int) (a : FH) (l : List Fm) : spanR sel (.mk a l) = if a.k = 0 then a.s else if a.k = 1 ∨ a.k = 2 then wrap64 (a.s + sel a) else if a.k = 4 then sel a else if a.k = 5 then a.lo else spanL sel 0 l := by rw [spanR]
theorem spanL_snoc (sel : FH → Int) (l : List Fm) (f : Fm) (n : Int) : spanL sel n (l ++ [f]) = wrap64 (spanL sel n l + spanR sel f) := by
  induction l generalizing n with
  | nil => rw [List.nil_append, spanL, spanL, spanL]
  | cons g t ih => rw [List.cons_append, spanL, spanL, ih]
def leastR : Fm → Int := spanR FH.lo
def mostR : Fm → Int := spanR FH.hi

set_option maxRecDepth 100000 in
theorem lo1_any (ok : Nat → Prop) (v : Value) (f : Fm) (w : World) (hv : FmR w ok v f) : Calls Try.prog 49 #[v] w fun e w' => e = .returned (.int .i64 f.a.lo) ∧ Kp (fun _ => False) w w' := by
  obtain ⟨sv, rfl, hok, A, c, rfl, _, _, _⟩ := hv
  have hk1 : ∀ o, Kp (fun _ => False) w (w.alloc o) := fun o => (Kp.refl _ _).alloc o
  have HK := Lib.hid hk1
  clear hk1 hok
  go_enter Try.func49, Try.ntmps49
  go_wp2_with fail
  go_ret
  exact ⟨rfl, HK.out _⟩

set_option maxRecDepth 100000 in
set_option maxHeartbeats 3200000 in
theorem span_lo (ok : Nat → Prop) : ∀ (f : Fm) (v : Value) (w : World), FmR w ok v f →
    Calls Try.prog 48 #[v, .func (.func 49) #[] #[]] w fun e w' => e = .returned (.int .i64 (spanR FH.lo f)) ∧ Kp (fun _ => False) w w' := by
  intro f
  induction f using RT.induct with
  | h a l ih =>
  intro v w hv
  have hl1 := fun W hk => lo1_any ok v (.mk a l) W (hv.kp (S := fun _ => False) (w' := W) hk (fun _ _ h => h))
  obtain ⟨r, hr⟩ : ∃ r, spanR FH.lo (.mk a l) = r := ⟨_, rfl⟩
  rw [hr]
  rw [spanR_mk] at hr
  have HL1 := Lib.hid (show ∀ W, Kp (fun _ => False) w W → Calls Try.prog 49 #[v] W fun e w' => e = .returned (.int .i64 a.lo) ∧ Kp (fun _ => False) W w' from hl1)
  clear hl1
  obtain ⟨k, s, lo, hi, st⟩ := a
  obtain ⟨A, c, rfl, h1, h2, hk, hs, hlo, hhi, hst, hfs⟩ := hv.parts
  have hka : Kp (fun _ => False) w (w.alloc (.cells #[.int .i64 k, .int .i64 s, .int .i64 lo, .int .i64 hi, .int .i64 st, .slice A l.length c] 27)) := (Kp.refl _ _).alloc _
  have HK := Lib.hid hka
  have HFS := Lib.hid (hfs.kp hka (fun _ _ h => h))
  have IH := Lib.hid ih
  clear hv hk hs hlo hhi hst hfs hka ih
  by_cases k0 : k = 0
  · subst k0
    rw [if_pos rfl] at hr
    subst hr
    go_enter Try.func48, Try.ntmps48
    go_wp2_with fail
    go_ret
    exact ⟨rfl, HK.out⟩
  rw [if_neg k0] at hr
  by_cases k12 : k = 1 ∨ k = 2
  · rw [if_pos k12] at hr
    have HR := Lib.hid hr
    clear hr k0
    rcases k12 with hk' | hk'
    all_goals
      have HB := Lib.hid (Blk.new w 27 #[.int .i64 k, .int .i64 s, .int .i64 lo, .int .i64 hi, .int .i64 st, .slice A l.length c])
      have HKK := Lib.hid hk'
      have n0 : (k == 0) = false := by simp; omega
      have n12 : ((k == 1) = true) ∨ ((k == 1) = false ∧ (k == 2) = true) := by
        first
          | exact .inl (by simpa using hk')
          | exact .inr ⟨by simp; omega, by simpa using hk'⟩
      clear hk'
      rcases n12 with n1 | ⟨n1, n2⟩
      all_goals
        go_enter Try.func48, Try.ntmps48
        go_wp2_with fail
        obtain ⟨W1, hW1⟩ : ∃ W1, w.alloc (.cells #[.int .i64 k, .int .i64 s, .int .i64 lo, .int .i64 hi, .int .i64 st, .slice A l.length c] 27) = W1 := ⟨_, rfl⟩
        obtain ⟨g, hg⟩ : ∃ g, w.heap.size = g := ⟨_, rfl⟩
        rw [hW1] at HB HK ⊢
        rw [hg] at HB ⊢
        have HCE := Lib.hid (show ∀ W, Kp (fun _ => False) W1 W → W.cell? ⟨g, 0, none⟩ = some (.int .i64 k) ∧ W.cell? ⟨g, 1, none⟩ = some (.int .i64 s) ∧ W.cell? ⟨g, 2, none⟩ = some (.int .i64 lo) ∧ W.cell? ⟨g, 3, none⟩ = some (.int .i64 hi) ∧ W.cell? ⟨g, 4, none⟩ = some (.int .i64 st) ∧ W.cell? ⟨g, 5, none⟩ = some (.slice A l.length c) from fun W hk => by
          have hb := HB.out.kp hk (fun h => h)
          exact ⟨hb.cell 0, hb.cell 1, hb.cell 2, hb.cell 3, hb.cell 4, hb.cell 5⟩)
        have HKR := Lib.hid (Kp.refl (fun _ => False) W1)
        have hr2 : IntKind.i64.wrap (s + lo) = r := by
          rw [i64_wrap]
          exact HR.out
        clear hW1 hg
        go_region_held3 (fun w' => w'.cell? ⟨g, 0, none⟩ = some (.int .i64 k) ∧ w'.cell? ⟨g, 1, none⟩ = some (.int .i64 s) ∧ w'.cell? ⟨g, 2, none⟩ = some (.int .i64 lo) ∧ w'.cell? ⟨g, 3, none⟩ = some (.int .i64 hi) ∧ w'.cell? ⟨g, 4, none⟩ = some (.int .i64 st) ∧ w'.cell? ⟨g, 5, none⟩ = some (.slice A l.length c)) (first | exact HCE.out _ HKR.out | exact HCE.out _ HKR.out.drew) ((refine (HL1.out _ (HK.out.then_ (T := fun _ => False) (by first | exact HKR.out | exact HKR.out.drew) (fun _ h => h.elim))).mono ?_; rintro e w5 ⟨rfl, hk5⟩; have hq := Kp.then_ (a := W1) (S := fun _ => False) (by first | exact HKR.out | exact HKR.out.drew) hk5 (fun _ h => h.elim); clear HKR; have HKR := Lib.hid hq; clear hq hk5))
        go_wp2_with fail
        go_ret
        exact ⟨rfl, HK.out.then_ HKR.out (fun _ h => h.elim)⟩
  rw [if_neg k12] at hr
  by_cases k4 : k = 4
  · subst k4
    rw [if_pos rfl] at hr
    subst hr
    clear k0 k12
    go_enter Try.func48, Try.ntmps48
    go_wp2_with fail
    refine (HL1.out _ HK.out).mono ?_
    rintro e w1 ⟨rfl, hk1⟩
    have hkk := HK.out.then_ hk1 (fun _ h => h.elim)
    go_wp2_with fail
    go_ret
    exact ⟨rfl, hkk⟩
  rw [if_neg k4] at hr
  by_cases k5 : k = 5
  · subst k5
    rw [if_pos rfl] at hr
    subst hr
    clear k0 k12 k4
    go_enter Try.func48, Try.ntmps48
    go_wp2_with fail
    go_ret
    exact ⟨rfl, HK.out⟩
  rw [if_neg k5] at hr
  have n0 : (k == 0) = false := by simpa using k0
  have n1 : (k == 1) = false := by simp; omega
  have n2 : (k == 2) = false := by simp; omega
  have n4 : (k == 4) = false := by simpa using k4
  have n5 : (k == 5) = false := by simpa using k5
  have HR := Lib.hid hr
  clear hr k0 k12 k4 k5
  go_enter Try.func48, Try.ntmps48
  go_wp2_with fail
  go_loopw [35, 5] (fun i nv wr => ∃ j : Nat, j ≤ l.length ∧ i = .int .i64 j ∧ nv = .int .i64 (spanL FH.lo 0 (l.take j)) ∧ Kp (fun _ => False) w wr ∧ FsR wr ok (.slice A l.length c) l) (fun i _ _ => l.length - (intOf i).toNat)
  case atStart => exact ⟨0, Nat.zero_le _, rfl, by simp [spanL], HK.out, HFS.out⟩
  case round =>
    obtain ⟨j, hj, rfl, rfl, hkr, hfr⟩ := hrel
    have HKR := Lib.hid hkr
    have HFR := Lib.hid hfr
    clear hkr
    by_cases hlt : j < l.length
    · obtain ⟨b, off, A2, c2, rfl, hb, hf, q0, q1, q2, q3, q4, q5⟩ := hfr.at_ hlt
      have hmem : l[j] ∈ l := List.getElem_mem hlt
      have hts := List.take_succ_eq_append_getElem hlt
      obtain ⟨f, hfe⟩ : ∃ f, l[j] = f := ⟨_, rfl⟩
      rw [hfe] at hf q0 q1 q2 q3 q4 q5 hmem hts
      have hst := Lib.hid (show spanL FH.lo 0 (l.take (j + 1)) = wrap64 (spanL FH.lo 0 (l.take j) + spanR FH.lo f) by rw [hts, spanL_snoc])
      have hi0 : (0 : Int) ≤ (j : Int) := by omega
      have hi1 : (j : Int) < (l.length : Int) := by omega
      have hka : ∀ o, Kp (fun _ => False) wr (wr.alloc o) := fun o => (Kp.refl _ _).alloc o
      have HC := Lib.hid (fun o => IH.out f hmem _ _ (hf.kp (hka o) (fun _ _ h => h)))
      have HKA := Lib.hid hka
      generalize spanL FH.lo 0 (l.take j) = n at hst
      generalize spanR FH.lo f = x at hst HC
      clear hf hfe hmem hfr hts hka
      go_wp2_with fail
      refine (HC.out _).mono ?_
      rintro e w2 ⟨rfl, hk2⟩
      have HK2 := Lib.hid (HKR.out.then_ ((HKA.out _).then_ hk2 (fun _ h => h.elim)) (fun _ h => h.elim))
      have HF2 := Lib.hid (HFR.out.kp ((HKA.out _).then_ hk2 (fun _ h => h.elim)) (fun _ _ h => h))
      clear hk2
      go_wp2_with fail
      go_roundw
      case rel => exact ⟨j + 1, by omega, by go_num, by rw [hst.out], HK2.out, HF2.out⟩
      case measure => simp [intOf]; omega
    · obtain rfl : j = l.length := by omega
      rw [List.take_of_length_le (Nat.le_refl _)] at *
      clear hfr
      go_wp2_with fail
      go_ret
      exact ⟨by rw [HR.out]; rfl, HKR.out⟩

set_option maxRecDepth 100000 in
theorem hi1_any (ok : Nat → Prop) (v : Value) (f : Fm) (w : World) (hv : FmR w ok v f) : Calls Try.prog 50 #[v] w fun e w' => e = .returned (.int .i64 f.a.hi) ∧ Kp (fun _ => False) w w' := by
  obtain ⟨sv, rfl, hok, A, c, rfl, _, _, _⟩ := hv
  have hk1 : ∀ o, Kp (fun _ => False) w (w.alloc o) := fun o => (Kp.refl _ _).alloc o
  have HK := Lib.hid hk1
  clear hk1 hok
  go_enter Try.func50, Try.ntmps50
  go_wp2_with fail
  go_ret
  exact ⟨rfl, HK.out _⟩

set_option maxRecDepth 100000 in
set_option maxHeartbeats 3200000 in
theorem span_hi (ok : Nat → Prop) : ∀ (f : Fm) (v : Value) (w : World), FmR w ok v f →
    Calls Try.prog 48 #[v, .func (.func 50) #[] #[]] w fun e w' => e = .returned (.int .i64 (spanR FH.hi f)) ∧ Kp (fun _ => False) w w' := by
  intro f
  induction f using RT.induct with
  | h a l ih =>
  intro v w hv
  have hl1 := fun W hk => hi1_any ok v (.mk a l) W (hv.kp (S := fun _ => False) (w' := W) hk (fun _ _ h => h))
  obtain ⟨r, hr⟩ : ∃ r, spanR FH.hi (.mk a l) = r := ⟨_, rfl⟩
  rw [hr]
  rw [spanR_mk] at hr
  have HL1 := Lib.hid (show ∀ W, Kp (fun _ => False) w W → Calls Try.prog 50 #[v] W fun e w' => e = .returned (.int .i64 a.hi) ∧ Kp (fun _ => False) W w' from hl1)
  clear hl1
  obtain ⟨k, s, lo, hi, st⟩ := a
  obtain ⟨A, c, rfl, h1, h2, hk, hs, hlo, hhi, hst, hfs⟩ := hv.parts
  have hka : Kp (fun _ => False) w (w.alloc (.cells #[.int .i64 k, .int .i64 s, .int .i64 lo, .int .i64 hi, .int .i64 st, .slice A l.length c] 27)) := (Kp.refl _ _).alloc _
  have HK := Lib.hid hka
  have HFS := Lib.hid (hfs.kp hka (fun _ _ h => h))
  have IH := Lib.hid ih
  clear hv hk hs hlo hhi hst hfs hka ih
  by_cases k0 : k = 0
  · subst k0
    rw [if_pos rfl] at hr
    subst hr
    go_enter Try.func48, Try.ntmps48
    go_wp2_with fail
    go_ret
    exact ⟨rfl, HK.out⟩
  rw [if_neg k0] at hr
  by_cases k12 : k = 1 ∨ k = 2
  · rw [if_pos k12] at hr
    have HR := Lib.hid hr
    clear hr k0
    rcases k12 with hk' | hk'
    all_goals
      have HB := Lib.hid (Blk.new w 27 #[.int .i64 k, .int .i64 s, .int .i64 lo, .int .i64 hi, .int .i64 st, .slice A l.length c])
      have HKK := Lib.hid hk'
      have n0 : (k == 0) = false := by simp; omega
      have n12 : ((k == 1) = true) ∨ ((k == 1) = false ∧ (k == 2) = true) := by
        first
          | exact .inl (by simpa using hk')
          | exact .inr ⟨by simp; omega, by simpa using hk'⟩
      clear hk'
      rcases n12 with n1 | ⟨n1, n2⟩
      all_goals
        go_enter Try.func48, Try.ntmps48
        go_wp2_with fail
        obtain ⟨W1, hW1⟩ : ∃ W1, w.alloc (.cells #[.int .i64 k, .int .i64 s, .int .i64 lo, .int .i64 hi, .int .i64 st, .slice A l.length c] 27) = W1 := ⟨_, rfl⟩
        obtain ⟨g, hg⟩ : ∃ g, w.heap.size = g := ⟨_, rfl⟩
        rw [hW1] at HB HK ⊢
        rw [hg] at HB ⊢
        have HCE := Lib.hid (show ∀ W, Kp (fun _ => False) W1 W → W.cell? ⟨g, 0, none⟩ = some (.int .i64 k) ∧ W.cell? ⟨g, 1, none⟩ = some (.int .i64 s) ∧ W.cell? ⟨g, 2, none⟩ = some (.int .i64 lo) ∧ W.cell? ⟨g, 3, none⟩ = some (.int .i64 hi) ∧ W.cell? ⟨g, 4, none⟩ = some (.int .i64 st) ∧ W.cell? ⟨g, 5, none⟩ = some (.slice A l.length c) from fun W hk => by
          have hb := HB.out.kp hk (fun h => h)
          exact ⟨hb.cell 0, hb.cell 1, hb.cell 2, hb.cell 3, hb.cell 4, hb.cell 5⟩)
        have HKR := Lib.hid (Kp.refl (fun _ => False) W1)
        have hr2 : IntKind.i64.wrap (s + hi) = r := by
          rw [i64_wrap]
          exact HR.out
        clear hW1 hg
        go_region_held3 (fun w' => w'.cell? ⟨g, 0, none⟩ = some (.int .i64 k) ∧ w'.cell? ⟨g, 1, none⟩ = some (.int .i64 s) ∧ w'.cell? ⟨g, 2, none⟩ = some (.int .i64 lo) ∧ w'.cell? ⟨g, 3, none⟩ = some (.int .i64 hi) ∧ w'.cell? ⟨g, 4, none⟩ = some (.int .i64 st) ∧ w'.cell? ⟨g, 5, none⟩ = some (.slice A l.length c)) (first | exact HCE.out _ HKR.out | exact HCE.out _ HKR.out.drew) ((refine (HL1.out _ (HK.out.then_ (T := fun _ => False) (by first | exact HKR.out | exact HKR.out.drew) (fun _ h => h.elim))).mono ?_; rintro e w5 ⟨rfl, hk5⟩; have hq := Kp.then_ (a := W1) (S := fun _ => False) (by first | exact HKR.out | exact HKR.out.drew) hk5 (fun _ h => h.elim); clear HKR; have HKR := Lib.hid hq; clear hq hk5))
        go_wp2_with fail
        go_ret
        exact ⟨rfl, HK.out.then_ HKR.out (fun _ h => h.elim)⟩
  rw [if_neg k12] at hr
  by_cases k4 : k = 4
  · subst k4
    rw [if_pos rfl] at hr
    subst hr
    clear k0 k12
    go_enter Try.func48, Try.ntmps48
    go_wp2_with fail
    refine (HL1.out _ HK.out).mono ?_
    rintro e w1 ⟨rfl, hk1⟩
    have hkk := HK.out.then_ hk1 (fun _ h => h.elim)
    go_wp2_with fail
    go_ret
    exact ⟨rfl, hkk⟩
  rw [if_neg k4] at hr
  by_cases k5 : k = 5
  · subst k5
    rw [if_pos rfl] at hr
    subst hr
    clear k0 k12 k4
    go_enter Try.func48, Try.ntmps48
    go_wp2_with fail
    go_ret
    exact ⟨rfl, HK.out⟩
  rw [if_neg k5] at hr
  have n0 : (k == 0) = false := by simpa using k0
  have n1 : (k == 1) = false := by simp; omega
  have n2 : (k == 2) = false := by simp; omega
  have n4 : (k == 4) = false := by simpa using k4
  have n5 : (k == 5) = false := by simpa using k5
  have HR := Lib.hid hr
  clear hr k0 k12 k4 k5
  go_enter Try.func48, Try.ntmps48
  go_wp2_with fail
  go_loopw [35, 5] (fun i nv wr => ∃ j : Nat, j ≤ l.length ∧ i = .int .i64 j ∧ nv = .int .i64 (spanL FH.hi 0 (l.take j)) ∧ Kp (fun _ => False) w wr ∧ FsR wr ok (.slice A l.length c) l) (fun i _ _ => l.length - (intOf i).toNat)
  case atStart => exact ⟨0, Nat.zero_le _, rfl, by simp [spanL], HK.out, HFS.out⟩
  case round =>
    obtain ⟨j, hj, rfl, rfl, hkr, hfr⟩ := hrel
    have HKR := Lib.hid hkr
    have HFR := Lib.hid hfr
    clear hkr
    by_cases hlt : j < l.length
    · obtain ⟨b, off, A2, c2, rfl, hb, hf, q0, q1, q2, q3, q4, q5⟩ := hfr.at_ hlt
      have hmem : l[j] ∈ l := List.getElem_mem hlt
      have hts := List.take_succ_eq_append_getElem hlt
      obtain ⟨f, hfe⟩ : ∃ f, l[j] = f := ⟨_, rfl⟩
      rw [hfe] at hf q0 q1 q2 q3 q4 q5 hmem hts
      have hst := Lib.hid (show spanL FH.hi 0 (l.take (j + 1)) = wrap64 (spanL FH.hi 0 (l.take j) + spanR FH.hi f) by rw [hts, spanL_snoc])
      have hi0 : (0 : Int) ≤ (j : Int) := by omega
      have hi1 : (j : Int) < (l.length : Int) := by omega
      have hka : ∀ o, Kp (fun _ => False) wr (wr.alloc o) := fun o => (Kp.refl _ _).alloc o
      have HC := Lib.hid (fun o => IH.out f hmem _ _ (hf.kp (hka o) (fun _ _ h => h)))
      have HKA := Lib.hid hka
      generalize spanL FH.hi 0 (l.take j) = n at hst
      generalize spanR FH.hi f = x at hst HC
      clear hf hfe hmem hfr hts hka
      go_wp2_with fail
      refine (HC.out _).mono ?_
      rintro e w2 ⟨rfl, hk2⟩
      have HK2 := Lib.hid (HKR.out.then_ ((HKA.out _).then_ hk2 (fun _ h => h.elim)) (fun _ h => h.elim))
      have HF2 := Lib.hid (HFR.out.kp ((HKA.out _).then_ hk2 (fun _ h => h.elim)) (fun _ _ h => h))
      clear hk2
      go_wp2_with fail
      go_roundw
      case rel => exact ⟨j + 1, by omega, by go_num, by rw [hst.out], HK2.out, HF2.out⟩
      case measure => simp [intOf]; omega
    · obtain rfl : j = l.length := by omega
      rw [List.take_of_length_le (Nat.le_refl _)] at *
      clear hfr
      go_wp2_with fail
      go_ret
      exact ⟨by rw [HR.out]; rfl, HKR.out⟩

set_option maxRecDepth 100000 in
theorem least_any (ok : Nat → Prop) (v : Value) (f : Fm) (w : World) (hv : FmR w ok v f) : Calls Try.prog 24 #[v] w fun e w' => e = .returned (.int .i64 (leastR f)) ∧ Kp (fun _ => False) w w' := by
  have HC := Lib.hid (fun o => span_lo ok f v (w.alloc o) (hv.kp ((Kp.refl (fun _ => False) w).alloc o) (fun _ _ h => h)))
  obtain ⟨sv, rfl, hok, A, c, rfl, _, _, _⟩ := hv
  have HK := Lib.hid (show ∀ o, Kp (fun _ => False) w (w.alloc o) from fun o => (Kp.refl _ _).alloc o)
  have HR := Lib.hid (show leastR f = spanR FH.lo f from rfl)
  clear hok
  go_enter Try.func24, Try.ntmps24
  go_wp2_with fail
  refine (HC.out _).mono ?_
  rintro e w1 ⟨rfl, hk1⟩
  have hk := (HK.out _).then_ hk1 (fun _ h => h.elim)
  go_wp2_with fail
  go_ret
  exact ⟨by rw [HR.out]; rfl, hk⟩
set_option maxRecDepth 100000 in
theorem most_any (ok : Nat → Prop) (v : Value) (f : Fm) (w : World) (hv : FmR w ok v f) : Calls Try.prog 25 #[v] w fun e w' => e = .returned (.int .i64 (mostR f)) ∧ Kp (fun _ => False) w w' := by
  have HC := Lib.hid (fun o => span_hi ok f v (w.alloc o) (hv.kp ((Kp.refl (fun _ => False) w).alloc o) (fun _ _ h => h)))
  obtain ⟨sv, rfl, hok, A, c, rfl, _, _, _⟩ := hv
  have HK := Lib.hid (show ∀ o, Kp (fun _ => False) w (w.alloc o) from fun o => (Kp.refl _ _).alloc o)
  have HR := Lib.hid (show mostR f = spanR FH.hi f from rfl)
  clear hok
  go_enter Try.func25, Try.ntmps25
  go_wp2_with fail
  refine (HC.out _).mono ?_
  rintro e w1 ⟨rfl, hk1⟩
  have hk := (HK.out _).then_ hk1 (fun _ h => h.elim)
  go_wp2_with fail
  go_ret
  exact ⟨by rw [HR.out]; rfl, hk⟩
end Go.Proofs.Ytfcghajnnllmhaa

namespace Go.Proofs.Ytfcghajnnllmhaa
open Go.RowKit

mutual
/-- Have bytes of it no end of their own? -/
def openR : Fm → Bool
  | .mk a l => if a.k = 3 then openL l else decide (a.k = 4)
def openL : List Fm → Bool
  | [] => false
  | f :: t => match t with
    | [] => openR f
    | _ :: _ => openL t
end
theorem openR_mk (a : FH) (l : List Fm) : openR (.mk a l) = if a.k = 3 then openL l else decide (a.k = 4) := by rw [openR]
theorem openL_last (l : List Fm) (n : Nat) (h : l.length = n + 1) : openL l = openR (l[n]'(by omega)) := by
  induction l generalizing n with
  | nil => simp at h
  | cons f t ih =>
    cases t with
    | nil =>
      obtain rfl : n = 0 := by simpa using h
      rw [openL]
      rfl
    | cons g u =>
      rw [openL]
      obtain ⟨m, rfl⟩ : ∃ m, n = m + 1 := ⟨n - 1, by simp at h; omega⟩
      rw [ih m (by simpa using h)]
      rfl
theorem sizeOf_kid {a : FH} {l : List Fm} {f : Fm} (h : f ∈ l) : SizeOf.sizeOf f < SizeOf.sizeOf (RT.mk a l) := by
  have := List.sizeOf_lt_of_mem h
  rw [RT.mk.sizeOf_spec]
  omega

/-! ### Six cells stored. -/
theorem Blk.put6 {w : World} {B : Nat} {t : TypeId} {a0 a1 a2 a3 a4 a5 : Value} (h : Blk w B t #[a0, a1, a2, a3, a4, a5]) (b0 b1 b2 b3 b4 b5 : Value) :
    Blk ((((((w.setCell ⟨B, 0, none⟩ b0).setCell ⟨B, 1, none⟩ b1).setCell ⟨B, 2, none⟩ b2).setCell ⟨B, 3, none⟩ b3).setCell ⟨B, 4, none⟩ b4).setCell ⟨B, 5, none⟩ b5) B t #[b0, b1, b2, b3, b4, b5] :=
  (((((h.set_ 0 b0).set_ 1 b1).set_ 2 b2).set_ 3 b3).set_ 4 b4).set_ 5 b5
theorem Kp.put6 {S : Nat → Prop} {a w : World} {B : Nat} (h : Kp S a w) (hp : S B ∨ a.heap.size ≤ B) (b0 b1 b2 b3 b4 b5 : Value) :
    Kp S a ((((((w.setCell ⟨B, 0, none⟩ b0).setCell ⟨B, 1, none⟩ b1).setCell ⟨B, 2, none⟩ b2).setCell ⟨B, 3, none⟩ b3).setCell ⟨B, 4, none⟩ b4).setCell ⟨B, 5, none⟩ b5) :=
  (((((h.setCell (p := ⟨B, 0, none⟩) hp b0).setCell (p := ⟨B, 1, none⟩) hp b1).setCell (p := ⟨B, 2, none⟩) hp b2).setCell (p := ⟨B, 3, none⟩) hp b3).setCell (p := ⟨B, 4, none⟩) hp b4).setCell (p := ⟨B, 5, none⟩) hp b5

set_option maxRecDepth 100000 in
set_option maxHeartbeats 3200000 in
theorem open_any (ok : Nat → Prop) (v : Value) (f : Fm) (w : World) (hlt : ∀ i, ok i → i < w.heap.size) (hv : FmR w ok v f) :
    Calls Try.prog 23 #[v] w fun e w' => e = .returned (.bool (openR f)) ∧ Kp (fun _ => False) w w' := by
  obtain ⟨r, hr⟩ : ∃ r, openR f = r := ⟨_, rfl⟩
  rw [hr]
  have HR := Lib.hid hr
  clear hr
  obtain ⟨⟨k, s, lo, hi, st⟩, l⟩ := f
  obtain ⟨A, c, rfl, h1, h2, _, _, _, _, _, hfs⟩ := hv.parts
  have HB := Lib.hid (Blk.new w 27 #[.int .i64 k, .int .i64 s, .int .i64 lo, .int .i64 hi, .int .i64 st, .slice A l.length c])
  have hka : Kp (fun _ => False) w (w.alloc (.cells #[.int .i64 k, .int .i64 s, .int .i64 lo, .int .i64 hi, .int .i64 st, .slice A l.length c] 27)) := (Kp.refl _ _).alloc _
  have HK := Lib.hid hka
  have HFS := Lib.hid (hfs.kp hka (fun _ _ h => h))
  obtain ⟨B, hB⟩ : ∃ B, w.heap.size = B := ⟨_, rfl⟩
  have HLT := Lib.hid (show ∀ i, ok i → ¬ i = B from fun i hi => by have := hlt i hi; omega)
  have HBW := Lib.hid (show w.heap.size ≤ B by omega)
  clear hv hfs hka hlt
  go_enter Try.func23, Try.ntmps23
  go_wp2_with fail
  obtain ⟨W1, hW1⟩ : ∃ W1, w.alloc (.cells #[.int .i64 k, .int .i64 s, .int .i64 lo, .int .i64 hi, .int .i64 st, .slice A l.length c] 27) = W1 := ⟨_, rfl⟩
  rw [hW1] at HB HK HFS ⊢
  rw [hB] at HB
  clear hW1 hB
  go_loopg [] (SizeOf.sizeOf (RT.mk (FH.mk k s lo hi st) l)) (fun g wr => ∃ (cur : Fm) (A' : Option Addr) (c' : Nat), g = SizeOf.sizeOf cur ∧ Blk wr B 27 #[.int .i64 cur.a.k, .int .i64 cur.a.s, .int .i64 cur.a.lo, .int .i64 cur.a.hi, .int .i64 cur.a.st, .slice A' cur.l.length c'] ∧ FsR wr ok (.slice A' cur.l.length c') cur.l ∧ openR cur = r ∧ Kp (fun _ => False) w wr)
  case atStart => exact ⟨_, A, c, rfl, HB.out, HFS.out, HR.out, HK.out⟩
  case round =>
    obtain ⟨cur, A', c', rfl, hb, hf, ho, hkr⟩ := hrel
    obtain ⟨⟨k', s', lo', hi', st'⟩, l'⟩ := cur
    simp only [RT.a, RT.l] at hb hf
    rw [openR_mk] at ho
    have t0 := hb.cell 0
    have t1 := hb.cell 1
    have t2 := hb.cell 2
    have t3 := hb.cell 3
    have t4 := hb.cell 4
    have t5 := hb.cell 5
    have z0 := hb.frozen 0
    have z1 := hb.frozen 1
    have z2 := hb.frozen 2
    have z3 := hb.frozen 3
    have z4 := hb.frozen 4
    have z5 := hb.frozen 5
    simp at t0 t1 t2 t3 t4 t5
    have HKR := Lib.hid hkr
    have HBB := Lib.hid hb
    clear hkr hb
    by_cases k3 : k' = 3
    · rw [if_pos k3] at ho
      have n3 : (k' == 3) = true := by simpa using k3
      by_cases h0 : l'.length = 0
      · have hl0 : l' = [] := List.eq_nil_of_length_eq_zero h0
        subst hl0
        have hr1 : r = false := by rw [← ho, openL]
        subst hr1
        have n4 : (k' == 4) = false := by simp; omega
        clear ho h0 hf k3
        go_wp2_with fail
        go_ret
        exact ⟨rfl, HKR.out⟩
      · obtain ⟨n, hn⟩ : ∃ n, l'.length = n + 1 := ⟨l'.length - 1, by omega⟩
        rw [openL_last l' n hn] at ho
        obtain ⟨b, off, A2, c2, rfl, hb2, hf2, q0, q1, q2, q3, q4, q5⟩ := hf.at_ (i := n) (by omega)
        have hmem : l'[n]'(by omega) ∈ l' := List.getElem_mem _
        have hsz := Lib.hid (sizeOf_kid (a := FH.mk k' s' lo' hi' st') hmem)
        obtain ⟨f2, hf2e⟩ : ∃ f2, l'[n]'(by omega) = f2 := ⟨_, rfl⟩
        rw [hf2e] at ho hf2 q0 q1 q2 q3 q4 q5 hsz
        have HO := Lib.hid ho
        have hFs2 : FsR wr ok (.slice A2 f2.l.length c2) f2.l := by
          obtain ⟨sv, e, _, h⟩ := hf2
          simp only [Value.agg.injEq, Array.mk.injEq, List.cons.injEq, and_true, true_and] at e
          rw [e]
          exact h
        have HF2 := Lib.hid hFs2
        have hlen : l'.length ≤ 140737488355328 := by obtain ⟨_, _, _, _, h, _⟩ := hf; exact h
        obtain ⟨m, hm⟩ : ∃ m, l'.length = m := ⟨_, rfl⟩
        have g1 : decide ((0 : Int) < (m : Int)) = true := by simp; omega
        have g2 : (0 : Int) < (m : Int) := by omega
        have hmn : (m : Int) - 1 = (n : Int) := by omega
        have hnm : n < m := by omega
        rw [hm] at t5 HBB hlen
        clear ho hmem hf2e hFs2 hf hf2 h0 hn k3 hm
        go_wp2_with fail
        go_roundg (SizeOf.sizeOf f2)
        case measure => exact hsz.out
        case rel =>
          exact ⟨f2, A2, c2, rfl, HBB.out.put6 _ _ _ _ _ _, HF2.out.kp ((Kp.refl (fun j => j = B) wr).put6 (B := B) (.inl rfl) _ _ _ _ _ _) (fun i hi => HLT.out i hi), HO.out, HKR.out.put6 (B := B) (.inr HBW.out) _ _ _ _ _ _⟩
    · rw [if_neg k3] at ho
      have n3 : (k' == 3) = false := by simpa using k3
      have n4 : (k' == 4) = r := by rw [← ho]; rfl
      clear ho hf k3
      go_wp2_with fail
      go_ret
      exact ⟨rfl, HKR.out⟩
end Go.Proofs.Ytfcghajnnllmhaa

namespace Go.Proofs.Ytfcghajnnllmhaa
open Go.RowKit

/-- Does a part not fit there? -/
def badI (k : Int) (n i : Nat) (f : Fm) : Bool := (openR f && (decide (k = 2) || decide (i + 1 < n))) || (decide (k = 2) && decide (leastR f = 0))
def badF (k : Int) (n : Nat) : Nat → List Fm → Bool
  | _, [] => false
  | i, f :: t => badI k n i f || badF k n (i + 1) t
mutual
/-- What is wrong with a form and its parts. -/
def checkR : Fm → Int
  | .mk a l => if ownN a.k a.s a.lo a.hi a.st l.length ≠ 0 then ownN a.k a.s a.lo a.hi a.st l.length else if a.k = 2 ∨ a.k = 3 then (if checkL l ≠ 0 then checkL l else if badF a.k l.length 0 l then 15 else 0) else 0
def checkL : List Fm → Int
  | [] => 0
  | f :: t => if checkR f ≠ 0 then checkR f else checkL t
end
theorem checkR_mk (a : FH) (l : List Fm) : checkR (.mk a l) = if ownN a.k a.s a.lo a.hi a.st l.length ≠ 0 then ownN a.k a.s a.lo a.hi a.st l.length else if a.k = 2 ∨ a.k = 3 then (if checkL l ≠ 0 then checkL l else if badF a.k l.length 0 l then 15 else 0) else 0 := by rw [checkR]
/-- The rest, behind a form's own numbers. -/
def restR (k : Int) (P : List Fm) : Int := if checkL P ≠ 0 then checkL P else if badF k P.length 0 P then 15 else 0
theorem checkR_parts (a : FH) (l : List Fm) : checkR (.mk a l) = if ownR (.mk a l) ≠ 0 then ownR (.mk a l) else restR a.k (partsF (.mk a l)) := by
  rw [checkR_mk]
  show _ = if ownN a.k a.s a.lo a.hi a.st l.length ≠ 0 then ownN a.k a.s a.lo a.hi a.st l.length else restR a.k (if a.k = 2 ∨ a.k = 3 then l else [])
  by_cases h : a.k = 2 ∨ a.k = 3
  · rw [if_pos h, if_pos h]
    rfl
  · rw [if_neg h, if_neg h]
    have e : restR a.k [] = 0 := by rw [restR, checkL]; simp [badF]
    rw [e]
theorem partsF_mem {a : FH} {l : List Fm} {f : Fm} (h : f ∈ partsF (.mk a l)) : f ∈ l := by
  have e : partsF (.mk a l) = if a.k = 2 ∨ a.k = 3 then l else [] := rfl
  rw [e] at h
  split at h
  · exact h
  · simp at h
theorem checkL_drop {l : List Fm} {k : Nat} (hk : k < l.length) : checkL (l.drop k) = if checkR l[k] ≠ 0 then checkR l[k] else checkL (l.drop (k + 1)) := by
  rw [List.drop_eq_getElem_cons hk, checkL]
theorem badF_drop {l : List Fm} {k n i : Nat} (c : Int) (hk : k < l.length) : badF c n i (l.drop k) = (badI c n i l[k] || badF c n (i + 1) (l.drop (k + 1))) := by
  rw [List.drop_eq_getElem_cons hk, badF]

set_option maxRecDepth 100000 in
set_option maxHeartbeats 12800000 in
theorem chk_any (ok : Nat → Prop) : ∀ (f : Fm) (v : Value) (w : World), (∀ i, ok i → i < w.heap.size) → FmR w ok v f →
    Calls Try.prog 44 #[v] w fun e w' => e = .returned (.int .i64 (checkR f)) ∧ Kp (fun _ => False) w w' := by
  intro f
  induction f using RT.induct with
  | h a l ih =>
  intro v w hlt hv
  obtain ⟨r, hr⟩ : ∃ r, checkR (.mk a l) = r := ⟨_, rfl⟩
  rw [hr]
  rw [checkR_parts] at hr
  have HOW := Lib.hid (fun o => own_any ok v (.mk a l) (w.alloc o) (hv.kp ((Kp.refl (fun _ => False) w).alloc o) (fun _ _ h => h)))
  have HPA := Lib.hid (fun W hk => parts_any ok v (.mk a l) W (hv.kp (S := fun _ => False) (w := w) (w' := W) hk (fun _ _ h => h)))
  have IH := Lib.hid (fun f (hm : f ∈ partsF (.mk a l)) => ih f (partsF_mem hm))
  generalize partsF (.mk a l) = P at hr HPA IH
  generalize ownR (.mk a l) = o at hr HOW
  obtain ⟨k, s, lo, hi, st⟩ := a
  obtain ⟨A, c, rfl, h1, h2, _, _, _, _, _, _⟩ := hv.parts
  have hka : Kp (fun _ => False) w (w.alloc (.cells #[.int .i64 k, .int .i64 s, .int .i64 lo, .int .i64 hi, .int .i64 st, .slice A l.length c] 27)) := (Kp.refl _ _).alloc _
  have hbk := Blk.new w 27 #[.int .i64 k, .int .i64 s, .int .i64 lo, .int .i64 hi, .int .i64 st, .slice A l.length c]
  have HK := Lib.hid hka
  have HB := Lib.hid hbk
  have HLT := Lib.hid hlt
  have hr' : (if o ≠ 0 then o else restR k P) = r := hr
  clear hv ih hr hlt hka hbk
  by_cases ho : o ≠ 0
  · rw [if_pos ho] at hr'
    subst hr'
    have t0 : (o != 0) = true := by simpa using ho
    clear ho
    go_enter Try.func44, Try.ntmps44
    go_wp2_with fail
    refine (HOW.out _).mono ?_
    rintro e w1 ⟨rfl, hk1⟩
    have hk := HK.out.then_ hk1 (fun _ h => h.elim)
    go_wp2_with fail
    go_ret
    exact ⟨rfl, hk⟩
  have ho' : o = 0 := by omega
  subst ho'
  rw [if_neg ho] at hr'
  rw [restR] at hr'
  have HR := Lib.hid hr'
  clear ho hr'
  go_enter Try.func44, Try.ntmps44
  go_wp2_with fail
  refine (HOW.out _).mono ?_
  rintro e w1 ⟨rfl, hk1⟩
  have hk01 := HK.out.then_ hk1 (fun _ h => h.elim)
  have hb1 := HB.out.kp hk1 (fun h => h)
  have c0 := hb1.cell 0
  have c1 := hb1.cell 1
  have c2 := hb1.cell 2
  have c3 := hb1.cell 3
  have c4 := hb1.cell 4
  have c5 := hb1.cell 5
  simp at c0 c1 c2 c3 c4 c5
  have HK1 := Lib.hid hk01
  have HB1 := Lib.hid hb1
  clear hk1 hk01 hb1
  go_wp2_with fail
  refine (HPA.out _ HK1.out).mono ?_
  rintro e w2 ⟨A2, n, cp, rfl, hn, hs2, hk2⟩
  have HK2 := Lib.hid (HK1.out.then_ hk2 (fun _ h => h.elim))
  have HB2 := Lib.hid (HB1.out.kp hk2 (fun h => h))
  have HS2 := Lib.hid hs2
  have hnc : n ≤ cp ∧ n ≤ 140737488355328 := by
    obtain ⟨A', c', e, q1, q2, _⟩ := hs2
    injection e with _ e2 e3
    omega
  obtain ⟨hn1, hn2⟩ := hnc
  have HN := Lib.hid hn
  clear hk2 hs2 c0 c1 c2 c3 c4 c5 hn
  go_wp2_with fail
  go_loopw [19] (fun i wr => ∃ j : Nat, j ≤ n ∧ i = .int .i64 j ∧ checkL P = checkL (P.drop j) ∧ Kp (fun _ => False) w2 wr) (fun i _ => n - (intOf i).toNat)
  case atStart => exact ⟨0, Nat.zero_le _, rfl, rfl, Kp.refl _ _⟩
  case round =>
    obtain ⟨j, hj, rfl, he, hkr⟩ := hrel
    have HKR := Lib.hid hkr
    have HE := Lib.hid he
    clear he
    by_cases hlt : j < n
    · have hjP : j < P.length := by have := HN.out; omega
      obtain ⟨b, off, A3, c3, rfl, hb, hf, q0, q1, q2, q3, q4, q5⟩ := (HS2.out.kp hkr (fun _ _ h => h)).at_ hjP
      have hmem : P[j] ∈ P := List.getElem_mem hjP
      have hdr := checkL_drop hjP
      obtain ⟨f, hfe⟩ : ∃ f, P[j] = f := ⟨_, rfl⟩
      rw [hfe] at hf q0 q1 q2 q3 q4 q5 hmem hdr
      have hi0 : (0 : Int) ≤ (j : Int) := by omega
      have hi1 : (j : Int) < (n : Int) := by omega
      have hkx : ∀ o, Kp (fun _ => False) wr (wr.alloc o) := fun o => (Kp.refl _ _).alloc o
      have hltw : ∀ o i, ok i → i < (wr.alloc o).heap.size := fun o i hi => Nat.lt_of_lt_of_le (HLT.out i hi) (Nat.le_trans HK2.out.size (Nat.le_trans hkr.size (hkx o).size))
      have HC := Lib.hid (fun o => IH.out f hmem _ _ (hltw o) (hf.kp (hkx o) (fun _ _ h => h)))
      have HKX := Lib.hid hkx
      generalize checkR f = x at hdr HC
      by_cases hx : x ≠ 0
      · have t0 : (x != 0) = true := by simpa using hx
        have HX := Lib.hid (show x = r by
          have := HR.out
          rw [HE.out, hdr, if_pos hx, if_pos hx] at this
          exact this)
        clear hx hdr hf hfe hmem hkr hkx hltw
        go_wp2_with fail
        refine (HC.out _).mono ?_
        rintro e w3 ⟨rfl, hk3⟩
        have hk := HK2.out.then_ (HKR.out.then_ ((HKX.out _).then_ hk3 (fun _ h => h.elim)) (fun _ h => h.elim)) (fun _ h => h.elim)
        go_wp2_with fail
        go_ret
        exact ⟨by rw [← HX.out]; rfl, hk⟩
      · have hx0 : x = 0 := by omega
        subst hx0
        have HD := Lib.hid (show checkL P = checkL (P.drop (j + 1)) by rw [HE.out, hdr, if_neg hx])
        clear hx hdr hf hfe hmem hkr hkx hltw
        go_wp2_with fail
        refine (HC.out _).mono ?_
        rintro e w3 ⟨rfl, hk3⟩
        have HK3 := Lib.hid (HKR.out.then_ ((HKX.out _).then_ hk3 (fun _ h => h.elim)) (fun _ h => h.elim))
        clear hk3
        go_wp2_with fail
        go_roundw
        case rel => exact ⟨j + 1, by omega, by go_num, HD.out, HK3.out⟩
        case measure => simp [intOf]; omega
    · obtain rfl : j = n := by omega
      have hz : checkL P = 0 := by
        rw [HE.out, List.drop_of_length_le (by have := HN.out; omega), checkL]
      have HR2 := Lib.hid (show (if badF k j 0 P then (15 : Int) else 0) = r by
        have := HR.out
        rw [hz, if_neg (by omega)] at this
        rw [HN.out]
        exact this)
      have HKS := Lib.hid (HK2.out.then_ hkr (fun _ h => h.elim))
      have HSS := Lib.hid (HS2.out.kp hkr (fun _ _ h => h))
      have HBS := Lib.hid (HB2.out.kp hkr (fun h => h))
      obtain ⟨wx, hwx⟩ : ∃ wx : World, wr = wx := ⟨_, rfl⟩
      rw [hwx] at HKS HSS HBS ⊢
      clear hkr HKR hz hwx HE hlt
      go_wp2_with fail
      go_loopw [31] (fun i wr => ∃ m : Nat, m ≤ j ∧ i = .int .i64 m ∧ badF k j 0 P = badF k j m (P.drop m) ∧ Kp (fun _ => False) wx wr) (fun i _ => j - (intOf i).toNat)
      case atStart => exact ⟨0, Nat.zero_le _, rfl, rfl, Kp.refl _ _⟩
      case round =>
        obtain ⟨m, hm, rfl, he, hkr⟩ := hrel
        have HKR := Lib.hid hkr
        have HE := Lib.hid he
        clear he
        by_cases hlt : m < j
        · have hmP : m < P.length := by have := HN.out; omega
          obtain ⟨b, off, A3, c3, rfl, hb, hf, q0, q1, q2, q3, q4, q5⟩ := (HSS.out.kp hkr (fun _ _ h => h)).at_ hmP
          have hdr := badF_drop (n := j) (i := m) k hmP
          obtain ⟨f, hfe⟩ : ∃ f, P[m] = f := ⟨_, rfl⟩
          rw [hfe] at hf q0 q1 q2 q3 q4 q5 hdr
          have hi0 : (0 : Int) ≤ (m : Int) := by omega
          have hi1 : (m : Int) < (j : Int) := by omega
          have hkx : ∀ o, Kp (fun _ => False) wr (wr.alloc o) := fun o => (Kp.refl _ _).alloc o
          have hltw : ∀ o i, ok i → i < (wr.alloc o).heap.size := fun o i hi => Nat.lt_of_lt_of_le (HLT.out i hi) (Nat.le_trans HKS.out.size (Nat.le_trans hkr.size (hkx o).size))
          have HOP := Lib.hid (fun o => open_any ok _ f _ (hltw o) (hf.kp (hkx o) (fun _ _ h => h)))
          have HLE := Lib.hid (fun W (hk : Kp (fun _ => False) wr W) => least_any ok _ f W (hf.kp hk (fun _ _ h => h)))
          have HKX := Lib.hid hkx
          have HCK := Lib.hid (show ∀ W, Kp (fun _ => False) wr W → W.cell? ⟨w.heap.size, 0, none⟩ = some (.int .i64 k) from fun W hk => (HBS.out.kp (hkr.then_ hk (fun _ h => h.elim)) (fun h => h)).cell 0)
          have HNB := Lib.hid (HBS.out.kp hkr (fun h => h))
          rw [badI] at hdr
          generalize openR f = op at hdr HOP
          generalize leastR f = ls at hdr HLE
          have hk2 : (k == 2) = decide (k = 2) := by rw [Bool.eq_iff_iff]; simp
          have hls : (ls == 0) = decide (ls = 0) := by rw [Bool.eq_iff_iff]; simp
          have hmj : decide ((m : Int) < (j : Int) - 1) = decide (m + 1 < j) := by rw [Bool.eq_iff_iff]; simp; omega
          have HDR := Lib.hid hdr
          clear hf hfe hkx hltw hdr hkr
          generalize decide (k = 2) = pk at hk2 HDR
          generalize decide (ls = 0) = pl at hls HDR
          generalize decide (m + 1 < j) = pm at hmj HDR
          cases op <;> cases pk <;> cases pl <;> cases pm
          all_goals
            first
              | (have HD := Lib.hid (show badF k j 0 P = badF k j (m + 1) (P.drop (m + 1)) by rw [HE.out, HDR.out]; rfl)
                 clear HDR
                 go_wp2_with fail
                 refine (HOP.out _).mono ?_
                 rintro e w3 ⟨rfl, hk3⟩
                 have hk3' := (HKX.out _).then_ hk3 (fun _ h => h.elim)
                 have HK3 := Lib.hid hk3'
                 have ck := HCK.out w3 hk3'
                 have hbe := (Blk.new wr 27 #[.int .i64 f.a.k, .int .i64 f.a.s, .int .i64 f.a.lo, .int .i64 f.a.hi, .int .i64 f.a.st, .slice A3 f.l.length c3]).kp hk3 (fun h => h)
                 have d0 := hbe.cell 0
                 have d1 := hbe.cell 1
                 have d2 := hbe.cell 2
                 have d3 := hbe.cell 3
                 have d4 := hbe.cell 4
                 have d5 := hbe.cell 5
                 simp at d0 d1 d2 d3 d4 d5
                 clear hbe
                 clear hk3 hk3'
                 go_wp2_with (go_at_call 24; (refine (HLE.out _ HK3.out).mono ?_); rintro e w4 ⟨rfl, hk4⟩; have HK4 := Lib.hid (HK3.out.then_ hk4 (fun _ h => h.elim)); clear hk4)
                 go_roundw
                 case rel => exact ⟨m + 1, by omega, by go_num, HD.out, by first | exact HKR.out.then_ HK4.out (fun _ h => h.elim) | exact HKR.out.then_ HK3.out (fun _ h => h.elim)⟩
                 case measure => simp [intOf]; omega)
              | (have HR3 := Lib.hid (show r = 15 by rw [← HR2.out, HE.out, HDR.out]; rfl)
                 clear HDR
                 go_wp2_with fail
                 refine (HOP.out _).mono ?_
                 rintro e w3 ⟨rfl, hk3⟩
                 have hk3' := (HKX.out _).then_ hk3 (fun _ h => h.elim)
                 have HK3 := Lib.hid hk3'
                 have ck := HCK.out w3 hk3'
                 have hbe := (Blk.new wr 27 #[.int .i64 f.a.k, .int .i64 f.a.s, .int .i64 f.a.lo, .int .i64 f.a.hi, .int .i64 f.a.st, .slice A3 f.l.length c3]).kp hk3 (fun h => h)
                 have d0 := hbe.cell 0
                 have d1 := hbe.cell 1
                 have d2 := hbe.cell 2
                 have d3 := hbe.cell 3
                 have d4 := hbe.cell 4
                 have d5 := hbe.cell 5
                 simp at d0 d1 d2 d3 d4 d5
                 clear hbe
                 clear hk3 hk3'
                 go_wp2_with (go_at_call 24; (refine (HLE.out _ HK3.out).mono ?_); rintro e w4 ⟨rfl, hk4⟩; have HK4 := Lib.hid (HK3.out.then_ hk4 (fun _ h => h.elim)); clear hk4)
                 go_ret
                 first
                   | exact ⟨by rw [HR3.out]; rfl, HKS.out.then_ (HKR.out.then_ HK4.out (fun _ h => h.elim)) (fun _ h => h.elim)⟩
                   | exact ⟨by rw [HR3.out]; rfl, HKS.out.then_ (HKR.out.then_ HK3.out (fun _ h => h.elim)) (fun _ h => h.elim)⟩)
        · obtain rfl : m = j := by omega
          have hbf : badF k m 0 P = false := by
            rw [HE.out, List.drop_of_length_le (by have := HN.out; omega), badF]
          have HR3 := Lib.hid (show r = 0 by rw [← HR2.out, hbf]; rfl)
          clear hbf hkr
          go_wp2_with fail
          go_ret
          exact ⟨by rw [HR3.out]; rfl, HKS.out.then_ HKR.out (fun _ h => h.elim)⟩

set_option maxRecDepth 100000 in
theorem check_any (ok : Nat → Prop) (f : Fm) (v : Value) (w : World) (hlt : ∀ i, ok i → i < w.heap.size) (hv : FmR w ok v f) :
    Calls Try.prog 14 #[v] w fun e w' => e = .returned (.int .i64 (if deepB 8 f then 14 else checkR f)) ∧ Kp (fun _ => False) w w' := by
  have HD := Lib.hid (fun o => deep_any 8 (by omega) ok v f (w.alloc o) (hv.kp ((Kp.refl (fun _ => False) w).alloc o) (fun _ _ h => h)))
  have HC := Lib.hid (fun W (hk : Kp (fun _ => False) w W) => chk_any ok f v W (fun i hi => Nat.lt_of_lt_of_le (hlt i hi) hk.size) (hv.kp hk (fun _ _ h => h)))
  obtain ⟨sv, rfl, hok, A, c, rfl, _, _, _⟩ := hv
  have HK := Lib.hid (show ∀ o, Kp (fun _ => False) w (w.alloc o) from fun o => (Kp.refl _ _).alloc o)
  have HB := Lib.hid (Blk.new w 27 #[.int .i64 f.a.k, .int .i64 f.a.s, .int .i64 f.a.lo, .int .i64 f.a.hi, .int .i64 f.a.st, .slice A f.l.length c])
  generalize deepB 8 f = d at HD ⊢
  generalize checkR f = r at HC ⊢
  have hdd : (if d = true then (14 : Int) else r) = if d then 14 else r := rfl
  clear hok hlt
  cases d
  · show Calls Try.prog 14 _ w fun e w' => e = .returned (.int .i64 r) ∧ Kp (fun _ => False) w w'
    clear hdd
    go_enter Try.func14, Try.ntmps14
    go_wp2_with fail
    refine (HD.out _).mono ?_
    rintro e w1 ⟨rfl, hk1⟩
    have HK1 := Lib.hid ((HK.out _).then_ hk1 (fun _ h => h.elim))
    have hb1 := HB.out.kp hk1 (fun h => h)
    have c0 := hb1.cell 0
    have c1 := hb1.cell 1
    have c2 := hb1.cell 2
    have c3 := hb1.cell 3
    have c4 := hb1.cell 4
    have c5 := hb1.cell 5
    simp at c0 c1 c2 c3 c4 c5
    clear hk1 hb1
    go_wp2_with fail
    refine (HC.out _ HK1.out).mono ?_
    rintro e w2 ⟨rfl, hk2⟩
    have hk := HK1.out.then_ hk2 (fun _ h => h.elim)
    go_wp2_with fail
    go_ret
    exact ⟨rfl, hk⟩
  · show Calls Try.prog 14 _ w fun e w' => e = .returned (.int .i64 14) ∧ Kp (fun _ => False) w w'
    clear hdd
    go_enter Try.func14, Try.ntmps14
    go_wp2_with fail
    refine (HD.out _).mono ?_
    rintro e w1 ⟨rfl, hk1⟩
    have hk := (HK.out _).then_ hk1 (fun _ h => h.elim)
    go_wp2_with fail
    go_ret
    exact ⟨rfl, hk⟩
end Go.Proofs.Ytfcghajnnllmhaa

namespace Go.Proofs.Ytfcghajnnllmhaa
open Go.RowKit

/-- A value that reads as a form, of blocks that there are. -/
def FmW (w : World) (v : Value) (f : Fm) : Prop := FmR w (· < w.heap.size) v f
theorem FmW.kp {w w' : World} {v : Value} {f : Fm} (h : FmW w v f) (hk : Kp (fun _ => False) w w') : FmW w' v f :=
  (FmR.kp h hk (fun _ _ h => h)).mono (fun _ hi => Nat.lt_of_lt_of_le hi hk.size)
theorem FmW.check {w : World} {v : Value} {f : Fm} (h : FmW w v f) : Calls Try.prog 14 #[v] w fun e w' => e = .returned (.int .i64 (if deepB 8 f then 14 else checkR f)) ∧ Kp (fun _ => False) w w' :=
  check_any _ f v w (fun _ h => h) h
theorem FmW.least {w : World} {v : Value} {f : Fm} (h : FmW w v f) : Calls Try.prog 24 #[v] w fun e w' => e = .returned (.int .i64 (leastR f)) ∧ Kp (fun _ => False) w w' := least_any _ v f w h
theorem FmW.most {w : World} {v : Value} {f : Fm} (h : FmW w v f) : Calls Try.prog 25 #[v] w fun e w' => e = .returned (.int .i64 (mostR f)) ∧ Kp (fun _ => False) w w' := most_any _ v f w h
/-- A form without parts. -/
def flat (k s lo hi st : Int) : Value := .agg #[.int .i64 k, .int .i64 s, .int .i64 lo, .int .i64 hi, .int .i64 st, .slice none 0 0]
theorem FmW.flat (w : World) (k s lo hi st : Int) (hk : i64B k) (hs : i64B s) (hlo : i64B lo) (hhi : i64B hi) (hst : i64B st) : FmW w (.agg #[.int .i64 k, .int .i64 s, .int .i64 lo, .int .i64 hi, .int .i64 st, .slice none 0 0]) (.mk ⟨k, s, lo, hi, st⟩ []) :=
  ⟨_, rfl, ⟨hk, hs, hlo, hhi, hst⟩, FsR.nil⟩
theorem b0 : i64B 0 := by unfold i64B; omega
theorem b1 : i64B 1 := by unfold i64B; omega
theorem b2 : i64B 2 := by unfold i64B; omega

set_option maxRecDepth 100000 in
theorem number_any (s : Int) (w : World) : Calls Try.prog 17 #[.int .i64 s] w fun e w' => e = .returned (.agg #[.int .i64 0, .int .i64 s, .int .i64 0, .int .i64 0, .int .i64 0, .slice none 0 0]) ∧ Kp (fun _ => False) w w' := by
  have HK := Lib.hid (show ∀ o, Kp (fun _ => False) w (w.alloc o) from fun o => (Kp.refl _ _).alloc o)
  go_enter Try.func17, Try.ntmps17
  go_wp2_with fail
  refine bodyPost_ret (v := .agg #[.int .i64 0, .int .i64 s, .int .i64 0, .int .i64 0, .int .i64 0, .slice none 0 0]) (by simp [results, Try.results17, go_sem]) rfl ⟨rfl, HK.out _⟩
set_option maxRecDepth 100000 in
theorem opaque_any (s lo hi : Int) (w : World) : Calls Try.prog 15 #[.int .i64 s, .int .i64 lo, .int .i64 hi] w fun e w' => e = .returned (.agg #[.int .i64 1, .int .i64 s, .int .i64 lo, .int .i64 hi, .int .i64 1, .slice none 0 0]) ∧ Kp (fun _ => False) w w' := by
  have HK := Lib.hid (show ∀ o, Kp (fun _ => False) w (w.alloc o) from fun o => (Kp.refl _ _).alloc o)
  go_enter Try.func15, Try.ntmps15
  go_wp2_with fail
  refine bodyPost_ret (v := .agg #[.int .i64 1, .int .i64 s, .int .i64 lo, .int .i64 hi, .int .i64 1, .slice none 0 0]) (by simp [results, Try.results15, go_sem]) rfl ⟨rfl, HK.out _⟩
set_option maxRecDepth 100000 in
theorem rest_any (lo hi : Int) (w : World) : Calls Try.prog 18 #[.int .i64 lo, .int .i64 hi] w fun e w' => e = .returned (.agg #[.int .i64 4, .int .i64 0, .int .i64 lo, .int .i64 hi, .int .i64 0, .slice none 0 0]) ∧ Kp (fun _ => False) w w' := by
  have HK := Lib.hid (show ∀ o, Kp (fun _ => False) w (w.alloc o) from fun o => (Kp.refl _ _).alloc o)
  go_enter Try.func18, Try.ntmps18
  go_wp2_with fail
  refine bodyPost_ret (v := .agg #[.int .i64 4, .int .i64 0, .int .i64 lo, .int .i64 hi, .int .i64 0, .slice none 0 0]) (by simp [results, Try.results18, go_sem]) rfl ⟨rfl, HK.out _⟩
set_option maxRecDepth 100000 in
theorem fixed_any (n : Int) (w : World) : Calls Try.prog 27 #[.int .i64 n] w fun e w' => e = .returned (.agg #[.int .i64 5, .int .i64 0, .int .i64 n, .int .i64 0, .int .i64 0, .slice none 0 0]) ∧ Kp (fun _ => False) w w' := by
  have HK := Lib.hid (show ∀ o, Kp (fun _ => False) w (w.alloc o) from fun o => (Kp.refl _ _).alloc o)
  go_enter Try.func27, Try.ntmps27
  go_wp2_with fail
  refine bodyPost_ret (v := .agg #[.int .i64 5, .int .i64 0, .int .i64 n, .int .i64 0, .int .i64 0, .slice none 0 0]) (by simp [results, Try.results27, go_sem]) rfl ⟨rfl, HK.out _⟩

/-- One form, laid as a slice. -/
theorem FsR.one {w : World} {f : Fm} {A : Option Addr} {c : Nat} (h : FmW w (.agg #[.int .i64 f.a.k, .int .i64 f.a.s, .int .i64 f.a.lo, .int .i64 f.a.hi, .int .i64 f.a.st, .slice A f.l.length c]) f) {W : World} {B : Nat}
    (hk : Kp (fun _ => False) w W) (hB : Blk W B 27 #[.int .i64 f.a.k, .int .i64 f.a.s, .int .i64 f.a.lo, .int .i64 f.a.hi, .int .i64 f.a.st, .slice A f.l.length c]) :
    FsR W (· < W.heap.size) (.slice (some ⟨B, 0, none⟩) 1 1) [f] := by
  refine ⟨_, _, rfl, Nat.le_refl _, by simp, fun _ => ⟨B, 0, rfl, hB.lt, ?_⟩⟩
  rw [TRs]
  obtain ⟨sv, e, ht⟩ := FmR.tr (h.kp hk)
  simp only [Value.agg.injEq, Array.mk.injEq, List.cons.injEq, and_true, true_and] at e
  subst e
  refine ⟨⟨_, ht, fun j u hu => ?_⟩, by rw [TRs]; trivial⟩
  rw [Nat.zero_add, hB.cell]
  simpa using hu

set_option maxRecDepth 100000 in
set_option maxHeartbeats 1600000 in
theorem list_any (s lo hi st : Int) (f : Fm) (A : Option Addr) (c : Nat) (w : World) (hs : i64B s) (hlo : i64B lo) (hhi : i64B hi) (hst : i64B st)
    (hv : FmW w (.agg #[.int .i64 f.a.k, .int .i64 f.a.s, .int .i64 f.a.lo, .int .i64 f.a.hi, .int .i64 f.a.st, .slice A f.l.length c]) f) :
    Calls Try.prog 16 #[.int .i64 s, .int .i64 lo, .int .i64 hi, .int .i64 st, .agg #[.int .i64 f.a.k, .int .i64 f.a.s, .int .i64 f.a.lo, .int .i64 f.a.hi, .int .i64 f.a.st, .slice A f.l.length c]] w
      fun e w' => ∃ B, e = .returned (.agg #[.int .i64 2, .int .i64 s, .int .i64 lo, .int .i64 hi, .int .i64 st, .slice (some ⟨B, 0, none⟩) 1 1]) ∧ FmW w' (.agg #[.int .i64 2, .int .i64 s, .int .i64 lo, .int .i64 hi, .int .i64 st, .slice (some ⟨B, 0, none⟩) 1 1]) (.mk ⟨2, s, lo, hi, st⟩ [f]) ∧ Kp (fun _ => False) w w' := by
  have HK := Lib.hid (show ∀ o1 o2 o3, Kp (fun _ => False) w (((w.alloc o1).alloc o2).alloc o3) from fun o1 o2 o3 => (((Kp.refl _ _).alloc o1).alloc o2).alloc o3)
  have HV := Lib.hid hv
  have HB := Lib.hid (show ∀ o1 o2, Blk (((w.alloc o1).alloc o2).alloc (.cells #[.int .i64 f.a.k, .int .i64 f.a.s, .int .i64 f.a.lo, .int .i64 f.a.hi, .int .i64 f.a.st, .slice A f.l.length c] 27)) (w.heap.size + 2) 27 #[.int .i64 f.a.k, .int .i64 f.a.s, .int .i64 f.a.lo, .int .i64 f.a.hi, .int .i64 f.a.st, .slice A f.l.length c] from fun o1 o2 => by
    have h := Blk.new ((w.alloc o1).alloc o2) 27 #[.int .i64 f.a.k, .int .i64 f.a.s, .int .i64 f.a.lo, .int .i64 f.a.hi, .int .i64 f.a.st, .slice A f.l.length c]
    rw [World.size_alloc, World.size_alloc] at h
    exact h)
  clear hv
  go_enter Try.func16, Try.ntmps16
  go_wp2_with fail
  refine bodyPost_ret (v := .agg #[.int .i64 2, .int .i64 s, .int .i64 lo, .int .i64 hi, .int .i64 st, .slice (some ⟨w.heap.size + 2, 0, none⟩) 1 1]) (by simp [results, Try.results16, go_sem]) rfl ⟨_, rfl, ⟨_, rfl, ⟨b2, hs, hlo, hhi, hst⟩, FsR.one HV.out (HK.out _ _ _) (HB.out _ _)⟩, HK.out _ _ _⟩

set_option maxRecDepth 100000 in
set_option maxHeartbeats 1600000 in
theorem alive04 (w : World) : Calls Try.prog 19 #[] w fun e w' => e = .returned (.bool true) ∧ Kp (fun _ => False) w w' := by
  have e1 : (if deepB 8 (.mk ⟨2, 2, 2, 65534, 2⟩ [.mk ⟨0, 2, 0, 0, 0⟩ []]) then 14 else checkR (.mk ⟨2, 2, 2, 65534, 2⟩ [.mk ⟨0, 2, 0, 0, 0⟩ []])) = 0 := by kernel_rfl
  have e2 : leastR (.mk ⟨2, 2, 2, 65534, 2⟩ [.mk ⟨0, 2, 0, 0, 0⟩ []]) = 4 := by kernel_rfl
  have e3 : mostR (.mk ⟨2, 2, 2, 65534, 2⟩ [.mk ⟨0, 2, 0, 0, 0⟩ []]) = 65536 := by kernel_rfl
  have e4 : (if deepB 8 (.mk ⟨2, 1, 0, 9, 1⟩ [.mk ⟨5, 0, 0, 0, 0⟩ []]) then 14 else checkR (.mk ⟨2, 1, 0, 9, 1⟩ [.mk ⟨5, 0, 0, 0, 0⟩ []])) = 15 := by kernel_rfl
  have bb : ∀ n : Int, 0 ≤ n → n ≤ 100000 → i64B n := fun n h0 h1 => by unfold i64B; omega
  have HL1 := Lib.hid (fun W => list_any 2 2 65534 2 (.mk ⟨0, 2, 0, 0, 0⟩ []) none 0 W (bb _ (by omega) (by omega)) (bb _ (by omega) (by omega)) (bb _ (by omega) (by omega)) (bb _ (by omega) (by omega)) (FmW.flat W 0 2 0 0 0 b0 b2 b0 b0 b0))
  have HL2 := Lib.hid (fun W => list_any 1 0 9 1 (.mk ⟨5, 0, 0, 0, 0⟩ []) none 0 W (bb _ (by omega) (by omega)) (bb _ (by omega) (by omega)) (bb _ (by omega) (by omega)) (bb _ (by omega) (by omega)) (FmW.flat W 5 0 0 0 0 (bb _ (by omega) (by omega)) b0 b0 b0 b0))
  have HC1 := Lib.hid (fun W v (h : FmW W v (.mk ⟨2, 2, 2, 65534, 2⟩ [.mk ⟨0, 2, 0, 0, 0⟩ []])) => e1 ▸ h.check)
  have HC2 := Lib.hid (fun W v (h : FmW W v (.mk ⟨2, 2, 2, 65534, 2⟩ [.mk ⟨0, 2, 0, 0, 0⟩ []])) => e2 ▸ h.least)
  have HC3 := Lib.hid (fun W v (h : FmW W v (.mk ⟨2, 2, 2, 65534, 2⟩ [.mk ⟨0, 2, 0, 0, 0⟩ []])) => e3 ▸ h.most)
  have HC4 := Lib.hid (fun W v (h : FmW W v (.mk ⟨2, 1, 0, 9, 1⟩ [.mk ⟨5, 0, 0, 0, 0⟩ []])) => e4 ▸ h.check)
  clear e1 e2 e3 e4 bb
  go_enter Try.func19, Try.ntmps19
  go_wp2_with fail
  refine (number_any _ _).mono ?_
  rintro e w1 ⟨rfl, hk1⟩
  go_wp2_with fail
  refine (HL1.out _).mono ?_
  rintro e w2 ⟨B, rfl, hf2, hk2⟩
  have hk12 := hk1.then_ hk2 (fun _ h => h.elim)
  have hka := (Kp.refl (fun _ => False) w2).alloc (.cells #[.int .i64 2, .int .i64 2, .int .i64 2, .int .i64 65534, .int .i64 2, .slice (some ⟨B, 0, none⟩) 1 1] 27)
  have hb := Blk.new w2 27 #[.int .i64 2, .int .i64 2, .int .i64 2, .int .i64 65534, .int .i64 2, .slice (some ⟨B, 0, none⟩) 1 1]
  have HK2 := Lib.hid (hk12.then_ hka (fun _ h => h.elim))
  have HF2 := Lib.hid (hf2.kp hka)
  have HB := Lib.hid hb
  clear hk1 hk2 hk12 hf2 hka hb
  go_wp2_with fail
  refine (HC1.out _ _ HF2.out).mono ?_
  rintro e w3 ⟨rfl, hk3⟩
  have hb3 := HB.out.kp hk3 (fun h => h)
  have c0 := hb3.cell 0
  have c1 := hb3.cell 1
  have c2 := hb3.cell 2
  have c3 := hb3.cell 3
  have c4 := hb3.cell 4
  have c5 := hb3.cell 5
  simp at c0 c1 c2 c3 c4 c5
  have HB3 := Lib.hid hb3
  have HK3 := Lib.hid (HK2.out.then_ hk3 (fun _ h => h.elim))
  have HF3 := Lib.hid (HF2.out.kp hk3)
  clear hk3 hb3
  go_wp2_with fail
  refine (HC2.out _ _ HF3.out).mono ?_
  rintro e w4 ⟨rfl, hk4⟩
  have hb4 := HB3.out.kp hk4 (fun h => h)
  have d0 := hb4.cell 0
  have d1 := hb4.cell 1
  have d2 := hb4.cell 2
  have d3 := hb4.cell 3
  have d4 := hb4.cell 4
  have d5 := hb4.cell 5
  simp at d0 d1 d2 d3 d4 d5
  have HK4 := Lib.hid (HK3.out.then_ hk4 (fun _ h => h.elim))
  have HF4 := Lib.hid (HF3.out.kp hk4)
  clear hk4 hb4
  go_wp2_with fail
  refine (HC3.out _ _ HF4.out).mono ?_
  rintro e w5 ⟨rfl, hk5⟩
  have HK5 := Lib.hid (HK4.out.then_ hk5 (fun _ h => h.elim))
  clear hk5
  go_wp2_with fail
  refine (fixed_any _ _).mono ?_
  rintro e w6 ⟨rfl, hk6⟩
  have HK6 := Lib.hid (HK5.out.then_ hk6 (fun _ h => h.elim))
  clear hk6
  go_wp2_with fail
  refine (HL2.out _).mono ?_
  rintro e w7 ⟨B7, rfl, hf7, hk7⟩
  have HK7 := Lib.hid (HK6.out.then_ hk7 (fun _ h => h.elim))
  have HF7 := Lib.hid hf7
  clear hk7 hf7
  go_wp2_with fail
  refine (HC4.out _ _ HF7.out).mono ?_
  rintro e w8 ⟨rfl, hk8⟩
  go_wp2_with fail
  go_ret
  exact ⟨rfl, HK7.out.then_ hk8 (fun _ h => h.elim)⟩
end Go.Proofs.Ytfcghajnnllmhaa

namespace Go.Proofs.Ytfcghajnnllmhaa
open Go.RowKit

set_option maxRecDepth 100000 in
theorem rparts_any (ok : Nat → Prop) (v : Value) (f : Fm) (w : World) (hv : FmR w ok v f) :
    Calls Try.prog 47 #[v] w fun e w' => ∃ A n c, e = .returned (.slice A n c) ∧ n = (partsF f).length ∧ FsR w' ok (.slice A n c) (partsF f) ∧ Kp (fun _ => False) w w' := by
  obtain ⟨sv, rfl, hok, hs⟩ := hv
  have hka : ∀ o, Kp (fun _ => False) w (w.alloc o) := fun o => (Kp.refl _ _).alloc o
  have HS := Lib.hid (fun o => hs.kp (hka o) (fun _ _ h => h))
  have HK := Lib.hid hka
  obtain ⟨A, c, rfl, h1, h2, _⟩ := id hs
  obtain ⟨P, hP⟩ : ∃ P, partsF f = P := ⟨_, rfl⟩
  have HP := Lib.hid hP
  rw [hP]
  have hk := hok.k
  by_cases h2' : f.a.k = 2
  · have hP2 : P = f.l := by rw [← hP, partsF, if_pos (.inl h2')]
    have t : (f.a.k == 2) = true := by simpa using h2'
    subst hP2
    clear hka hs hP h2' HP hok hk
    go_enter Try.func47, Try.ntmps47
    go_wp2_with fail
    go_ret
    exact ⟨_, _, _, rfl, rfl, HS.out _, HK.out _⟩
  · by_cases h3 : f.a.k = 3
    · have hP2 : P = f.l := by rw [← hP, partsF, if_pos (.inr h3)]
      have t : (f.a.k == 2) = false := by simpa using h2'
      have t2 : (f.a.k == 3) = true := by simpa using h3
      subst hP2
      clear hka hs hP h2' h3 HP hok hk
      go_enter Try.func47, Try.ntmps47
      go_wp2_with fail
      go_ret
      exact ⟨_, _, _, rfl, rfl, HS.out _, HK.out _⟩
    · have hP2 : P = [] := by rw [← hP, partsF, if_neg (by omega)]
      have t : (f.a.k == 2) = false := by simpa using h2'
      have t2 : (f.a.k == 3) = false := by simpa using h3
      subst hP2
      clear hka hs hP h2' h3 HP hok hk
      go_enter Try.func47, Try.ntmps47
      go_wp2_with fail
      go_ret
      exact ⟨_, _, _, rfl, rfl, FsR.nil, HK.out _⟩

mutual
/-- How many forms there are; no more than so many (and one) are told. -/
def cntR : Nat → Fm → Nat
  | m, .mk a l => if a.k = 2 ∨ a.k = 3 then cntL m 1 l else 1
def cntL : Nat → Nat → List Fm → Nat
  | _, n, [] => n
  | m, n, f :: t => if n ≤ m then cntL m (n + cntR (m - n) f) t else n
end
theorem cntR_parts (m : Nat) (f : Fm) : cntR m f = cntL m 1 (partsF f) := by
  obtain ⟨a, l⟩ := f
  rw [cntR]
  show _ = cntL m 1 (if a.k = 2 ∨ a.k = 3 then l else [])
  split
  · rfl
  · rw [cntL]
theorem cntL_drop {l : List Fm} {k m n : Nat} (hk : k < l.length) : cntL m n (l.drop k) = if n ≤ m then cntL m (n + cntR (m - n) l[k]) (l.drop (k + 1)) else n := by
  rw [List.drop_eq_getElem_cons hk, cntL]
theorem cntL_end {l : List Fm} {k m n : Nat} (hk : ¬ (k < l.length ∧ n ≤ m)) : cntL m n (l.drop k) = n := by
  by_cases h : k < l.length
  · rw [cntL_drop h, if_neg (by omega)]
  · rw [List.drop_of_length_le (by omega), cntL]
theorem cnt_bound (f : Fm) : ∀ m, 1 ≤ cntR m f ∧ cntR m f ≤ m + 1 := by
  induction f using RT.induct with
  | h a l ih =>
  intro m
  rw [cntR]
  split
  · have key : ∀ (t : List Fm), (∀ f ∈ t, ∀ m, 1 ≤ cntR m f ∧ cntR m f ≤ m + 1) → ∀ n, n ≤ m + 1 → n ≤ cntL m n t ∧ cntL m n t ≤ m + 1 := by
      intro t
      induction t with
      | nil => intro _ n hn; rw [cntL]; omega
      | cons f t ih2 =>
        intro hf n hn
        rw [cntL]
        split
        · have h1 := hf f (by simp) (m - n)
          have h2 := ih2 (fun g hg => hf g (by simp [hg])) (n + cntR (m - n) f) (by omega)
          omega
        · omega
    exact key l ih 1 (by omega)
  · omega

set_option maxRecDepth 100000 in
set_option maxHeartbeats 3200000 in
theorem count_any (ok : Nat → Prop) : ∀ (f : Fm) (m : Nat) (v : Value) (w : World), m ≤ 100000 → FmR w ok v f →
    Calls Try.prog 45 #[v, .int .i64 (m : Int)] w fun e w' => e = .returned (.int .i64 (cntR m f : Nat)) ∧ Kp (fun _ => False) w w' := by
  intro f
  induction f using RT.induct with
  | h a l ih =>
  intro m v w hm hv
  obtain ⟨r, hr⟩ : ∃ r, cntR m (.mk a l) = r := ⟨_, rfl⟩
  rw [hr]
  rw [cntR_parts] at hr
  have hka : ∀ o, Kp (fun _ => False) w (w.alloc o) := fun o => (Kp.refl _ _).alloc o
  have HPA := Lib.hid (fun o => rparts_any ok v (.mk a l) (w.alloc o) (hv.kp (hka o) (fun _ _ h => h)))
  have IH := Lib.hid (fun f (hmm : f ∈ partsF (.mk a l)) => ih f (partsF_mem hmm))
  generalize partsF (.mk a l) = P at hr HPA IH
  obtain ⟨k, s, lo, hi, st⟩ := a
  obtain ⟨A, c, rfl, h1, h2, _, _, _, _, _, _⟩ := hv.parts
  have HK := Lib.hid hka
  have HR := Lib.hid hr
  have HM := Lib.hid hm
  clear hv ih hr hka hm
  go_enter Try.func45, Try.ntmps45
  go_wp2_with fail
  refine (HPA.out _).mono ?_
  rintro e w1 ⟨A2, n, cp, rfl, hn, hs1, hk1⟩
  have HK1 := Lib.hid ((HK.out _).then_ hk1 (fun _ h => h.elim))
  have HS1 := Lib.hid hs1
  have hnc : n ≤ cp ∧ n ≤ 140737488355328 := by
    obtain ⟨A', c', e, q1, q2, _⟩ := hs1
    injection e with _ e2 e3
    omega
  obtain ⟨hn1, hn2⟩ := hnc
  have HN := Lib.hid hn
  clear hk1 hs1 hn
  go_wp2_with fail
  go_loopw [7, 5] (fun i nv wr => ∃ (j q : Nat), j ≤ n ∧ i = .int .i64 j ∧ nv = .int .i64 q ∧ cntL m 1 P = cntL m q (P.drop j) ∧ 1 ≤ q ∧ q ≤ m + 1 ∧ Kp (fun _ => False) w1 wr) (fun i _ _ => n - (intOf i).toNat)
  case atStart => exact ⟨0, 1, Nat.zero_le _, rfl, rfl, rfl, Nat.le_refl _, by omega, Kp.refl _ _⟩
  case round =>
    obtain ⟨j, q, hj, rfl, rfl, he, hq1, hq2, hkr⟩ := hrel
    have HKR := Lib.hid hkr
    have HE := Lib.hid he
    have hm5 := HM.out
    clear he
    by_cases hlt : j < n
    · by_cases hqm : q ≤ m
      · have hjP : j < P.length := by have := HN.out; omega
        obtain ⟨b, off, A3, c3, rfl, hb, hf, q0, q1, q2, q3, q4, q5⟩ := (HS1.out.kp hkr (fun _ _ h => h)).at_ hjP
        have hmem : P[j] ∈ P := List.getElem_mem hjP
        have hdr := cntL_drop (m := m) (n := q) hjP
        rw [if_pos hqm] at hdr
        obtain ⟨f, hfe⟩ : ∃ f, P[j] = f := ⟨_, rfl⟩
        rw [hfe] at hf q0 q1 q2 q3 q4 q5 hmem hdr
        have hbd := cnt_bound f (m - q)
        have hi0 : (0 : Int) ≤ (j : Int) := by omega
        have hi1 : (j : Int) < (n : Int) := by omega
        have hqm' : decide ((q : Int) ≤ (m : Int)) = true := by simp; omega
        have HC := Lib.hid (fun W (hk : Kp (fun _ => False) wr W) => IH.out f hmem (m - q) _ W (by omega) (hf.kp hk (fun _ _ h => h)))
        generalize cntR (m - q) f = x at hdr HC hbd
        have HD := Lib.hid (show cntL m 1 P = cntL m (q + x) (P.drop (j + 1)) by rw [HE.out, hdr])
        have hsub : IntKind.i64.wrap ((m : Int) - (q : Int)) = ((m - q : Nat) : Int) := by
          rw [show (m : Int) - (q : Int) = ((m - q : Nat) : Int) by omega]
          exact IntWalk.i64_in _ (by omega)
        have hadd : IntKind.i64.wrap ((q : Int) + (x : Int)) = ((q + x : Nat) : Int) := by
          rw [show (q : Int) + (x : Int) = ((q + x : Nat) : Int) by omega]
          exact IntWalk.i64_in _ (by omega)
        have hqq : q + x ≤ m + 1 := by omega
        clear hdr hf hfe hmem hkr hbd
        go_wp2_with fail
        refine (HC.out _ (Kp.refl _ _)).mono ?_
        rintro e w3 ⟨rfl, hk3⟩
        have HK3 := Lib.hid (HKR.out.then_ hk3 (fun _ h => h.elim))
        clear hk3
        go_wp2_with fail
        go_roundw
        case rel => exact ⟨j + 1, q + x, by omega, by go_num, by first | rfl | rw [hadd], HD.out, by omega, hqq, HK3.out⟩
        case measure => simp [intOf]; omega
      · have hend := cntL_end (l := P) (k := j) (m := m) (n := q) (by omega)
        have HX := Lib.hid (show q = r by rw [← HR.out, HE.out, hend])
        have hqm' : decide ((q : Int) ≤ (m : Int)) = false := by simp; omega
        have hi1 : (j : Int) < (n : Int) := by omega
        clear hend hkr
        go_wp2_with fail
        go_ret
        exact ⟨by rw [HX.out]; rfl, HK1.out.then_ HKR.out (fun _ h => h.elim)⟩
    · have hend := cntL_end (l := P) (k := j) (m := m) (n := q) (by have := HN.out; omega)
      have HX := Lib.hid (show q = r by rw [← HR.out, HE.out, hend])
      have hi1 : decide ((j : Int) < (n : Int)) = false := by simp; omega
      clear hend hkr
      go_wp2_with fail
      go_ret
      exact ⟨by rw [HX.out]; rfl, HK1.out.then_ HKR.out (fun _ h => h.elim)⟩

set_option maxRecDepth 100000 in
/-- Are there more forms in one than are looked at? -/
theorem great04 (ok : Nat → Prop) (f : Fm) (v : Value) (w : World) (hv : FmR w ok v f) :
    Calls Try.prog 20 #[v] w fun e w' => e = .returned (.bool (decide (500 < cntR 500 f))) ∧ Kp (fun _ => False) w w' := by
  have hka : ∀ o, Kp (fun _ => False) w (w.alloc o) := fun o => (Kp.refl _ _).alloc o
  have HK := Lib.hid hka
  have HC := Lib.hid (fun o => count_any ok f 500 v (w.alloc o) (by omega) (hv.kp (hka o) (fun _ _ h => h)))
  obtain ⟨sv, rfl, hok, A, c, rfl, _, _, _⟩ := hv
  generalize cntR 500 f = x at HC ⊢
  clear hka hok
  go_enter Try.func20, Try.ntmps20
  go_wp2_with fail
  refine (HC.out _).mono ?_
  rintro e w1 ⟨rfl, hk1⟩
  have hk := (HK.out _).then_ hk1 (fun _ h => h.elim)
  have t : decide ((500 : Int) < (x : Int)) = decide (500 < x) := by rw [Bool.eq_iff_iff]; simp only [decide_eq_true_eq]; omega
  clear hk1
  go_wp2_with fail
  go_ret
  exact ⟨by first | rfl | rw [t], hk⟩
end Go.Proofs.Ytfcghajnnllmhaa

namespace Go.Proofs.Ytfcghajnnllmhaa
open Go.RowKit

/-- The fields that play a part. -/
structure B5 where
  (a b c d e : Int)
deriving DecidableEq
def B5.v (x : B5) : Value := .agg #[.int .i64 x.a, .int .i64 x.b, .int .i64 x.c, .int .i64 x.d, .int .i64 x.e]
def bareF (a : FH) : B5 :=
  if a.k = 0 then ⟨a.k, a.s, 0, 0, 0⟩ else if a.k = 1 ∨ a.k = 2 then ⟨a.k, a.s, a.lo, a.hi, a.st⟩ else if a.k = 4 then ⟨a.k, 0, a.lo, a.hi, 0⟩ else if a.k = 5 then ⟨a.k, 0, a.lo, 0, 0⟩ else ⟨a.k, 0, 0, 0, 0⟩
open Go.RowKit in
theorem eq_int_ (w : World) (n : Nat) (x y : Int) : (Op.equalIn (n + 1) 3 (.int .i64 x) (.int .i64 y)).run Try.prog w = .ok (decide (x = y)) w := by
  rw [Op.equalIn.eq_def]
  simp [run_underlying Try.underlying3, go_sem]
  rw [Bool.eq_iff_iff]
  simp
open Go.RowKit in
theorem eq5 (w : World) (x y : B5) : (Op.equalIn 10000 66 x.v y.v).run Try.prog w = .ok (decide (x = y)) w := by
  show (Op.equalIn (9998 + 2) 66 x.v y.v).run Try.prog w = _
  simp only [B5.v]
  rw [Op.equalIn.eq_def]
  have e : ∀ x y : B5, decide (x = y) = (decide (x.a = y.a) && (decide (x.b = y.b) && (decide (x.c = y.c) && (decide (x.d = y.d) && decide (x.e = y.e))))) := by
    intro x y
    obtain ⟨a, b, c, e, f⟩ := x
    obtain ⟨a', b', c', e', f'⟩ := y
    simp
  rw [e]
  simp [run_underlying Try.underlying66, List.range', go_sem, eq_int_]
  by_cases h0 : x.a = y.a <;> simp [h0]
  by_cases h1 : x.b = y.b <;> simp [h1]
  by_cases h2 : x.c = y.c <;> simp [h2]
  by_cases h3 : x.d = y.d <;> simp [h3]
  by_cases h4 : x.e = y.e <;> simp [h4]

end Go.Proofs.Ytfcghajnnllmhaa

namespace Go.Proofs.Ytfcghajnnllmhaa
open Go.RowKit

mutual
/-- Are two forms the same? -/
def sameR : Fm → Fm → Bool
  | .mk a l, g => decide (bareF a = bareF g.a) && (if a.k = 2 ∨ a.k = 3 then sameL l g.l else true)
def sameL : List Fm → List Fm → Bool
  | [], m => m.isEmpty
  | _ :: _, [] => false
  | f :: t, g :: u => sameR f g && sameL t u
end
theorem bare_k {a b : FH} (h : bareF a = bareF b) : a.k = b.k := by
  have e : ∀ x : FH, (bareF x).a = x.k := by
    intro x
    unfold bareF
    split
    · rfl
    · split
      · rfl
      · split
        · rfl
        · split <;> rfl
  rw [← e a, ← e b, h]
theorem sameR_parts (f g : Fm) : sameR f g = (decide (bareF f.a = bareF g.a) && sameL (partsF f) (partsF g)) := by
  obtain ⟨a, l⟩ := f
  obtain ⟨b, m⟩ := g
  rw [sameR]
  show (decide (bareF a = bareF b) && _) = (decide (bareF a = bareF b) && sameL (if a.k = 2 ∨ a.k = 3 then l else []) (if b.k = 2 ∨ b.k = 3 then m else []))
  by_cases h : bareF a = bareF b
  · rw [bare_k h]
    split
    · rfl
    · simp [sameL]
  · simp [h]
theorem sameL_len {l m : List Fm} (h : l.length ≠ m.length) : sameL l m = false := by
  induction l generalizing m with
  | nil => cases m <;> simp_all [sameL]
  | cons f t ih =>
    cases m with
    | nil => rw [sameL]
    | cons g u => rw [sameL, ih (by simpa using h), Bool.and_false]
theorem sameL_drop {l m : List Fm} {k : Nat} (h1 : k < l.length) (h2 : k < m.length) : sameL (l.drop k) (m.drop k) = (sameR l[k] m[k] && sameL (l.drop (k + 1)) (m.drop (k + 1))) := by
  rw [List.drop_eq_getElem_cons h1, List.drop_eq_getElem_cons h2, sameL]
theorem sameL_end {l m : List Fm} {k : Nat} (h1 : l.length ≤ k) (h2 : m.length ≤ k) : sameL (l.drop k) (m.drop k) = true := by
  rw [List.drop_of_length_le h1, List.drop_of_length_le h2, sameL]
  rfl
theorem sameR_refl (f : Fm) : sameR f f = true := by
  induction f using RT.induct with
  | h a l ih =>
  have key : ∀ t : List Fm, (∀ f ∈ t, sameR f f = true) → sameL t t = true := by
    intro t
    induction t with
    | nil => intro _; rfl
    | cons f t ih2 =>
      intro h
      rw [sameL, h f (by simp), ih2 (fun g hg => h g (by simp [hg]))]
      rfl
  rw [sameR]
  simp [RT.a, RT.l, key l ih]
/-- How two elements are compared. -/
def Cmp (w : World) (ok ok2 : Nat → Prop) (l : List Fm) : Prop :=
  ∀ f, f ∈ l → ∀ (g : Fm) (v u : Value) (W : World), FmR W ok v f → FmR W ok2 u g → Kp (fun _ => False) w W → Calls Try.prog 29 #[v, u] W fun e w' => e = .returned (.bool (sameR f g)) ∧ Kp (fun _ => False) W w'

end Go.Proofs.Ytfcghajnnllmhaa

namespace Go.Proofs.Ytfcghajnnllmhaa
open Go.RowKit

end Go.Proofs.Ytfcghajnnllmhaa

namespace Go.Proofs.Ytfcghajnnllmhaa
open Go.RowKit

/-- The fields that play a part, compared as the document does. -/
def g1 (k s s' : Int) : Bool := decide (k = 0 ∨ k = 1 ∨ k = 2) && (s != s')
def g2 (k lo lo' hi hi' st st' : Int) : Bool := decide (k = 1 ∨ k = 2) && ((lo != lo') || ((hi != hi') || (st != st')))
def g3 (k lo lo' hi hi' : Int) : Bool := (decide (k = 4 ∨ k = 5) && (lo != lo')) || (decide (k = 4) && (hi != hi'))
theorem FsR.len6 {w : World} {ok : Nat → Prop} {A : Option Addr} {n c : Nat} {l : List Fm} (h : FsR w ok (.slice A n c) l) : n ≤ c ∧ n ≤ 140737488355328 := by
  obtain ⟨A', c', e, h1, h2, _⟩ := h
  injection e with _ e2 e3
  omega
theorem bare_iff (k s lo hi st k' s' lo' hi' st' : Int) : decide (bareF ⟨k, s, lo, hi, st⟩ = bareF ⟨k', s', lo', hi', st'⟩) = (!(k != k') && (!g1 k s s' && (!g2 k lo lo' hi hi' st st' && !g3 k lo lo' hi hi'))) := by
  by_cases hk : k = k'
  rotate_left
  · have h1 : ¬ bareF ⟨k, s, lo, hi, st⟩ = bareF ⟨k', s', lo', hi', st'⟩ := fun h => hk (bare_k h)
    have h2 : (k != k') = true := by simpa using hk
    rw [decide_eq_false h1, h2]
    rfl
  subst hk
  have h2 : (k != k) = false := by simp
  rw [h2]
  by_cases k0 : k = 0
  · subst k0
    simp [bareF, g1, g2, g3]
    by_cases a : s = s' <;> simp [a]
  by_cases k1 : k = 1 ∨ k = 2
  · have h4 : ¬ k = 4 := by omega
    have h5 : ¬ k = 5 := by omega
    simp [bareF, g1, g2, g3, k0, k1, h4, h5]
    by_cases a : s = s' <;> by_cases b : lo = lo' <;> by_cases c : hi = hi' <;> by_cases d : st = st' <;> simp [a, b, c, d]
  by_cases k4 : k = 4
  · subst k4
    simp [bareF, g1, g2, g3]
    by_cases b : lo = lo' <;> by_cases c : hi = hi' <;> simp [b, c]
  by_cases k5 : k = 5
  · subst k5
    simp [bareF, g1, g2, g3]
    by_cases b : lo = lo' <;> simp [b]
  · simp [bareF, g1, g2, g3, k0, k1, k4, k5]

set_option maxRecDepth 100000 in
set_option maxHeartbeats 12800000 in
theorem rsame_any (ok ok2 : Nat → Prop) : ∀ (f g : Fm) (v u : Value) (w : World), FmR w ok v f → FmR w ok2 u g →
    Calls Try.prog 28 #[v, u] w fun e w' => e = .returned (.bool (sameR f g)) ∧ Kp (fun _ => False) w w' := by
  intro f
  induction f using RT.induct with
  | h a l ih =>
  intro g v u w hv hu
  obtain ⟨k, s, lo, hi, st⟩ := a
  obtain ⟨⟨k', s', lo', hi', st'⟩, m⟩ := g
  obtain ⟨r, hr⟩ : ∃ r, sameR (.mk ⟨k, s, lo, hi, st⟩ l) (.mk ⟨k', s', lo', hi', st'⟩ m) = r := ⟨_, rfl⟩
  rw [hr]
  rw [sameR_parts] at hr
  have hr' : ((!(k != k') && (!g1 k s s' && (!g2 k lo lo' hi hi' st st' && !g3 k lo lo' hi hi'))) && sameL (partsF (.mk ⟨k, s, lo, hi, st⟩ l)) (partsF (.mk ⟨k', s', lo', hi', st'⟩ m))) = r := by
    rw [← bare_iff]
    exact hr
  have HPA := Lib.hid (fun W hk => rparts_any ok v (.mk ⟨k, s, lo, hi, st⟩ l) W (hv.kp (S := fun _ => False) (w := w) (w' := W) hk (fun _ _ h => h)))
  have HPB := Lib.hid (fun W hk => rparts_any ok2 u (.mk ⟨k', s', lo', hi', st'⟩ m) W (hu.kp (S := fun _ => False) (w := w) (w' := W) hk (fun _ _ h => h)))
  have IH := Lib.hid (fun f (hmm : f ∈ partsF (.mk ⟨k, s, lo, hi, st⟩ l)) => ih f (partsF_mem hmm))
  generalize partsF (.mk ⟨k, s, lo, hi, st⟩ l) = P at hr' HPA IH
  generalize partsF (.mk ⟨k', s', lo', hi', st'⟩ m) = P' at hr' HPB
  obtain ⟨A, c, rfl, _, _, _, _, _, _, _, _⟩ := hv.parts
  obtain ⟨A2, c2, rfl, _, _, _, _, _, _, _, _⟩ := hu.parts
  have ka : Kp (fun _ => False) w ((w.alloc (.cells #[.int .i64 k, .int .i64 s, .int .i64 lo, .int .i64 hi, .int .i64 st, .slice A l.length c] 27)).alloc (.cells #[.int .i64 k', .int .i64 s', .int .i64 lo', .int .i64 hi', .int .i64 st', .slice A2 m.length c2] 27)) := ((Kp.refl _ _).alloc _).alloc _
  have q2 := (Blk.new w 27 #[.int .i64 k, .int .i64 s, .int .i64 lo, .int .i64 hi, .int .i64 st, .slice A l.length c]).alloc (.cells #[.int .i64 k', .int .i64 s', .int .i64 lo', .int .i64 hi', .int .i64 st', .slice A2 m.length c2] 27)
  have q3 := Blk.new (w.alloc (.cells #[.int .i64 k, .int .i64 s, .int .i64 lo, .int .i64 hi, .int .i64 st, .slice A l.length c] 27)) 27 #[.int .i64 k', .int .i64 s', .int .i64 lo', .int .i64 hi', .int .i64 st', .slice A2 m.length c2]
  rw [World.size_alloc] at q3
  have HKA := Lib.hid ka
  have HQ2 := Lib.hid q2
  have HQ3 := Lib.hid q3
  have HR := Lib.hid hr'
  clear ka q2 q3 hr hr' hv hu ih
  go_enter Try.func28, Try.ntmps28
  go_upto_region 1 with fail
  generalize (w.alloc (.cells #[.int .i64 k, .int .i64 s, .int .i64 lo, .int .i64 hi, .int .i64 st, .slice A l.length c] 27)).alloc (.cells #[.int .i64 k', .int .i64 s', .int .i64 lo', .int .i64 hi', .int .i64 st', .slice A2 m.length c2] 27) = W1 at HKA HQ2 HQ3 ⊢
  have x0 := HQ2.out.cell 0
  have x1 := HQ2.out.cell 1
  have x2 := HQ2.out.cell 2
  have x3 := HQ2.out.cell 3
  have x4 := HQ2.out.cell 4
  have x5 := HQ2.out.cell 5
  have y0 := HQ3.out.cell 0
  have y1 := HQ3.out.cell 1
  have y2 := HQ3.out.cell 2
  have y3 := HQ3.out.cell 3
  have y4 := HQ3.out.cell 4
  have y5 := HQ3.out.cell 5
  simp at x0 x1 x2 x3 x4 x5 y0 y1 y2 y3 y4 y5
  obtain ⟨tk, htk⟩ : ∃ t, (k != k') = t := ⟨_, rfl⟩
  obtain ⟨t1, ht1⟩ : ∃ t, g1 k s s' = t := ⟨_, rfl⟩
  obtain ⟨t2, ht2⟩ : ∃ t, g2 k lo lo' hi hi' st st' = t := ⟨_, rfl⟩
  obtain ⟨t3, ht3⟩ : ∃ t, g3 k lo lo' hi hi' = t := ⟨_, rfl⟩
  rw [htk, ht1, ht2, ht3] at HR
  cases tk with
  | true =>
    have HX := Lib.hid (show r = false by rw [← HR.out]; rfl)
    clear HR ht1 ht2 ht3
    go_wp2_with fail
    go_ret
    exact ⟨by rw [HX.out]; rfl, HKA.out⟩
  | false =>
  go_upto_region 3 with fail
  go_cut [33] (fun cv wx => cv = .bool t1 ∧ wx = W1)
  case first =>
    clear HR ht2 ht3 htk
    unfold g1 at ht1
    obtain ⟨ts, hts⟩ : ∃ t, (s != s') = t := ⟨_, rfl⟩
    rw [hts] at ht1
    by_cases k0 : k = 0
    · have e0 : (k == 0) = true := by simpa using k0
      simp [k0] at ht1
      subst ht1
      clear k0
      go_wp2_with fail
      go_meet
      exact ⟨rfl, rfl⟩
    · have e0 : (k == 0) = false := by simpa using k0
      by_cases k1 : k = 1
      · have e1 : (k == 1) = true := by simpa using k1
        simp [k1] at ht1
        subst ht1
        clear k0 k1
        go_wp2_with fail
        go_meet
        exact ⟨rfl, rfl⟩
      · have e1 : (k == 1) = false := by simpa using k1
        by_cases k2 : k = 2
        · have e2 : (k == 2) = true := by simpa using k2
          simp [k2] at ht1
          subst ht1
          clear k0 k1 k2
          go_wp2_with fail
          go_meet
          exact ⟨rfl, rfl⟩
        · have e2 : (k == 2) = false := by simpa using k2
          simp [k0, k1, k2] at ht1
          subst ht1
          clear k0 k1 k2
          go_wp2_with fail
          go_meet
          exact ⟨rfl, rfl⟩
  case rest =>
  obtain ⟨rfl, hwe⟩ := hcut
  rw [hwe]
  clear hwe
  cases t1 with
  | true =>
    have HX := Lib.hid (show r = false by rw [← HR.out]; rfl)
    clear HR ht1 ht2 ht3
    go_wp2_with fail
    go_ret
    exact ⟨by rw [HX.out]; rfl, HKA.out⟩
  | false =>
  go_upto_region 5 with fail
  go_cut [62] (fun cv wx => cv = .bool t2 ∧ wx = W1)
  case first =>
    clear HR ht1 ht3 htk
    unfold g2 at ht2
    obtain ⟨tlo, hlo⟩ : ∃ t, (lo != lo') = t := ⟨_, rfl⟩
    obtain ⟨thi, hhi⟩ : ∃ t, (hi != hi') = t := ⟨_, rfl⟩
    obtain ⟨tst, hst⟩ : ∃ t, (st != st') = t := ⟨_, rfl⟩
    rw [hlo, hhi, hst] at ht2
    by_cases k1 : k = 1
    · have e1 : (k == 1) = true := by simpa using k1
      simp [k1] at ht2
      clear k1
      cases tlo <;> cases thi
      all_goals
        simp at ht2
        subst ht2
        go_wp2_with fail
        go_meet
        exact ⟨rfl, rfl⟩
    · have e1 : (k == 1) = false := by simpa using k1
      by_cases k2 : k = 2
      · have e2 : (k == 2) = true := by simpa using k2
        simp [k2] at ht2
        clear k1 k2
        cases tlo <;> cases thi
        all_goals
          simp at ht2
          subst ht2
          go_wp2_with fail
          go_meet
          exact ⟨rfl, rfl⟩
      · have e2 : (k == 2) = false := by simpa using k2
        simp [k1, k2] at ht2
        subst ht2
        clear k1 k2
        go_wp2_with fail
        go_meet
        exact ⟨rfl, rfl⟩
  case rest =>
  obtain ⟨rfl, hwe⟩ := hcut
  rw [hwe]
  clear hwe
  cases t2 with
  | true =>
    have HX := Lib.hid (show r = false by rw [← HR.out]; rfl)
    clear HR ht1 ht2 ht3
    go_wp2_with fail
    go_ret
    exact ⟨by rw [HX.out]; rfl, HKA.out⟩
  | false =>
  go_upto_region 7 with fail
  go_cut [89] (fun cv wx => cv = .bool t3 ∧ wx = W1)
  case first =>
    clear HR ht1 ht2 htk
    unfold g3 at ht3
    obtain ⟨tlo, hlo⟩ : ∃ t, (lo != lo') = t := ⟨_, rfl⟩
    obtain ⟨thi, hhi⟩ : ∃ t, (hi != hi') = t := ⟨_, rfl⟩
    rw [hlo, hhi] at ht3
    by_cases k4 : k = 4
    · have e4 : (k == 4) = true := by simpa using k4
      simp [k4] at ht3
      clear k4
      cases tlo
      all_goals
        simp at ht3
        subst ht3
        go_wp2_with fail
        go_meet
        exact ⟨rfl, rfl⟩
    · have e4 : (k == 4) = false := by simpa using k4
      by_cases k5 : k = 5
      · have e5 : (k == 5) = true := by simpa using k5
        simp [k5] at ht3
        clear k4 k5
        cases tlo
        all_goals
          simp at ht3
          subst ht3
          go_wp2_with fail
          go_meet
          exact ⟨rfl, rfl⟩
      · have e5 : (k == 5) = false := by simpa using k5
        simp [k4, k5] at ht3
        subst ht3
        clear k4 k5
        go_wp2_with fail
        go_meet
        exact ⟨rfl, rfl⟩
  case rest =>
  obtain ⟨rfl, hwe⟩ := hcut
  rw [hwe]
  clear hwe
  cases t3 with
  | true =>
    have HX := Lib.hid (show r = false by rw [← HR.out]; rfl)
    clear HR ht1 ht2 ht3
    go_wp2_with fail
    go_ret
    exact ⟨by rw [HX.out]; rfl, HKA.out⟩
  | false =>
  have HRR := Lib.hid (show sameL P P' = r by rw [← HR.out]; simp)
  clear HR ht1 ht2 ht3 htk
  go_wp2_with fail
  refine (HPA.out _ HKA.out).mono ?_
  rintro e w3 ⟨A3, n3, c3, rfl, hn3, hs3, hk3⟩
  have HK3 := Lib.hid (HKA.out.then_ hk3 (fun _ h => h.elim))
  have HB3 := Lib.hid (HQ3.out.kp hk3 (fun h => h))
  have HS3 := Lib.hid hs3
  have hln3 := hs3.len6
  have HN3 := Lib.hid hn3
  clear x0 x1 x2 x3 x4 x5 y0 y1 y2 y3 y4 y5 hk3 hs3 hn3 HQ2 HQ3 HPA
  have y0 := HB3.out.cell 0
  have y1 := HB3.out.cell 1
  have y2 := HB3.out.cell 2
  have y3 := HB3.out.cell 3
  have y4 := HB3.out.cell 4
  have y5 := HB3.out.cell 5
  simp at y0 y1 y2 y3 y4 y5
  go_wp2_with fail
  refine (HPB.out _ HK3.out).mono ?_
  rintro e w4 ⟨A4, n4, c4, rfl, hn4, hs4, hk4⟩
  have HK4 := Lib.hid (HK3.out.then_ hk4 (fun _ h => h.elim))
  have HS3' := Lib.hid (HS3.out.kp hk4 (fun _ _ h => h))
  have HS4 := Lib.hid hs4
  have hln4 := hs4.len6
  have HN4 := Lib.hid hn4
  clear y0 y1 y2 y3 y4 y5 hk4 hs4 hn4 HPB HB3 HK3 HS3 HKA
  obtain ⟨tn, htn⟩ : ∃ t, ((n3 : Int) != (n4 : Int)) = t := ⟨_, rfl⟩
  cases tn with
  | true =>
    have hne : n3 ≠ n4 := by
      intro h
      rw [h] at htn
      simp at htn
    have HX := Lib.hid (show r = false by rw [← HRR.out]; exact sameL_len (by rw [← HN3.out, ← HN4.out]; exact hne))
    clear hne hln3 hln4
    go_wp2_with fail
    go_ret
    exact ⟨by rw [HX.out]; rfl, HK4.out⟩
  | false =>
  have hnn : n3 = n4 := by
    have : (n3 : Int) = n4 := by simpa using htn
    omega
  go_upto_region 14 with fail
  go_loopw [7] (fun i wr => ∃ j : Nat, j ≤ n3 ∧ i = .int .i64 j ∧ r = sameL (P.drop j) (P'.drop j) ∧ Kp (fun _ => False) w4 wr) (fun i _ => n3 - (intOf i).toNat)
  case atStart => exact ⟨0, Nat.zero_le _, rfl, HRR.out.symm, Kp.refl _ _⟩
  case round =>
    obtain ⟨j, hj, rfl, he, hkr⟩ := hrel
    have HE := Lib.hid he
    have HKR := Lib.hid hkr
    clear he hkr
    by_cases hlt : j < n3
    · have hjP : j < P.length := by have := HN3.out; omega
      have hjP' : j < P'.length := by have := HN4.out; omega
      obtain ⟨bo, of, A5, c5, rfl, ho5, hf5, p0, p1, p2, p3, p4, p5⟩ := (HS3'.out.kp HKR.out (fun _ _ h => h)).at_ hjP
      obtain ⟨bo2, of2, A6, c6, rfl, ho6, hf6, q0, q1, q2, q3, q4, q5⟩ := (HS4.out.kp HKR.out (fun _ _ h => h)).at_ hjP'
      have hdr := sameL_drop hjP hjP'
      have hmem : P[j] ∈ P := List.getElem_mem hjP
      generalize hp : P[j] = p at hf5 p0 p1 p2 p3 p4 p5 hdr hmem
      generalize hp' : P'[j] = p' at hf6 q0 q1 q2 q3 q4 q5 hdr
      clear hp hp'
      have HIH := Lib.hid (fun W (hk : Kp (fun _ => False) wr W) => IH.out p hmem p' _ _ W (hf5.kp hk (fun _ _ h => h)) (hf6.kp hk (fun _ _ h => h)))
      have HCE := Lib.hid (fun W (hk : Kp (fun _ => False) wr W) => show (fun w' : World => w'.cell? ⟨bo, of + j * 6, none⟩ = some (.int .i64 p.a.k) ∧ w'.cell? ⟨bo, of + j * 6 + 1, none⟩ = some (.int .i64 p.a.s) ∧ w'.cell? ⟨bo, of + j * 6 + 2, none⟩ = some (.int .i64 p.a.lo) ∧ w'.cell? ⟨bo, of + j * 6 + 3, none⟩ = some (.int .i64 p.a.hi) ∧ w'.cell? ⟨bo, of + j * 6 + 4, none⟩ = some (.int .i64 p.a.st) ∧ w'.cell? ⟨bo, of + j * 6 + 5, none⟩ = some (.slice A5 p.l.length c5) ∧ w'.cell? ⟨bo2, of2 + j * 6, none⟩ = some (.int .i64 p'.a.k) ∧ w'.cell? ⟨bo2, of2 + j * 6 + 1, none⟩ = some (.int .i64 p'.a.s) ∧ w'.cell? ⟨bo2, of2 + j * 6 + 2, none⟩ = some (.int .i64 p'.a.lo) ∧ w'.cell? ⟨bo2, of2 + j * 6 + 3, none⟩ = some (.int .i64 p'.a.hi) ∧ w'.cell? ⟨bo2, of2 + j * 6 + 4, none⟩ = some (.int .i64 p'.a.st) ∧ w'.cell? ⟨bo2, of2 + j * 6 + 5, none⟩ = some (.slice A6 p'.l.length c6)) W from ⟨hk.cell p0 (fun h => h), hk.cell p1 (fun h => h), hk.cell p2 (fun h => h), hk.cell p3 (fun h => h), hk.cell p4 (fun h => h), hk.cell p5 (fun h => h), hk.cell q0 (fun h => h), hk.cell q1 (fun h => h), hk.cell q2 (fun h => h), hk.cell q3 (fun h => h), hk.cell q4 (fun h => h), hk.cell q5 (fun h => h)⟩)
      have HKZ := Lib.hid (Kp.refl (fun _ => False) wr)
      have HD := Lib.hid hdr
      have hi0 : (0 : Int) ≤ (j : Int) := by omega
      have hi1 : (j : Int) < (n3 : Int) := by omega
      have hi2 : (j : Int) < (n4 : Int) := by omega
      clear hf5 hf6 p0 p1 p2 p3 p4 p5 q0 q1 q2 q3 q4 q5 hdr hmem
      obtain ⟨tq, htq⟩ : ∃ t, sameR p p' = t := ⟨_, rfl⟩
      rw [htq] at HIH HD
      go_upto_region 16 with fail
      go_cut [8] (fun cv wx => cv = .bool tq ∧ Kp (fun _ => False) wr wx)
      case first =>
        go_region_held3 (fun w' : World => w'.cell? ⟨bo, of + j * 6, none⟩ = some (.int .i64 p.a.k) ∧ w'.cell? ⟨bo, of + j * 6 + 1, none⟩ = some (.int .i64 p.a.s) ∧ w'.cell? ⟨bo, of + j * 6 + 2, none⟩ = some (.int .i64 p.a.lo) ∧ w'.cell? ⟨bo, of + j * 6 + 3, none⟩ = some (.int .i64 p.a.hi) ∧ w'.cell? ⟨bo, of + j * 6 + 4, none⟩ = some (.int .i64 p.a.st) ∧ w'.cell? ⟨bo, of + j * 6 + 5, none⟩ = some (.slice A5 p.l.length c5) ∧ w'.cell? ⟨bo2, of2 + j * 6, none⟩ = some (.int .i64 p'.a.k) ∧ w'.cell? ⟨bo2, of2 + j * 6 + 1, none⟩ = some (.int .i64 p'.a.s) ∧ w'.cell? ⟨bo2, of2 + j * 6 + 2, none⟩ = some (.int .i64 p'.a.lo) ∧ w'.cell? ⟨bo2, of2 + j * 6 + 3, none⟩ = some (.int .i64 p'.a.hi) ∧ w'.cell? ⟨bo2, of2 + j * 6 + 4, none⟩ = some (.int .i64 p'.a.st) ∧ w'.cell? ⟨bo2, of2 + j * 6 + 5, none⟩ = some (.slice A6 p'.l.length c6)) (first | exact HCE.out _ HKZ.out | exact HCE.out _ HKZ.out.drew) (first
          | (go_at_call 28; refine (HIH.out _ (by first | exact HKZ.out | exact HKZ.out.drew)).mono ?_; rintro e w5 ⟨rfl, hk5⟩; have hq := Kp.then_ (a := wr) (S := fun _ => False) (by first | exact HKZ.out | exact HKZ.out.drew) hk5 (fun _ h => h.elim); clear HKZ; have HKZ := Lib.hid hq; clear hq hk5))
        go_wp2_with fail
        go_meet
        exact ⟨rfl, HKZ.out⟩
      case rest =>
      obtain ⟨rfl, hkc⟩ := hcut
      generalize wc = w6 at hkc ⊢
      have HK6 := Lib.hid (HKR.out.then_ hkc (fun _ h => h.elim))
      clear hkc HCE HIH HKZ
      cases tq with
      | true =>
        have HS2 := Lib.hid (show r = sameL (P.drop (j + 1)) (P'.drop (j + 1)) by rw [HE.out, HD.out]; rfl)
        clear HE HD htq
        go_wp2_with fail
        go_roundw
        case rel => exact ⟨j + 1, by omega, by go_num, HS2.out, HK6.out⟩
        case measure => simp [intOf]; omega
      | false =>
        have HX := Lib.hid (show r = false by rw [HE.out, HD.out]; rfl)
        have HK7 := Lib.hid (HK4.out.then_ HK6.out (fun _ h => h.elim))
        clear HE HD htq
        go_wp2_with fail
        go_ret
        exact ⟨by rw [HX.out]; rfl, HK7.out⟩
    · obtain rfl : j = n3 := by omega
      have HX := Lib.hid (show r = true by rw [HE.out]; exact sameL_end (by rw [← HN3.out]; exact Nat.le_refl _) (by rw [← HN4.out, hnn]; exact Nat.le_refl _))
      have HK7 := Lib.hid (HK4.out.then_ HKR.out (fun _ h => h.elim))
      clear HE
      go_wp2_with fail
      go_ret
      exact ⟨by rw [HX.out]; rfl, HK7.out⟩
end Go.Proofs.Ytfcghajnnllmhaa

namespace Go.Proofs.Ytfcghajnnllmhaa
open Go.RowKit

section
variable {α : Type}
theorem TRs.flat {H : Head α} (hH : HeadKp H) (hone : ∀ {w : World} {ok : Nat → Prop} {a : α} {hd : List Value}, H w ok a hd → ∀ u ∈ hd, u.oneCell' = true) {n : Nat} {w : World} {ok : Nat → Prop} :
    ∀ {l : List (RT α)} {b off : Nat}, TRs H n w ok l b off → ∃ xs : List Value, xs.length = l.length * n ∧ (∀ u ∈ xs, u.oneCell' = true) ∧ (∀ j u, xs[j]? = some u → w.cell? ⟨b, off + j, none⟩ = some u) ∧
      ∀ (S ok' : Nat → Prop) (W : World) (b' off' : Nat), Kp S w W → (∀ i, ok i → ¬ S i) → (∀ i, ok i → ok' i) → (∀ j u, xs[j]? = some u → W.cell? ⟨b', off' + j, none⟩ = some u) → TRs H n W ok' l b' off' := by
  intro l
  induction l with
  | nil => exact fun {b off} _ => ⟨[], by simp, by simp, by simp, fun _ _ _ _ _ _ _ _ _ => by rw [TRs]; trivial⟩
  | cons t l ih =>
    intro b off h
    rw [TRs] at h
    obtain ⟨⟨cs, h1, h2⟩, h3⟩ := h
    obtain ⟨xs, g1, g2, g3, g4⟩ := ih h3
    obtain ⟨hd, A, c, e, hl, hh, _⟩ := (TR_def _ _ _ _ _ _).1 h1
    have hcn : cs.length = n := by rw [e]; simpa using hl
    refine ⟨cs ++ xs, by rw [List.length_append, g1, hcn, List.length_cons, Nat.succ_mul]; omega, ?_, ?_, ?_⟩
    · intro u hu
      rcases List.mem_append.1 hu with hu | hu
      · rw [e] at hu
        rcases List.mem_append.1 hu with hu | hu
        · exact hone hh u hu
        · obtain rfl : u = _ := by simpa using hu
          rfl
      · exact g2 u hu
    · intro j u hu
      by_cases hj : j < cs.length
      · rw [List.getElem?_append_left hj] at hu
        exact h2 j u hu
      · rw [List.getElem?_append_right (by omega)] at hu
        have := g3 _ u hu
        rw [show off + n + (j - cs.length) = off + j from by omega] at this
        exact this
    · intro S ok' W b' off' hk hd' hm hc
      rw [TRs]
      refine ⟨⟨cs, TR.kp_ hH hk hd' hm t cs h1, fun j u hu => hc j u ?_⟩, g4 S ok' W b' (off' + n) hk hd' hm (fun j u hu => ?_)⟩
      · rw [List.getElem?_append_left (List.getElem?_eq_some_iff.1 hu).1]
        exact hu
      · have := hc (n + j) u (by rw [List.getElem?_append_right (by omega), ← hu, hcn]; congr 1; omega)
        rw [show off' + (n + j) = off' + n + j from by omega] at this
        exact this
theorem TRs.here {H : Head α} {n : Nat} {w : World} {ok : Nat → Prop} {l : List (RT α)} {b off : Nat} (h0 : 0 < l.length) (h : TRs H n w ok l b off) : b < w.heap.size := by
  cases l with
  | nil => simp at h0
  | cons t l =>
    rw [TRs] at h
    obtain ⟨⟨cs, h1, h2⟩, _⟩ := h
    obtain ⟨hd, A, c, e, hl, _⟩ := (TR_def _ _ _ _ _ _).1 h1
    have h3 : 0 < cs.length := by rw [e]; simp
    exact cell_lt (h2 0 _ (List.getElem?_eq_getElem h3))
theorem add_spot (b off j : Nat) : (⟨b, off, none⟩ : Addr).add j = ⟨b, off + j, none⟩ := by
  unfold Addr.add
  split
  · rename_i h
    first | (subst h; rfl) | simp_all
  · rfl
theorem TL.flat {H : Head α} (hH : HeadKp H) (hone : ∀ {w : World} {ok : Nat → Prop} {a : α} {hd : List Value}, H w ok a hd → ∀ u ∈ hd, u.oneCell' = true) {n : Nat} {w : World} {ok : Nat → Prop} {l : List (RT α)} {A : Option Addr} (h : TL H n w ok l A) :
    ∃ xs : List Value, Rd w ok n A l.length xs ∧ (∀ u ∈ xs, u.oneCell' = true) ∧
      ∀ (S ok' : Nat → Prop) (W : World) (A' : Option Addr), Kp S w W → (∀ i, ok i → ¬ S i) → (∀ i, ok i → ok' i) → Rd W ok' n A' l.length xs → TL H n W ok' l A' := by
  by_cases h0 : 0 < l.length
  · obtain ⟨b, off, rfl, hb, ht⟩ := h h0
    obtain ⟨xs, g1, g2, g3, g4⟩ := ht.flat hH hone
    refine ⟨xs, ⟨g1, fun _ => ⟨_, rfl, rfl, hb, fun j u hu => by rw [add_spot]; exact g3 j u hu⟩⟩, g2, fun S ok' W A' hk hd hm hr _ => ?_⟩
    obtain ⟨⟨b', off', sp⟩, rfl, hsp, hb', hc⟩ := hr.2 h0
    obtain rfl : sp = none := hsp
    exact ⟨b', off', rfl, hb', g4 S ok' W b' off' hk hd hm (fun j u hu => by rw [← add_spot]; exact hc j u hu)⟩
  · obtain rfl : l = [] := List.eq_nil_of_length_eq_zero (by omega)
    exact ⟨[], ⟨by simp, fun h => by simp at h⟩, by simp, fun _ _ _ _ _ _ _ _ h => by simp at h⟩
end

/-- The blocks of a tree are there. -/
structure HeadLt {α : Type} (H : Head α) : Prop where
  lt : ∀ {w : World} {ok : Nat → Prop} {a : α} {hd : List Value}, H w ok a hd → H w (fun i => ok i ∧ i < w.heap.size) a hd
section
variable {α : Type}
mutual
theorem TR.lt_ {H : Head α} (hH : HeadLt H) {n : Nat} {w : World} {ok : Nat → Prop} : ∀ (t : RT α) (cs : List Value), TR H n w ok t cs → TR H n w (fun i => ok i ∧ i < w.heap.size) t cs
  | .mk a l, cs, h => by
    rw [TR] at h ⊢
    obtain ⟨hds, A, c, e, hl, hh, hc, hc2, ht⟩ := h
    refine ⟨hds, A, c, e, hl, hH.lt hh, hc, hc2, fun h0 => ?_⟩
    obtain ⟨b, off, e1, hb, hs⟩ := ht h0
    exact ⟨b, off, e1, ⟨hb, TRs.here h0 hs⟩, TRs.lt_ hH l b off hs⟩
theorem TRs.lt_ {H : Head α} (hH : HeadLt H) {n : Nat} {w : World} {ok : Nat → Prop} : ∀ (l : List (RT α)) (b off : Nat), TRs H n w ok l b off → TRs H n w (fun i => ok i ∧ i < w.heap.size) l b off
  | [], _, _, _ => by rw [TRs]; trivial
  | t :: l, b, off, h => by
    rw [TRs] at h ⊢
    obtain ⟨⟨cs, h1, h2⟩, h3⟩ := h
    exact ⟨⟨cs, TR.lt_ hH t cs h1, h2⟩, TRs.lt_ hH l b _ h3⟩
end
theorem TL.lt_ {H : Head α} (hH : HeadLt H) {n : Nat} {w : World} {ok : Nat → Prop} {l : List (RT α)} {A : Option Addr} (h : TL H n w ok l A) : TL H n w (fun i => ok i ∧ i < w.heap.size) l A := by
  intro h0
  obtain ⟨b, off, e1, hb, hs⟩ := h h0
  exact ⟨b, off, e1, ⟨hb, TRs.here h0 hs⟩, TRs.lt_ hH l b off hs⟩
end
theorem Kp.at_ {S : Nat → Prop} {a w : World} (h : Kp S a w) (g : Nat) (hg : S g ∨ a.heap.size ≤ g) (i : Nat) (u : Value) : Kp S a (w.setCell ⟨g, i, none⟩ u) := h.setCell (p := ⟨g, i, none⟩) hg u

/-- Rows of any type: laid as a literal. -/
theorem Own.lit_ (w : World) (e size : Nat) (xs : List Value) (cs : Array Value) (n B : Nat) (hn : xs.length = n * size) (hcs : cs = xs.toArray) (hB : B ≤ w.heap.size) (hm : n ≤ maxLen) :
    Own (w.alloc (.cells cs e)) (B ≤ ·) e size (.slice (some ⟨w.heap.size, 0, none⟩) n n) n xs := by
  subst hcs
  refine ⟨⟨hn, .inr ⟨w.heap.size, n, _, rfl, Nat.zero_le _, heap_alloc_new w _, Nat.le_refl _, hm, by simp [hn], ?_⟩⟩, fun k hk => ?_⟩
  · exact List.take_of_length_le (by simp [hn])
  · have : w.heap.size = k := by simpa [Value.ownBlock] using hk
    omega
end Go.Proofs.Ytfcghajnnllmhaa

namespace Go.Proofs.Ytfcghajnnllmhaa
open Go.RowKit

theorem FHd_one {w : World} {ok : Nat → Prop} {a : FH} {hd : List Value} (h : FHd w ok a hd) : ∀ u ∈ hd, u.oneCell' = true := by
  obtain ⟨rfl, _⟩ := h
  intro u hu
  simp only [List.mem_cons, List.not_mem_nil, or_false] at hu
  rcases hu with rfl | rfl | rfl | rfl | rfl <;> rfl
theorem form_info : (Try.prog.info? 27).map (fun i => (i.zero, i.size, i.bytes)) = some (some (.agg #[.int .i64 0, .int .i64 0, .int .i64 0, .int .i64 0, .int .i64 0, .slice none 0 0]), 6, 64) := by kernel_rfl

theorem FHd_lt : HeadLt FHd := ⟨fun h => h⟩
theorem FsR.lt_ {w : World} {ok : Nat → Prop} {v : Value} {l : List Fm} (h : FsR w ok v l) : FsR w (fun i => ok i ∧ i < w.heap.size) v l := by
  obtain ⟨A, c, e, h1, h2, h3⟩ := h
  exact ⟨A, c, e, h1, h2, h3.lt_ FHd_lt⟩
theorem FmR.lt_ {w : World} {ok : Nat → Prop} {v : Value} {f : Fm} (h : FmR w ok v f) : FmR w (fun i => ok i ∧ i < w.heap.size) v f := by
  obtain ⟨sv, e, h1, h2⟩ := h
  exact ⟨sv, e, h1, h2.lt_⟩

/-- Forms in a slice, of blocks that there are. -/
def FsW (w : World) (v : Value) (l : List Fm) : Prop := FsR w (· < w.heap.size) v l
theorem FsW.kp {w w' : World} {v : Value} {l : List Fm} (h : FsW w v l) (hk : Kp (fun _ => False) w w') : FsW w' v l :=
  (FsR.kp h hk (fun _ _ h => h)).mono (fun _ hi => Nat.lt_of_lt_of_le hi hk.size)

/-- append of forms to forms of the call's own. -/
theorem app_forms {w : World} {ops : Array Oper} {rest : List Oper} {o : Oper} {a : Act} {Q : Exit → Act → World → Prop} (hgd : o.guard = none) (s x : Operand)
    (ho : o.op = .call { callee := .builtin .append, args := #[s, x], argTypes := #[25, 25] })
    (B : Nat) (A : Option Addr) (n c : Nat) (xs : List Value) (hs : a.eval s = .slice A n c) (hown : Own w (B ≤ ·) 27 6 (.slice A n c) n xs)
    (ok : Nat → Prop) (Ax : Option Addr) (m cx : Nat) (xx : List Value) (hx : a.eval x = .slice Ax m cx) (hr : Rd w ok 6 Ax m xx) (h1 : ∀ u ∈ xx, u.oneCell' = true)
    (hk2 : n + m ≤ 2199023255552) (hB : B ≤ w.heap.size)
    (h : ∀ A' c' w', Own w' (B ≤ ·) 27 6 (.slice A' (n + m) c') (n + m) (xs ++ xx) → Kp (B ≤ ·) w w' → wpList Try.prog ops Q rest (a.put o.dst (.slice A' (n + m) c')) w') : wpList Try.prog ops Q (o :: rest) a w := by
  obtain ⟨i0, hi0, hz0, hz1, hz2⟩ := info_parts form_info
  refine wpList_append_any w hgd s x _ ho 0 27 i0 _ 6 64 Try.underlying25 hi0 hz0 hz1 hz2 rfl (by omega) (.slice A n c) n xs hs hown.1 ok Ax m cx xx hx hr h1 (by simp only [maxLen]; omega) (by omega) (Nat.zero_le _) ?_
  intro v' w' h1 h2 h3
  have hk' : Kp (B ≤ ·) w w' := (Kp.refl _ _).grown h2 (fun j hj => .inl (hown.2 j hj))
  have ho' : Own w' (B ≤ ·) 27 6 v' (n + m) (xs ++ xx) := ⟨h1, fun j hj => by
    rcases h3 with e | e
    · exact hown.2 j (e ▸ hj)
    · rw [e] at hj
      injection hj with hj
      omega⟩
  obtain ⟨A', c', e, _⟩ := ho'.shape
  subst e
  exact h A' c' w' ho' hk'

set_option maxRecDepth 100000 in
theorem fclone_any (ok : Nat → Prop) (v : Value) (l : List Fm) (w : World) (hv : FsR w ok v l) (hl : l.length ≤ 2199023255552) :
    Calls Try.prog 51 #[v] w fun e w' => ∃ A c, e = .returned (.slice A l.length c) ∧ FsR w' (fun i => ok i ∨ w.heap.size ≤ i) (.slice A l.length c) l ∧ Kp (fun _ => False) w w' := by
  obtain ⟨A, c, rfl, hc, hc2, ht⟩ := id hv
  cases A with
  | none =>
    have h0 : l = [] := by
      rcases l with _ | ⟨a, l⟩
      · rfl
      · obtain ⟨b, off, e, _⟩ := ht (by simp)
        cases e
    subst h0
    have HN := fun W c => Lib.run_eql_slice_nil (P := Try.prog) W 25 27 none 0 c 0 0 Try.underlying25
    clear ht hv
    go_enter Try.func51, Try.ntmps51
    go_wp2_with fail
    go_ret
    exact ⟨none, 0, rfl, FsR.nil, Kp.refl _ _⟩
  | some ad =>
    have HN := fun W => Lib.run_eql_slice_nil (P := Try.prog) W 25 27 (some ad) l.length c 0 0 Try.underlying25
    obtain ⟨xs, hr, h1, hmv⟩ := TL.flat FHd_kp FHd_one ht
    have ka : Kp (fun _ => False) w (w.alloc (.cells #[] 27)) := (Kp.refl _ _).alloc _
    have HR := Lib.hid (hr.kp ka (fun _ _ h => h))
    have H1 := Lib.hid h1
    have HM := Lib.hid hmv
    have HO := Lib.hid (Own.lit_ w 27 6 [] #[] 0 w.heap.size rfl rfl (Nat.le_refl _) (by decide))
    have hz := ka.size
    clear hr h1 hmv ht hv
    go_enter Try.func51, Try.ntmps51
    go_wp2_with (at_builtin; refine app_forms rfl (.tmp 5) (.tmp 6) rfl w.heap.size _ 0 _ [] rfl HO.out _ (some ad) l.length c xs rfl HR.out H1.out (by omega) hz ?_; intro A2 c2 W2 o2 q2; have O2 := Lib.hid o2; have K2 := Lib.hid (ka.then_ q2 (fun i hi => .inr hi)); clear o2 q2; rw [Nat.zero_add] at *)
    go_ret
    obtain ⟨A', c', e, hcc⟩ := O2.out.shape
    injection e with e1 e2 e3
    subst e1 e3
    have hlt := O2.out.lt
    refine ⟨A2, c2, rfl, ⟨A2, c2, rfl, hcc, hc2, HM.out (fun _ => False) _ W2 A2 K2.out (fun _ _ h => h) (fun i hi => .inl hi) ?_⟩, K2.out⟩
    have hrd := O2.out.rd
    rw [List.nil_append] at hrd
    refine ⟨hrd.1, fun h0 => ?_⟩
    obtain ⟨ad', e', hsp, hb', hcell⟩ := hrd.2 h0
    exact ⟨ad', e', hsp, .inr hb', hcell⟩

end Go.Proofs.Ytfcghajnnllmhaa

namespace Go.Proofs.Ytfcghajnnllmhaa
open Go.RowKit

/-- One form, laid as a slice. -/
theorem FsR.one_ {w : World} {ok : Nat → Prop} {f : Fm} {A : Option Addr} {c : Nat} (h : FmR w ok (.agg #[.int .i64 f.a.k, .int .i64 f.a.s, .int .i64 f.a.lo, .int .i64 f.a.hi, .int .i64 f.a.st, .slice A f.l.length c]) f) {W : World} {B : Nat} {S : Nat → Prop}
    (hk : Kp S w W) (hd : ∀ i, ok i → ¬ S i) (hb : w.heap.size ≤ B) (hB : Blk W B 27 #[.int .i64 f.a.k, .int .i64 f.a.s, .int .i64 f.a.lo, .int .i64 f.a.hi, .int .i64 f.a.st, .slice A f.l.length c]) :
    FsR W (fun i => ok i ∨ w.heap.size ≤ i) (.slice (some ⟨B, 0, none⟩) 1 1) [f] := by
  refine ⟨_, _, rfl, Nat.le_refl _, by simp, fun _ => ⟨B, 0, rfl, .inr hb, ?_⟩⟩
  rw [TRs]
  obtain ⟨sv, e, ht⟩ := FmR.tr ((h.kp hk hd).mono (ok' := fun i => ok i ∨ w.heap.size ≤ i) (fun _ h => .inl h))
  simp only [Value.agg.injEq, Array.mk.injEq, List.cons.injEq, and_true, true_and] at e
  subst e
  refine ⟨⟨_, ht, fun j u hu => ?_⟩, by rw [TRs]; trivial⟩
  rw [Nat.zero_add, hB.cell]
  simpa using hu

set_option maxRecDepth 100000 in
set_option maxHeartbeats 1600000 in
theorem list_anyR (ok : Nat → Prop) (s lo hi st : Int) (f : Fm) (A : Option Addr) (c : Nat) (w : World) (hs : i64B s) (hlo : i64B lo) (hhi : i64B hi) (hst : i64B st)
    (hv : FmR w ok (.agg #[.int .i64 f.a.k, .int .i64 f.a.s, .int .i64 f.a.lo, .int .i64 f.a.hi, .int .i64 f.a.st, .slice A f.l.length c]) f) :
    Calls Try.prog 16 #[.int .i64 s, .int .i64 lo, .int .i64 hi, .int .i64 st, .agg #[.int .i64 f.a.k, .int .i64 f.a.s, .int .i64 f.a.lo, .int .i64 f.a.hi, .int .i64 f.a.st, .slice A f.l.length c]] w
      fun e w' => ∃ B, e = .returned (.agg #[.int .i64 2, .int .i64 s, .int .i64 lo, .int .i64 hi, .int .i64 st, .slice (some ⟨B, 0, none⟩) 1 1]) ∧ FmR w' (fun i => ok i ∨ w.heap.size ≤ i) (.agg #[.int .i64 2, .int .i64 s, .int .i64 lo, .int .i64 hi, .int .i64 st, .slice (some ⟨B, 0, none⟩) 1 1]) (.mk ⟨2, s, lo, hi, st⟩ [f]) ∧ Kp (fun _ => False) w w' := by
  have HK := Lib.hid (show ∀ o1 o2 o3, Kp (fun _ => False) w (((w.alloc o1).alloc o2).alloc o3) from fun o1 o2 o3 => (((Kp.refl _ _).alloc o1).alloc o2).alloc o3)
  have HV := Lib.hid hv
  have HB := Lib.hid (show ∀ o1 o2, Blk (((w.alloc o1).alloc o2).alloc (.cells #[.int .i64 f.a.k, .int .i64 f.a.s, .int .i64 f.a.lo, .int .i64 f.a.hi, .int .i64 f.a.st, .slice A f.l.length c] 27)) (w.heap.size + 2) 27 #[.int .i64 f.a.k, .int .i64 f.a.s, .int .i64 f.a.lo, .int .i64 f.a.hi, .int .i64 f.a.st, .slice A f.l.length c] from fun o1 o2 => by
    have h := Blk.new ((w.alloc o1).alloc o2) 27 #[.int .i64 f.a.k, .int .i64 f.a.s, .int .i64 f.a.lo, .int .i64 f.a.hi, .int .i64 f.a.st, .slice A f.l.length c]
    rw [World.size_alloc, World.size_alloc] at h
    exact h)
  clear hv
  go_enter Try.func16, Try.ntmps16
  go_wp2_with fail
  refine bodyPost_ret (v := .agg #[.int .i64 2, .int .i64 s, .int .i64 lo, .int .i64 hi, .int .i64 st, .slice (some ⟨w.heap.size + 2, 0, none⟩) 1 1]) (by simp [results, Try.results16, go_sem]) rfl ⟨_, rfl, ⟨_, rfl, ⟨b2, hs, hlo, hhi, hst⟩, FsR.one_ HV.out (HK.out _ _ _) (fun _ _ h => h) (by omega) (HB.out _ _)⟩, HK.out _ _ _⟩

set_option maxRecDepth 100000 in
theorem row_anyR (ok : Nat → Prop) (v : Value) (l : List Fm) (w : World) (hlt : ∀ i, ok i → i < w.heap.size) (hv : FsR w ok v l) (hl : l.length ≤ 2199023255552) :
    Calls Try.prog 26 #[v] w fun e w' => ∃ A c, e = .returned (.agg #[.int .i64 3, .int .i64 0, .int .i64 0, .int .i64 0, .int .i64 0, .slice A l.length c]) ∧ FmR w' (fun i => ok i ∨ w.heap.size ≤ i) (.agg #[.int .i64 3, .int .i64 0, .int .i64 0, .int .i64 0, .int .i64 0, .slice A l.length c]) (.mk ⟨3, 0, 0, 0, 0⟩ l) ∧ Kp (fun _ => False) w w' := by
  have HK := Lib.hid (show ∀ o, Kp (fun _ => False) w (w.alloc o) from fun o => (Kp.refl _ _).alloc o)
  have HC := Lib.hid (fun o => fclone_any ok v l (w.alloc o) (FsR.kp hv ((Kp.refl (fun _ => False) w).alloc o) (fun _ _ h => h)) hl)
  have HB := Lib.hid (Blk.new w 27 #[.int .i64 0, .int .i64 0, .int .i64 0, .int .i64 0, .int .i64 0, .slice none 0 0])
  have hb3 : i64B 3 := by unfold i64B; omega
  have HLT := Lib.hid hlt
  clear hv hlt
  go_enter Try.func26, Try.ntmps26
  go_wp2_with fail
  refine (HC.out _).mono ?_
  rintro e w1 ⟨A, c, rfl, hs1, hk1⟩
  have hb1 := HB.out.kp hk1 (fun h => h)
  have e0 := hb1.cell 0
  have e1 := hb1.cell 1
  have e2 := hb1.cell 2
  have e3 := hb1.cell 3
  have e4 := hb1.cell 4
  have e5 := hb1.cell 5
  simp at e0 e1 e2 e3 e4 e5
  have z0 := hb1.frozen 0
  have z1 := hb1.frozen 1
  have z2 := hb1.frozen 2
  have z3 := hb1.frozen 3
  have z4 := hb1.frozen 4
  have z5 := hb1.frozen 5
  have HK1 := Lib.hid ((HK.out _).then_ hk1 (fun _ h => h.elim))
  have HS1 := Lib.hid hs1
  have hlt := hb1.lt
  clear hk1 hs1 hb1
  go_wp2_with fail
  have hk9 := (Kp.refl (fun x => x = w.heap.size) w1).put6 (B := w.heap.size) (.inl rfl) (.int .i64 3) (.int .i64 0) (.int .i64 0) (.int .i64 0) (.int .i64 0) (.slice A l.length c)
  have hkw := HK1.out.then_ hk9 (fun i hi => .inr (by omega))
  have hs9 := HS1.out.kp hk9 (fun i hi he => by
    rw [World.size_alloc] at hi
    rcases hi with hi | hi
    · have := HLT.out i hi; omega
    · omega)
  refine bodyPost_ret (v := .agg #[.int .i64 3, .int .i64 0, .int .i64 0, .int .i64 0, .int .i64 0, .slice A l.length c]) (by simp [results, Try.results26, go_sem, e0, e1, e2, e3, e4, e5]) rfl ⟨A, c, rfl, ⟨_, rfl, ⟨hb3, b0, b0, b0, b0⟩, hs9.mono (fun i hi => ?_)⟩, hkw⟩
  rw [World.size_alloc] at hi
  rcases hi with hi | hi
  · exact .inl hi
  · exact .inr (by omega)

/-! ### Rows in rows. -/
structure NestP (j : Nat) (f : Fm) : Prop where
  deep : ∀ m, deepB m f = decide (m ≤ j)
  check : checkR f = 0
  opn : openR f = false
  least : leastR f = 2
theorem NestP.row {j : Nat} {f : Fm} (h : NestP j f) : NestP (j + 1) (.mk ⟨3, 0, 0, 0, 0⟩ [f]) := by
  refine ⟨fun m => ?_, ?_, ?_, ?_⟩
  · cases m with
    | zero => rfl
    | succ m =>
      show [f].any (deepB m) = _
      simp [h.deep]
  · rw [checkR_mk]
    have e : ownN 3 0 0 0 0 [f].length = 0 := by rfl
    have e2 : checkL [f] = 0 := by rw [checkL, checkL, h.check]; rfl
    have e3 : badF 3 [f].length 0 [f] = false := by rw [badF, badF, badI, h.opn]; rfl
    simp only [e, e2, e3]
    rfl
  · rw [openR_mk]
    simp only [openL, h.opn]
    rfl
  · have e : spanR FH.lo f = 2 := h.least
    rw [leastR, spanR_mk]
    simp only [spanL, e]
    simp [wrap64]
end Go.Proofs.Ytfcghajnnllmhaa

namespace Go.Proofs.Ytfcghajnnllmhaa
open Go.RowKit

/-- A value's number and bytes. -/
structure VH where
  n : Int
  b : List UInt8
deriving DecidableEq
def u64B (x : Int) : Prop := 0 ≤ x ∧ x < 18446744073709551616
def VHd : Head VH := fun w ok a hd => ∃ v, hd = [.int .u64 a.n, v] ∧ u64B a.n ∧ BR w ok v a.b ∧ a.b.length ≤ 140737488355328
theorem VHd_kp : HeadKp VHd :=
  ⟨fun ⟨v, e, h1, h2, h3⟩ hk hd => ⟨v, e, h1, h2.kp hk hd, h3⟩, fun ⟨v, e, h1, h2, h3⟩ hm => ⟨v, e, h1, h2.mono hm, h3⟩⟩
abbrev Vt := RT VH
/-- A slice value that reads as these values. -/
def VsR (w : World) (ok : Nat → Prop) (v : Value) (l : List Vt) : Prop := ∃ A c, v = .slice A l.length c ∧ l.length ≤ c ∧ l.length ≤ 140737488355328 ∧ TL VHd 3 w ok l A
/-- A value that reads as a value. -/
def VtR (w : World) (ok : Nat → Prop) (v : Value) (x : Vt) : Prop :=
  ∃ bv sv, v = .agg #[.int .u64 x.a.n, bv, sv] ∧ u64B x.a.n ∧ BR w ok bv x.a.b ∧ x.a.b.length ≤ 140737488355328 ∧ VsR w ok sv x.l
section
variable {w w' : World} {ok ok' S : Nat → Prop} {v : Value} {l : List Vt} {x : Vt}
theorem VsR.kp (h : VsR w ok v l) (hk : Kp S w w') (hd : ∀ i, ok i → ¬ S i) : VsR w' ok v l := by
  obtain ⟨A, c, e, h1, h2, h3⟩ := h
  exact ⟨A, c, e, h1, h2, h3.kp_ VHd_kp hk hd (fun _ h => h)⟩
theorem VsR.mono (h : VsR w ok v l) (hm : ∀ i, ok i → ok' i) : VsR w ok' v l := by
  obtain ⟨A, c, e, h1, h2, h3⟩ := h
  exact ⟨A, c, e, h1, h2, h3.kp_ VHd_kp (Kp.refl (fun _ => False) w) (fun _ _ h => h) hm⟩
theorem VtR.kp (h : VtR w ok v x) (hk : Kp S w w') (hd : ∀ i, ok i → ¬ S i) : VtR w' ok v x := by
  obtain ⟨bv, sv, e, h1, h2, h3, h4⟩ := h
  exact ⟨bv, sv, e, h1, h2.kp hk hd, h3, h4.kp hk hd⟩
theorem VtR.mono (h : VtR w ok v x) (hm : ∀ i, ok i → ok' i) : VtR w ok' v x := by
  obtain ⟨bv, sv, e, h1, h2, h3, h4⟩ := h
  exact ⟨bv, sv, e, h1, h2.mono hm, h3, h4.mono hm⟩
theorem VsR.nil : VsR w ok (.slice none 0 0) [] := ⟨none, 0, rfl, Nat.le_refl _, by simp, fun h => by simp at h⟩
theorem VtR.of_tr {cs : List Value} (h : TR VHd 3 w ok x cs) : VtR w ok (.agg cs.toArray) x ∧ cs.length = 3 := by
  obtain ⟨hd, A, c, e, hl, ⟨bv, hh, ho, hb, hbl⟩, h1, h2, h3⟩ := (TR_def _ _ _ _ _ _).1 h
  subst hh
  subst e
  exact ⟨⟨bv, _, rfl, ho, hb, hbl, A, c, rfl, h1, h2, h3⟩, by simp⟩
theorem VtR.tr (h : VtR w ok v x) : ∃ bv sv, v = .agg #[.int .u64 x.a.n, bv, sv] ∧ TR VHd 3 w ok x [.int .u64 x.a.n, bv, sv] := by
  obtain ⟨bv, sv, e, h1, h2, h3, A, c, e2, h4, h5, h6⟩ := h
  subst e2
  exact ⟨_, _, e, (TR_def _ _ _ _ _ _).2 ⟨[.int .u64 x.a.n, bv], A, c, rfl, rfl, ⟨bv, rfl, h1, h2, h3⟩, h4, h5, h6⟩⟩
/-- The parts of a value. -/
theorem VtR.parts {n : Int} {B : List UInt8} {ps : List Vt} (h : VtR w ok v (.mk ⟨n, B⟩ ps)) :
    ∃ A1 c1 A2 c2, v = .agg #[.int .u64 n, .slice A1 B.length c1, .slice A2 ps.length c2] ∧ u64B n ∧ B.length ≤ c1 ∧ B.length ≤ 140737488355328 ∧ BR w ok (.slice A1 B.length c1) B ∧ ps.length ≤ c2 ∧ ps.length ≤ 140737488355328 ∧ VsR w ok (.slice A2 ps.length c2) ps := by
  obtain ⟨bv, sv, rfl, h1, h2, h3, A2, c2, rfl, h4, h5, h6⟩ := h
  obtain ⟨A1, c1, e, h7, h8⟩ := id h2
  have e' : bv = .slice A1 B.length c1 := e
  subst e'
  exact ⟨A1, c1, A2, c2, rfl, h1, h7, h3, h2, h4, h5, A2, c2, rfl, h4, h5, h6⟩
/-- An element: its value, and its cells. -/
theorem VsR.at_ {A : Option Addr} {n c : Nat} (h : VsR w ok (.slice A n c) l) {i : Nat} (hi : i < l.length) :
    ∃ b off A1 c1 A2 c2, A = some ⟨b, off, none⟩ ∧ ok b ∧ VtR w ok (.agg #[.int .u64 (l[i]'hi).a.n, .slice A1 (l[i]'hi).a.b.length c1, .slice A2 (l[i]'hi).l.length c2]) (l[i]'hi) ∧
      w.cell? ⟨b, off + i * 3, none⟩ = some (.int .u64 (l[i]'hi).a.n) ∧ w.cell? ⟨b, off + i * 3 + 1, none⟩ = some (.slice A1 (l[i]'hi).a.b.length c1) ∧ w.cell? ⟨b, off + i * 3 + 2, none⟩ = some (.slice A2 (l[i]'hi).l.length c2) := by
  obtain ⟨A', c', e, _, _, h3⟩ := h
  injection e with e1 e2 e3
  subst e1
  obtain ⟨b, off, cs, hA, hb, ht, hc⟩ := h3.at_ hi
  have h1 := (VtR.of_tr ht).1
  obtain ⟨hd, A2, c2, e, hl, ⟨bv, hh, ho, hbr, hbl⟩, _, _, _⟩ := (TR_def _ _ _ _ _ _).1 ht
  subst hh
  subst e
  obtain ⟨A1, c1, e, _, _⟩ := hbr
  subst e
  exact ⟨b, off, _, _, _, _, hA, hb, h1, hc 0 _ rfl, hc 1 _ rfl, hc 2 _ rfl⟩
theorem VsR.len {A : Option Addr} {n c : Nat} (h : VsR w ok (.slice A n c) l) : n = l.length ∧ n ≤ c ∧ n ≤ 140737488355328 := by
  obtain ⟨A', c', e, h1, h2, _⟩ := h
  injection e with _ e2 e3
  omega
end
mutual
/-- Are two values the same? -/
def sameV : Vt → Vt → Bool
  | .mk a l, .mk b m => decide (a.n = b.n) && (decide (a.b = b.b) && sameVs l m)
def sameVs : List Vt → List Vt → Bool
  | [], [] => true
  | x :: l, y :: m => sameV x y && sameVs l m
  | _, _ => false
end
end Go.Proofs.Ytfcghajnnllmhaa

namespace Go.Proofs.Ytfcghajnnllmhaa
open Go.RowKit
set_option maxRecDepth 100000

theorem tr_form {W : World} {ok : Nat → Prop} (a : FH) (ha : a.ok) (P : List Fm) (A : Option Addr) (n c : Nat) (hn : n = P.length) (hc : n ≤ c) (hP : n ≤ 140737488355328) (ht : TL FHd 6 W ok P A) : TR FHd 6 W ok (.mk a P) [.int .i64 a.k, .int .i64 a.s, .int .i64 a.lo, .int .i64 a.hi, .int .i64 a.st, .slice A n c] := by
  subst hn
  exact (TR_def _ _ _ _ _ _).2 ⟨[.int .i64 a.k, .int .i64 a.s, .int .i64 a.lo, .int .i64 a.hi, .int .i64 a.st], A, c, rfl, rfl, ⟨rfl, ha⟩, hc, hP, ht⟩
theorem tl_none {α : Type} {H : Head α} {m : Nat} {W : World} {ok : Nat → Prop} {A : Option Addr} : TL H m W ok [] A := fun h => absurd h (Nat.lt_irrefl 0)
/-- One, two things in a block. -/
theorem tl_one {α : Type} {H : Head α} {W : World} {ok : Nat → Prop} {g m : Nat} {t : TypeId} {cs : Array Value} (hb : Blk W g t cs) (hok : ok g) (x : RT α) (l : List Value) (hx : TR H m W ok x l) (he : cs.toList = l) : TL H m W ok [x] (some ⟨g, 0, none⟩) := by
  refine fun _ => ⟨g, 0, rfl, hok, ?_⟩
  rw [TRs, TRs]
  refine ⟨⟨_, hx, fun j u hu => ?_⟩, trivial⟩
  rw [hb.cell, Nat.zero_add, ← Array.getElem?_toList, he]
  exact hu
theorem tl_two {α : Type} {H : Head α} {W : World} {ok : Nat → Prop} {g m : Nat} {t : TypeId} {cs : Array Value} (hb : Blk W g t cs) (hok : ok g) (x y : RT α) (l k : List Value) (hx : TR H m W ok x l) (hy : TR H m W ok y k) (hm : l.length = m) (he : cs.toList = l ++ k) : TL H m W ok [x, y] (some ⟨g, 0, none⟩) := by
  refine fun _ => ⟨g, 0, rfl, hok, ?_⟩
  rw [TRs, TRs, TRs]
  refine ⟨⟨_, hx, fun j u hu => ?_⟩, ⟨_, hy, fun j u hu => ?_⟩, trivial⟩
  · rw [hb.cell, Nat.zero_add, ← Array.getElem?_toList, he]
    rw [List.getElem?_append_left (by rcases Nat.lt_or_ge j l.length with h | h; exact h; rw [List.getElem?_eq_none h] at hu; cases hu)]
    exact hu
  · rw [hb.cell, Nat.zero_add, ← Array.getElem?_toList, he, List.getElem?_append_right (by omega), show m + j - l.length = j from by omega]
    exact hu

theorem i64_small (i : Int) (h1 : -100 ≤ i) (h2 : i ≤ 1000) : i64B i := by unfold i64B; omega
end Go.Proofs.Ytfcghajnnllmhaa

namespace Go.Proofs.Ytfcghajnnllmhaa
open Go.Joins Go.ChangeShapes Go.WideShapes Go.ChangeAt Go.RowKit Go.Deep

theorem i64B_of {n : Int} (h : (Lit.int .i64 n).wf = true) : i64B n := by
  obtain ⟨h0, h1⟩ := bounds_i64 h
  exact ⟨h0, by omega⟩
theorem okWide_array_ {P : Program} {w : World} {r : Reach} {b : Nat} {t e : TypeId} {n : Nat} {v : Value} (ht : P.underlying t = some (.array n e)) (h : Value.okWide P w r b t v) : ∃ cs, v = .agg cs ∧ cs.size = P.cellsOf t := by
  simp only [Value.okWide, ht] at h
  obtain ⟨cs, h1, h2, _⟩ := h
  exact ⟨cs, h1, h2⟩
section
variable {H : Type} {enc : TypeId × Value → H} {w : World} {sp : Nat → Bool} {held : Bool} {r : Reach} {b0 : Nat}
set_option maxRecDepth 100000 in
theorem open_arr4 {v : Value} {d : DataW H} {ps : List MemPlace} {ts : List TypeId} {ds : List (DataW H)} (hv : Value.okWide Try.prog w r b0 22 v) (h : DataW.Trod enc Try.prog w 0 sp held 22 v d ps)
    (_hsz : (DataW.weightsEach Try.prog ts ds).all (· ≤ reachBytes) = true) {j : Nat} (_ht : ts[j]? = some 22) (_hd : ds[j]? = some d) : ∃ x : Int × Int × Int × Int, v = .agg #[.int .i64 x.1, .int .i64 x.2.1, .int .i64 x.2.2.1, .int .i64 x.2.2.2] ∧ i64B x.1 ∧ i64B x.2.1 ∧ i64B x.2.2.1 ∧ i64B x.2.2.2 := by
  obtain ⟨cs, rfl, hsz⟩ := okWide_array_ Try.underlying22 hv
  rw [show Try.prog.cellsOf 22 = 4 from by kernel_rfl] at hsz
  obtain ⟨c0, c1, c2, c3, rfl⟩ := array4 hsz
  obtain ⟨fuel, hf⟩ := h
  obtain ⟨xs, m, _, _, _, hl, hat⟩ := DataW.trod_array Try.underlying22 hf
  rw [show Try.prog.cellsOf 3 = 1 from by kernel_rfl] at hat
  have each : ∀ (i : Nat) (c : Value) (hi : i < 4), #[c0, c1, c2, c3][i]? = some c → ∃ n : Int, c = .int .i64 n ∧ i64B n := by
    intro i c hi hc
    have h1 := hat i hi
    rw [Nat.mul_one] at h1
    have e : (([c0, c1, c2, c3] : List Value).drop i).take 1 = [c] := by
      have hc' : ([c0, c1, c2, c3] : List Value)[i]? = some c := by simpa using hc
      have hlt : i < ([c0, c1, c2, c3] : List Value).length := by simpa using hi
      rw [List.drop_eq_getElem_cons hlt]
      rw [List.getElem?_eq_getElem hlt] at hc'
      injection hc' with hc'
      rw [hc']
      rfl
    have h2 : ((Value.agg #[c0, c1, c2, c3]).cells.toList.drop i).take 1 = [c] := e
    rw [h2, List.getElem?_eq_getElem (by omega)] at h1
    obtain ⟨k0, e0, _, hw0⟩ := DataW.trod_int Try.underlying3 h1
    simp only [List.cons.injEq, and_true] at e0
    exact ⟨k0, e0, i64B_of hw0⟩
  obtain ⟨x0, rfl, g0⟩ := each 0 c0 (by omega) rfl
  obtain ⟨x1, rfl, g1⟩ := each 1 c1 (by omega) rfl
  obtain ⟨x2, rfl, g2⟩ := each 2 c2 (by omega) rfl
  obtain ⟨x3, rfl, g3⟩ := each 3 c3 (by omega) rfl
  exact ⟨(x0, x1, x2, x3), rfl, g0, g1, g2, g3⟩
end
end Go.Proofs.Ytfcghajnnllmhaa

namespace Go.Proofs.Ytfcghajnnllmhaa
open Go.RowKit

/-- Things one behind the other in a block. -/
theorem trs_many {α : Type} {H : Head α} {W : World} {ok : Nat → Prop} {b m : Nat} : ∀ (l : List (RT α × List Value)) (off : Nat), (∀ p ∈ l, TR H m W ok p.1 p.2 ∧ p.2.length = m) → (∀ j u, (l.flatMap (·.2))[j]? = some u → W.cell? ⟨b, off + j, none⟩ = some u) → TRs H m W ok (l.map (·.1)) b off
  | [], off, _, _ => by rw [List.map_nil, TRs]; trivial
  | p :: l, off, h1, h2 => by
    rw [List.map_cons, TRs]
    obtain ⟨g1, g2⟩ := h1 p (by simp)
    refine ⟨⟨p.2, g1, fun j u hu => h2 j u ?_⟩, trs_many l (off + m) (fun q hq => h1 q (by simp [hq])) (fun j u hu => ?_)⟩
    · rw [List.flatMap_cons, List.getElem?_append_left (by rcases Nat.lt_or_ge j p.2.length with h | h; exact h; rw [List.getElem?_eq_none h] at hu; cases hu)]
      exact hu
    · rw [Nat.add_assoc]
      refine h2 (m + j) u ?_
      rw [List.flatMap_cons, List.getElem?_append_right (by omega), show m + j - p.2.length = j from by omega]
      exact hu
theorem tl_many {α : Type} {H : Head α} {W : World} {ok : Nat → Prop} {g m : Nat} {t : TypeId} {cs : Array Value} (hb : Blk W g t cs) (hok : ok g) (l : List (RT α × List Value)) (h1 : ∀ p ∈ l, TR H m W ok p.1 p.2 ∧ p.2.length = m) (he : cs.toList = l.flatMap (·.2)) : TL H m W ok (l.map (·.1)) (some ⟨g, 0, none⟩) := by
  refine fun _ => ⟨g, 0, rfl, hok, trs_many l 0 h1 (fun j u hu => ?_)⟩
  rw [hb.cell, Nat.zero_add, ← Array.getElem?_toList, he]
  exact hu
theorem tr_of {W : World} {ok : Nat → Prop} {k s lo hi st : Int} {sv : Value} {P : List Fm} (h : FmR W ok (.agg #[.int .i64 k, .int .i64 s, .int .i64 lo, .int .i64 hi, .int .i64 st, sv]) (.mk ⟨k, s, lo, hi, st⟩ P)) : TR FHd 6 W (fun _ => True) (.mk ⟨k, s, lo, hi, st⟩ P) [.int .i64 k, .int .i64 s, .int .i64 lo, .int .i64 hi, .int .i64 st, sv] := by
  obtain ⟨sv', e, t1⟩ := (h.mono (ok' := fun _ => True) (fun _ _ => trivial)).tr
  simp only [RT.a, Value.agg.injEq, Array.mk.injEq, List.cons.injEq, and_true, true_and] at e
  subst e
  exact t1
theorem FmR.here4 {w : World} {ok : Nat → Prop} {k s lo hi st : Int} {sv : Value} {P : List Fm} (h : FmR w ok (.agg #[.int .i64 k, .int .i64 s, .int .i64 lo, .int .i64 hi, .int .i64 st, sv]) (.mk ⟨k, s, lo, hi, st⟩ P)) : FsR w ok sv P := by
  obtain ⟨sv', e, _, h2⟩ := h
  simp [RT.a] at e
  subst e
  exact h2
theorem FsR.tl {w : World} {ok : Nat → Prop} {A : Option Addr} {n c : Nat} {l : List Fm} (h : FsR w ok (.slice A n c) l) : TL FHd 6 w ok l A := by
  obtain ⟨A', c', e, _, _, h3⟩ := h
  injection e with e1 _ _
  subst e1
  exact h3
theorem FmR.two4 {W : World} {ok : Nat → Prop} {k s lo hi st k' s' lo' hi' st' : Int} {P P' : List Fm} {A A' : Option Addr} {n n' c c' g : Nat} {t : TypeId}
    (h1 : FmR W ok (.agg #[.int .i64 k, .int .i64 s, .int .i64 lo, .int .i64 hi, .int .i64 st, .slice A n c]) (.mk ⟨k, s, lo, hi, st⟩ P)) (h2 : FmR W ok (.agg #[.int .i64 k', .int .i64 s', .int .i64 lo', .int .i64 hi', .int .i64 st', .slice A' n' c']) (.mk ⟨k', s', lo', hi', st'⟩ P'))
    (hb : Blk W g t #[.int .i64 k, .int .i64 s, .int .i64 lo, .int .i64 hi, .int .i64 st, .slice A n c, .int .i64 k', .int .i64 s', .int .i64 lo', .int .i64 hi', .int .i64 st', .slice A' n' c']) (ho : ok g) :
    FsR W ok (.slice (some ⟨g, 0, none⟩) 2 2) [.mk ⟨k, s, lo, hi, st⟩ P, .mk ⟨k', s', lo', hi', st'⟩ P'] := by
  obtain ⟨sv, e, t1⟩ := h1.tr
  simp only [RT.a, Value.agg.injEq, Array.mk.injEq, List.cons.injEq, and_true, true_and] at e
  subst e
  obtain ⟨sv, e, t2⟩ := h2.tr
  simp only [RT.a, Value.agg.injEq, Array.mk.injEq, List.cons.injEq, and_true, true_and] at e
  subst e
  exact ⟨_, _, rfl, Nat.le_refl _, by simp, tl_two hb ho _ _ _ _ t1 t2 rfl rfl⟩
/-- The six forms. -/
def sixF (x0 x1 x2 x3 : Int) (a b : Fm) : List Fm := [.mk ⟨0, x0, 0, 0, 0⟩ [], .mk ⟨1, x0, x1, x2, 1⟩ [], .mk ⟨2, x0, x1, x2, x3⟩ [a], .mk ⟨3, 0, 0, 0, 0⟩ [a, b], .mk ⟨4, 0, x1, x2, 0⟩ [], .mk ⟨5, 0, x1, 0, 0⟩ []]
theorem six_R {W : World} {ok : Nat → Prop} {x0 x1 x2 x3 : Int} {a b : Fm} {g : Nat} {A B : Option Addr} {ca cb : Nat} (h0 : i64B x0) (h1 : i64B x1) (h2 : i64B x2) (h3 : i64B x3) (hca : 1 ≤ ca) (hcb : 2 ≤ cb) (ha : TL FHd 6 W ok [a] A) (hb : TL FHd 6 W ok [a, b] B)
    (hblk : Blk W g 27 #[.int .i64 0, .int .i64 x0, .int .i64 0, .int .i64 0, .int .i64 0, .slice none 0 0, .int .i64 1, .int .i64 x0, .int .i64 x1, .int .i64 x2, .int .i64 1, .slice none 0 0, .int .i64 2, .int .i64 x0, .int .i64 x1, .int .i64 x2, .int .i64 x3, .slice A 1 ca,
      .int .i64 3, .int .i64 0, .int .i64 0, .int .i64 0, .int .i64 0, .slice B 2 cb, .int .i64 4, .int .i64 0, .int .i64 x1, .int .i64 x2, .int .i64 0, .slice none 0 0, .int .i64 5, .int .i64 0, .int .i64 x1, .int .i64 0, .int .i64 0, .slice none 0 0]) (hok : ok g) :
    FsR W ok (.slice (some ⟨g, 0, none⟩) 6 6) (sixF x0 x1 x2 x3 a b) := by
  have z3 : i64B 3 := i64_small 3 (by decide) (by decide)
  have z4 : i64B 4 := i64_small 4 (by decide) (by decide)
  have z5 : i64B 5 := i64_small 5 (by decide) (by decide)
  have t0 := tr_form (W := W) (ok := ok) ⟨0, x0, 0, 0, 0⟩ ⟨b0, h0, b0, b0, b0⟩ [] none 0 0 rfl (Nat.le_refl _) (by simp) tl_none
  have t1 := tr_form (W := W) (ok := ok) ⟨1, x0, x1, x2, 1⟩ ⟨b1, h0, h1, h2, b1⟩ [] none 0 0 rfl (Nat.le_refl _) (by simp) tl_none
  have t2 := tr_form (W := W) (ok := ok) ⟨2, x0, x1, x2, x3⟩ ⟨b2, h0, h1, h2, h3⟩ [a] A 1 ca rfl hca (by simp) ha
  have t3 := tr_form (W := W) (ok := ok) ⟨3, 0, 0, 0, 0⟩ ⟨z3, b0, b0, b0, b0⟩ [a, b] B 2 cb rfl hcb (by simp) hb
  have t4 := tr_form (W := W) (ok := ok) ⟨4, 0, x1, x2, 0⟩ ⟨z4, b0, h1, h2, b0⟩ [] none 0 0 rfl (Nat.le_refl _) (by simp) tl_none
  have t5 := tr_form (W := W) (ok := ok) ⟨5, 0, x1, 0, 0⟩ ⟨z5, b0, h1, b0, b0⟩ [] none 0 0 rfl (Nat.le_refl _) (by simp) tl_none
  refine ⟨_, _, rfl, by simp [sixF], by simp [sixF], tl_many hblk hok [(_, [.int .i64 0, .int .i64 x0, .int .i64 0, .int .i64 0, .int .i64 0, .slice none 0 0]), (_, [.int .i64 1, .int .i64 x0, .int .i64 x1, .int .i64 x2, .int .i64 1, .slice none 0 0]), (_, [.int .i64 2, .int .i64 x0, .int .i64 x1, .int .i64 x2, .int .i64 x3, .slice A 1 ca]), (_, [.int .i64 3, .int .i64 0, .int .i64 0, .int .i64 0, .int .i64 0, .slice B 2 cb]), (_, [.int .i64 4, .int .i64 0, .int .i64 x1, .int .i64 x2, .int .i64 0, .slice none 0 0]), (_, [.int .i64 5, .int .i64 0, .int .i64 x1, .int .i64 0, .int .i64 0, .slice none 0 0])] ?_ rfl⟩
  intro p hp
  simp only [List.mem_cons, List.not_mem_nil, or_false] at hp
  rcases hp with rfl | rfl | rfl | rfl | rfl | rfl
  · exact ⟨t0, rfl⟩
  · exact ⟨t1, rfl⟩
  · exact ⟨t2, rfl⟩
  · exact ⟨t3, rfl⟩
  · exact ⟨t4, rfl⟩
  · exact ⟨t5, rfl⟩

theorem rsame_self {y : Fm} {v u : Value} {w W : World} {ok ok2 : Nat → Prop} (h8 : FmR w ok v y) (h7 : FmR w ok2 u y) (hk : Kp (fun _ => False) w W) :
    Calls Try.prog 28 #[v, u] W fun e w' => e = .returned (.bool true) ∧ Kp (fun _ => False) W w' := by
  have h := rsame_any ok ok2 y y v u W (h8.kp hk (fun _ _ h => h)) (h7.kp hk (fun _ _ h => h))
  rw [sameR_refl] at h
  exact h

set_option maxRecDepth 100000 in
set_option maxHeartbeats 12800000 in
theorem fmakes_walk (w : World) (u : Value) (x : Int × Int × Int × Int) (hx : u = .agg #[.int .i64 x.1, .int .i64 x.2.1, .int .i64 x.2.2.1, .int .i64 x.2.2.2] ∧ i64B x.1 ∧ i64B x.2.1 ∧ i64B x.2.2.1 ∧ i64B x.2.2.2) (v : Value) (f : Fm) (hv : FmR w (· < w.heap.size) v f) (v' : Value) (f' : Fm) (hv' : FmR w (· < w.heap.size) v' f') :
    Calls Try.prog 6 #[u, v, v'] w fun e w' => e = .returned (.bool true) ∧ Below w.heap.size w w' := by
  refine Calls.mono (R := fun e w' => e = .returned (.bool true) ∧ Kp (fun _ => False) w w') ?_ fun _ _ ⟨h1, h2⟩ => ⟨h1, h2.below⟩
  obtain ⟨x0, x1, x2, x3⟩ := x
  obtain ⟨rfl, hx0, hx1, hx2, hx3⟩ := hx
  simp only at hx0 hx1 hx2 hx3 ⊢
  obtain ⟨⟨k, s, lo, hi, st⟩, P⟩ := f
  obtain ⟨⟨k', s', lo', hi', st'⟩, P'⟩ := f'
  obtain ⟨A0, c0, rfl, _, _, _, _, _, _, _, _⟩ := hv.parts
  obtain ⟨A0', c0', rfl, _, _, _, _, _, _, _, _⟩ := hv'.parts
  have ka : Kp (fun _ => False) w (((w.alloc (.cells #[.int .i64 x0, .int .i64 x1, .int .i64 x2, .int .i64 x3] 22)).alloc (.cells #[.int .i64 k, .int .i64 s, .int .i64 lo, .int .i64 hi, .int .i64 st, .slice A0 P.length c0] 27)).alloc (.cells #[.int .i64 k', .int .i64 s', .int .i64 lo', .int .i64 hi', .int .i64 st', .slice A0' P'.length c0'] 27)) := (((Kp.refl _ _).alloc _).alloc _).alloc _
  have q3 := ((Blk.new w 22 #[.int .i64 x0, .int .i64 x1, .int .i64 x2, .int .i64 x3]).alloc (.cells #[.int .i64 k, .int .i64 s, .int .i64 lo, .int .i64 hi, .int .i64 st, .slice A0 P.length c0] 27)).alloc (.cells #[.int .i64 k', .int .i64 s', .int .i64 lo', .int .i64 hi', .int .i64 st', .slice A0' P'.length c0'] 27)
  have q4 := (Blk.new (w.alloc (.cells #[.int .i64 x0, .int .i64 x1, .int .i64 x2, .int .i64 x3] 22)) 27 #[.int .i64 k, .int .i64 s, .int .i64 lo, .int .i64 hi, .int .i64 st, .slice A0 P.length c0]).alloc (.cells #[.int .i64 k', .int .i64 s', .int .i64 lo', .int .i64 hi', .int .i64 st', .slice A0' P'.length c0'] 27)
  have q5 := Blk.new ((w.alloc (.cells #[.int .i64 x0, .int .i64 x1, .int .i64 x2, .int .i64 x3] 22)).alloc (.cells #[.int .i64 k, .int .i64 s, .int .i64 lo, .int .i64 hi, .int .i64 st, .slice A0 P.length c0] 27)) 27 #[.int .i64 k', .int .i64 s', .int .i64 lo', .int .i64 hi', .int .i64 st', .slice A0' P'.length c0']
  simp only [World.size_alloc] at q4 q5
  have HKA := Lib.hid ka
  have HQ3 := Lib.hid q3
  have HQ4 := Lib.hid q4
  have HQ5 := Lib.hid q5
  have HV := Lib.hid (fun W (hk : Kp (fun _ => False) w W) => (hv.kp hk (fun _ _ h => h)).mono (ok' := (· < W.heap.size)) (fun i hi => Nat.lt_of_lt_of_le hi hk.size))
  have HV' := Lib.hid (fun W (hk : Kp (fun _ => False) w W) => (hv'.kp hk (fun _ _ h => h)).mono (ok' := (· < W.heap.size)) (fun i hi => Nat.lt_of_lt_of_le hi hk.size))
  have HX := Lib.hid (And.intro hx0 (And.intro hx1 (And.intro hx2 hx3)))
  obtain ⟨ga, hga⟩ : ∃ t, decide (500 < cntR 500 (.mk ⟨k, s, lo, hi, st⟩ P)) = t := ⟨_, rfl⟩
  obtain ⟨gb, hgb⟩ : ∃ t, decide (500 < cntR 500 (.mk ⟨k', s', lo', hi', st'⟩ P')) = t := ⟨_, rfl⟩
  have HGA := Lib.hid (fun W (hk : Kp (fun _ => False) w W) => great04 _ _ _ W (HV.out W hk))
  have HGB := Lib.hid (fun W (hk : Kp (fun _ => False) w W) => great04 _ _ _ W (HV'.out W hk))
  rw [hga] at HGA
  rw [hgb] at HGB
  have HAL := Lib.hid alive04
  clear ka q3 q4 q5 hv hv' hx0 hx1 hx2 hx3 hga hgb
  go_enter Try.func6, Try.ntmps6
  go_upto_region 1 with fail
  generalize ((w.alloc (.cells #[.int .i64 x0, .int .i64 x1, .int .i64 x2, .int .i64 x3] 22)).alloc (.cells #[.int .i64 k, .int .i64 s, .int .i64 lo, .int .i64 hi, .int .i64 st, .slice A0 P.length c0] 27)).alloc (.cells #[.int .i64 k', .int .i64 s', .int .i64 lo', .int .i64 hi', .int .i64 st', .slice A0' P'.length c0'] 27) = W0 at HKA HQ3 HQ4 HQ5 ⊢
  have HA0 := Lib.hid (HAL.out W0)
  go_wp2_with fail
  refine HA0.out.mono ?_
  rintro e w1 ⟨rfl, hk⟩
  have HK1 := Lib.hid (HKA.out.then_ hk (fun _ h => h.elim))
  have HQ31 := Lib.hid (HQ3.out.kp hk (fun h => h))
  have HQ41 := Lib.hid (HQ4.out.kp hk (fun h => h))
  have HQ51 := Lib.hid (HQ5.out.kp hk (fun h => h))
  have HG1 := Lib.hid (HGA.out _ HK1.out)
  clear hk HA0 HKA HQ3 HQ4 HQ5 HGA
  have f0 := HQ41.out.cell 0
  have f1 := HQ41.out.cell 1
  have f2 := HQ41.out.cell 2
  have f3 := HQ41.out.cell 3
  have f4 := HQ41.out.cell 4
  have f5 := HQ41.out.cell 5
  simp at f0 f1 f2 f3 f4 f5
  go_wp2_with fail
  refine HG1.out.mono ?_
  rintro e w2 ⟨rfl, hk⟩
  have HK2 := Lib.hid (HK1.out.then_ hk (fun _ h => h.elim))
  have HQ32 := Lib.hid (HQ31.out.kp hk (fun h => h))
  have HQ42 := Lib.hid (HQ41.out.kp hk (fun h => h))
  have HQ52 := Lib.hid (HQ51.out.kp hk (fun h => h))
  clear hk f0 f1 f2 f3 f4 f5 HG1 HQ31 HQ41 HQ51 HK1
  cases ga with
  | true =>
    have HA2 := Lib.hid (HAL.out w2)
    go_wp2_with fail
    refine HA2.out.mono ?_
    rintro e w9 ⟨rfl, hk9⟩
    have HK9 := Lib.hid (HK2.out.then_ hk9 (fun _ h => h.elim))
    clear hk9
    go_wp2_with fail
    go_ret
    exact ⟨rfl, HK9.out⟩
  | false =>
  have HG2 := Lib.hid (HGB.out _ HK2.out)
  have y0 := HQ52.out.cell 0
  have y1 := HQ52.out.cell 1
  have y2 := HQ52.out.cell 2
  have y3 := HQ52.out.cell 3
  have y4 := HQ52.out.cell 4
  have y5 := HQ52.out.cell 5
  simp at y0 y1 y2 y3 y4 y5
  clear HGB
  go_wp2_with fail
  refine HG2.out.mono ?_
  rintro e w3 ⟨rfl, hk⟩
  have HK3 := Lib.hid (HK2.out.then_ hk (fun _ h => h.elim))
  have HQ33 := Lib.hid (HQ32.out.kp hk (fun h => h))
  have HQ43 := Lib.hid (HQ42.out.kp hk (fun h => h))
  have HQ53 := Lib.hid (HQ52.out.kp hk (fun h => h))
  clear hk y0 y1 y2 y3 y4 y5 HG2 HQ32 HQ42 HQ52 HK2
  cases gb with
  | true =>
    have HA2 := Lib.hid (HAL.out w3)
    go_wp2_with fail
    refine HA2.out.mono ?_
    rintro e w9 ⟨rfl, hk9⟩
    have HK9 := Lib.hid (HK3.out.then_ hk9 (fun _ h => h.elim))
    clear hk9
    go_wp2_with fail
    go_ret
    exact ⟨rfl, HK9.out⟩
  | false =>
  have y0 := HQ53.out.cell 0
  have y1 := HQ53.out.cell 1
  have y2 := HQ53.out.cell 2
  have y3 := HQ53.out.cell 3
  have y4 := HQ53.out.cell 4
  have y5 := HQ53.out.cell 5
  have f0 := HQ43.out.cell 0
  have f1 := HQ43.out.cell 1
  have f2 := HQ43.out.cell 2
  have f3 := HQ43.out.cell 3
  have f4 := HQ43.out.cell 4
  have f5 := HQ43.out.cell 5
  have g0 := HQ33.out.cell 0
  have g1 := HQ33.out.cell 1
  have g2 := HQ33.out.cell 2
  have g3 := HQ33.out.cell 3
  simp at y0 y1 y2 y3 y4 y5 f0 f1 f2 f3 f4 f5 g0 g1 g2 g3
  clear HAL
  have m0 : ∀ o, (w3.alloc o).cell? ⟨w.heap.size + 1, 0, none⟩ = _ := fun o => ((Kp.refl (fun _ => False) w3).alloc o).cell f0 (fun h => h)
  have m1 : ∀ o, (w3.alloc o).cell? ⟨w.heap.size + 1, 1, none⟩ = _ := fun o => ((Kp.refl (fun _ => False) w3).alloc o).cell f1 (fun h => h)
  have m2 : ∀ o, (w3.alloc o).cell? ⟨w.heap.size + 1, 2, none⟩ = _ := fun o => ((Kp.refl (fun _ => False) w3).alloc o).cell f2 (fun h => h)
  have m3 : ∀ o, (w3.alloc o).cell? ⟨w.heap.size + 1, 3, none⟩ = _ := fun o => ((Kp.refl (fun _ => False) w3).alloc o).cell f3 (fun h => h)
  have m4 : ∀ o, (w3.alloc o).cell? ⟨w.heap.size + 1, 4, none⟩ = _ := fun o => ((Kp.refl (fun _ => False) w3).alloc o).cell f4 (fun h => h)
  have m5 : ∀ o, (w3.alloc o).cell? ⟨w.heap.size + 1, 5, none⟩ = _ := fun o => ((Kp.refl (fun _ => False) w3).alloc o).cell f5 (fun h => h)
  have n0 : ∀ o, (w3.alloc o).cell? ⟨w.heap.size + 1 + 1, 0, none⟩ = _ := fun o => ((Kp.refl (fun _ => False) w3).alloc o).cell y0 (fun h => h)
  have n1 : ∀ o, (w3.alloc o).cell? ⟨w.heap.size + 1 + 1, 1, none⟩ = _ := fun o => ((Kp.refl (fun _ => False) w3).alloc o).cell y1 (fun h => h)
  have n2 : ∀ o, (w3.alloc o).cell? ⟨w.heap.size + 1 + 1, 2, none⟩ = _ := fun o => ((Kp.refl (fun _ => False) w3).alloc o).cell y2 (fun h => h)
  have n3 : ∀ o, (w3.alloc o).cell? ⟨w.heap.size + 1 + 1, 3, none⟩ = _ := fun o => ((Kp.refl (fun _ => False) w3).alloc o).cell y3 (fun h => h)
  have n4 : ∀ o, (w3.alloc o).cell? ⟨w.heap.size + 1 + 1, 4, none⟩ = _ := fun o => ((Kp.refl (fun _ => False) w3).alloc o).cell y4 (fun h => h)
  have n5 : ∀ o, (w3.alloc o).cell? ⟨w.heap.size + 1 + 1, 5, none⟩ = _ := fun o => ((Kp.refl (fun _ => False) w3).alloc o).cell y5 (fun h => h)
  have p0 : ∀ o, (w3.alloc o).cell? ⟨w.heap.size, 0, none⟩ = _ := fun o => ((Kp.refl (fun _ => False) w3).alloc o).cell g0 (fun h => h)
  have p1 : ∀ o, (w3.alloc o).cell? ⟨w.heap.size, 1, none⟩ = _ := fun o => ((Kp.refl (fun _ => False) w3).alloc o).cell g1 (fun h => h)
  have p2 : ∀ o, (w3.alloc o).cell? ⟨w.heap.size, 2, none⟩ = _ := fun o => ((Kp.refl (fun _ => False) w3).alloc o).cell g2 (fun h => h)
  have p3 : ∀ o, (w3.alloc o).cell? ⟨w.heap.size, 3, none⟩ = _ := fun o => ((Kp.refl (fun _ => False) w3).alloc o).cell g3 (fun h => h)
  have q0 : ∀ o o', ((w3.alloc o).alloc o').cell? ⟨w.heap.size, 0, none⟩ = _ := fun o o' => (((Kp.refl (fun _ => False) w3).alloc o).alloc o').cell g0 (fun h => h)
  have q1 : ∀ o o', ((w3.alloc o).alloc o').cell? ⟨w.heap.size, 1, none⟩ = _ := fun o o' => (((Kp.refl (fun _ => False) w3).alloc o).alloc o').cell g1 (fun h => h)
  have q2 : ∀ o o', ((w3.alloc o).alloc o').cell? ⟨w.heap.size, 2, none⟩ = _ := fun o o' => (((Kp.refl (fun _ => False) w3).alloc o).alloc o').cell g2 (fun h => h)
  have q3 : ∀ o o', ((w3.alloc o).alloc o').cell? ⟨w.heap.size, 3, none⟩ = _ := fun o o' => (((Kp.refl (fun _ => False) w3).alloc o).alloc o').cell g3 (fun h => h)
  go_upto_region 4 with fail
  have ka : Kp (fun _ => False) w3 (((w3.alloc (.cells #[.int .i64 k, .int .i64 s, .int .i64 lo, .int .i64 hi, .int .i64 st, .slice A0 P.length c0] 27)).alloc (.cells #[.int .i64 k, .int .i64 s, .int .i64 lo, .int .i64 hi, .int .i64 st, .slice A0 P.length c0, .int .i64 k', .int .i64 s', .int .i64 lo', .int .i64 hi', .int .i64 st', .slice A0' P'.length c0'] 27)).alloc (.cells #[.int .i64 0, .int .i64 x0, .int .i64 0, .int .i64 0, .int .i64 0, .slice none 0 0, .int .i64 1, .int .i64 x0, .int .i64 x1, .int .i64 x2, .int .i64 1, .slice none 0 0, .int .i64 2, .int .i64 x0, .int .i64 x1, .int .i64 x2, .int .i64 x3, .slice (some ⟨w3.heap.size, 0, none⟩) 1 1, .int .i64 3, .int .i64 0, .int .i64 0, .int .i64 0, .int .i64 0, .slice (some ⟨w3.heap.size + 1, 0, none⟩) 2 2, .int .i64 4, .int .i64 0, .int .i64 x1, .int .i64 x2, .int .i64 0, .slice none 0 0, .int .i64 5, .int .i64 0, .int .i64 x1, .int .i64 0, .int .i64 0, .slice none 0 0] 27)) := (((Kp.refl _ _).alloc _).alloc _).alloc _
  have r1 := ((Blk.new w3 27 #[.int .i64 k, .int .i64 s, .int .i64 lo, .int .i64 hi, .int .i64 st, .slice A0 P.length c0]).alloc (.cells #[.int .i64 k, .int .i64 s, .int .i64 lo, .int .i64 hi, .int .i64 st, .slice A0 P.length c0, .int .i64 k', .int .i64 s', .int .i64 lo', .int .i64 hi', .int .i64 st', .slice A0' P'.length c0'] 27)).alloc (.cells #[.int .i64 0, .int .i64 x0, .int .i64 0, .int .i64 0, .int .i64 0, .slice none 0 0, .int .i64 1, .int .i64 x0, .int .i64 x1, .int .i64 x2, .int .i64 1, .slice none 0 0, .int .i64 2, .int .i64 x0, .int .i64 x1, .int .i64 x2, .int .i64 x3, .slice (some ⟨w3.heap.size, 0, none⟩) 1 1, .int .i64 3, .int .i64 0, .int .i64 0, .int .i64 0, .int .i64 0, .slice (some ⟨w3.heap.size + 1, 0, none⟩) 2 2, .int .i64 4, .int .i64 0, .int .i64 x1, .int .i64 x2, .int .i64 0, .slice none 0 0, .int .i64 5, .int .i64 0, .int .i64 x1, .int .i64 0, .int .i64 0, .slice none 0 0] 27)
  have r2 := (Blk.new (w3.alloc (.cells #[.int .i64 k, .int .i64 s, .int .i64 lo, .int .i64 hi, .int .i64 st, .slice A0 P.length c0] 27)) 27 #[.int .i64 k, .int .i64 s, .int .i64 lo, .int .i64 hi, .int .i64 st, .slice A0 P.length c0, .int .i64 k', .int .i64 s', .int .i64 lo', .int .i64 hi', .int .i64 st', .slice A0' P'.length c0']).alloc (.cells #[.int .i64 0, .int .i64 x0, .int .i64 0, .int .i64 0, .int .i64 0, .slice none 0 0, .int .i64 1, .int .i64 x0, .int .i64 x1, .int .i64 x2, .int .i64 1, .slice none 0 0, .int .i64 2, .int .i64 x0, .int .i64 x1, .int .i64 x2, .int .i64 x3, .slice (some ⟨w3.heap.size, 0, none⟩) 1 1, .int .i64 3, .int .i64 0, .int .i64 0, .int .i64 0, .int .i64 0, .slice (some ⟨w3.heap.size + 1, 0, none⟩) 2 2, .int .i64 4, .int .i64 0, .int .i64 x1, .int .i64 x2, .int .i64 0, .slice none 0 0, .int .i64 5, .int .i64 0, .int .i64 x1, .int .i64 0, .int .i64 0, .slice none 0 0] 27)
  have r3 := Blk.new ((w3.alloc (.cells #[.int .i64 k, .int .i64 s, .int .i64 lo, .int .i64 hi, .int .i64 st, .slice A0 P.length c0] 27)).alloc (.cells #[.int .i64 k, .int .i64 s, .int .i64 lo, .int .i64 hi, .int .i64 st, .slice A0 P.length c0, .int .i64 k', .int .i64 s', .int .i64 lo', .int .i64 hi', .int .i64 st', .slice A0' P'.length c0'] 27)) 27 #[.int .i64 0, .int .i64 x0, .int .i64 0, .int .i64 0, .int .i64 0, .slice none 0 0, .int .i64 1, .int .i64 x0, .int .i64 x1, .int .i64 x2, .int .i64 1, .slice none 0 0, .int .i64 2, .int .i64 x0, .int .i64 x1, .int .i64 x2, .int .i64 x3, .slice (some ⟨w3.heap.size, 0, none⟩) 1 1, .int .i64 3, .int .i64 0, .int .i64 0, .int .i64 0, .int .i64 0, .slice (some ⟨w3.heap.size + 1, 0, none⟩) 2 2, .int .i64 4, .int .i64 0, .int .i64 x1, .int .i64 x2, .int .i64 0, .slice none 0 0, .int .i64 5, .int .i64 0, .int .i64 x1, .int .i64 0, .int .i64 0, .slice none 0 0]
  simp only [World.size_alloc] at r2 r3
  have HR1 := Lib.hid r1
  have HR2 := Lib.hid r2
  have HR3 := Lib.hid r3
  have HKA := Lib.hid ka
  clear m0 n0 m1 n1 m2 n2 m3 n3 m4 n4 m5 n5 p0 q0 p1 q1 p2 q2 p3 q3 y0 f0 y1 f1 y2 f2 y3 f3 y4 f4 y5 f5 g0 g1 g2 g3 ka r1 r2 r3
  generalize (((w3.alloc (.cells #[.int .i64 k, .int .i64 s, .int .i64 lo, .int .i64 hi, .int .i64 st, .slice A0 P.length c0] 27)).alloc (.cells #[.int .i64 k, .int .i64 s, .int .i64 lo, .int .i64 hi, .int .i64 st, .slice A0 P.length c0, .int .i64 k', .int .i64 s', .int .i64 lo', .int .i64 hi', .int .i64 st', .slice A0' P'.length c0'] 27)).alloc (.cells #[.int .i64 0, .int .i64 x0, .int .i64 0, .int .i64 0, .int .i64 0, .slice none 0 0, .int .i64 1, .int .i64 x0, .int .i64 x1, .int .i64 x2, .int .i64 1, .slice none 0 0, .int .i64 2, .int .i64 x0, .int .i64 x1, .int .i64 x2, .int .i64 x3, .slice (some ⟨w3.heap.size, 0, none⟩) 1 1, .int .i64 3, .int .i64 0, .int .i64 0, .int .i64 0, .int .i64 0, .slice (some ⟨w3.heap.size + 1, 0, none⟩) 2 2, .int .i64 4, .int .i64 0, .int .i64 x1, .int .i64 x2, .int .i64 0, .slice none 0 0, .int .i64 5, .int .i64 0, .int .i64 x1, .int .i64 0, .int .i64 0, .slice none 0 0] 27)) = W5 at HKA HR1 HR2 HR3 ⊢
  generalize w3.heap.size = g0 at HR1 HR2 HR3 ⊢
  have HK5 := Lib.hid (HK3.out.then_ HKA.out (fun _ h => h.elim))
  -- what was wanted
  have HWT := Lib.hid (show FsR W5 (fun _ => True) (.slice (some ⟨g0 + 1 + 1, 0, none⟩) 6 6) (sixF x0 x1 x2 x3 (.mk ⟨k, s, lo, hi, st⟩ P) (.mk ⟨k', s', lo', hi', st'⟩ P')) from six_R HX.out.1 HX.out.2.1 HX.out.2.2.1 HX.out.2.2.2 (Nat.le_refl _) (Nat.le_refl _)
    (tl_one HR1.out trivial _ _ (tr_of (HV.out W5 HK5.out)) rfl) (tl_two HR2.out trivial _ _ _ _ (tr_of (HV.out W5 HK5.out)) (tr_of (HV'.out W5 HK5.out)) rfl rfl) HR3.out trivial)
  have HQ35 := Lib.hid (HQ33.out.kp HKA.out (fun h => h))
  have HQ45 := Lib.hid (HQ43.out.kp HKA.out (fun h => h))
  have HQ55 := Lib.hid (HQ53.out.kp HKA.out (fun h => h))
  have HCE := Lib.hid (fun W (hk : Kp (fun _ => False) W5 W) => show (fun w' : World => w'.cell? ⟨w.heap.size, 0, none⟩ = some (.int .i64 x0) ∧ w'.cell? ⟨w.heap.size, 1, none⟩ = some (.int .i64 x1) ∧ w'.cell? ⟨w.heap.size, 2, none⟩ = some (.int .i64 x2) ∧ w'.cell? ⟨w.heap.size, 3, none⟩ = some (.int .i64 x3) ∧ w'.cell? ⟨w.heap.size + 1, 0, none⟩ = some (.int .i64 k) ∧ w'.cell? ⟨w.heap.size + 1, 1, none⟩ = some (.int .i64 s) ∧ w'.cell? ⟨w.heap.size + 1, 2, none⟩ = some (.int .i64 lo) ∧ w'.cell? ⟨w.heap.size + 1, 3, none⟩ = some (.int .i64 hi) ∧ w'.cell? ⟨w.heap.size + 1, 4, none⟩ = some (.int .i64 st) ∧ w'.cell? ⟨w.heap.size + 1, 5, none⟩ = some (.slice A0 P.length c0) ∧ w'.cell? ⟨w.heap.size + 1 + 1, 0, none⟩ = some (.int .i64 k') ∧ w'.cell? ⟨w.heap.size + 1 + 1, 1, none⟩ = some (.int .i64 s') ∧ w'.cell? ⟨w.heap.size + 1 + 1, 2, none⟩ = some (.int .i64 lo') ∧ w'.cell? ⟨w.heap.size + 1 + 1, 3, none⟩ = some (.int .i64 hi') ∧ w'.cell? ⟨w.heap.size + 1 + 1, 4, none⟩ = some (.int .i64 st') ∧ w'.cell? ⟨w.heap.size + 1 + 1, 5, none⟩ = some (.slice A0' P'.length c0')) W from by
    have h3 := HQ35.out.kp hk (fun h => h)
    have h4 := HQ45.out.kp hk (fun h => h)
    have h5 := HQ55.out.kp hk (fun h => h)
    exact ⟨h3.cell 0, h3.cell 1, h3.cell 2, h3.cell 3, h4.cell 0, h4.cell 1, h4.cell 2, h4.cell 3, h4.cell 4, h4.cell 5, h5.cell 0, h5.cell 1, h5.cell 2, h5.cell 3, h5.cell 4, h5.cell 5⟩)
  have HKW := Lib.hid (fun W (hk : Kp (fun _ => False) W5 W) => HK5.out.then_ hk (fun _ h => h.elim))
  have HKZ := Lib.hid (Kp.refl (fun _ => False) W5)
  clear HR1 HR2 HR3 HQ33 HQ43 HQ53 HQ35 HQ45 HQ55 HK3 HKA
  go_cut [8] (fun q wx => ∃ g8, q = .slice (some ⟨g8, 0, none⟩) 6 6 ∧ FsR wx (fun _ => True) (.slice (some ⟨g8, 0, none⟩) 6 6) (sixF x0 x1 x2 x3 (.mk ⟨k, s, lo, hi, st⟩ P) (.mk ⟨k', s', lo', hi', st'⟩ P')) ∧ Kp (fun _ => False) W5 wx)
  case first =>
    refine wp_region_noPanic ?_
    refine wp_region_held_drew (S := (fun w' : World => w'.cell? ⟨w.heap.size, 0, none⟩ = some (.int .i64 x0) ∧ w'.cell? ⟨w.heap.size, 1, none⟩ = some (.int .i64 x1) ∧ w'.cell? ⟨w.heap.size, 2, none⟩ = some (.int .i64 x2) ∧ w'.cell? ⟨w.heap.size, 3, none⟩ = some (.int .i64 x3) ∧ w'.cell? ⟨w.heap.size + 1, 0, none⟩ = some (.int .i64 k) ∧ w'.cell? ⟨w.heap.size + 1, 1, none⟩ = some (.int .i64 s) ∧ w'.cell? ⟨w.heap.size + 1, 2, none⟩ = some (.int .i64 lo) ∧ w'.cell? ⟨w.heap.size + 1, 3, none⟩ = some (.int .i64 hi) ∧ w'.cell? ⟨w.heap.size + 1, 4, none⟩ = some (.int .i64 st) ∧ w'.cell? ⟨w.heap.size + 1, 5, none⟩ = some (.slice A0 P.length c0) ∧ w'.cell? ⟨w.heap.size + 1 + 1, 0, none⟩ = some (.int .i64 k') ∧ w'.cell? ⟨w.heap.size + 1 + 1, 1, none⟩ = some (.int .i64 s') ∧ w'.cell? ⟨w.heap.size + 1 + 1, 2, none⟩ = some (.int .i64 lo') ∧ w'.cell? ⟨w.heap.size + 1 + 1, 3, none⟩ = some (.int .i64 hi') ∧ w'.cell? ⟨w.heap.size + 1 + 1, 4, none⟩ = some (.int .i64 st') ∧ w'.cell? ⟨w.heap.size + 1 + 1, 5, none⟩ = some (.slice A0' P'.length c0'))) (by kernel_rfl) (HCE.out _ HKZ.out.drew) (fun hHeld => ?_)
    have hq := HKZ.out.drew
    clear HKZ
    have HKZ := Lib.hid hq
    clear hq
    generalize W5.drew = y0 at HKZ hHeld ⊢
    refine wpAnyH_take (i := 0) (v := ?va_0) (by simp only [List.getElem?_toArray, List.getElem?_cons_succ, List.getElem?_cons_zero]; rfl) (by kernel_rfl) (by kernel_rfl) (by kernel_rfl) (fun _ _ _ h => h) (Or.inl ⟨by rfl, ?ha_0⟩) (by assumption) ?ra_0
    case ha_0 => (intro w hSw; (try dsimp only at hSw); go_simp; (try with_reducible rfl))
    try simp only [Act.put, List.setIfInBounds_toArray, List.set_cons_zero, List.set_cons_succ]
    refine wpAnyH_take (i := 1) (v := ?va_1) (by simp only [List.getElem?_toArray, List.getElem?_cons_succ, List.getElem?_cons_zero]; rfl) (by kernel_rfl) (by kernel_rfl) (by kernel_rfl) (fun _ _ _ h => h) (Or.inl ⟨by rfl, ?ha_1⟩) (by assumption) ?ra_1
    case ha_1 => (intro w hSw; (try dsimp only at hSw); go_simp; (try with_reducible rfl))
    try simp only [Act.put, List.setIfInBounds_toArray, List.set_cons_zero, List.set_cons_succ]
    refine wpAnyH_take (i := 3) (v := ?va_3) (by simp only [List.getElem?_toArray, List.getElem?_cons_succ, List.getElem?_cons_zero]; rfl) (by kernel_rfl) (by kernel_rfl) (by kernel_rfl) (fun _ _ _ h => h) (Or.inl ⟨by rfl, ?ha_3⟩) (by assumption) ?ra_3
    case ha_3 => (intro w hSw; (try dsimp only at hSw); go_simp; (try with_reducible rfl))
    try simp only [Act.put, List.setIfInBounds_toArray, List.set_cons_zero, List.set_cons_succ]
    refine wpAnyH_take (i := 4) (v := ?va_4) (by simp only [List.getElem?_toArray, List.getElem?_cons_succ, List.getElem?_cons_zero]; rfl) (by kernel_rfl) (by kernel_rfl) (by kernel_rfl) (fun _ _ _ h => h) (Or.inl ⟨by rfl, ?ha_4⟩) (by assumption) ?ra_4
    case ha_4 => (intro w hSw; (try dsimp only at hSw); go_simp; (try with_reducible rfl))
    try simp only [Act.put, List.setIfInBounds_toArray, List.set_cons_zero, List.set_cons_succ]
    refine wpAnyH_take (i := 5) (v := ?va_5) (by simp only [List.getElem?_toArray, List.getElem?_cons_succ, List.getElem?_cons_zero]; rfl) (by kernel_rfl) (by kernel_rfl) (by kernel_rfl) (fun _ _ _ h => h) (Or.inl ⟨by rfl, ?ha_5⟩) (by assumption) ?ra_5
    case ha_5 => (intro w hSw; (try dsimp only at hSw); go_simp; (try with_reducible rfl))
    try simp only [Act.put, List.setIfInBounds_toArray, List.set_cons_zero, List.set_cons_succ]
    refine wpAnyH_take (i := 6) (v := ?va_6) (by simp only [List.getElem?_toArray, List.getElem?_cons_succ, List.getElem?_cons_zero]; rfl) (by kernel_rfl) (by kernel_rfl) (by kernel_rfl) (fun _ _ _ h => h) (Or.inl ⟨by rfl, ?ha_6⟩) (by assumption) ?ra_6
    case ha_6 => (intro w hSw; (try dsimp only at hSw); go_simp; (try with_reducible rfl))
    try simp only [Act.put, List.setIfInBounds_toArray, List.set_cons_zero, List.set_cons_succ]
    refine wpAnyH_take (i := 7) (v := ?va_7) (by simp only [List.getElem?_toArray, List.getElem?_cons_succ, List.getElem?_cons_zero]; rfl) (by kernel_rfl) (by kernel_rfl) (by kernel_rfl) (fun _ _ _ h => h) (Or.inl ⟨by rfl, ?ha_7⟩) (by assumption) ?ra_7
    case ha_7 => (intro w hSw; (try dsimp only at hSw); go_simp; (try with_reducible rfl))
    try simp only [Act.put, List.setIfInBounds_toArray, List.set_cons_zero, List.set_cons_succ]
    refine wpAnyH_take (i := 8) (v := ?va_8) (by simp only [List.getElem?_toArray, List.getElem?_cons_succ, List.getElem?_cons_zero]; rfl) (by kernel_rfl) (by kernel_rfl) (by kernel_rfl) (fun _ _ _ h => h) (Or.inl ⟨by rfl, ?ha_8⟩) (by assumption) ?ra_8
    case ha_8 => (intro w hSw; (try dsimp only at hSw); go_simp; (try with_reducible rfl))
    try simp only [Act.put, List.setIfInBounds_toArray, List.set_cons_zero, List.set_cons_succ]
    refine wpAnyH_take (i := 10) (v := ?va_10) (by simp only [List.getElem?_toArray, List.getElem?_cons_succ, List.getElem?_cons_zero]; rfl) (by kernel_rfl) (by kernel_rfl) (by kernel_rfl) (fun _ _ _ h => h) (Or.inl ⟨by rfl, ?ha_10⟩) (by assumption) ?ra_10
    case ha_10 => (intro w hSw; (try dsimp only at hSw); go_simp; (try with_reducible rfl))
    try simp only [Act.put, List.setIfInBounds_toArray, List.set_cons_zero, List.set_cons_succ]
    refine wpAnyH_take (i := 11) (v := ?va_11) (by simp only [List.getElem?_toArray, List.getElem?_cons_succ, List.getElem?_cons_zero]; rfl) (by kernel_rfl) (by kernel_rfl) (by kernel_rfl) (fun _ _ _ h => h) (Or.inl ⟨by rfl, ?ha_11⟩) (by assumption) ?ra_11
    case ha_11 => (intro w hSw; (try dsimp only at hSw); go_simp; (try with_reducible rfl))
    try simp only [Act.put, List.setIfInBounds_toArray, List.set_cons_zero, List.set_cons_succ]
    refine wpAnyH_take (i := 12) (v := ?va_12) (by simp only [List.getElem?_toArray, List.getElem?_cons_succ, List.getElem?_cons_zero]; rfl) (by kernel_rfl) (by kernel_rfl) (by kernel_rfl) (fun _ _ _ h => h) (Or.inl ⟨by rfl, ?ha_12⟩) (by assumption) ?ra_12
    case ha_12 => (intro w hSw; (try dsimp only at hSw); go_simp; (try with_reducible rfl))
    try simp only [Act.put, List.setIfInBounds_toArray, List.set_cons_zero, List.set_cons_succ]
    refine wpAnyH_take (i := 13) (v := ?va_13) (by simp only [List.getElem?_toArray, List.getElem?_cons_succ, List.getElem?_cons_zero]; rfl) (by kernel_rfl) (by kernel_rfl) (by kernel_rfl) (fun _ _ _ h => h) (Or.inl ⟨by rfl, ?ha_13⟩) (by assumption) ?ra_13
    case ha_13 => (intro w hSw; (try dsimp only at hSw); go_simp; (try with_reducible rfl))
    try simp only [Act.put, List.setIfInBounds_toArray, List.set_cons_zero, List.set_cons_succ]
    refine wpAnyH_take (i := 14) (v := ?va_14) (by simp only [List.getElem?_toArray, List.getElem?_cons_succ, List.getElem?_cons_zero]; rfl) (by kernel_rfl) (by kernel_rfl) (by kernel_rfl) (fun _ _ _ h => h) (Or.inl ⟨by rfl, ?ha_14⟩) (by assumption) ?ra_14
    case ha_14 => (intro w hSw; (try dsimp only at hSw); go_simp; (try with_reducible rfl))
    try simp only [Act.put, List.setIfInBounds_toArray, List.set_cons_zero, List.set_cons_succ]
    refine wpAnyH_take (i := 15) (v := ?va_15) (by simp only [List.getElem?_toArray, List.getElem?_cons_succ, List.getElem?_cons_zero]; rfl) (by kernel_rfl) (by kernel_rfl) (by kernel_rfl) (fun _ _ _ h => h) (Or.inl ⟨by rfl, ?ha_15⟩) (by assumption) ?ra_15
    case ha_15 => (intro w hSw; (try dsimp only at hSw); go_simp; (try with_reducible rfl))
    try simp only [Act.put, List.setIfInBounds_toArray, List.set_cons_zero, List.set_cons_succ]
    refine wpAnyH_take (i := 16) (v := ?va_16) (by simp only [List.getElem?_toArray, List.getElem?_cons_succ, List.getElem?_cons_zero]; rfl) (by kernel_rfl) (by kernel_rfl) (by kernel_rfl) (fun _ _ _ h => h) (Or.inl ⟨by rfl, ?ha_16⟩) (by assumption) ?ra_16
    case ha_16 => (intro w hSw; (try dsimp only at hSw); go_simp; (try with_reducible rfl))
    try simp only [Act.put, List.setIfInBounds_toArray, List.set_cons_zero, List.set_cons_succ]
    refine wpAnyH_take (i := 17) (v := ?va_17) (by simp only [List.getElem?_toArray, List.getElem?_cons_succ, List.getElem?_cons_zero]; rfl) (by kernel_rfl) (by kernel_rfl) (by kernel_rfl) (fun _ _ _ h => h) (Or.inl ⟨by rfl, ?ha_17⟩) (by assumption) ?ra_17
    case ha_17 => (intro w hSw; (try dsimp only at hSw); go_simp; (try with_reducible rfl))
    try simp only [Act.put, List.setIfInBounds_toArray, List.set_cons_zero, List.set_cons_succ]
    refine wpAnyH_take (i := 18) (v := ?va_18) (by simp only [List.getElem?_toArray, List.getElem?_cons_succ, List.getElem?_cons_zero]; rfl) (by kernel_rfl) (by kernel_rfl) (by kernel_rfl) (fun _ _ _ h => h) (Or.inl ⟨by rfl, ?ha_18⟩) (by assumption) ?ra_18
    case ha_18 => (intro w hSw; (try dsimp only at hSw); go_simp; (try with_reducible rfl))
    try simp only [Act.put, List.setIfInBounds_toArray, List.set_cons_zero, List.set_cons_succ]
    refine wpAnyH_take (i := 20) (v := ?va_20) (by simp only [List.getElem?_toArray, List.getElem?_cons_succ, List.getElem?_cons_zero]; rfl) (by kernel_rfl) (by kernel_rfl) (by kernel_rfl) (fun _ _ _ h => h) (Or.inl ⟨by rfl, ?ha_20⟩) (by assumption) ?ra_20
    case ha_20 => (intro w hSw; (try dsimp only at hSw); go_simp; (try with_reducible rfl))
    try simp only [Act.put, List.setIfInBounds_toArray, List.set_cons_zero, List.set_cons_succ]
    refine wpAnyH_take (i := 21) (v := ?va_21) (by simp only [List.getElem?_toArray, List.getElem?_cons_succ, List.getElem?_cons_zero]; rfl) (by kernel_rfl) (by kernel_rfl) (by kernel_rfl) (fun _ _ _ h => h) (Or.inl ⟨by rfl, ?ha_21⟩) (by assumption) ?ra_21
    case ha_21 => (intro w hSw; (try dsimp only at hSw); go_simp; (try with_reducible rfl))
    try simp only [Act.put, List.setIfInBounds_toArray, List.set_cons_zero, List.set_cons_succ]
    refine wpAnyH_take (i := 24) (v := ?va_24) (by simp only [List.getElem?_toArray, List.getElem?_cons_succ, List.getElem?_cons_zero]; rfl) (by kernel_rfl) (by kernel_rfl) (by kernel_rfl) (fun _ _ _ h => h) (Or.inl ⟨by rfl, ?ha_24⟩) (by assumption) ?ra_24
    case ha_24 => (intro w hSw; (try dsimp only at hSw); go_simp; (try with_reducible rfl))
    try simp only [Act.put, List.setIfInBounds_toArray, List.set_cons_zero, List.set_cons_succ]
    refine wpAnyH_take (i := 25) (v := ?va_25) (by simp only [List.getElem?_toArray, List.getElem?_cons_succ, List.getElem?_cons_zero]; rfl) (by kernel_rfl) (by kernel_rfl) (by kernel_rfl) (fun _ _ _ h => h) (Or.inl ⟨by rfl, ?ha_25⟩) (by assumption) ?ra_25
    case ha_25 => (intro w hSw; (try dsimp only at hSw); go_simp; (try with_reducible rfl))
    try simp only [Act.put, List.setIfInBounds_toArray, List.set_cons_zero, List.set_cons_succ]
    refine wpAnyH_take (i := 26) (v := ?va_26) (by simp only [List.getElem?_toArray, List.getElem?_cons_succ, List.getElem?_cons_zero]; rfl) (by kernel_rfl) (by kernel_rfl) (by kernel_rfl) (fun _ _ _ h => h) (Or.inl ⟨by rfl, ?ha_26⟩) (by assumption) ?ra_26
    case ha_26 => (intro w hSw; (try dsimp only at hSw); go_simp; (try with_reducible rfl))
    try simp only [Act.put, List.setIfInBounds_toArray, List.set_cons_zero, List.set_cons_succ]
    refine wpAnyH_take (i := 27) (v := ?va_27) (by simp only [List.getElem?_toArray, List.getElem?_cons_succ, List.getElem?_cons_zero]; rfl) (by kernel_rfl) (by kernel_rfl) (by kernel_rfl) (fun _ _ _ h => h) (Or.inl ⟨by rfl, ?ha_27⟩) (by assumption) ?ra_27
    case ha_27 => (intro w hSw; (try dsimp only at hSw); go_simp; (try with_reducible rfl))
    try simp only [Act.put, List.setIfInBounds_toArray, List.set_cons_zero, List.set_cons_succ]
    refine wpAnyH_take (i := 29) (v := ?va_29) (by simp only [List.getElem?_toArray, List.getElem?_cons_succ, List.getElem?_cons_zero]; rfl) (by kernel_rfl) (by kernel_rfl) (by kernel_rfl) (fun _ _ _ h => h) (Or.inl ⟨by rfl, ?ha_29⟩) (by assumption) ?ra_29
    case ha_29 => (intro w hSw; (try dsimp only at hSw); go_simp; (try with_reducible rfl))
    try simp only [Act.put, List.setIfInBounds_toArray, List.set_cons_zero, List.set_cons_succ]
    refine wpAnyH_take (i := 30) (v := ?va_30) (by simp only [List.getElem?_toArray, List.getElem?_cons_succ, List.getElem?_cons_zero]; rfl) (by kernel_rfl) (by kernel_rfl) (by kernel_rfl) (fun _ _ _ h => h) (Or.inl ⟨by rfl, ?ha_30⟩) (by assumption) ?ra_30
    case ha_30 => (intro w hSw; (try dsimp only at hSw); go_simp; (try with_reducible rfl))
    try simp only [Act.put, List.setIfInBounds_toArray, List.set_cons_zero, List.set_cons_succ]
    refine wpAnyH_ready (rs := [2, 22]) (by kernel_rfl) (by simp) ?_
    refine (AllReadyH.cons (o := _) rfl (fun K hK => ?_) (AllReadyH.cons (o := _) rfl (fun K hK => ?_) AllReadyH.nil))
    · go_simp
      refine (number_any x0 _).mono ?_
      rintro e y1 ⟨rfl, hk5⟩
      have hq := HKZ.out.then_ hk5 (fun _ h => h.elim)
      clear HKZ
      have HKZ := Lib.hid hq
      clear hq
      clear hk5
      try simp only [Act.put, List.setIfInBounds_toArray, List.set_cons_zero, List.set_cons_succ]
      try dsimp only
      refine hK.out _ _ (HCE.out _ HKZ.out) (fun hHeld => ?_)
      clear hK K
      refine wpAnyH_ready (rs := [9, 22]) (by kernel_rfl) (by simp) ?_
      refine (AllReadyH.cons (o := _) rfl (fun K hK => ?_) (AllReadyH.cons (o := _) rfl (fun K hK => ?_) AllReadyH.nil))
      · go_simp
        refine (opaque_any x0 x1 x2 _).mono ?_
        rintro e y2 ⟨rfl, hk5⟩
        have hq := HKZ.out.then_ hk5 (fun _ h => h.elim)
        clear HKZ
        have HKZ := Lib.hid hq
        clear hq
        clear hk5
        try simp only [Act.put, List.setIfInBounds_toArray, List.set_cons_zero, List.set_cons_succ]
        try dsimp only
        refine hK.out _ _ (HCE.out _ HKZ.out) (fun hHeld => ?_)
        clear hK K
        refine wpAnyH_ready (rs := [19, 22]) (by kernel_rfl) (by simp) ?_
        refine (AllReadyH.cons (o := _) rfl (fun K hK => ?_) (AllReadyH.cons (o := _) rfl (fun K hK => ?_) AllReadyH.nil))
        · go_simp
          refine (list_anyR _ x0 x1 x2 x3 (.mk ⟨k, s, lo, hi, st⟩ P) A0 c0 _ HX.out.1 HX.out.2.1 HX.out.2.2.1 HX.out.2.2.2 (HV.out _ (HKW.out _ HKZ.out))).mono ?_
          rintro e y3 ⟨B7, rfl, hv7, hk5⟩
          have hq := HKZ.out.then_ hk5 (fun _ h => h.elim)
          clear HKZ
          have HKZ := Lib.hid hq
          clear hq
          have HLI := Lib.hid (hv7.mono (ok' := fun _ => True) (fun _ _ => trivial))
          clear hv7
          clear hk5
          try simp only [Act.put, List.setIfInBounds_toArray, List.set_cons_zero, List.set_cons_succ]
          try dsimp only
          refine hK.out _ _ (HCE.out _ HKZ.out) (fun hHeld => ?_)
          clear hK K
          refine wpAnyH_ready (rs := [22]) (by kernel_rfl) (by simp) ?_
          refine (AllReadyH.cons (o := _) rfl (fun K hK => ?_) AllReadyH.nil)
          go_simp
          have hk5 : Kp (fun _ => False) y3 (y3.alloc (.cells #[.int .i64 k, .int .i64 s, .int .i64 lo, .int .i64 hi, .int .i64 st, .slice A0 P.length c0, .int .i64 k', .int .i64 s', .int .i64 lo', .int .i64 hi', .int .i64 st', .slice A0' P'.length c0'] 27)) := (Kp.refl _ _).alloc _
          have hsb := Blk.new y3 27 #[.int .i64 k, .int .i64 s, .int .i64 lo, .int .i64 hi, .int .i64 st, .slice A0 P.length c0, .int .i64 k', .int .i64 s', .int .i64 lo', .int .i64 hi', .int .i64 st', .slice A0' P'.length c0']
          have hq := HKZ.out.then_ hk5 (fun _ h => h.elim)
          clear HKZ
          have HKZ := Lib.hid hq
          clear hq
          have hHLI := HLI.out.kp hk5 (fun _ _ h => h)
          clear HLI
          have HLI := Lib.hid hHLI
          clear hHLI
          have HSB := Lib.hid hsb
          clear hsb hk5
          generalize y3.alloc (.cells #[.int .i64 k, .int .i64 s, .int .i64 lo, .int .i64 hi, .int .i64 st, .slice A0 P.length c0, .int .i64 k', .int .i64 s', .int .i64 lo', .int .i64 hi', .int .i64 st', .slice A0' P'.length c0'] 27) = y4 at HLI HSB HKZ ⊢
          generalize y3.heap.size = gS at HSB ⊢
          try simp only [Act.put, List.setIfInBounds_toArray, List.set_cons_zero, List.set_cons_succ]
          try dsimp only
          refine hK.out _ _ (HCE.out _ HKZ.out) (fun hHeld => ?_)
          clear hK K
          refine wpAnyH_ready (rs := [23]) (by kernel_rfl) (by simp) ?_
          refine (AllReadyH.cons (o := _) rfl (fun K hK => ?_) AllReadyH.nil)
          go_simp
          refine (row_anyR (· < y4.heap.size) _ [(.mk ⟨k, s, lo, hi, st⟩ P), (.mk ⟨k', s', lo', hi', st'⟩ P')] _ (fun _ h => h) (FmR.two4 (HV.out _ (HKW.out _ HKZ.out)) (HV'.out _ (HKW.out _ HKZ.out)) HSB.out HSB.out.lt) (by simp)).mono ?_
          rintro e y5 ⟨A8, c8, rfl, hv8, hk5⟩
          have hq := HKZ.out.then_ hk5 (fun _ h => h.elim)
          clear HKZ
          have HKZ := Lib.hid hq
          clear hq
          have hHLI := HLI.out.kp hk5 (fun _ _ h => h)
          have hHSB := HSB.out.kp hk5 (fun h => h)
          clear HLI
          have HLI := Lib.hid hHLI
          clear hHLI
          clear HSB
          have HSB := Lib.hid hHSB
          clear hHSB
          have HRO := Lib.hid (hv8.mono (ok' := fun _ => True) (fun _ _ => trivial))
          clear hv8
          clear hk5
          try simp only [Act.put, List.setIfInBounds_toArray, List.set_cons_zero, List.set_cons_succ]
          try dsimp only
          refine hK.out _ _ (HCE.out _ HKZ.out) (fun hHeld => ?_)
          clear hK K
          refine wpAnyH_ready (rs := [28]) (by kernel_rfl) (by simp) ?_
          refine (AllReadyH.cons (o := _) rfl (fun K hK => ?_) AllReadyH.nil)
          go_simp
          refine (rest_any x1 x2 _).mono ?_
          rintro e y6 ⟨rfl, hk5⟩
          have hq := HKZ.out.then_ hk5 (fun _ h => h.elim)
          clear HKZ
          have HKZ := Lib.hid hq
          clear hq
          have hHLI := HLI.out.kp hk5 (fun _ _ h => h)
          have hHSB := HSB.out.kp hk5 (fun h => h)
          have hHRO := HRO.out.kp hk5 (fun _ _ h => h)
          clear HLI
          have HLI := Lib.hid hHLI
          clear hHLI
          clear HSB
          have HSB := Lib.hid hHSB
          clear hHSB
          clear HRO
          have HRO := Lib.hid hHRO
          clear hHRO
          clear hk5
          try simp only [Act.put, List.setIfInBounds_toArray, List.set_cons_zero, List.set_cons_succ]
          try dsimp only
          refine hK.out _ _ (HCE.out _ HKZ.out) (fun hHeld => ?_)
          clear hK K
          refine wpAnyH_ready (rs := [31]) (by kernel_rfl) (by simp) ?_
          refine (AllReadyH.cons (o := _) rfl (fun K hK => ?_) AllReadyH.nil)
          go_simp
          refine (fixed_any x1 _).mono ?_
          rintro e y7 ⟨rfl, hk5⟩
          have hq := HKZ.out.then_ hk5 (fun _ h => h.elim)
          clear HKZ
          have HKZ := Lib.hid hq
          clear hq
          have hHLI := HLI.out.kp hk5 (fun _ _ h => h)
          have hHSB := HSB.out.kp hk5 (fun h => h)
          have hHRO := HRO.out.kp hk5 (fun _ _ h => h)
          clear HLI
          have HLI := Lib.hid hHLI
          clear hHLI
          clear HSB
          have HSB := Lib.hid hHSB
          clear hHSB
          clear HRO
          have HRO := Lib.hid hHRO
          clear hHRO
          clear hk5
          try simp only [Act.put, List.setIfInBounds_toArray, List.set_cons_zero, List.set_cons_succ]
          try dsimp only
          refine hK.out _ _ (HCE.out _ HKZ.out) (fun hHeld => ?_)
          clear hK K
          refine wpAnyH_ready (rs := [32]) (by kernel_rfl) (by simp) ?_
          refine (AllReadyH.cons (o := _) rfl (fun K hK => ?_) AllReadyH.nil)
          go_simp
          have hk5 : Kp (fun _ => False) y7 (y7.alloc (.cells #[.int .i64 0, .int .i64 x0, .int .i64 0, .int .i64 0, .int .i64 0, .slice none 0 0, .int .i64 1, .int .i64 x0, .int .i64 x1, .int .i64 x2, .int .i64 1, .slice none 0 0, .int .i64 2, .int .i64 x0, .int .i64 x1, .int .i64 x2, .int .i64 x3, .slice (some ⟨B7, 0, none⟩) 1 1, .int .i64 3, .int .i64 0, .int .i64 0, .int .i64 0, .int .i64 0, .slice A8 2 c8, .int .i64 4, .int .i64 0, .int .i64 x1, .int .i64 x2, .int .i64 0, .slice none 0 0, .int .i64 5, .int .i64 0, .int .i64 x1, .int .i64 0, .int .i64 0, .slice none 0 0] 27)) := (Kp.refl _ _).alloc _
          have hsx := Blk.new y7 27 #[.int .i64 0, .int .i64 x0, .int .i64 0, .int .i64 0, .int .i64 0, .slice none 0 0, .int .i64 1, .int .i64 x0, .int .i64 x1, .int .i64 x2, .int .i64 1, .slice none 0 0, .int .i64 2, .int .i64 x0, .int .i64 x1, .int .i64 x2, .int .i64 x3, .slice (some ⟨B7, 0, none⟩) 1 1, .int .i64 3, .int .i64 0, .int .i64 0, .int .i64 0, .int .i64 0, .slice A8 2 c8, .int .i64 4, .int .i64 0, .int .i64 x1, .int .i64 x2, .int .i64 0, .slice none 0 0, .int .i64 5, .int .i64 0, .int .i64 x1, .int .i64 0, .int .i64 0, .slice none 0 0]
          have hq := HKZ.out.then_ hk5 (fun _ h => h.elim)
          clear HKZ
          have HKZ := Lib.hid hq
          clear hq
          have hHLI := HLI.out.kp hk5 (fun _ _ h => h)
          have hHSB := HSB.out.kp hk5 (fun h => h)
          have hHRO := HRO.out.kp hk5 (fun _ _ h => h)
          clear HLI
          have HLI := Lib.hid hHLI
          clear hHLI
          clear HSB
          have HSB := Lib.hid hHSB
          clear hHSB
          clear HRO
          have HRO := Lib.hid hHRO
          clear hHRO
          have HSX := Lib.hid hsx
          clear hsx hk5
          generalize y7.alloc (.cells #[.int .i64 0, .int .i64 x0, .int .i64 0, .int .i64 0, .int .i64 0, .slice none 0 0, .int .i64 1, .int .i64 x0, .int .i64 x1, .int .i64 x2, .int .i64 1, .slice none 0 0, .int .i64 2, .int .i64 x0, .int .i64 x1, .int .i64 x2, .int .i64 x3, .slice (some ⟨B7, 0, none⟩) 1 1, .int .i64 3, .int .i64 0, .int .i64 0, .int .i64 0, .int .i64 0, .slice A8 2 c8, .int .i64 4, .int .i64 0, .int .i64 x1, .int .i64 x2, .int .i64 0, .slice none 0 0, .int .i64 5, .int .i64 0, .int .i64 x1, .int .i64 0, .int .i64 0, .slice none 0 0] 27) = yZ at HLI HSB HRO HSX HKZ ⊢
          generalize y7.heap.size = gX at HSX ⊢
          try simp only [Act.put, List.setIfInBounds_toArray, List.set_cons_zero, List.set_cons_succ]
          try dsimp only
          refine hK.out _ _ (HCE.out _ HKZ.out) (fun hHeld => ?_)
          clear hK K
          refine wpAnyH_take (i := 33) (v := ?vz1_33) (by simp only [List.getElem?_toArray, List.getElem?_cons_succ, List.getElem?_cons_zero]; rfl) (by kernel_rfl) (by kernel_rfl) (by kernel_rfl) (fun _ _ _ h => h) (Or.inl ⟨by rfl, ?hz1_33⟩) (by assumption) ?rz1_33
          case hz1_33 => (intro w hSw; (try dsimp only at hSw); go_simp; (try with_reducible rfl))
          try simp only [Act.put, List.setIfInBounds_toArray, List.set_cons_zero, List.set_cons_succ]
          refine wpAnyH_done (by kernel_rfl) ?_ _
          refine NoPanic.normal ?_
          go_wp2_with fail
          go_meet
          exact ⟨gX, rfl, six_R HX.out.1 HX.out.2.1 HX.out.2.2.1 HX.out.2.2.2 (Nat.le_refl _) (FsR.len6 HRO.out.here4).1 (FsR.tl HLI.out.here4) (FsR.tl HRO.out.here4) HSX.out trivial, HKZ.out⟩
        · go_simp
          have hk5 : Kp (fun _ => False) y2 (y2.alloc (.cells #[.int .i64 k, .int .i64 s, .int .i64 lo, .int .i64 hi, .int .i64 st, .slice A0 P.length c0, .int .i64 k', .int .i64 s', .int .i64 lo', .int .i64 hi', .int .i64 st', .slice A0' P'.length c0'] 27)) := (Kp.refl _ _).alloc _
          have hsb := Blk.new y2 27 #[.int .i64 k, .int .i64 s, .int .i64 lo, .int .i64 hi, .int .i64 st, .slice A0 P.length c0, .int .i64 k', .int .i64 s', .int .i64 lo', .int .i64 hi', .int .i64 st', .slice A0' P'.length c0']
          have hq := HKZ.out.then_ hk5 (fun _ h => h.elim)
          clear HKZ
          have HKZ := Lib.hid hq
          clear hq
          have HSB := Lib.hid hsb
          clear hsb hk5
          generalize y2.alloc (.cells #[.int .i64 k, .int .i64 s, .int .i64 lo, .int .i64 hi, .int .i64 st, .slice A0 P.length c0, .int .i64 k', .int .i64 s', .int .i64 lo', .int .i64 hi', .int .i64 st', .slice A0' P'.length c0'] 27) = y8 at HSB HKZ ⊢
          generalize y2.heap.size = gS at HSB ⊢
          try simp only [Act.put, List.setIfInBounds_toArray, List.set_cons_zero, List.set_cons_succ]
          try dsimp only
          refine hK.out _ _ (HCE.out _ HKZ.out) (fun hHeld => ?_)
          clear hK K
          refine wpAnyH_ready (rs := [19]) (by kernel_rfl) (by simp) ?_
          refine (AllReadyH.cons (o := _) rfl (fun K hK => ?_) AllReadyH.nil)
          go_simp
          refine (list_anyR _ x0 x1 x2 x3 (.mk ⟨k, s, lo, hi, st⟩ P) A0 c0 _ HX.out.1 HX.out.2.1 HX.out.2.2.1 HX.out.2.2.2 (HV.out _ (HKW.out _ HKZ.out))).mono ?_
          rintro e y9 ⟨B7, rfl, hv7, hk5⟩
          have hq := HKZ.out.then_ hk5 (fun _ h => h.elim)
          clear HKZ
          have HKZ := Lib.hid hq
          clear hq
          have hHSB := HSB.out.kp hk5 (fun h => h)
          clear HSB
          have HSB := Lib.hid hHSB
          clear hHSB
          have HLI := Lib.hid (hv7.mono (ok' := fun _ => True) (fun _ _ => trivial))
          clear hv7
          clear hk5
          try simp only [Act.put, List.setIfInBounds_toArray, List.set_cons_zero, List.set_cons_succ]
          try dsimp only
          refine hK.out _ _ (HCE.out _ HKZ.out) (fun hHeld => ?_)
          clear hK K
          refine wpAnyH_ready (rs := [23]) (by kernel_rfl) (by simp) ?_
          refine (AllReadyH.cons (o := _) rfl (fun K hK => ?_) AllReadyH.nil)
          go_simp
          refine (row_anyR (· < y9.heap.size) _ [(.mk ⟨k, s, lo, hi, st⟩ P), (.mk ⟨k', s', lo', hi', st'⟩ P')] _ (fun _ h => h) (FmR.two4 (HV.out _ (HKW.out _ HKZ.out)) (HV'.out _ (HKW.out _ HKZ.out)) HSB.out HSB.out.lt) (by simp)).mono ?_
          rintro e y10 ⟨A8, c8, rfl, hv8, hk5⟩
          have hq := HKZ.out.then_ hk5 (fun _ h => h.elim)
          clear HKZ
          have HKZ := Lib.hid hq
          clear hq
          have hHSB := HSB.out.kp hk5 (fun h => h)
          have hHLI := HLI.out.kp hk5 (fun _ _ h => h)
          clear HSB
          have HSB := Lib.hid hHSB
          clear hHSB
          clear HLI
          have HLI := Lib.hid hHLI
          clear hHLI
          have HRO := Lib.hid (hv8.mono (ok' := fun _ => True) (fun _ _ => trivial))
          clear hv8
          clear hk5
          try simp only [Act.put, List.setIfInBounds_toArray, List.set_cons_zero, List.set_cons_succ]
          try dsimp only
          refine hK.out _ _ (HCE.out _ HKZ.out) (fun hHeld => ?_)
          clear hK K
          refine wpAnyH_ready (rs := [28]) (by kernel_rfl) (by simp) ?_
          refine (AllReadyH.cons (o := _) rfl (fun K hK => ?_) AllReadyH.nil)
          go_simp
          refine (rest_any x1 x2 _).mono ?_
          rintro e y11 ⟨rfl, hk5⟩
          have hq := HKZ.out.then_ hk5 (fun _ h => h.elim)
          clear HKZ
          have HKZ := Lib.hid hq
          clear hq
          have hHSB := HSB.out.kp hk5 (fun h => h)
          have hHLI := HLI.out.kp hk5 (fun _ _ h => h)
          have hHRO := HRO.out.kp hk5 (fun _ _ h => h)
          clear HSB
          have HSB := Lib.hid hHSB
          clear hHSB
          clear HLI
          have HLI := Lib.hid hHLI
          clear hHLI
          clear HRO
          have HRO := Lib.hid hHRO
          clear hHRO
          clear hk5
          try simp only [Act.put, List.setIfInBounds_toArray, List.set_cons_zero, List.set_cons_succ]
          try dsimp only
          refine hK.out _ _ (HCE.out _ HKZ.out) (fun hHeld => ?_)
          clear hK K
          refine wpAnyH_ready (rs := [31]) (by kernel_rfl) (by simp) ?_
          refine (AllReadyH.cons (o := _) rfl (fun K hK => ?_) AllReadyH.nil)
          go_simp
          refine (fixed_any x1 _).mono ?_
          rintro e y12 ⟨rfl, hk5⟩
          have hq := HKZ.out.then_ hk5 (fun _ h => h.elim)
          clear HKZ
          have HKZ := Lib.hid hq
          clear hq
          have hHSB := HSB.out.kp hk5 (fun h => h)
          have hHLI := HLI.out.kp hk5 (fun _ _ h => h)
          have hHRO := HRO.out.kp hk5 (fun _ _ h => h)
          clear HSB
          have HSB := Lib.hid hHSB
          clear hHSB
          clear HLI
          have HLI := Lib.hid hHLI
          clear hHLI
          clear HRO
          have HRO := Lib.hid hHRO
          clear hHRO
          clear hk5
          try simp only [Act.put, List.setIfInBounds_toArray, List.set_cons_zero, List.set_cons_succ]
          try dsimp only
          refine hK.out _ _ (HCE.out _ HKZ.out) (fun hHeld => ?_)
          clear hK K
          refine wpAnyH_ready (rs := [32]) (by kernel_rfl) (by simp) ?_
          refine (AllReadyH.cons (o := _) rfl (fun K hK => ?_) AllReadyH.nil)
          go_simp
          have hk5 : Kp (fun _ => False) y12 (y12.alloc (.cells #[.int .i64 0, .int .i64 x0, .int .i64 0, .int .i64 0, .int .i64 0, .slice none 0 0, .int .i64 1, .int .i64 x0, .int .i64 x1, .int .i64 x2, .int .i64 1, .slice none 0 0, .int .i64 2, .int .i64 x0, .int .i64 x1, .int .i64 x2, .int .i64 x3, .slice (some ⟨B7, 0, none⟩) 1 1, .int .i64 3, .int .i64 0, .int .i64 0, .int .i64 0, .int .i64 0, .slice A8 2 c8, .int .i64 4, .int .i64 0, .int .i64 x1, .int .i64 x2, .int .i64 0, .slice none 0 0, .int .i64 5, .int .i64 0, .int .i64 x1, .int .i64 0, .int .i64 0, .slice none 0 0] 27)) := (Kp.refl _ _).alloc _
          have hsx := Blk.new y12 27 #[.int .i64 0, .int .i64 x0, .int .i64 0, .int .i64 0, .int .i64 0, .slice none 0 0, .int .i64 1, .int .i64 x0, .int .i64 x1, .int .i64 x2, .int .i64 1, .slice none 0 0, .int .i64 2, .int .i64 x0, .int .i64 x1, .int .i64 x2, .int .i64 x3, .slice (some ⟨B7, 0, none⟩) 1 1, .int .i64 3, .int .i64 0, .int .i64 0, .int .i64 0, .int .i64 0, .slice A8 2 c8, .int .i64 4, .int .i64 0, .int .i64 x1, .int .i64 x2, .int .i64 0, .slice none 0 0, .int .i64 5, .int .i64 0, .int .i64 x1, .int .i64 0, .int .i64 0, .slice none 0 0]
          have hq := HKZ.out.then_ hk5 (fun _ h => h.elim)
          clear HKZ
          have HKZ := Lib.hid hq
          clear hq
          have hHSB := HSB.out.kp hk5 (fun h => h)
          have hHLI := HLI.out.kp hk5 (fun _ _ h => h)
          have hHRO := HRO.out.kp hk5 (fun _ _ h => h)
          clear HSB
          have HSB := Lib.hid hHSB
          clear hHSB
          clear HLI
          have HLI := Lib.hid hHLI
          clear hHLI
          clear HRO
          have HRO := Lib.hid hHRO
          clear hHRO
          have HSX := Lib.hid hsx
          clear hsx hk5
          generalize y12.alloc (.cells #[.int .i64 0, .int .i64 x0, .int .i64 0, .int .i64 0, .int .i64 0, .slice none 0 0, .int .i64 1, .int .i64 x0, .int .i64 x1, .int .i64 x2, .int .i64 1, .slice none 0 0, .int .i64 2, .int .i64 x0, .int .i64 x1, .int .i64 x2, .int .i64 x3, .slice (some ⟨B7, 0, none⟩) 1 1, .int .i64 3, .int .i64 0, .int .i64 0, .int .i64 0, .int .i64 0, .slice A8 2 c8, .int .i64 4, .int .i64 0, .int .i64 x1, .int .i64 x2, .int .i64 0, .slice none 0 0, .int .i64 5, .int .i64 0, .int .i64 x1, .int .i64 0, .int .i64 0, .slice none 0 0] 27) = yZ at HSB HLI HRO HSX HKZ ⊢
          generalize y12.heap.size = gX at HSX ⊢
          try simp only [Act.put, List.setIfInBounds_toArray, List.set_cons_zero, List.set_cons_succ]
          try dsimp only
          refine hK.out _ _ (HCE.out _ HKZ.out) (fun hHeld => ?_)
          clear hK K
          refine wpAnyH_take (i := 33) (v := ?vz2_33) (by simp only [List.getElem?_toArray, List.getElem?_cons_succ, List.getElem?_cons_zero]; rfl) (by kernel_rfl) (by kernel_rfl) (by kernel_rfl) (fun _ _ _ h => h) (Or.inl ⟨by rfl, ?hz2_33⟩) (by assumption) ?rz2_33
          case hz2_33 => (intro w hSw; (try dsimp only at hSw); go_simp; (try with_reducible rfl))
          try simp only [Act.put, List.setIfInBounds_toArray, List.set_cons_zero, List.set_cons_succ]
          refine wpAnyH_done (by kernel_rfl) ?_ _
          refine NoPanic.normal ?_
          go_wp2_with fail
          go_meet
          exact ⟨gX, rfl, six_R HX.out.1 HX.out.2.1 HX.out.2.2.1 HX.out.2.2.2 (Nat.le_refl _) (FsR.len6 HRO.out.here4).1 (FsR.tl HLI.out.here4) (FsR.tl HRO.out.here4) HSX.out trivial, HKZ.out⟩
      · go_simp
        have hk5 : Kp (fun _ => False) y1 (y1.alloc (.cells #[.int .i64 k, .int .i64 s, .int .i64 lo, .int .i64 hi, .int .i64 st, .slice A0 P.length c0, .int .i64 k', .int .i64 s', .int .i64 lo', .int .i64 hi', .int .i64 st', .slice A0' P'.length c0'] 27)) := (Kp.refl _ _).alloc _
        have hsb := Blk.new y1 27 #[.int .i64 k, .int .i64 s, .int .i64 lo, .int .i64 hi, .int .i64 st, .slice A0 P.length c0, .int .i64 k', .int .i64 s', .int .i64 lo', .int .i64 hi', .int .i64 st', .slice A0' P'.length c0']
        have hq := HKZ.out.then_ hk5 (fun _ h => h.elim)
        clear HKZ
        have HKZ := Lib.hid hq
        clear hq
        have HSB := Lib.hid hsb
        clear hsb hk5
        generalize y1.alloc (.cells #[.int .i64 k, .int .i64 s, .int .i64 lo, .int .i64 hi, .int .i64 st, .slice A0 P.length c0, .int .i64 k', .int .i64 s', .int .i64 lo', .int .i64 hi', .int .i64 st', .slice A0' P'.length c0'] 27) = y13 at HSB HKZ ⊢
        generalize y1.heap.size = gS at HSB ⊢
        try simp only [Act.put, List.setIfInBounds_toArray, List.set_cons_zero, List.set_cons_succ]
        try dsimp only
        refine hK.out _ _ (HCE.out _ HKZ.out) (fun hHeld => ?_)
        clear hK K
        refine wpAnyH_ready (rs := [9]) (by kernel_rfl) (by simp) ?_
        refine (AllReadyH.cons (o := _) rfl (fun K hK => ?_) AllReadyH.nil)
        go_simp
        refine (opaque_any x0 x1 x2 _).mono ?_
        rintro e y14 ⟨rfl, hk5⟩
        have hq := HKZ.out.then_ hk5 (fun _ h => h.elim)
        clear HKZ
        have HKZ := Lib.hid hq
        clear hq
        have hHSB := HSB.out.kp hk5 (fun h => h)
        clear HSB
        have HSB := Lib.hid hHSB
        clear hHSB
        clear hk5
        try simp only [Act.put, List.setIfInBounds_toArray, List.set_cons_zero, List.set_cons_succ]
        try dsimp only
        refine hK.out _ _ (HCE.out _ HKZ.out) (fun hHeld => ?_)
        clear hK K
        refine wpAnyH_ready (rs := [19]) (by kernel_rfl) (by simp) ?_
        refine (AllReadyH.cons (o := _) rfl (fun K hK => ?_) AllReadyH.nil)
        go_simp
        refine (list_anyR _ x0 x1 x2 x3 (.mk ⟨k, s, lo, hi, st⟩ P) A0 c0 _ HX.out.1 HX.out.2.1 HX.out.2.2.1 HX.out.2.2.2 (HV.out _ (HKW.out _ HKZ.out))).mono ?_
        rintro e y15 ⟨B7, rfl, hv7, hk5⟩
        have hq := HKZ.out.then_ hk5 (fun _ h => h.elim)
        clear HKZ
        have HKZ := Lib.hid hq
        clear hq
        have hHSB := HSB.out.kp hk5 (fun h => h)
        clear HSB
        have HSB := Lib.hid hHSB
        clear hHSB
        have HLI := Lib.hid (hv7.mono (ok' := fun _ => True) (fun _ _ => trivial))
        clear hv7
        clear hk5
        try simp only [Act.put, List.setIfInBounds_toArray, List.set_cons_zero, List.set_cons_succ]
        try dsimp only
        refine hK.out _ _ (HCE.out _ HKZ.out) (fun hHeld => ?_)
        clear hK K
        refine wpAnyH_ready (rs := [23]) (by kernel_rfl) (by simp) ?_
        refine (AllReadyH.cons (o := _) rfl (fun K hK => ?_) AllReadyH.nil)
        go_simp
        refine (row_anyR (· < y15.heap.size) _ [(.mk ⟨k, s, lo, hi, st⟩ P), (.mk ⟨k', s', lo', hi', st'⟩ P')] _ (fun _ h => h) (FmR.two4 (HV.out _ (HKW.out _ HKZ.out)) (HV'.out _ (HKW.out _ HKZ.out)) HSB.out HSB.out.lt) (by simp)).mono ?_
        rintro e y16 ⟨A8, c8, rfl, hv8, hk5⟩
        have hq := HKZ.out.then_ hk5 (fun _ h => h.elim)
        clear HKZ
        have HKZ := Lib.hid hq
        clear hq
        have hHSB := HSB.out.kp hk5 (fun h => h)
        have hHLI := HLI.out.kp hk5 (fun _ _ h => h)
        clear HSB
        have HSB := Lib.hid hHSB
        clear hHSB
        clear HLI
        have HLI := Lib.hid hHLI
        clear hHLI
        have HRO := Lib.hid (hv8.mono (ok' := fun _ => True) (fun _ _ => trivial))
        clear hv8
        clear hk5
        try simp only [Act.put, List.setIfInBounds_toArray, List.set_cons_zero, List.set_cons_succ]
        try dsimp only
        refine hK.out _ _ (HCE.out _ HKZ.out) (fun hHeld => ?_)
        clear hK K
        refine wpAnyH_ready (rs := [28]) (by kernel_rfl) (by simp) ?_
        refine (AllReadyH.cons (o := _) rfl (fun K hK => ?_) AllReadyH.nil)
        go_simp
        refine (rest_any x1 x2 _).mono ?_
        rintro e y17 ⟨rfl, hk5⟩
        have hq := HKZ.out.then_ hk5 (fun _ h => h.elim)
        clear HKZ
        have HKZ := Lib.hid hq
        clear hq
        have hHSB := HSB.out.kp hk5 (fun h => h)
        have hHLI := HLI.out.kp hk5 (fun _ _ h => h)
        have hHRO := HRO.out.kp hk5 (fun _ _ h => h)
        clear HSB
        have HSB := Lib.hid hHSB
        clear hHSB
        clear HLI
        have HLI := Lib.hid hHLI
        clear hHLI
        clear HRO
        have HRO := Lib.hid hHRO
        clear hHRO
        clear hk5
        try simp only [Act.put, List.setIfInBounds_toArray, List.set_cons_zero, List.set_cons_succ]
        try dsimp only
        refine hK.out _ _ (HCE.out _ HKZ.out) (fun hHeld => ?_)
        clear hK K
        refine wpAnyH_ready (rs := [31]) (by kernel_rfl) (by simp) ?_
        refine (AllReadyH.cons (o := _) rfl (fun K hK => ?_) AllReadyH.nil)
        go_simp
        refine (fixed_any x1 _).mono ?_
        rintro e y18 ⟨rfl, hk5⟩
        have hq := HKZ.out.then_ hk5 (fun _ h => h.elim)
        clear HKZ
        have HKZ := Lib.hid hq
        clear hq
        have hHSB := HSB.out.kp hk5 (fun h => h)
        have hHLI := HLI.out.kp hk5 (fun _ _ h => h)
        have hHRO := HRO.out.kp hk5 (fun _ _ h => h)
        clear HSB
        have HSB := Lib.hid hHSB
        clear hHSB
        clear HLI
        have HLI := Lib.hid hHLI
        clear hHLI
        clear HRO
        have HRO := Lib.hid hHRO
        clear hHRO
        clear hk5
        try simp only [Act.put, List.setIfInBounds_toArray, List.set_cons_zero, List.set_cons_succ]
        try dsimp only
        refine hK.out _ _ (HCE.out _ HKZ.out) (fun hHeld => ?_)
        clear hK K
        refine wpAnyH_ready (rs := [32]) (by kernel_rfl) (by simp) ?_
        refine (AllReadyH.cons (o := _) rfl (fun K hK => ?_) AllReadyH.nil)
        go_simp
        have hk5 : Kp (fun _ => False) y18 (y18.alloc (.cells #[.int .i64 0, .int .i64 x0, .int .i64 0, .int .i64 0, .int .i64 0, .slice none 0 0, .int .i64 1, .int .i64 x0, .int .i64 x1, .int .i64 x2, .int .i64 1, .slice none 0 0, .int .i64 2, .int .i64 x0, .int .i64 x1, .int .i64 x2, .int .i64 x3, .slice (some ⟨B7, 0, none⟩) 1 1, .int .i64 3, .int .i64 0, .int .i64 0, .int .i64 0, .int .i64 0, .slice A8 2 c8, .int .i64 4, .int .i64 0, .int .i64 x1, .int .i64 x2, .int .i64 0, .slice none 0 0, .int .i64 5, .int .i64 0, .int .i64 x1, .int .i64 0, .int .i64 0, .slice none 0 0] 27)) := (Kp.refl _ _).alloc _
        have hsx := Blk.new y18 27 #[.int .i64 0, .int .i64 x0, .int .i64 0, .int .i64 0, .int .i64 0, .slice none 0 0, .int .i64 1, .int .i64 x0, .int .i64 x1, .int .i64 x2, .int .i64 1, .slice none 0 0, .int .i64 2, .int .i64 x0, .int .i64 x1, .int .i64 x2, .int .i64 x3, .slice (some ⟨B7, 0, none⟩) 1 1, .int .i64 3, .int .i64 0, .int .i64 0, .int .i64 0, .int .i64 0, .slice A8 2 c8, .int .i64 4, .int .i64 0, .int .i64 x1, .int .i64 x2, .int .i64 0, .slice none 0 0, .int .i64 5, .int .i64 0, .int .i64 x1, .int .i64 0, .int .i64 0, .slice none 0 0]
        have hq := HKZ.out.then_ hk5 (fun _ h => h.elim)
        clear HKZ
        have HKZ := Lib.hid hq
        clear hq
        have hHSB := HSB.out.kp hk5 (fun h => h)
        have hHLI := HLI.out.kp hk5 (fun _ _ h => h)
        have hHRO := HRO.out.kp hk5 (fun _ _ h => h)
        clear HSB
        have HSB := Lib.hid hHSB
        clear hHSB
        clear HLI
        have HLI := Lib.hid hHLI
        clear hHLI
        clear HRO
        have HRO := Lib.hid hHRO
        clear hHRO
        have HSX := Lib.hid hsx
        clear hsx hk5
        generalize y18.alloc (.cells #[.int .i64 0, .int .i64 x0, .int .i64 0, .int .i64 0, .int .i64 0, .slice none 0 0, .int .i64 1, .int .i64 x0, .int .i64 x1, .int .i64 x2, .int .i64 1, .slice none 0 0, .int .i64 2, .int .i64 x0, .int .i64 x1, .int .i64 x2, .int .i64 x3, .slice (some ⟨B7, 0, none⟩) 1 1, .int .i64 3, .int .i64 0, .int .i64 0, .int .i64 0, .int .i64 0, .slice A8 2 c8, .int .i64 4, .int .i64 0, .int .i64 x1, .int .i64 x2, .int .i64 0, .slice none 0 0, .int .i64 5, .int .i64 0, .int .i64 x1, .int .i64 0, .int .i64 0, .slice none 0 0] 27) = yZ at HSB HLI HRO HSX HKZ ⊢
        generalize y18.heap.size = gX at HSX ⊢
        try simp only [Act.put, List.setIfInBounds_toArray, List.set_cons_zero, List.set_cons_succ]
        try dsimp only
        refine hK.out _ _ (HCE.out _ HKZ.out) (fun hHeld => ?_)
        clear hK K
        refine wpAnyH_take (i := 33) (v := ?vz3_33) (by simp only [List.getElem?_toArray, List.getElem?_cons_succ, List.getElem?_cons_zero]; rfl) (by kernel_rfl) (by kernel_rfl) (by kernel_rfl) (fun _ _ _ h => h) (Or.inl ⟨by rfl, ?hz3_33⟩) (by assumption) ?rz3_33
        case hz3_33 => (intro w hSw; (try dsimp only at hSw); go_simp; (try with_reducible rfl))
        try simp only [Act.put, List.setIfInBounds_toArray, List.set_cons_zero, List.set_cons_succ]
        refine wpAnyH_done (by kernel_rfl) ?_ _
        refine NoPanic.normal ?_
        go_wp2_with fail
        go_meet
        exact ⟨gX, rfl, six_R HX.out.1 HX.out.2.1 HX.out.2.2.1 HX.out.2.2.2 (Nat.le_refl _) (FsR.len6 HRO.out.here4).1 (FsR.tl HLI.out.here4) (FsR.tl HRO.out.here4) HSX.out trivial, HKZ.out⟩
    · go_simp
      have hk5 : Kp (fun _ => False) y0 (y0.alloc (.cells #[.int .i64 k, .int .i64 s, .int .i64 lo, .int .i64 hi, .int .i64 st, .slice A0 P.length c0, .int .i64 k', .int .i64 s', .int .i64 lo', .int .i64 hi', .int .i64 st', .slice A0' P'.length c0'] 27)) := (Kp.refl _ _).alloc _
      have hsb := Blk.new y0 27 #[.int .i64 k, .int .i64 s, .int .i64 lo, .int .i64 hi, .int .i64 st, .slice A0 P.length c0, .int .i64 k', .int .i64 s', .int .i64 lo', .int .i64 hi', .int .i64 st', .slice A0' P'.length c0']
      have hq := HKZ.out.then_ hk5 (fun _ h => h.elim)
      clear HKZ
      have HKZ := Lib.hid hq
      clear hq
      have HSB := Lib.hid hsb
      clear hsb hk5
      generalize y0.alloc (.cells #[.int .i64 k, .int .i64 s, .int .i64 lo, .int .i64 hi, .int .i64 st, .slice A0 P.length c0, .int .i64 k', .int .i64 s', .int .i64 lo', .int .i64 hi', .int .i64 st', .slice A0' P'.length c0'] 27) = y19 at HSB HKZ ⊢
      generalize y0.heap.size = gS at HSB ⊢
      try simp only [Act.put, List.setIfInBounds_toArray, List.set_cons_zero, List.set_cons_succ]
      try dsimp only
      refine hK.out _ _ (HCE.out _ HKZ.out) (fun hHeld => ?_)
      clear hK K
      refine wpAnyH_ready (rs := [2]) (by kernel_rfl) (by simp) ?_
      refine (AllReadyH.cons (o := _) rfl (fun K hK => ?_) AllReadyH.nil)
      go_simp
      refine (number_any x0 _).mono ?_
      rintro e y20 ⟨rfl, hk5⟩
      have hq := HKZ.out.then_ hk5 (fun _ h => h.elim)
      clear HKZ
      have HKZ := Lib.hid hq
      clear hq
      have hHSB := HSB.out.kp hk5 (fun h => h)
      clear HSB
      have HSB := Lib.hid hHSB
      clear hHSB
      clear hk5
      try simp only [Act.put, List.setIfInBounds_toArray, List.set_cons_zero, List.set_cons_succ]
      try dsimp only
      refine hK.out _ _ (HCE.out _ HKZ.out) (fun hHeld => ?_)
      clear hK K
      refine wpAnyH_ready (rs := [9]) (by kernel_rfl) (by simp) ?_
      refine (AllReadyH.cons (o := _) rfl (fun K hK => ?_) AllReadyH.nil)
      go_simp
      refine (opaque_any x0 x1 x2 _).mono ?_
      rintro e y21 ⟨rfl, hk5⟩
      have hq := HKZ.out.then_ hk5 (fun _ h => h.elim)
      clear HKZ
      have HKZ := Lib.hid hq
      clear hq
      have hHSB := HSB.out.kp hk5 (fun h => h)
      clear HSB
      have HSB := Lib.hid hHSB
      clear hHSB
      clear hk5
      try simp only [Act.put, List.setIfInBounds_toArray, List.set_cons_zero, List.set_cons_succ]
      try dsimp only
      refine hK.out _ _ (HCE.out _ HKZ.out) (fun hHeld => ?_)
      clear hK K
      refine wpAnyH_ready (rs := [19]) (by kernel_rfl) (by simp) ?_
      refine (AllReadyH.cons (o := _) rfl (fun K hK => ?_) AllReadyH.nil)
      go_simp
      refine (list_anyR _ x0 x1 x2 x3 (.mk ⟨k, s, lo, hi, st⟩ P) A0 c0 _ HX.out.1 HX.out.2.1 HX.out.2.2.1 HX.out.2.2.2 (HV.out _ (HKW.out _ HKZ.out))).mono ?_
      rintro e y22 ⟨B7, rfl, hv7, hk5⟩
      have hq := HKZ.out.then_ hk5 (fun _ h => h.elim)
      clear HKZ
      have HKZ := Lib.hid hq
      clear hq
      have hHSB := HSB.out.kp hk5 (fun h => h)
      clear HSB
      have HSB := Lib.hid hHSB
      clear hHSB
      have HLI := Lib.hid (hv7.mono (ok' := fun _ => True) (fun _ _ => trivial))
      clear hv7
      clear hk5
      try simp only [Act.put, List.setIfInBounds_toArray, List.set_cons_zero, List.set_cons_succ]
      try dsimp only
      refine hK.out _ _ (HCE.out _ HKZ.out) (fun hHeld => ?_)
      clear hK K
      refine wpAnyH_ready (rs := [23]) (by kernel_rfl) (by simp) ?_
      refine (AllReadyH.cons (o := _) rfl (fun K hK => ?_) AllReadyH.nil)
      go_simp
      refine (row_anyR (· < y22.heap.size) _ [(.mk ⟨k, s, lo, hi, st⟩ P), (.mk ⟨k', s', lo', hi', st'⟩ P')] _ (fun _ h => h) (FmR.two4 (HV.out _ (HKW.out _ HKZ.out)) (HV'.out _ (HKW.out _ HKZ.out)) HSB.out HSB.out.lt) (by simp)).mono ?_
      rintro e y23 ⟨A8, c8, rfl, hv8, hk5⟩
      have hq := HKZ.out.then_ hk5 (fun _ h => h.elim)
      clear HKZ
      have HKZ := Lib.hid hq
      clear hq
      have hHSB := HSB.out.kp hk5 (fun h => h)
      have hHLI := HLI.out.kp hk5 (fun _ _ h => h)
      clear HSB
      have HSB := Lib.hid hHSB
      clear hHSB
      clear HLI
      have HLI := Lib.hid hHLI
      clear hHLI
      have HRO := Lib.hid (hv8.mono (ok' := fun _ => True) (fun _ _ => trivial))
      clear hv8
      clear hk5
      try simp only [Act.put, List.setIfInBounds_toArray, List.set_cons_zero, List.set_cons_succ]
      try dsimp only
      refine hK.out _ _ (HCE.out _ HKZ.out) (fun hHeld => ?_)
      clear hK K
      refine wpAnyH_ready (rs := [28]) (by kernel_rfl) (by simp) ?_
      refine (AllReadyH.cons (o := _) rfl (fun K hK => ?_) AllReadyH.nil)
      go_simp
      refine (rest_any x1 x2 _).mono ?_
      rintro e y24 ⟨rfl, hk5⟩
      have hq := HKZ.out.then_ hk5 (fun _ h => h.elim)
      clear HKZ
      have HKZ := Lib.hid hq
      clear hq
      have hHSB := HSB.out.kp hk5 (fun h => h)
      have hHLI := HLI.out.kp hk5 (fun _ _ h => h)
      have hHRO := HRO.out.kp hk5 (fun _ _ h => h)
      clear HSB
      have HSB := Lib.hid hHSB
      clear hHSB
      clear HLI
      have HLI := Lib.hid hHLI
      clear hHLI
      clear HRO
      have HRO := Lib.hid hHRO
      clear hHRO
      clear hk5
      try simp only [Act.put, List.setIfInBounds_toArray, List.set_cons_zero, List.set_cons_succ]
      try dsimp only
      refine hK.out _ _ (HCE.out _ HKZ.out) (fun hHeld => ?_)
      clear hK K
      refine wpAnyH_ready (rs := [31]) (by kernel_rfl) (by simp) ?_
      refine (AllReadyH.cons (o := _) rfl (fun K hK => ?_) AllReadyH.nil)
      go_simp
      refine (fixed_any x1 _).mono ?_
      rintro e y25 ⟨rfl, hk5⟩
      have hq := HKZ.out.then_ hk5 (fun _ h => h.elim)
      clear HKZ
      have HKZ := Lib.hid hq
      clear hq
      have hHSB := HSB.out.kp hk5 (fun h => h)
      have hHLI := HLI.out.kp hk5 (fun _ _ h => h)
      have hHRO := HRO.out.kp hk5 (fun _ _ h => h)
      clear HSB
      have HSB := Lib.hid hHSB
      clear hHSB
      clear HLI
      have HLI := Lib.hid hHLI
      clear hHLI
      clear HRO
      have HRO := Lib.hid hHRO
      clear hHRO
      clear hk5
      try simp only [Act.put, List.setIfInBounds_toArray, List.set_cons_zero, List.set_cons_succ]
      try dsimp only
      refine hK.out _ _ (HCE.out _ HKZ.out) (fun hHeld => ?_)
      clear hK K
      refine wpAnyH_ready (rs := [32]) (by kernel_rfl) (by simp) ?_
      refine (AllReadyH.cons (o := _) rfl (fun K hK => ?_) AllReadyH.nil)
      go_simp
      have hk5 : Kp (fun _ => False) y25 (y25.alloc (.cells #[.int .i64 0, .int .i64 x0, .int .i64 0, .int .i64 0, .int .i64 0, .slice none 0 0, .int .i64 1, .int .i64 x0, .int .i64 x1, .int .i64 x2, .int .i64 1, .slice none 0 0, .int .i64 2, .int .i64 x0, .int .i64 x1, .int .i64 x2, .int .i64 x3, .slice (some ⟨B7, 0, none⟩) 1 1, .int .i64 3, .int .i64 0, .int .i64 0, .int .i64 0, .int .i64 0, .slice A8 2 c8, .int .i64 4, .int .i64 0, .int .i64 x1, .int .i64 x2, .int .i64 0, .slice none 0 0, .int .i64 5, .int .i64 0, .int .i64 x1, .int .i64 0, .int .i64 0, .slice none 0 0] 27)) := (Kp.refl _ _).alloc _
      have hsx := Blk.new y25 27 #[.int .i64 0, .int .i64 x0, .int .i64 0, .int .i64 0, .int .i64 0, .slice none 0 0, .int .i64 1, .int .i64 x0, .int .i64 x1, .int .i64 x2, .int .i64 1, .slice none 0 0, .int .i64 2, .int .i64 x0, .int .i64 x1, .int .i64 x2, .int .i64 x3, .slice (some ⟨B7, 0, none⟩) 1 1, .int .i64 3, .int .i64 0, .int .i64 0, .int .i64 0, .int .i64 0, .slice A8 2 c8, .int .i64 4, .int .i64 0, .int .i64 x1, .int .i64 x2, .int .i64 0, .slice none 0 0, .int .i64 5, .int .i64 0, .int .i64 x1, .int .i64 0, .int .i64 0, .slice none 0 0]
      have hq := HKZ.out.then_ hk5 (fun _ h => h.elim)
      clear HKZ
      have HKZ := Lib.hid hq
      clear hq
      have hHSB := HSB.out.kp hk5 (fun h => h)
      have hHLI := HLI.out.kp hk5 (fun _ _ h => h)
      have hHRO := HRO.out.kp hk5 (fun _ _ h => h)
      clear HSB
      have HSB := Lib.hid hHSB
      clear hHSB
      clear HLI
      have HLI := Lib.hid hHLI
      clear hHLI
      clear HRO
      have HRO := Lib.hid hHRO
      clear hHRO
      have HSX := Lib.hid hsx
      clear hsx hk5
      generalize y25.alloc (.cells #[.int .i64 0, .int .i64 x0, .int .i64 0, .int .i64 0, .int .i64 0, .slice none 0 0, .int .i64 1, .int .i64 x0, .int .i64 x1, .int .i64 x2, .int .i64 1, .slice none 0 0, .int .i64 2, .int .i64 x0, .int .i64 x1, .int .i64 x2, .int .i64 x3, .slice (some ⟨B7, 0, none⟩) 1 1, .int .i64 3, .int .i64 0, .int .i64 0, .int .i64 0, .int .i64 0, .slice A8 2 c8, .int .i64 4, .int .i64 0, .int .i64 x1, .int .i64 x2, .int .i64 0, .slice none 0 0, .int .i64 5, .int .i64 0, .int .i64 x1, .int .i64 0, .int .i64 0, .slice none 0 0] 27) = yZ at HSB HLI HRO HSX HKZ ⊢
      generalize y25.heap.size = gX at HSX ⊢
      try simp only [Act.put, List.setIfInBounds_toArray, List.set_cons_zero, List.set_cons_succ]
      try dsimp only
      refine hK.out _ _ (HCE.out _ HKZ.out) (fun hHeld => ?_)
      clear hK K
      refine wpAnyH_take (i := 33) (v := ?vz4_33) (by simp only [List.getElem?_toArray, List.getElem?_cons_succ, List.getElem?_cons_zero]; rfl) (by kernel_rfl) (by kernel_rfl) (by kernel_rfl) (fun _ _ _ h => h) (Or.inl ⟨by rfl, ?hz4_33⟩) (by assumption) ?rz4_33
      case hz4_33 => (intro w hSw; (try dsimp only at hSw); go_simp; (try with_reducible rfl))
      try simp only [Act.put, List.setIfInBounds_toArray, List.set_cons_zero, List.set_cons_succ]
      refine wpAnyH_done (by kernel_rfl) ?_ _
      refine NoPanic.normal ?_
      go_wp2_with fail
      go_meet
      exact ⟨gX, rfl, six_R HX.out.1 HX.out.2.1 HX.out.2.2.1 HX.out.2.2.2 (Nat.le_refl _) (FsR.len6 HRO.out.here4).1 (FsR.tl HLI.out.here4) (FsR.tl HRO.out.here4) HSX.out trivial, HKZ.out⟩
  case rest =>
  obtain ⟨g8, rfl, hgt, hkc⟩ := hcut
  generalize wc = w6 at hgt hkc ⊢
  have HK6 := Lib.hid (HK5.out.then_ hkc (fun _ h => h.elim))
  have HW6 := Lib.hid (HWT.out.kp hkc (fun _ _ h => h))
  have HG6 := Lib.hid hgt
  clear hgt hkc HCE HKW HKZ HWT HK5 HX HV HV'
  generalize g0 + 1 + 1 = g7 at HW6 ⊢
  obtain ⟨L, hL⟩ : ∃ L, sixF x0 x1 x2 x3 (.mk ⟨k, s, lo, hi, st⟩ P) (.mk ⟨k', s', lo', hi', st'⟩ P') = L := ⟨_, rfl⟩
  have hLl : L.length = 6 := by rw [← hL]; rfl
  rw [hL] at HW6 HG6
  clear hL
  go_upto_region 6 with fail
  go_loopw [93] (fun i wr => ∃ j : Nat, j ≤ 6 ∧ i = .int .i64 j ∧ Kp (fun _ => False) w6 wr) (fun i _ => 6 - (intOf i).toNat)
  case atStart => exact ⟨0, Nat.zero_le _, rfl, Kp.refl _ _⟩
  case round =>
    obtain ⟨j, hj, rfl, hkr⟩ := hrel
    have HKR := Lib.hid hkr
    clear hkr
    by_cases hlt : j < 6
    · have hjL : j < L.length := by omega
      obtain ⟨bo, of, A5, c5, e5, _, hf5, p0, p1, p2, p3, p4, p5⟩ := (HW6.out.kp HKR.out (fun _ _ h => h)).at_ hjL
      obtain ⟨bo2, of2, A6, c6, e6, _, hf6, q0, q1, q2, q3, q4, q5⟩ := (HG6.out.kp HKR.out (fun _ _ h => h)).at_ hjL
      injection e5 with e5
      injection e5 with e5 e5'
      injection e6 with e6
      injection e6 with e6 e6'
      subst e5 e5' e6 e6'
      simp only [Nat.zero_add] at p0 p1 p2 p3 p4 p5 q0 q1 q2 q3 q4 q5
      generalize hp : L[j] = p at hf5 p0 p1 p2 p3 p4 p5 hf6 q0 q1 q2 q3 q4 q5
      obtain ⟨⟨pk, ps, pl, ph, pt⟩, PP⟩ := p
      simp only [RT.a, RT.l] at hf5 p0 p1 p2 p3 p4 p5 hf6 q0 q1 q2 q3 q4 q5
      clear hp
      have hPl : PP.length ≤ 140737488355328 := by obtain ⟨_, _, _, _, hq, _⟩ := hf5.here4; exact hq
      have HF5 := Lib.hid hf5.here4
      have HF6 := Lib.hid hf6.here4
      have hi0 : (0 : Int) ≤ (j : Int) := by omega
      have hi1 : (j : Int) < 6 := by omega
      clear hf5 hf6
      have hw8 : ∀ o, Kp (fun _ => False) wr (wr.alloc o) := fun o => (Kp.refl _ _).alloc o
      have hw9 : ∀ o o', Kp (fun _ => False) wr ((wr.alloc o).alloc o') := fun o o' => ((Kp.refl _ _).alloc o).alloc o'
      have dp0 := fun o => (hw8 o).cell p0 (fun h => h)
      have ep0 := fun o o' => (hw9 o o').cell p0 (fun h => h)
      have dp1 := fun o => (hw8 o).cell p1 (fun h => h)
      have ep1 := fun o o' => (hw9 o o').cell p1 (fun h => h)
      have dp2 := fun o => (hw8 o).cell p2 (fun h => h)
      have ep2 := fun o o' => (hw9 o o').cell p2 (fun h => h)
      have dp3 := fun o => (hw8 o).cell p3 (fun h => h)
      have ep3 := fun o o' => (hw9 o o').cell p3 (fun h => h)
      have dp4 := fun o => (hw8 o).cell p4 (fun h => h)
      have ep4 := fun o o' => (hw9 o o').cell p4 (fun h => h)
      have dp5 := fun o => (hw8 o).cell p5 (fun h => h)
      have ep5 := fun o o' => (hw9 o o').cell p5 (fun h => h)
      have dq0 := fun o => (hw8 o).cell q0 (fun h => h)
      have eq0 := fun o o' => (hw9 o o').cell q0 (fun h => h)
      have dq1 := fun o => (hw8 o).cell q1 (fun h => h)
      have eq1 := fun o o' => (hw9 o o').cell q1 (fun h => h)
      have dq2 := fun o => (hw8 o).cell q2 (fun h => h)
      have eq2 := fun o o' => (hw9 o o').cell q2 (fun h => h)
      have dq3 := fun o => (hw8 o).cell q3 (fun h => h)
      have eq3 := fun o o' => (hw9 o o').cell q3 (fun h => h)
      have dq4 := fun o => (hw8 o).cell q4 (fun h => h)
      have eq4 := fun o o' => (hw9 o o').cell q4 (fun h => h)
      have dq5 := fun o => (hw8 o).cell q5 (fun h => h)
      have eq5 := fun o o' => (hw9 o o').cell q5 (fun h => h)
      clear hw8 hw9
      go_upto_region 8 with fail
      have hx10 := Blk.new wr 27 #[.int .i64 pk, .int .i64 ps, .int .i64 pl, .int .i64 ph, .int .i64 pt, .slice A5 PP.length c5]
      have hx11 := Blk.new wr 27 #[.int .i64 pk, .int .i64 ps, .int .i64 pl, .int .i64 ph, .int .i64 pt, .slice A6 PP.length c6]
      have HX10 := Lib.hid (hx10.alloc (.cells #[.int .i64 pk, .int .i64 ps, .int .i64 pl, .int .i64 ph, .int .i64 pt, .slice A6 PP.length c6] 27)).drew
      have HX11 := Lib.hid (hx11.alloc (.cells #[.int .i64 pk, .int .i64 ps, .int .i64 pl, .int .i64 ph, .int .i64 pt, .slice A5 PP.length c5] 27)).drew
      have hy10 := Blk.new (wr.alloc (.cells #[.int .i64 pk, .int .i64 ps, .int .i64 pl, .int .i64 ph, .int .i64 pt, .slice A6 PP.length c6] 27)) 27 #[.int .i64 pk, .int .i64 ps, .int .i64 pl, .int .i64 ph, .int .i64 pt, .slice A5 PP.length c5]
      have hy11 := Blk.new (wr.alloc (.cells #[.int .i64 pk, .int .i64 ps, .int .i64 pl, .int .i64 ph, .int .i64 pt, .slice A5 PP.length c5] 27)) 27 #[.int .i64 pk, .int .i64 ps, .int .i64 pl, .int .i64 ph, .int .i64 pt, .slice A6 PP.length c6]
      rw [World.size_alloc] at hy10 hy11
      have HY10 := Lib.hid hy10.drew
      have HY11 := Lib.hid hy11.drew
      have HKA := Lib.hid (((Kp.refl (fun _ => False) wr).alloc (.cells #[.int .i64 pk, .int .i64 ps, .int .i64 pl, .int .i64 ph, .int .i64 pt, .slice A5 PP.length c5] 27)).alloc (.cells #[.int .i64 pk, .int .i64 ps, .int .i64 pl, .int .i64 ph, .int .i64 pt, .slice A6 PP.length c6] 27)).drew
      have HKB := Lib.hid (((Kp.refl (fun _ => False) wr).alloc (.cells #[.int .i64 pk, .int .i64 ps, .int .i64 pl, .int .i64 ph, .int .i64 pt, .slice A6 PP.length c6] 27)).alloc (.cells #[.int .i64 pk, .int .i64 ps, .int .i64 pl, .int .i64 ph, .int .i64 pt, .slice A5 PP.length c5] 27)).drew
      clear hx10 hx11 hy10 hy11
      go_cut [10, 11] (fun a b wx => ∃ B10 B11, a = .pointer (some ⟨B10, 0, none⟩) ∧ b = .pointer (some ⟨B11, 0, none⟩) ∧ Blk wx B10 27 #[.int .i64 pk, .int .i64 ps, .int .i64 pl, .int .i64 ph, .int .i64 pt, .slice A5 PP.length c5] ∧ Blk wx B11 27 #[.int .i64 pk, .int .i64 ps, .int .i64 pl, .int .i64 ph, .int .i64 pt, .slice A6 PP.length c6] ∧ Kp (fun _ => False) wr wx)
      case first =>
        go_region
        all_goals
          go_wp2_with fail
          go_meet
          first
            | exact ⟨_, _, rfl, rfl, HX10.out, HY11.out, HKA.out⟩
            | exact ⟨_, _, rfl, rfl, HY10.out, HX11.out, HKB.out⟩
      case rest =>
      obtain ⟨B10, B11, rfl, rfl, hb10, hb11, hkc⟩ := hcut
      generalize wc = w7 at hb10 hb11 hkc ⊢
      have HK7 := Lib.hid (HKR.out.then_ hkc (fun _ h => h.elim))
      have HP5 := Lib.hid (HF5.out.kp hkc (fun _ _ h => h))
      have HP6 := Lib.hid (HF6.out.kp hkc (fun _ _ h => h))
      have HB10 := Lib.hid hb10
      have HB11 := Lib.hid hb11
      clear hkc hb10 hb11 HX10 HX11 HY10 HY11 HKA HKB HF5 HF6 HKR dp0 ep0 p0 dp1 ep1 p1 dp2 ep2 p2 dp3 ep3 p3 dp4 ep4 p4 dp5 ep5 p5 dq0 eq0 q0 dq1 eq1 q1 dq2 eq2 q2 dq3 eq3 q3 dq4 eq4 q4 dq5 eq5 q5
      have z0 := HB10.out.cell 0
      have z1 := HB10.out.cell 1
      have z2 := HB10.out.cell 2
      have z3 := HB10.out.cell 3
      have z4 := HB10.out.cell 4
      have z5 := HB10.out.cell 5
      have v0 := HB11.out.cell 0
      have v1 := HB11.out.cell 1
      have v2 := HB11.out.cell 2
      have v3 := HB11.out.cell 3
      have v4 := HB11.out.cell 4
      have v5 := HB11.out.cell 5
      simp at z0 z1 z2 z3 z4 z5 v0 v1 v2 v3 v4 v5
      have n0 : (pk != pk) = false := by simp
      have n1 : (ps != ps) = false := by simp
      have n2 : (pl != pl) = false := by simp
      have n3 : (ph != ph) = false := by simp
      have n4 : (pt != pt) = false := by simp
      have n5 : ((PP.length : Int) != (PP.length : Int)) = false := by simp
      go_upto_region 9 with fail
      go_cut [145] (fun cv wx => cv = .bool false ∧ wx = w7)
      case first =>
        clear HW6 HG6 hLl
        go_wp2_with fail
        go_meet
        exact ⟨rfl, rfl⟩
      case rest =>
      obtain ⟨rfl, hwe⟩ := hcut
      rw [hwe]
      clear hwe n0 n1 n2 n3 n4 n5 v0 v1 v2 v3 v4 z0 z1 z2 z3 z4
      go_wp2_with fail
      go_loopw [149] (fun i wx => ∃ m : Nat, m ≤ PP.length ∧ i = .int .i64 m ∧ Kp (fun _ => False) w7 wx) (fun i _ => PP.length - (intOf i).toNat)
      case atStart => exact ⟨0, Nat.zero_le _, rfl, Kp.refl _ _⟩
      case round =>
        obtain ⟨m, hm, rfl, hkm⟩ := hrel
        have HKM := Lib.hid hkm
        clear hkm
        by_cases hlm : m < PP.length
        · obtain ⟨b1, o1, A7, c7, rfl, _, h7, r0, r1, r2, r3, r4, r5⟩ := (HP5.out.kp HKM.out (fun _ _ h => h)).at_ hlm
          obtain ⟨b2, o2, A8, c8, rfl, _, h8, s0, s1, s2, s3, s4, s5⟩ := (HP6.out.kp HKM.out (fun _ _ h => h)).at_ hlm
          have zz := (HB10.out.kp HKM.out (fun h => h)).cell 5
          have vv := (HB11.out.kp HKM.out (fun h => h)).cell 5
          simp at zz vv
          generalize hy : PP[m] = y at h7 r0 r1 r2 r3 r4 r5 h8 s0 s1 s2 s3 s4 s5
          clear hy
          have HSM := Lib.hid (fun W (hk : Kp (fun _ => False) wr W) => rsame_self h8 h7 hk)
          have HCE := Lib.hid (fun W (hk : Kp (fun _ => False) wr W) => show (fun w' : World => w'.cell? ⟨B10, 5, none⟩ = some (.slice (some ⟨b1, o1, none⟩) PP.length c5) ∧ w'.cell? ⟨B11, 5, none⟩ = some (.slice (some ⟨b2, o2, none⟩) PP.length c6) ∧ w'.cell? ⟨b1, o1 + m * 6, none⟩ = some (.int .i64 y.a.k) ∧ w'.cell? ⟨b1, o1 + m * 6 + 1, none⟩ = some (.int .i64 y.a.s) ∧ w'.cell? ⟨b1, o1 + m * 6 + 2, none⟩ = some (.int .i64 y.a.lo) ∧ w'.cell? ⟨b1, o1 + m * 6 + 3, none⟩ = some (.int .i64 y.a.hi) ∧ w'.cell? ⟨b1, o1 + m * 6 + 4, none⟩ = some (.int .i64 y.a.st) ∧ w'.cell? ⟨b1, o1 + m * 6 + 5, none⟩ = some (.slice A7 y.l.length c7) ∧ w'.cell? ⟨b2, o2 + m * 6, none⟩ = some (.int .i64 y.a.k) ∧ w'.cell? ⟨b2, o2 + m * 6 + 1, none⟩ = some (.int .i64 y.a.s) ∧ w'.cell? ⟨b2, o2 + m * 6 + 2, none⟩ = some (.int .i64 y.a.lo) ∧ w'.cell? ⟨b2, o2 + m * 6 + 3, none⟩ = some (.int .i64 y.a.hi) ∧ w'.cell? ⟨b2, o2 + m * 6 + 4, none⟩ = some (.int .i64 y.a.st) ∧ w'.cell? ⟨b2, o2 + m * 6 + 5, none⟩ = some (.slice A8 y.l.length c8)) W from ⟨hk.cell zz (fun h => h), hk.cell vv (fun h => h), hk.cell r0 (fun h => h), hk.cell r1 (fun h => h), hk.cell r2 (fun h => h), hk.cell r3 (fun h => h), hk.cell r4 (fun h => h), hk.cell r5 (fun h => h), hk.cell s0 (fun h => h), hk.cell s1 (fun h => h), hk.cell s2 (fun h => h), hk.cell s3 (fun h => h), hk.cell s4 (fun h => h), hk.cell s5 (fun h => h)⟩)
          have HKZ := Lib.hid (Kp.refl (fun _ => False) wr)
          have hm0 : (0 : Int) ≤ (m : Int) := by omega
          have hm1 : (m : Int) < (PP.length : Int) := by omega
          clear h7 h8 r0 r1 r2 r3 r4 r5 s0 s1 s2 s3 s4 s5 zz vv
          go_upto_region 14 with fail
          go_cut [163] (fun cv wx => cv = .bool false ∧ Kp (fun _ => False) wr wx)
          case first =>
            go_region_held3 (fun w' : World => w'.cell? ⟨B10, 5, none⟩ = some (.slice (some ⟨b1, o1, none⟩) PP.length c5) ∧ w'.cell? ⟨B11, 5, none⟩ = some (.slice (some ⟨b2, o2, none⟩) PP.length c6) ∧ w'.cell? ⟨b1, o1 + m * 6, none⟩ = some (.int .i64 y.a.k) ∧ w'.cell? ⟨b1, o1 + m * 6 + 1, none⟩ = some (.int .i64 y.a.s) ∧ w'.cell? ⟨b1, o1 + m * 6 + 2, none⟩ = some (.int .i64 y.a.lo) ∧ w'.cell? ⟨b1, o1 + m * 6 + 3, none⟩ = some (.int .i64 y.a.hi) ∧ w'.cell? ⟨b1, o1 + m * 6 + 4, none⟩ = some (.int .i64 y.a.st) ∧ w'.cell? ⟨b1, o1 + m * 6 + 5, none⟩ = some (.slice A7 y.l.length c7) ∧ w'.cell? ⟨b2, o2 + m * 6, none⟩ = some (.int .i64 y.a.k) ∧ w'.cell? ⟨b2, o2 + m * 6 + 1, none⟩ = some (.int .i64 y.a.s) ∧ w'.cell? ⟨b2, o2 + m * 6 + 2, none⟩ = some (.int .i64 y.a.lo) ∧ w'.cell? ⟨b2, o2 + m * 6 + 3, none⟩ = some (.int .i64 y.a.hi) ∧ w'.cell? ⟨b2, o2 + m * 6 + 4, none⟩ = some (.int .i64 y.a.st) ∧ w'.cell? ⟨b2, o2 + m * 6 + 5, none⟩ = some (.slice A8 y.l.length c8)) (first | exact HCE.out _ HKZ.out | exact HCE.out _ HKZ.out.drew) (first
              | (go_at_call 28; refine (HSM.out _ (by first | exact HKZ.out | exact HKZ.out.drew)).mono ?_; rintro e w5 ⟨rfl, hk5⟩; have hq := Kp.then_ (a := wr) (S := fun _ => False) (by first | exact HKZ.out | exact HKZ.out.drew) hk5 (fun _ h => h.elim); clear HKZ; have HKZ := Lib.hid hq; clear hq hk5))
            go_wp2_with fail
            go_meet
            exact ⟨rfl, HKZ.out⟩
          case rest =>
          obtain ⟨rfl, hkc⟩ := hcut
          generalize wc = w8 at hkc ⊢
          have HK8 := Lib.hid (HKM.out.then_ hkc (fun _ h => h.elim))
          clear hkc HCE HSM HKZ
          go_wp2_with fail
          go_roundw
          case rel => exact ⟨m + 1, by omega, by go_num, HK8.out⟩
          case measure => simp [intOf]; omega
        · obtain rfl : m = PP.length := by omega
          have HK8 := Lib.hid (HK7.out.then_ HKM.out (fun _ h => h.elim))
          clear HKM HP5 HP6 HB10 HB11
          go_wp2_with fail
          go_roundw
          case rel => exact ⟨j + 1, by omega, by go_num, HK8.out⟩
          case measure => simp [intOf]; omega
    · obtain rfl : j = 6 := by omega
      have HK7 := Lib.hid (HK6.out.then_ HKR.out (fun _ h => h.elim))
      have HRW := Lib.hid (row_anyR (fun _ => False) _ [] wr (fun _ h => h.elim) (FsR.nil) (by simp))
      clear HKR HW6 HG6
      go_wp2_with fail
      refine HRW.out.mono ?_
      rintro e w9 ⟨A9, c9, rfl, _, hk9⟩
      have HK9 := Lib.hid (HK7.out.then_ hk9 (fun _ h => h.elim))
      clear hk9 HRW
      have hfd : ∀ W : World, (Instr.field 27 (.agg #[.int .i64 3, .int .i64 0, .int .i64 0, .int .i64 0, .int .i64 0, .slice A9 0 c9]) 5).run Try.prog W = .ok (.slice A9 0 c9) W := fun _ => by kernel_rfl
      simp only [List.length_nil]
      go_wp2_with fail
      go_ret
      exact ⟨rfl, HK9.out⟩
end Go.Proofs.Ytfcghajnnllmhaa

namespace Go.Proofs.Ytfcghajnnllmhaa
set_option maxRecDepth 100000
open Go.Joins Go.ChangeShapes Go.WideShapes Go.ChangeAt Go.RowKit Go.Deep

theorem okWide_struct_ {P : Program} {w : World} {r : Reach} {b : Nat} {t : TypeId} {fs : Array Field} {v : Value} (ht : P.underlying t = some (.struct fs)) (h : Value.okWide P w r b t v) : ∃ cs, v = .agg cs := by
  simp only [Value.okWide, ht] at h
  obtain ⟨cs, h1, _⟩ := h
  exact ⟨cs, h1⟩
theorem form_type : TreeType Try.prog 27 25 (match Try.prog.underlying 27 with | some (.struct fs) => fs | _ => #[]) 5 where
  ht := by rw [Try.underlying27]
  hone := by rw [Try.underlying27]; kernel_rfl
  hC := by kernel_rfl
  hn := by rw [Try.underlying27]; rfl
  hlast := by rw [Try.underlying27]; rfl
  hts := Try.underlying25
  hB := by rw [show Try.prog.bytesOf 27 = 64 from by kernel_rfl]; omega
section
variable {H : Type} {enc : TypeId × Value → H} {w : World} {sp : Nat → Bool} {held : Bool} {r : Reach} {b0 : Nat}
theorem sized_at {P : Program} {ts : List TypeId} {ds : List (DataW H)} (hsz : (DataW.weightsEach P ts ds).all (· ≤ reachBytes) = true) {j : Nat} {t : TypeId} {d : DataW H} (ht : ts[j]? = some t) (hd : ds[j]? = some d) : (d.weights P t).all (· ≤ reachBytes) = true :=
  List.all_eq_true.2 fun n hn => List.all_eq_true.1 hsz n (DataW.weights_mem_each ht hd n hn)
theorem form_head : HeadOpen enc Try.prog w sp held (match Try.prog.underlying 27 with | some (.struct fs) => fs | _ => #[]) 5 FHd := by
  intro vs ds hl hf
  have each : ∀ i, i < 5 → ∃ n : Int, vs[i]? = some (.int .i64 n) ∧ i64B n := by
    intro i hi
    obtain ⟨f, v, d, ps, fuel, hfi, hv, _, ht, _⟩ := hf i hi
    have hft : f.type = 3 := by
      rw [Try.underlying27] at hfi
      rcases (show i = 0 ∨ i = 1 ∨ i = 2 ∨ i = 3 ∨ i = 4 by omega) with rfl | rfl | rfl | rfl | rfl <;>
        · simp at hfi
          rw [← hfi]
    rw [hft] at ht
    obtain ⟨k0, e0, _, hw0⟩ := DataW.trod_int Try.underlying3 ht
    simp only [List.cons.injEq, and_true] at e0
    exact ⟨k0, by rw [hv, e0], i64B_of hw0⟩
  obtain ⟨a, ha, b0⟩ := each 0 (by omega)
  obtain ⟨b, hb, b1⟩ := each 1 (by omega)
  obtain ⟨c, hc, b2⟩ := each 2 (by omega)
  obtain ⟨d, hd, b3⟩ := each 3 (by omega)
  obtain ⟨e, he, b4⟩ := each 4 (by omega)
  refine ⟨⟨a, b, c, d, e⟩, ?_, ⟨b0, b1, b2, b3, b4⟩⟩
  rcases vs with _ | ⟨v0, _ | ⟨v1, _ | ⟨v2, _ | ⟨v3, _ | ⟨v4, _ | ⟨v5, vs⟩⟩⟩⟩⟩⟩ <;> simp_all
theorem open_form {v : Value} {d : DataW H} {ps : List MemPlace} {ts : List TypeId} {ds : List (DataW H)} (hv : Value.okWide Try.prog w r b0 27 v) (h : DataW.Trod enc Try.prog w 0 sp held 27 v d ps)
    (_hsz : (DataW.weightsEach Try.prog ts ds).all (· ≤ reachBytes) = true) {j : Nat} (_ht : ts[j]? = some 27) (_hd : ds[j]? = some d) : ∃ x : Fm, FmR w (· < w.heap.size) v x := by
  obtain ⟨cs, rfl⟩ := okWide_struct_ Try.underlying27 hv
  obtain ⟨fuel, hf⟩ := h
  obtain ⟨x, hx⟩ := (open_tree_ form_type form_head fuel).1 _ _ _ hf (sized_at _hsz _ht _hd)
  have h1 := (FmR.of_tr hx).1
  rw [show (Value.agg cs).cells.toList.toArray = cs from by simp [Value.cells]] at h1
  exact ⟨x, h1⟩
end
end Go.Proofs.Ytfcghajnnllmhaa

namespace Go.Proofs.Ytfcghajnnllmhaa.formMakes
open Go.ChangeShapes Go.WideShapes Go.ChangeAt Go.RowKit
set_option linter.unusedVariables false

theorem own : ownKnob Try.prog.godebug = none := by kernel_rfl
theorem laidOut : laidOutB Try.prog = true := by kernel_rfl

set_option maxRecDepth 100000 in
theorem lifted (os : Os) (started : os.Started) (H : Type) (enc : TypeId × Value → H) :
    ReturnsInHanded {} Try.checked os 6 .any (Rows.formMakesSpec.pre6 enc Try.prog Try.f6 Rows.formMakesRow.domain false) (Rows.formMakesSpec.post enc Try.prog Try.f6 false true false false) := by
  refine returnsInHanded_of_change_sized (C := Try.checked) own started (by kernel_rfl) Try.func6
    (ChangeSpec.witness6 (enc := enc) (C := Try.checked) false ⟨#[], #[.agg #[.int .i64 0, .int .i64 0, .int .i64 0, .int .i64 0], .agg #[.int .i64 0, .int .i64 0, .int .i64 0, .int .i64 0, .int .i64 0, .slice none 0 0], .agg #[.int .i64 0, .int .i64 0, .int .i64 0, .int .i64 0, .int .i64 0, .slice none 0 0]], []⟩ 8 (by kernel_rfl) (by kernel_rfl) (by kernel_rfl) (by kernel_rfl)) ?_
  intro W base args ds gs before hval0 hW hcnd hsz0 _
  have hval : ∀ (j : Nat) t v, Try.f6.params[j]? = some t → args[j]? = some v → Value.okWide Try.prog W .any base t v := hval0
  have hW' := hW
  obtain ⟨p, q, hA0, hV, rfl, hfz, hnd⟩ := hW
  have hA : DataW.TrodAll enc Try.prog W 0 (fun _ => true) true Try.f6.params.toList args.toList ds p := hA0
  obtain ⟨rfl, rfl⟩ := trodVars_none hV
  have hsz : (DataW.weightsEach Try.prog (Try.f6.params.toList ++ []) (ds ++ [])).all (· ≤ reachBytes) = true := hsz0
  rw [List.append_nil, List.append_nil] at hsz
  rw [Try.params6] at hA hval hsz
  obtain ⟨v0, vs0, d0, ds0, p0, q0, hargs, rfl, rfl, h0, r0⟩ := trodAll_cons hA
  obtain ⟨v1, vs1, d1, ds1, p1, q1, rfl, rfl, rfl, h1, r1⟩ := trodAll_cons r0
  obtain ⟨v2, vs2, d2, ds2, p2, q2, rfl, rfl, rfl, h2, r2⟩ := trodAll_cons r1
  obtain ⟨rfl, rfl, rfl⟩ := trodAll_nil r2
  obtain rfl : args = #[v0, v1, v2] := by cases args; simp_all
  have k0 := h0
  have lt0 : ∀ x ∈ p0, x.block < W.heap.size := by obtain ⟨m, hm⟩ := k0; exact DataW.trod_lt m _ _ _ hm
  have k1 := h1
  have lt1 : ∀ x ∈ p1, x.block < W.heap.size := by obtain ⟨m, hm⟩ := k1; exact DataW.trod_lt m _ _ _ hm
  have k2 := h2
  have lt2 : ∀ x ∈ p2, x.block < W.heap.size := by obtain ⟨m, hm⟩ := k2; exact DataW.trod_lt m _ _ _ hm
  obtain ⟨l0, b0⟩ := open_arr4 (hval 0 22 v0 rfl rfl) h0 (_hsz := hsz) (j := 0) rfl rfl
  obtain ⟨l1, b1⟩ := open_form (hval 1 27 v1 rfl rfl) h1 (_hsz := hsz) (j := 1) rfl rfl
  obtain ⟨l2, b2⟩ := open_form (hval 2 27 v2 rfl rfl) h2 (_hsz := hsz) (j := 2) rfl rfl
  clear hA0 hval0 hsz0
  refine (fmakes_walk W v0 l0 b0 v1 l1 b1 v2 l2 b2).mono fun e W' ⟨he, bel⟩ => ?_
  subst he
  exact ⟨_, rfl, _, _, _, [], _, [], hW', trodAll_mk1 (shut_bool Try.underlying4 _), (trodAll_cons_mk (Below.trod laidOut (by kernel_rfl) (of_decide_eq_true (by kernel_rfl)) k0 bel lt0) (trodAll_cons_mk (Below.trod laidOut (by kernel_rfl) (of_decide_eq_true (by kernel_rfl)) k1 bel lt1) (trodAll_cons_mk (Below.trod laidOut (by kernel_rfl) (of_decide_eq_true (by kernel_rfl)) k2 bel lt2) trodAll_mk0))), rfl, bel.frame _, fun h => by cases h⟩

theorem over : Rows.formMakesRow.holds Try.pinned (OpenSpec.ofChange Rows.formMakesSpec) :=
  OpenClaim.holds_of_wide 6 Try.f6 rfl rfl rfl rfl rfl rfl rfl ⟨rfl, rfl, rfl, rfl, rfl⟩ rfl rfl rfl rfl rfl (by kernel_rfl) Try.func6 (by kernel_rfl)
    (of_decide_eq_true (by kernel_rfl)) (by unfold Func.isWrapper; first | (rw [if_pos (by decide +kernel)]; kernel_rfl) | (rw [if_neg (by decide +kernel)]; exact ⟨rfl, rfl⟩))
    (fun os started H enc _ => lifted os started H enc)

theorem proved : Rows.FormMakesSaid := over
#print axioms proved
end Go.Proofs.Ytfcghajnnllmhaa.formMakes
