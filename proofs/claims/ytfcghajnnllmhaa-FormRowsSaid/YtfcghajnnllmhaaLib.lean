/-
  Words of memory for this seat's proofs: a slice that reads as a list (Rd), a block known whole (Blk), what a call may have turned (Kp); append onto a row of the call's own whose source is nil, empty or not.
-/
import Derived.WalkKit
import Derived.WalkSpells
import Derived.WalkLawsBesides
import Derived.Lib.Hide
import Derived.Below
import Derived.Laws.OwnMore
import Derived.Deep.AppendLies
import Derived.Deep.Draws
import Derived.Laws.Rows
import Derived.Maps.AppendAt
import Derived.RegionTactic
import Derived.OwnWalk
import Derived.Lib.ConvBytes
import Derived.Laws.BytesArg
import Derived.Deep.QuietTactic
import Derived.BigQuiet
namespace Go.Proofs.Ytfcghajnnllmhaa
open Go.RowKit

theorem block_add (a : Addr) (n : Nat) : (a.add n).block = a.block := by unfold Addr.add; split <;> rfl
theorem add_add (a : Addr) (i j : Nat) : (a.add i).add j = a.add (i + j) := by
  unfold Addr.add
  by_cases hi : i = 0 <;> by_cases hj : j = 0 <;> simp [hi, hj, Nat.add_assoc]
theorem cell_lt {w : World} {a : Addr} {v : Value} (h : w.cell? a = some v) : a.block < w.heap.size := by
  rcases Nat.lt_or_ge a.block w.heap.size with hlt | hge
  · exact hlt
  · unfold World.cell? at h; rw [Array.getElem?_eq_none hge] at h; cases h

/-! ### What a call may have turned: of the blocks that there were those of S alone. -/
structure Kp (S : Nat → Prop) (w w' : World) : Prop where
  os : w'.os = w.os
  tape : w'.tape = w.tape
  output : w'.output = w.output
  size : w.heap.size ≤ w'.heap.size
  block : ∀ k, k < w.heap.size → ¬ S k → w'.heap[k]? = w.heap[k]?

section
variable {S T : Nat → Prop} {a b c w w' : World}
theorem Kp.refl (S : Nat → Prop) (w : World) : Kp S w w := ⟨rfl, rfl, rfl, Nat.le_refl _, fun _ _ _ => rfl⟩
/-- Behind the first step: what is new since the beginning, and S, may turn. -/
theorem Kp.trans (h : Kp S a b) (k : Kp (fun i => S i ∨ a.heap.size ≤ i) b c) : Kp S a c :=
  ⟨k.os.trans h.os, k.tape.trans h.tape, k.output.trans h.output, Nat.le_trans h.size k.size, fun i hi hs =>
    (k.block i (Nat.lt_of_lt_of_le hi h.size) (fun x => x.elim hs (fun y => absurd hi (Nat.not_lt.2 y)))).trans (h.block i hi hs)⟩
theorem Kp.then_ (h : Kp S a b) (k : Kp T b c) (ht : ∀ i, T i → S i ∨ a.heap.size ≤ i) : Kp S a c :=
  h.trans ⟨k.os, k.tape, k.output, k.size, fun i hi hs => k.block i hi (fun x => hs (ht i x))⟩
theorem Kp.mono (h : Kp S a b) (hs : ∀ i, i < a.heap.size → S i → T i) : Kp T a b :=
  ⟨h.os, h.tape, h.output, h.size, fun i hi ht => h.block i hi (fun x => ht (hs i hi x))⟩
theorem Kp.drew (h : Kp S a w) : Kp S a w.drew := ⟨h.os, h.tape, h.output, h.size, h.block⟩
theorem Kp.drewN (h : Kp S a w) (n : Nat) : Kp S a (w.drewN n) := ⟨h.os, h.tape, h.output, h.size, h.block⟩
theorem Kp.alloc (h : Kp S a w) (o : Obj) : Kp S a (w.alloc o) :=
  ⟨h.os, h.tape, h.output, Nat.le_trans h.size (by simp), fun i hi hs => (Below.heap_alloc w o i (Nat.lt_of_lt_of_le hi h.size)).trans (h.block i hi hs)⟩
theorem Kp.setCell (h : Kp S a w) {p : Addr} (hp : S p.block ∨ a.heap.size ≤ p.block) (u : Value) : Kp S a (w.setCell p u) :=
  ⟨h.os, h.tape, h.output, by simpa [World.setCell] using h.size, fun i hi hs => (Below.heap_setCell w p u i (by
    rintro rfl
    rcases hp with hp | hp
    · exact hs hp
    · omega)).trans (h.block i hi hs)⟩
theorem Kp.grown (h : Kp S a w) {row : Option Nat} (hg : w.grownBy w' row) (hr : ∀ k, row = some k → S k ∨ a.heap.size ≤ k) : Kp S a w' :=
  ⟨hg.os.trans h.os, hg.tape.trans h.tape, hg.output.trans h.output, Nat.le_trans h.size hg.size, fun i hi hs =>
    (hg.block i (Nat.lt_of_lt_of_le hi h.size) (fun e => by
      rcases hr i e.symm with hr | hr
      · exact hs hr
      · omega)).trans (h.block i hi hs)⟩
theorem Kp.below (h : Kp (fun _ => False) a b) : Below a.heap.size a b := ⟨h.os, h.tape, h.output, h.size, fun k hk => h.block k hk id⟩
theorem Kp.of_below (h : Below a.heap.size a b) : Kp S a b := ⟨h.os, h.tape, h.output, h.size, fun k hk _ => h.block k hk⟩
theorem Kp.cell (h : Kp S a b) {p : Addr} {v : Value} (hc : a.cell? p = some v) (hs : ¬ S p.block) : b.cell? p = some v :=
  (World.cell?_of_block (h.block p.block (cell_lt hc) hs)).trans hc
end

/-! ### A slice that reads as a list of cells; its block is one of 'ok'. -/
def Rd (w : World) (ok : Nat → Prop) (size : Nat) (A : Option Addr) (n : Nat) (xs : List Value) : Prop :=
  xs.length = n * size ∧ (0 < n → ∃ ad, A = some ad ∧ ad.spot = none ∧ ok ad.block ∧ ∀ j u, xs[j]? = some u → w.cell? (ad.add j) = some u)

section
variable {w w' : World} {ok ok' S : Nat → Prop} {size n : Nat} {A : Option Addr} {xs : List Value}
theorem Rd.none_ : Rd w ok size A 0 [] := ⟨by simp, fun h => absurd h (by omega)⟩
theorem Rd.at_ {k : Nat} (h : Rd w ok 1 A n xs) (hk : k < n) : ∃ b off u, A = some ⟨b, off, none⟩ ∧ ok b ∧ xs[k]? = some u ∧ w.cell? ⟨b, off + k, none⟩ = some u := by
  obtain ⟨ad, e, hsp, hb, hc⟩ := h.2 (by omega)
  have hl : k < xs.length := by have := h.1; omega
  obtain ⟨b, off, spot⟩ := ad
  obtain rfl : spot = none := hsp
  have := hc k _ (List.getElem?_eq_getElem hl)
  refine ⟨b, off, xs[k], e, hb, List.getElem?_eq_getElem hl, ?_⟩
  rcases k with _ | k
  · simpa [Addr.add] using this
  · simpa [Addr.add] using this
theorem Rd.kp (h : Rd w ok size A n xs) (hk : Kp S w w') (hd : ∀ i, ok i → ¬ S i) : Rd w' ok size A n xs :=
  ⟨h.1, fun hn => by
    obtain ⟨ad, e, hsp, hb, hc⟩ := h.2 hn
    exact ⟨ad, e, hsp, hb, fun j u hu => hk.cell (hc j u hu) (by rw [block_add]; exact hd _ hb)⟩⟩
theorem Rd.mono (h : Rd w ok size A n xs) (hd : ∀ i, ok i → ok' i) : Rd w ok' size A n xs :=
  ⟨h.1, fun hn => by
    obtain ⟨ad, e, hsp, hb, hc⟩ := h.2 hn
    exact ⟨ad, e, hsp, hd _ hb, hc⟩⟩
theorem Rd.cut (h : Rd w ok size A n xs) {k cap : Nat} (hk : k ≤ n) (hc : n ≤ cap) :
    Rd w ok size (if cap = k then A else A.map (·.add (k * size))) (n - k) (xs.drop (k * size)) := by
  refine ⟨by rw [List.length_drop, h.1, Nat.sub_mul], fun hn => ?_⟩
  obtain ⟨ad, rfl, hsp, hb, hcell⟩ := h.2 (by omega)
  rw [if_neg (by omega)]
  refine ⟨ad.add (k * size), rfl, by unfold Addr.add; split <;> simp [hsp], by rw [block_add]; exact hb, fun j u hu => ?_⟩
  rw [add_add]
  exact hcell _ u (by rw [← hu, List.getElem?_drop])
theorem Rd.take (h : Rd w ok size A n xs) {k : Nat} (hk : k ≤ n) : Rd w ok size A k (xs.take (k * size)) := by
  refine ⟨by rw [List.length_take, h.1]; have := Nat.mul_le_mul_right size hk; omega, fun hn => ?_⟩
  obtain ⟨ad, rfl, hsp, hb, hcell⟩ := h.2 (by omega)
  refine ⟨ad, rfl, hsp, hb, fun j u hu => hcell j u ?_⟩
  rw [List.getElem?_take] at hu
  split at hu
  · exact hu
  · cases hu
theorem Rd.of_own {base : Nat} {e : TypeId} {c : Nat} (h : w.ownsRow base e size (.slice A n c) n xs) (hok : ∀ g, A = some ⟨g, 0, none⟩ → ok g) : Rd w ok size A n xs := by
  refine ⟨h.1, fun hn => ?_⟩
  obtain ⟨g, cap, hv, _, hlt⟩ := h.form hn
  have hA : A = some ⟨g, 0, none⟩ := by injection hv
  subst hA
  exact ⟨_, rfl, rfl, hok _ rfl, h.cells (g := g) rfl⟩
end

/-- Rows of several cells: element k's j-th cell. -/
theorem Rd.row {α : Type} {w : World} {ok : Nat → Prop} {size : Nat} {A : Option Addr} {l : List α} {enc : α → List Value} (h : Rd w ok size A l.length (l.flatMap enc)) (he : ∀ x, (enc x).length = size) {k : Nat} (hk : k < l.length) :
    ∃ b off, A = some ⟨b, off, none⟩ ∧ ok b ∧ ∀ j u, (enc (l[k]'hk))[j]? = some u → w.cell? ⟨b, off + k * size + j, none⟩ = some u := by
  obtain ⟨ad, e, hsp, hb, hc⟩ := h.2 (by omega)
  obtain ⟨b, off, spot⟩ := ad
  obtain rfl : spot = none := hsp
  refine ⟨b, off, e, hb, fun j u hj => ?_⟩
  have hjl : j < size := by rw [← he (l[k]'hk)]; exact (List.getElem?_eq_some_iff.1 hj).1
  have hx : (l.flatMap enc)[k * size + j]? = some u := by
    clear h hc hb e
    induction l generalizing k with
    | nil => simp at hk
    | cons x l ih =>
      rw [List.flatMap_cons]
      cases k with
      | zero =>
        rw [List.getElem?_append_left (by rw [he]; omega)]
        simpa using hj
      | succ k =>
        rw [List.getElem?_append_right (by rw [he, Nat.succ_mul]; omega), he]
        rw [show (k + 1) * size + j - size = k * size + j from by rw [Nat.succ_mul]; omega]
        exact ih (by simpa using hk) (by simpa using hj)
  have := hc _ _ hx
  rw [show (⟨b, off, none⟩ : Addr).add (k * size + j) = ⟨b, off + k * size + j, none⟩ from by
    unfold Addr.add
    split
    · next h0 => rw [Nat.add_assoc, h0, Nat.add_zero]
    · rw [Nat.add_assoc]] at this
  exact this

/-! ### A block that is known whole. -/
def Blk (w : World) (g : Nat) (t : TypeId) (cs : Array Value) : Prop := w.heap[g]? = some (.cells cs t (0, 0))

section
variable {w w' : World} {g : Nat} {t : TypeId} {cs : Array Value} {S : Nat → Prop}
theorem Blk.lt (h : Blk w g t cs) : g < w.heap.size := by
  rcases Nat.lt_or_ge g w.heap.size with hlt | hge
  · exact hlt
  · unfold Blk at h; rw [Array.getElem?_eq_none hge] at h; cases h
theorem Blk.cell (h : Blk w g t cs) (i : Nat) : w.cell? ⟨g, i, none⟩ = cs[i]? := cell_of_row w g i cs t (0, 0) h
theorem Blk.frozen (h : Blk w g t cs) (i : Nat) : w.frozen? ⟨g, i, none⟩ = false := by
  unfold Blk at h
  simp [World.frozen?, h]
theorem Blk.new (w : World) (t : TypeId) (cs : Array Value) : Blk (w.alloc (.cells cs t)) w.heap.size t cs := heap_alloc_new w _
theorem Blk.drew (h : Blk w g t cs) : Blk w.drew g t cs := h
theorem Blk.drewN (h : Blk w g t cs) (n : Nat) : Blk (w.drewN n) g t cs := h
theorem Blk.alloc (h : Blk w g t cs) (o : Obj) : Blk (w.alloc o) g t cs := (Below.heap_alloc w o g h.lt).trans h
theorem Blk.set_ (h : Blk w g t cs) (i : Nat) (u : Value) : Blk (w.setCell ⟨g, i, none⟩ u) g t (cs.setIfInBounds i u) := by
  unfold Blk at h ⊢
  simp [World.setCell, Array.getElem?_modify, h]
theorem Blk.far (h : Blk w g t cs) {p : Addr} (hp : g ≠ p.block) (u : Value) : Blk (w.setCell p u) g t cs := (Below.heap_setCell w p u g hp).trans h
theorem Blk.kp (h : Blk w g t cs) (hk : Kp S w w') (hg : ¬ S g) : Blk w' g t cs := (hk.block g h.lt hg).trans h
theorem Blk.ne_ {g' : Nat} {t' : TypeId} {cs' : Array Value} (h : Blk w g t cs) (h' : Blk w g' t' cs') (hne : t ≠ t') : g ≠ g' := by
  rintro rfl
  unfold Blk at h h'
  rw [h] at h'
  injection h' with h'
  injection h' with _ ht
  exact hne ht
end

/-! ### append onto a row of the call's own: the source nil, empty or not. -/
section
variable {P : Program} (w : World)
theorem run_append_of_nil (base : Nat) (t ty e : TypeId) (i : TypeInfo) (size : Nat) (ht : P.underlying t = some (.slice e)) (hi : P.info? e = some i)
    (v : Value) (n : Nat) (xs : List Value) (hown : w.ownsRow base e size v n xs) (c : Nat) : (Builtin.append_ #[t, t] ty #[v, .slice none 0 c]).run P w = .ok v w := by
  rcases hown.2 with ⟨rfl, rfl⟩ | ⟨g, cap, cur, rfl, _, _, hnc, _⟩
  · simp [Builtin.append_, run_underlying ht, sizeOf, typeInfo, hi, Builtin.lenOf, Builtin.firstCells]
  · simp [Builtin.append_, run_underlying ht, sizeOf, typeInfo, hi, Builtin.lenOf, Builtin.firstCells, hnc, storeCells]

theorem run_append_any (base : Nat) (t ty e : TypeId) (i : TypeInfo) (z : Value) (size bytes : Nat) (ht : P.underlying t = some (.slice e)) (hi : P.info? e = some i) (hz : i.zero = some z)
    (hsize : i.size = size) (hby : i.bytes = bytes) (hzs : z.cells.size = size) (hsz : 0 < size)
    (v : Value) (n : Nat) (xs : List Value) (hown : w.ownsRow base e size v n xs)
    (ok : Nat → Prop) (A : Option Addr) (m c : Nat) (news : List Value) (hr : Rd w ok size A m news) (h1 : ∀ u ∈ news, u.oneCell' = true)
    (h63 : n + m ≤ maxLen) (hbytes : (n + m) * bytes ≤ 140737488355328) (hbase : base ≤ w.heap.size) :
    ∃ v' w', (Builtin.append_ #[t, t] ty #[v, .slice A m c]).run P w = .ok v' w' ∧ w'.ownsRow base e size v' (n + m) (xs ++ news) ∧ w.grownBy w' v.ownBlock ∧
      (v'.ownBlock = v.ownBlock ∨ v'.ownBlock = some w.heap.size) := by
  rcases A with _ | ad
  · have hm : m = 0 := by
      rcases Nat.eq_zero_or_pos m with h0 | h0
      · exact h0
      · obtain ⟨ad, h, _⟩ := hr.2 h0
        cases h
    subst hm
    have hn : news = [] := List.eq_nil_of_length_eq_zero (by simpa using hr.1)
    subst hn
    exact ⟨v, w, run_append_of_nil w base t ty e i size ht hi v n xs hown c, by simpa using hown, World.grownBy.refl w _, .inl rfl⟩
  · have hcells : ∀ j u, news[j]? = some u → w.cell? (ad.add j) = some u := by
      intro j u hu
      rcases Nat.eq_zero_or_pos m with h0 | h0
      · subst h0
        have hn : news = [] := List.eq_nil_of_length_eq_zero (by simpa using hr.1)
        subst hn
        simp at hu
      · obtain ⟨ad', h, _, _, hc⟩ := hr.2 h0
        injection h with h
        subst h
        exact hc j u hu
    obtain ⟨v', w', hrun, h2, h3, _, h5⟩ := run_append_own_at (P := P) w base t ty e i z size bytes ht hi hz hsize hby hzs hsz v n xs hown ad m c news hr.1 hcells h1 h63 hbytes hbase
    exact ⟨v', w', hrun, h2, h3, h5⟩

theorem wp_append_any {o : Oper} {a : Act} {K : Act → World → Prop} {Q : Exit → Act → World → Prop} (s x : Operand) (t : TypeId)
    (ho : o.op = .call { callee := .builtin .append, args := #[s, x], argTypes := #[t, t] })
    (base : Nat) (e : TypeId) (i : TypeInfo) (z : Value) (size bytes : Nat) (ht : P.underlying t = some (.slice e)) (hi : P.info? e = some i) (hz : i.zero = some z)
    (hsize : i.size = size) (hby : i.bytes = bytes) (hzs : z.cells.size = size) (hsz : 0 < size)
    (v : Value) (n : Nat) (xs : List Value) (hs : a.eval s = v) (hown : w.ownsRow base e size v n xs)
    (ok : Nat → Prop) (A : Option Addr) (m c : Nat) (news : List Value) (hx : a.eval x = .slice A m c) (hr : Rd w ok size A m news) (h1 : ∀ u ∈ news, u.oneCell' = true)
    (h63 : n + m ≤ maxLen) (hbytes : (n + m) * bytes ≤ 140737488355328) (hbase : base ≤ w.heap.size)
    (h : ∀ v' w', w'.ownsRow base e size v' (n + m) (xs ++ news) → w.grownBy w' v.ownBlock → (v'.ownBlock = v.ownBlock ∨ v'.ownBlock = some w.heap.size) → K (a.put o.dst v') w') : o.wp P a w K Q := by
  obtain ⟨v', w', hrun, h2, h3, h4⟩ := run_append_any (P := P) w base t o.type e i z size bytes ht hi hz hsize hby hzs hsz v n xs hown ok A m c news hr h1 h63 hbytes hbase
  unfold Oper.wp execOp
  simp only [ho, resolve, invoke, builtin, Sem.run_bind, Sem.run_pure, Result.andThen_ok, List.map_toArray, List.map_cons, List.map_nil, hs, hx, hrun]
  exact h v' w' h2 h3 h4

theorem wpList_append_any {ops : Array Oper} {rest : List Oper} {o : Oper} {a : Act} {Q : Exit → Act → World → Prop} (hgd : o.guard = none) (s x : Operand) (t : TypeId)
    (ho : o.op = .call { callee := .builtin .append, args := #[s, x], argTypes := #[t, t] })
    (base : Nat) (e : TypeId) (i : TypeInfo) (z : Value) (size bytes : Nat) (ht : P.underlying t = some (.slice e)) (hi : P.info? e = some i) (hz : i.zero = some z)
    (hsize : i.size = size) (hby : i.bytes = bytes) (hzs : z.cells.size = size) (hsz : 0 < size)
    (v : Value) (n : Nat) (xs : List Value) (hs : a.eval s = v) (hown : w.ownsRow base e size v n xs)
    (ok : Nat → Prop) (A : Option Addr) (m c : Nat) (news : List Value) (hx : a.eval x = .slice A m c) (hr : Rd w ok size A m news) (h1 : ∀ u ∈ news, u.oneCell' = true)
    (h63 : n + m ≤ maxLen) (hbytes : (n + m) * bytes ≤ 140737488355328) (hbase : base ≤ w.heap.size)
    (h : ∀ v' w', w'.ownsRow base e size v' (n + m) (xs ++ news) → w.grownBy w' v.ownBlock → (v'.ownBlock = v.ownBlock ∨ v'.ownBlock = some w.heap.size) → wpList P ops Q rest (a.put o.dst v') w') : wpList P ops Q (o :: rest) a w :=
  wpList_plain hgd fun _ hK => wp_append_any w s x t ho base e i z size bytes ht hi hz hsize hby hzs hsz v n xs hs hown ok A m c news hx hr h1 h63 hbytes hbase fun v' w' h2 h3 h4 => hK _ _ (h v' w' h2 h3 h4)

theorem step_append_any {ops : Array Oper} {o : Oper} {a : Act} {K : Act → World → Prop} {Q : Exit → Act → World → Prop} {E : Prop} (hgd : o.guard = none) (s x : Operand) (t : TypeId)
    (ho : o.op = .call { callee := .builtin .append, args := #[s, x], argTypes := #[t, t] })
    (base : Nat) (e : TypeId) (i : TypeInfo) (z : Value) (size bytes : Nat) (ht : P.underlying t = some (.slice e)) (hi : P.info? e = some i) (hz : i.zero = some z)
    (hsize : i.size = size) (hby : i.bytes = bytes) (hzs : z.cells.size = size) (hsz : 0 < size)
    (v : Value) (n : Nat) (xs : List Value) (hs : a.eval s = v) (hown : w.ownsRow base e size v n xs)
    (ok : Nat → Prop) (A : Option Addr) (m c : Nat) (news : List Value) (hx : a.eval x = .slice A m c) (hr : Rd w ok size A m news) (h1 : ∀ u ∈ news, u.oneCell' = true)
    (h63 : n + m ≤ maxLen) (hbytes : (n + m) * bytes ≤ 140737488355328) (hbase : base ≤ w.heap.size)
    (h : ∀ v' w', w'.ownsRow base e size v' (n + m) (xs ++ news) → w.grownBy w' v.ownBlock → (v'.ownBlock = v.ownBlock ∨ v'.ownBlock = some w.heap.size) → K (a.put o.dst v') w') :
    if Region.wanted o (yielded ops a.tmps) = true then Oper.wp P o a w K Q else E := by
  have hw : Region.wanted o (yielded ops a.tmps) = true := by simp [Region.wanted, hgd]
  rw [if_pos hw]
  exact wp_append_any w s x t ho base e i z size bytes ht hi hz hsize hby hzs hsz v n xs hs hown ok A m c news hx hr h1 h63 hbytes hbase h
end

/-! ### A call that turns nothing, in a region that draws. -/
theorem quiet_left {P : Program} {f : FuncId} {args : Array Value} {w : World} {n : Nat} {v : Value}
    (h : Calls P f args (w.drewN n) fun e w' => e = .returned v ∧ w.drewN n = w') : Calls P f args (w.drewN n) fun e w' => e = .returned v ∧ ∃ m, w' = w.drewN m :=
  h.mono fun _ _ ⟨he, hm⟩ => ⟨he, n, hm.symm⟩

/-! ### Bytes. -/
def bc (l : List UInt8) : List Value := l.map fun b => Value.int .u8 (b.toNat : Int)
theorem bc_length (l : List UInt8) : (bc l).length = l.length := by simp [bc]
theorem bc_one (l : List UInt8) : ∀ u ∈ bc l, u.oneCell' = true := by
  intro u hu
  obtain ⟨b, _, rfl⟩ := List.mem_map.1 hu
  rfl
theorem bc_append (l m : List UInt8) : bc (l ++ m) = bc l ++ bc m := by simp [bc]
theorem bc_drop (l : List UInt8) (k : Nat) : (bc l).drop k = bc (l.drop k) := by simp [bc]
theorem bc_take (l : List UInt8) (k : Nat) : (bc l).take k = bc (l.take k) := by simp [bc]
theorem bc_inj {l m : List UInt8} (h : bc l = bc m) : l = m := by
  induction l generalizing m with
  | nil => cases m with
    | nil => rfl
    | cons => simp [bc] at h
  | cons a l ih => cases m with
    | nil => simp [bc] at h
    | cons b m =>
      simp only [bc, List.map_cons, List.cons.injEq, Value.int.injEq, true_and] at h
      have h1 : a = b := UInt8.toNat_inj.1 (by omega)
      rw [h1, ih h.2]

theorem Rd.byte {w : World} {ok : Nat → Prop} {A : Option Addr} {l : List UInt8} {k : Nat} (h : Rd w ok 1 A l.length (bc l)) (hk : k < l.length) :
    ∃ b off, A = some ⟨b, off, none⟩ ∧ ok b ∧ w.cell? ⟨b, off + k, none⟩ = some (.int .u8 ((l[k]'hk).toNat : Int)) := by
  obtain ⟨b, off, u, hA, hb, hu, hc⟩ := h.at_ hk
  refine ⟨b, off, hA, hb, ?_⟩
  rw [hc]
  simp [bc, hk] at hu
  rw [hu]

/-- A slice value that reads as these bytes. -/
def BR (w : World) (ok : Nat → Prop) (v : Value) (l : List UInt8) : Prop := ∃ A c, v = .slice A l.length c ∧ l.length ≤ c ∧ Rd w ok 1 A l.length (bc l)
section
variable {w w' : World} {ok ok' S : Nat → Prop} {v : Value} {l : List UInt8}
theorem BR.nil : BR w ok (.slice none 0 0) [] := ⟨none, 0, rfl, Nat.le_refl _, Rd.none_⟩
theorem BR.kp (h : BR w ok v l) (hk : Kp S w w') (hd : ∀ i, ok i → ¬ S i) : BR w' ok v l := by
  obtain ⟨A, c, e, hc, hr⟩ := h
  exact ⟨A, c, e, hc, hr.kp hk hd⟩
theorem BR.mono (h : BR w ok v l) (hd : ∀ i, ok i → ok' i) : BR w ok' v l := by
  obtain ⟨A, c, e, hc, hr⟩ := h
  exact ⟨A, c, e, hc, hr.mono hd⟩
/-- 'b[i:j]' of bytes. -/
theorem BR.sub {A : Option Addr} {c i j : Nat} (h : Rd w ok 1 A l.length (bc l)) (hc : l.length ≤ c) (hij : i ≤ j) (hj : j ≤ l.length) :
    BR w ok (.slice (if c = i then A else A.map (·.add i)) (j - i) (c - i)) ((l.drop i).take (j - i)) := by
  have hlen : ((l.drop i).take (j - i)).length = j - i := by simp; omega
  refine ⟨_, c - i, by rw [hlen], by rw [hlen]; omega, ?_⟩
  rw [hlen]
  have := (h.cut (k := i) (by omega) hc).take (k := j - i) (by omega)
  rw [Nat.mul_one, Nat.mul_one, bc_drop, bc_take] at this
  exact this
/-- Bytes that were laid just now. -/
theorem BR.lit (w : World) (t : TypeId) (l : List UInt8) (cs : Array Value) (n : Nat) (hn : l.length = n) (hcs : cs = (bc l).toArray) : BR (w.alloc (.cells cs t)) (· = w.heap.size) (.slice (some ⟨w.heap.size, 0, none⟩) n n) l := by
  subst hn hcs
  refine ⟨_, _, rfl, Nat.le_refl _, by rw [bc_length]; omega, fun _ => ⟨_, rfl, rfl, rfl, fun j u hu => ?_⟩⟩
  have h := (Blk.new w t (bc l).toArray).cell j
  have e : (⟨w.heap.size, 0, none⟩ : Addr).add j = ⟨w.heap.size, j, none⟩ := by
    unfold Addr.add
    split
    · next h0 => subst h0; rfl
    · simp
  rw [e, h]
  simpa using hu
theorem loadCells_rd {P : Program} {w : World} {ok : Nat → Prop} {ad : Addr} {n : Nat} {xs : List Value} (h : Rd w ok 1 (some ad) n xs) : (loadCells ad n).run P w = .ok xs.toArray w := by
  have hl : xs.length = n := by have := h.1; omega
  have := run_loadCells_list (P := P) w ad xs (fun j v hj => by
    have hj' : j < xs.length := (List.getElem?_eq_some_iff.1 hj).1
    obtain ⟨ad', e, _, _, hc⟩ := h.2 (by omega)
    injection e with e
    subst e
    exact hc j v hj)
  rw [hl] at this
  exact this
/-- The string of bytes. -/
def str (l : List UInt8) : ByteArray := ⟨l.toArray⟩
theorem str_size (l : List UInt8) : (str l).size = l.length := by simp [str, ByteArray.size]
theorem str_toList (l : List UInt8) : (str l).data.toList = l := by simp [str]
theorem str_inj {l m : List UInt8} (h : str l = str m) : l = m := by
  have := congrArg (fun s : ByteArray => s.data.toList) h
  simpa [str] using this
theorem str_append (a b : List UInt8) : str a ++ str b = str (a ++ b) := by
  show ByteArray.append (str a) (str b) = str (a ++ b)
  apply ByteArray.ext
  have := @ByteArray.data_append (str a) (str b)
  refine this.trans ?_
  simp [str]
theorem str_beq (a : List UInt8) : ((str a).toList == (str a).toList) = true := by simp
theorem nums_bytes (l : List UInt8) : ((l.map fun b => (b.toNat : Int)).map fun n => UInt8.ofNat n.toNat) = l := by
  induction l with
  | nil => rfl
  | cons b l ih => simpa using ih
theorem run_str {P : Program} {w : World} {ok : Nat → Prop} {v : Value} {l : List UInt8} {src dst e : TypeId} (hs : P.underlying src = some (.slice e)) (he : P.underlying e = some (.int .u8)) (hd : P.underlying dst = some .string)
    (h : BR w ok v l) : (convert src dst v).run P w = .ok (.string (str l)) w := by
  obtain ⟨A, c, rfl, hc, hr⟩ := h
  cases A with
  | none =>
    have h0 : l.length = 0 := by
      rcases Nat.eq_zero_or_pos l.length with h | h
      · exact h
      · obtain ⟨ad, e, _⟩ := hr.2 h
        cases e
    rw [run_convert_bytes_nil w src e hs he _ _ dst hd]
    have : l = [] := List.eq_nil_of_length_eq_zero h0
    subst this
    rfl
  | some ad =>
    have hl := loadCells_rd (P := P) hr
    have e1 : bc l = (l.map fun b => (b.toNat : Int)).map (Value.int .u8) := by simp [bc]
    rw [e1] at hl
    rw [run_convert_bytes_string w src dst e _ l.length c hs he hd, run_bytesToString w _ l.length c _ hl, foldl_push_bytes, nums_bytes]
    simp [str, ByteArray.empty, ByteArray.emptyWithCapacity]
    rfl
theorem BR.of_own {base : Nat} {e : TypeId} {n : Nat} (h : w.ownsRow base e 1 v n (bc l)) (hok : ∀ g, v.ownBlock = some g → ok g) : BR w ok v l := by
  have hn : n = l.length := by have := h.1; rw [bc_length] at this; omega
  subst hn
  rcases h.2 with ⟨rfl, h0⟩ | ⟨g, cap, cur, rfl, _, _, hcap, _⟩
  · obtain rfl : l = [] := List.eq_nil_of_length_eq_zero h0
    exact BR.nil
  · exact ⟨_, cap, rfl, by first | exact hcap | (exact hcap.1) | omega, Rd.of_own h (fun g' e => hok g' (by simp only [Option.some.injEq, Addr.mk.injEq] at e; simp [Value.ownBlock, e]))⟩
end

/-! ### A row of the call's own whose block is one of 'ok'. -/
def Own (w : World) (ok : Nat → Prop) (e size : Nat) (v : Value) (n : Nat) (xs : List Value) : Prop := w.ownsRow 0 e size v n xs ∧ ∀ k, v.ownBlock = some k → ok k
section
variable {w w' : World} {ok ok' S : Nat → Prop} {e size n : Nat} {v : Value} {xs : List Value}
theorem Own.nil : Own w ok e size (.slice none 0 0) 0 [] := ⟨World.ownsRow_nil w 0 e size, fun k hk => by simp [Value.ownBlock] at hk⟩
theorem Own.lt (h : Own w ok e size v n xs) : ∀ k, v.ownBlock = some k → k < w.heap.size := fun k hk => (h.1.lt k hk).2
theorem Own.kp (h : Own w ok e size v n xs) (hk : Kp S w w') (hd : ∀ i, ok i → ¬ S i) : Own w' ok e size v n xs := by
  obtain ⟨⟨h1, h2⟩, h3⟩ := h
  refine ⟨⟨h1, ?_⟩, h3⟩
  rcases h2 with h2 | ⟨g, cap, cur, rfl, hg, hh, r⟩
  · exact .inl h2
  · have hok := h3 g rfl
    have hlt : g < w.heap.size := by
      rcases Nat.lt_or_ge g w.heap.size with h | h
      · exact h
      · rw [Array.getElem?_eq_none h] at hh; cases hh
    exact .inr ⟨g, cap, cur, rfl, hg, (hk.block g hlt (hd g hok)).trans hh, r⟩
theorem Own.mono (h : Own w ok e size v n xs) (hd : ∀ i, i < w.heap.size → ok i → ok' i) : Own w ok' e size v n xs := ⟨h.1, fun k hk => hd k (h.lt k hk) (h.2 k hk)⟩
theorem Own.shape (h : Own w ok e size v n xs) : ∃ A c, v = .slice A n c ∧ n ≤ c := by
  rcases h.1.2 with ⟨rfl, rfl⟩ | ⟨g, cap, cur, rfl, _, _, hn, _⟩
  · exact ⟨none, 0, rfl, Nat.le_refl _⟩
  · exact ⟨_, cap, rfl, hn⟩
theorem Own.rd {A : Option Addr} {c : Nat} (h : Own w ok e size (.slice A n c) n xs) : Rd w ok size A n xs := Rd.of_own h.1 (fun g hg => h.2 g (by rw [hg]; rfl))
theorem Own.block {t : TypeId} {g : Nat} {cs : Array Value} (h : Own w ok e size v n xs) (hb : Blk w g t cs) (hne : e ≠ t) : v.ownBlock ≠ some g := by
  rcases h.1.2 with ⟨rfl, _⟩ | ⟨g', cap, cur, rfl, _, hh, _⟩
  · simp [Value.ownBlock]
  · intro he
    have : g' = g := by simpa [Value.ownBlock] using he
    subst this
    exact Blk.ne_ (t := e) hh hb hne rfl
theorem Own.apart {e' size' n' : Nat} {v' : Value} {xs' : List Value} (h : Own w ok e size v n xs) (h' : Own w ok' e' size' v' n' xs') (hne : e ≠ e') {g : Nat} (hg : v'.ownBlock = some g) : v.ownBlock ≠ some g := by
  rcases h'.1.2 with ⟨rfl, _⟩ | ⟨g', cap, cur, rfl, _, hh, _⟩
  · simp [Value.ownBlock] at hg
  · have : g' = g := by simpa [Value.ownBlock] using hg
    subst this
    exact h.block (t := e') hh hne
/-- Cut at its end. -/
theorem Own.take {A : Option Addr} {c : Nat} (h : Own w ok e size (.slice A n c) n xs) {k : Nat} (hk : k ≤ n) : Own w ok e size (.slice A k c) k (xs.take (k * size)) := by
  obtain ⟨⟨h1, h2⟩, h3⟩ := h
  have hlen : (xs.take (k * size)).length = k * size := by rw [List.length_take, h1]; have := Nat.mul_le_mul_right size hk; omega
  rcases h2 with ⟨h2, rfl⟩ | ⟨g, cap, cur, h2, hg, hh, hn, hc, hs, ht⟩
  · injection h2 with hA _ hc
    subst hA hc
    obtain rfl : k = 0 := by omega
    exact ⟨⟨hlen, .inl ⟨rfl, rfl⟩⟩, h3⟩
  · injection h2 with hA _ hc'
    subst hA hc'
    refine ⟨⟨hlen, .inr ⟨g, c, cur, rfl, hg, hh, by omega, hc, hs, ?_⟩⟩, h3⟩
    rw [← ht, List.take_take, Nat.min_eq_left (Nat.mul_le_mul_right size hk)]
theorem BR.of_own' {c : Nat} {A : Option Addr} {l : List UInt8} (h : Own w ok e 1 (.slice A l.length c) l.length (bc l)) (hc : l.length ≤ c) : BR w ok (.slice A l.length c) l := ⟨A, c, rfl, hc, h.rd⟩
end

end Go.Proofs.Ytfcghajnnllmhaa
