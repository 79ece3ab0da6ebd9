/-
  Texts for the law ValueNumbers: part 1.
-/
import Derived.WalkKit
import Derived.WalkSpells
import Derived.WalkLawsBesides
import Derived.Lib.Hide
import Derived.Below
import Derived.Laws.OwnMore
import Derived.Deep.AppendLies
import Derived.Deep.Draws
import Derived.Laws.Rows
import Derived.Maps.AppendAt
import Derived.RegionTactic
import Derived.OwnWalk
import Derived.Lib.ConvBytes
import Derived.Laws.BytesArg
import Derived.Deep.QuietTactic
import Derived.BigQuiet
import Derived.ProofKit
import Derived.OpenShut
import Derived.ShutString
import Derived.SizedLaws
import Derived.Deep.Slices
import Derived.Deep.Fields
import Derived.Laws.MakeOwn
import Derived.Deep.OwnRows
import Derived.Tactics
import Derived.Laws.Slices
import Derived.KernelRfl
import Derived.RowKit3
import Derived.Deep.LoopGhost
import Derived.WideLaws
import Derived.Deep.DeepCutAuto
import Derived.Deep.CutBlock
import Derived.Deep.RegionHeld3
import Derived.Lib.AppendStr
import Derived.ArgAppend
import Derived.Laws.IdiomCopy
import Derived.RowKit
import Derived.OrdersHeld
import Derived.Laws.BitsLemmas
import Derived.Test.YtfcghajnnllmhaaProg
import Derived.IntWalk
import Derived.Deep.CutRange

set_option linter.unusedVariables false
set_option linter.unusedSimpArgs false
namespace Go.Proofs.Ytfcghajnnllmhaa
open Go.RowKit

theorem block_add (a : Addr) (n : Nat) : (a.add n).block = a.block := by unfold Addr.add;split <;> rfl
theorem add_add (a : Addr) (i j : Nat) : (a.add i).add j = a.add (i + j) := by
 unfold Addr.add
 by_cases hi : i = 0 <;> by_cases hj : j = 0 <;> simp [hi,hj,Nat.add_assoc]
theorem cell_lt {w : World} {a : Addr} {v : Value} (h : w.cell? a = some v) : a.block < w.heap.size := by
 rcases Nat.lt_or_ge a.block w.heap.size with hlt | hge
 ·exact hlt
 ·unfold World.cell? at h;rw [Array.getElem?_eq_none hge] at h;cases h

/-! ### What a call may have turned: of the blocks that there were those of S alone. -/
structure Kp (S : Nat → Prop) (w w' : World) : Prop where
 os : w'.os = w.os
 tape : w'.tape = w.tape
 output : w'.output = w.output
 size : w.heap.size ≤ w'.heap.size
 block : ∀ k,k < w.heap.size → ¬ S k → w'.heap[k]? = w.heap[k]?

section
variable {S T : Nat → Prop} {a b c w w' : World}
theorem Kp.refl (S : Nat → Prop) (w : World) : Kp S w w := ⟨rfl,rfl,rfl,Nat.le_refl _,fun _ _ _ => rfl⟩
/-- Behind the first step: what is new since the beginning, and S, may turn. -/
theorem Kp.trans (h : Kp S a b) (k : Kp (fun i => S i ∨ a.heap.size ≤ i) b c) : Kp S a c :=
 ⟨k.os.trans h.os,k.tape.trans h.tape,k.output.trans h.output,Nat.le_trans h.size k.size,fun i hi hs =>
  (k.block i (Nat.lt_of_lt_of_le hi h.size) (fun x => x.elim hs (fun y => absurd hi (Nat.not_lt.2 y)))).trans (h.block i hi hs)⟩
theorem Kp.then_ (h : Kp S a b) (k : Kp T b c) (ht : ∀ i,T i → S i ∨ a.heap.size ≤ i) : Kp S a c :=
 h.trans ⟨k.os,k.tape,k.output,k.size,fun i hi hs => k.block i hi (fun x => hs (ht i x))⟩
theorem Kp.mono (h : Kp S a b) (hs : ∀ i,i < a.heap.size → S i → T i) : Kp T a b :=
 ⟨h.os,h.tape,h.output,h.size,fun i hi ht => h.block i hi (fun x => ht (hs i hi x))⟩
theorem Kp.drew (h : Kp S a w) : Kp S a w.drew := ⟨h.os,h.tape,h.output,h.size,h.block⟩
theorem Kp.drewN (h : Kp S a w) (n : Nat) : Kp S a (w.drewN n) := ⟨h.os,h.tape,h.output,h.size,h.block⟩
theorem Kp.alloc (h : Kp S a w) (o : Obj) : Kp S a (w.alloc o) :=
 ⟨h.os,h.tape,h.output,Nat.le_trans h.size (by simp),fun i hi hs => (Below.heap_alloc w o i (Nat.lt_of_lt_of_le hi h.size)).trans (h.block i hi hs)⟩
theorem Kp.setCell (h : Kp S a w) {p : Addr} (hp : S p.block ∨ a.heap.size ≤ p.block) (u : Value) : Kp S a (w.setCell p u) :=
 ⟨h.os,h.tape,h.output,by simpa [World.setCell] using h.size,fun i hi hs => (Below.heap_setCell w p u i (by
  rintro rfl
  rcases hp with hp | hp
  ·exact hs hp
  ·omega)).trans (h.block i hi hs)⟩
theorem Kp.grown (h : Kp S a w) {row : Option Nat} (hg : w.grownBy w' row) (hr : ∀ k,row = some k → S k ∨ a.heap.size ≤ k) : Kp S a w' :=
 ⟨hg.os.trans h.os,hg.tape.trans h.tape,hg.output.trans h.output,Nat.le_trans h.size hg.size,fun i hi hs =>
  (hg.block i (Nat.lt_of_lt_of_le hi h.size) (fun e => by
   rcases hr i e.symm with hr | hr
   ·exact hs hr
   ·omega)).trans (h.block i hi hs)⟩
theorem Kp.below (h : Kp (fun _ => False) a b) : Below a.heap.size a b := ⟨h.os,h.tape,h.output,h.size,fun k hk => h.block k hk id⟩
theorem Kp.of_below (h : Below a.heap.size a b) : Kp S a b := ⟨h.os,h.tape,h.output,h.size,fun k hk _ => h.block k hk⟩
theorem Kp.cell (h : Kp S a b) {p : Addr} {v : Value} (hc : a.cell? p = some v) (hs : ¬ S p.block) : b.cell? p = some v :=
 (World.cell?_of_block (h.block p.block (cell_lt hc) hs)).trans hc
end

/-! ### A slice that reads as a list of cells; its block is one of 'ok'. -/
def Rd (w : World) (ok : Nat → Prop) (size : Nat) (A : Option Addr) (n : Nat) (xs : List Value) : Prop :=
 xs.length = n * size ∧ (0 < n → ∃ ad,A = some ad ∧ ad.spot = none ∧ ok ad.block ∧ ∀ j u,xs[j]? = some u → w.cell? (ad.add j) = some u)

section
variable {w w' : World} {ok ok' S : Nat → Prop} {size n : Nat} {A : Option Addr} {xs : List Value}
theorem Rd.none_ : Rd w ok size A 0 [] := ⟨by simp,fun h => absurd h (by omega)⟩
theorem Rd.at_ {k : Nat} (h : Rd w ok 1 A n xs) (hk : k < n) : ∃ b off u,A = some ⟨b,off,none⟩ ∧ ok b ∧ xs[k]? = some u ∧ w.cell? ⟨b,off + k,none⟩ = some u := by
 obtain ⟨ad,e,hsp,hb,hc⟩ := h.2 (by omega)
 have hl : k < xs.length := by have := h.1;omega
 obtain ⟨b,off,spot⟩ := ad
 obtain rfl : spot = none := hsp
 have := hc k _ (List.getElem?_eq_getElem hl)
 refine ⟨b,off,xs[k],e,hb,List.getElem?_eq_getElem hl,?_⟩
 rcases k with _ | k
 ·simpa [Addr.add] using this
 ·simpa [Addr.add] using this
theorem Rd.kp (h : Rd w ok size A n xs) (hk : Kp S w w') (hd : ∀ i,ok i → ¬ S i) : Rd w' ok size A n xs :=
 ⟨h.1,fun hn => by
  obtain ⟨ad,e,hsp,hb,hc⟩ := h.2 hn
  exact ⟨ad,e,hsp,hb,fun j u hu => hk.cell (hc j u hu) (by rw [block_add];exact hd _ hb)⟩⟩
theorem Rd.mono (h : Rd w ok size A n xs) (hd : ∀ i,ok i → ok' i) : Rd w ok' size A n xs :=
 ⟨h.1,fun hn => by
  obtain ⟨ad,e,hsp,hb,hc⟩ := h.2 hn
  exact ⟨ad,e,hsp,hd _ hb,hc⟩⟩
theorem Rd.take (h : Rd w ok size A n xs) {k : Nat} (hk : k ≤ n) : Rd w ok size A k (xs.take (k * size)) := by
 refine ⟨by rw [List.length_take,h.1];have := Nat.mul_le_mul_right size hk;omega,fun hn => ?_⟩
 obtain ⟨ad,rfl,hsp,hb,hcell⟩ := h.2 (by omega)
 refine ⟨ad,rfl,hsp,hb,fun j u hu => hcell j u ?_⟩
 rw [List.getElem?_take] at hu
 split at hu
 ·exact hu
 ·cases hu
theorem Rd.of_own {base : Nat} {e : TypeId} {c : Nat} (h : w.ownsRow base e size (.slice A n c) n xs) (hok : ∀ g,A = some ⟨g,0,none⟩ → ok g) : Rd w ok size A n xs := by
 refine ⟨h.1,fun hn => ?_⟩
 obtain ⟨g,cap,hv,_,hlt⟩ := h.form hn
 have hA : A = some ⟨g,0,none⟩ := by injection hv
 subst hA
 exact ⟨_,rfl,rfl,hok _ rfl,h.cells (g := g) rfl⟩
end

/-- Rows of several cells: element k's j-th cell. -/
theorem Rd.row {α : Type} {w : World} {ok : Nat → Prop} {size : Nat} {A : Option Addr} {l : List α} {enc : α → List Value} (h : Rd w ok size A l.length (l.flatMap enc)) (he : ∀ x,(enc x).length = size) {k : Nat} (hk : k < l.length) :
  ∃ b off,A = some ⟨b,off,none⟩ ∧ ok b ∧ ∀ j u,(enc (l[k]'hk))[j]? = some u → w.cell? ⟨b,off + k * size + j,none⟩ = some u := by
 obtain ⟨ad,e,hsp,hb,hc⟩ := h.2 (by omega)
 obtain ⟨b,off,spot⟩ := ad
 obtain rfl : spot = none := hsp
 refine ⟨b,off,e,hb,fun j u hj => ?_⟩
 have hjl : j < size := by rw [← he (l[k]'hk)];exact (List.getElem?_eq_some_iff.1 hj).1
 have hx : (l.flatMap enc)[k * size + j]? = some u := by
  clear h hc hb e
  induction l generalizing k with
  | nil => simp at hk
  | cons x l ih =>
   rw [List.flatMap_cons]
   cases k with
   | zero =>
    rw [List.getElem?_append_left (by rw [he];omega)]
    simpa using hj
   | succ k =>
    rw [List.getElem?_append_right (by rw [he,Nat.succ_mul];omega),he]
    rw [show (k + 1) * size + j - size = k * size + j from by rw [Nat.succ_mul];omega]
    exact ih (by simpa using hk) (by simpa using hj)
 have := hc _ _ hx
 rw [show (⟨b,off,none⟩ : Addr).add (k * size + j) = ⟨b,off + k * size + j,none⟩ from by
  unfold Addr.add
  split
  ·next h0 => rw [Nat.add_assoc,h0,Nat.add_zero]
  ·rw [Nat.add_assoc]] at this
 exact this

/-! ### A block that is known whole. -/
def Blk (w : World) (g : Nat) (t : TypeId) (cs : Array Value) : Prop := w.heap[g]? = some (.cells cs t (0,0))

section
variable {w w' : World} {g : Nat} {t : TypeId} {cs : Array Value} {S : Nat → Prop}
theorem Blk.lt (h : Blk w g t cs) : g < w.heap.size := by
 rcases Nat.lt_or_ge g w.heap.size with hlt | hge
 ·exact hlt
 ·unfold Blk at h;rw [Array.getElem?_eq_none hge] at h;cases h
theorem Blk.cell (h : Blk w g t cs) (i : Nat) : w.cell? ⟨g,i,none⟩ = cs[i]? := cell_of_row w g i cs t (0,0) h
theorem Blk.frozen (h : Blk w g t cs) (i : Nat) : w.frozen? ⟨g,i,none⟩ = false := by
 unfold Blk at h
 simp [World.frozen?,h]
theorem Blk.new (w : World) (t : TypeId) (cs : Array Value) : Blk (w.alloc (.cells cs t)) w.heap.size t cs := heap_alloc_new w _
theorem Blk.drew (h : Blk w g t cs) : Blk w.drew g t cs := h
theorem Blk.drewN (h : Blk w g t cs) (n : Nat) : Blk (w.drewN n) g t cs := h
theorem Blk.alloc (h : Blk w g t cs) (o : Obj) : Blk (w.alloc o) g t cs := (Below.heap_alloc w o g h.lt).trans h
theorem Blk.set_ (h : Blk w g t cs) (i : Nat) (u : Value) : Blk (w.setCell ⟨g,i,none⟩ u) g t (cs.setIfInBounds i u) := by
 unfold Blk at h ⊢
 simp [World.setCell,Array.getElem?_modify,h]
theorem Blk.kp (h : Blk w g t cs) (hk : Kp S w w') (hg : ¬ S g) : Blk w' g t cs := (hk.block g h.lt hg).trans h
theorem Blk.ne_ {g' : Nat} {t' : TypeId} {cs' : Array Value} (h : Blk w g t cs) (h' : Blk w g' t' cs') (hne : t ≠ t') : g ≠ g' := by
 rintro rfl
 unfold Blk at h h'
 rw [h] at h'
 injection h' with h'
 injection h' with _ ht
 exact hne ht
end

/-! ### append onto a row of the call's own: the source nil, empty or not. -/
section
variable {P : Program} (w : World)
theorem run_append_of_nil (base : Nat) (t ty e : TypeId) (i : TypeInfo) (size : Nat) (ht : P.underlying t = some (.slice e)) (hi : P.info? e = some i)
  (v : Value) (n : Nat) (xs : List Value) (hown : w.ownsRow base e size v n xs) (c : Nat) : (Builtin.append_ #[t,t] ty #[v,.slice none 0 c]).run P w = .ok v w := by
 rcases hown.2 with ⟨rfl,rfl⟩ | ⟨g,cap,cur,rfl,_,_,hnc,_⟩
 ·simp [Builtin.append_,run_underlying ht,sizeOf,typeInfo,hi,Builtin.lenOf,Builtin.firstCells]
 ·simp [Builtin.append_,run_underlying ht,sizeOf,typeInfo,hi,Builtin.lenOf,Builtin.firstCells,hnc,storeCells]

theorem run_append_any (base : Nat) (t ty e : TypeId) (i : TypeInfo) (z : Value) (size bytes : Nat) (ht : P.underlying t = some (.slice e)) (hi : P.info? e = some i) (hz : i.zero = some z)
  (hsize : i.size = size) (hby : i.bytes = bytes) (hzs : z.cells.size = size) (hsz : 0 < size)
  (v : Value) (n : Nat) (xs : List Value) (hown : w.ownsRow base e size v n xs)
  (ok : Nat → Prop) (A : Option Addr) (m c : Nat) (news : List Value) (hr : Rd w ok size A m news) (h1 : ∀ u ∈ news,u.oneCell' = true)
  (h63 : n + m ≤ maxLen) (hbytes : (n + m) * bytes ≤ 140737488355328) (hbase : base ≤ w.heap.size) :
  ∃ v' w',(Builtin.append_ #[t,t] ty #[v,.slice A m c]).run P w = .ok v' w' ∧ w'.ownsRow base e size v' (n + m) (xs ++ news) ∧ w.grownBy w' v.ownBlock ∧
   (v'.ownBlock = v.ownBlock ∨ v'.ownBlock = some w.heap.size) := by
 rcases A with _ | ad
 ·have hm : m = 0 := by
   rcases Nat.eq_zero_or_pos m with h0 | h0
   ·exact h0
   ·obtain ⟨ad,h,_⟩ := hr.2 h0
    cases h
  subst hm
  have hn : news = [] := List.eq_nil_of_length_eq_zero (by simpa using hr.1)
  subst hn
  exact ⟨v,w,run_append_of_nil w base t ty e i size ht hi v n xs hown c,by simpa using hown,World.grownBy.refl w _,.inl rfl⟩
 ·have hcells : ∀ j u,news[j]? = some u → w.cell? (ad.add j) = some u := by
   intro j u hu
   rcases Nat.eq_zero_or_pos m with h0 | h0
   ·subst h0
    have hn : news = [] := List.eq_nil_of_length_eq_zero (by simpa using hr.1)
    subst hn
    simp at hu
   ·obtain ⟨ad',h,_,_,hc⟩ := hr.2 h0
    injection h with h
    subst h
    exact hc j u hu
  obtain ⟨v',w',hrun,h2,h3,_,h5⟩ := run_append_own_at (P := P) w base t ty e i z size bytes ht hi hz hsize hby hzs hsz v n xs hown ad m c news hr.1 hcells h1 h63 hbytes hbase
  exact ⟨v',w',hrun,h2,h3,h5⟩

theorem wp_append_any {o : Oper} {a : Act} {K : Act → World → Prop} {Q : Exit → Act → World → Prop} (s x : Operand) (t : TypeId)
  (ho : o.op = .call { callee := .builtin .append,args := #[s,x],argTypes := #[t,t] })
  (base : Nat) (e : TypeId) (i : TypeInfo) (z : Value) (size bytes : Nat) (ht : P.underlying t = some (.slice e)) (hi : P.info? e = some i) (hz : i.zero = some z)
  (hsize : i.size = size) (hby : i.bytes = bytes) (hzs : z.cells.size = size) (hsz : 0 < size)
  (v : Value) (n : Nat) (xs : List Value) (hs : a.eval s = v) (hown : w.ownsRow base e size v n xs)
  (ok : Nat → Prop) (A : Option Addr) (m c : Nat) (news : List Value) (hx : a.eval x = .slice A m c) (hr : Rd w ok size A m news) (h1 : ∀ u ∈ news,u.oneCell' = true)
  (h63 : n + m ≤ maxLen) (hbytes : (n + m) * bytes ≤ 140737488355328) (hbase : base ≤ w.heap.size)
  (h : ∀ v' w',w'.ownsRow base e size v' (n + m) (xs ++ news) → w.grownBy w' v.ownBlock → (v'.ownBlock = v.ownBlock ∨ v'.ownBlock = some w.heap.size) → K (a.put o.dst v') w') : o.wp P a w K Q := by
 obtain ⟨v',w',hrun,h2,h3,h4⟩ := run_append_any (P := P) w base t o.type e i z size bytes ht hi hz hsize hby hzs hsz v n xs hown ok A m c news hr h1 h63 hbytes hbase
 unfold Oper.wp execOp
 simp only [ho,resolve,invoke,builtin,Sem.run_bind,Sem.run_pure,Result.andThen_ok,List.map_toArray,List.map_cons,List.map_nil,hs,hx,hrun]
 exact h v' w' h2 h3 h4

theorem wpList_append_any {ops : Array Oper} {rest : List Oper} {o : Oper} {a : Act} {Q : Exit → Act → World → Prop} (hgd : o.guard = none) (s x : Operand) (t : TypeId)
  (ho : o.op = .call { callee := .builtin .append,args := #[s,x],argTypes := #[t,t] })
  (base : Nat) (e : TypeId) (i : TypeInfo) (z : Value) (size bytes : Nat) (ht : P.underlying t = some (.slice e)) (hi : P.info? e = some i) (hz : i.zero = some z)
  (hsize : i.size = size) (hby : i.bytes = bytes) (hzs : z.cells.size = size) (hsz : 0 < size)
  (v : Value) (n : Nat) (xs : List Value) (hs : a.eval s = v) (hown : w.ownsRow base e size v n xs)
  (ok : Nat → Prop) (A : Option Addr) (m c : Nat) (news : List Value) (hx : a.eval x = .slice A m c) (hr : Rd w ok size A m news) (h1 : ∀ u ∈ news,u.oneCell' = true)
  (h63 : n + m ≤ maxLen) (hbytes : (n + m) * bytes ≤ 140737488355328) (hbase : base ≤ w.heap.size)
  (h : ∀ v' w',w'.ownsRow base e size v' (n + m) (xs ++ news) → w.grownBy w' v.ownBlock → (v'.ownBlock = v.ownBlock ∨ v'.ownBlock = some w.heap.size) → wpList P ops Q rest (a.put o.dst v') w') : wpList P ops Q (o :: rest) a w :=
 wpList_plain hgd fun _ hK => wp_append_any w s x t ho base e i z size bytes ht hi hz hsize hby hzs hsz v n xs hs hown ok A m c news hx hr h1 h63 hbytes hbase fun v' w' h2 h3 h4 => hK _ _ (h v' w' h2 h3 h4)

end

/-! ### A call that turns nothing, in a region that draws. -/
theorem quiet_left {P : Program} {f : FuncId} {args : Array Value} {w : World} {n : Nat} {v : Value}
  (h : Calls P f args (w.drewN n) fun e w' => e = .returned v ∧ w.drewN n = w') : Calls P f args (w.drewN n) fun e w' => e = .returned v ∧ ∃ m,w' = w.drewN m :=
 h.mono fun _ _ ⟨he,hm⟩ => ⟨he,n,hm.symm⟩

/-! ### Bytes. -/
def bc (l : List UInt8) : List Value := l.map fun b => Value.int .u8 (b.toNat : Int)
theorem bc_length (l : List UInt8) : (bc l).length = l.length := by simp [bc]
/-- A slice value that reads as these bytes. -/
def BR (w : World) (ok : Nat → Prop) (v : Value) (l : List UInt8) : Prop := ∃ A c,v = .slice A l.length c ∧ l.length ≤ c ∧ Rd w ok 1 A l.length (bc l)
section
variable {w w' : World} {ok ok' S : Nat → Prop} {v : Value} {l : List UInt8}
theorem BR.nil : BR w ok (.slice none 0 0) [] := ⟨none,0,rfl,Nat.le_refl _,Rd.none_⟩
theorem BR.kp (h : BR w ok v l) (hk : Kp S w w') (hd : ∀ i,ok i → ¬ S i) : BR w' ok v l := by
 obtain ⟨A,c,e,hc,hr⟩ := h
 exact ⟨A,c,e,hc,hr.kp hk hd⟩
theorem BR.mono (h : BR w ok v l) (hd : ∀ i,ok i → ok' i) : BR w ok' v l := by
 obtain ⟨A,c,e,hc,hr⟩ := h
 exact ⟨A,c,e,hc,hr.mono hd⟩
/-- Bytes that were laid just now. -/
theorem BR.lit (w : World) (t : TypeId) (l : List UInt8) (cs : Array Value) (n : Nat) (hn : l.length = n) (hcs : cs = (bc l).toArray) : BR (w.alloc (.cells cs t)) (· = w.heap.size) (.slice (some ⟨w.heap.size,0,none⟩) n n) l := by
 subst hn hcs
 refine ⟨_,_,rfl,Nat.le_refl _,by rw [bc_length];omega,fun _ => ⟨_,rfl,rfl,rfl,fun j u hu => ?_⟩⟩
 have h := (Blk.new w t (bc l).toArray).cell j
 have e : (⟨w.heap.size,0,none⟩ : Addr).add j = ⟨w.heap.size,j,none⟩ := by
  unfold Addr.add
  split
  ·next h0 => subst h0;rfl
  ·simp
 rw [e,h]
 simpa using hu
/-- The string of bytes. -/
def str (l : List UInt8) : ByteArray := ⟨l.toArray⟩
theorem BR.of_own {base : Nat} {e : TypeId} {n : Nat} (h : w.ownsRow base e 1 v n (bc l)) (hok : ∀ g,v.ownBlock = some g → ok g) : BR w ok v l := by
 have hn : n = l.length := by have := h.1;rw [bc_length] at this;omega
 subst hn
 rcases h.2 with ⟨rfl,h0⟩ | ⟨g,cap,cur,rfl,_,_,hcap,_⟩
 ·obtain rfl : l = [] := List.eq_nil_of_length_eq_zero h0
  exact BR.nil
 ·exact ⟨_,cap,rfl,by first | exact hcap | (exact hcap.1) | omega,Rd.of_own h (fun g' e => hok g' (by simp only [Option.some.injEq,Addr.mk.injEq] at e;simp [Value.ownBlock,e]))⟩
end

/-! ### A row of the call's own whose block is one of 'ok'. -/
def Own (w : World) (ok : Nat → Prop) (e size : Nat) (v : Value) (n : Nat) (xs : List Value) : Prop := w.ownsRow 0 e size v n xs ∧ ∀ k,v.ownBlock = some k → ok k
section
variable {w w' : World} {ok ok' S : Nat → Prop} {e size n : Nat} {v : Value} {xs : List Value}
theorem Own.nil : Own w ok e size (.slice none 0 0) 0 [] := ⟨World.ownsRow_nil w 0 e size,fun k hk => by simp [Value.ownBlock] at hk⟩
theorem Own.lt (h : Own w ok e size v n xs) : ∀ k,v.ownBlock = some k → k < w.heap.size := fun k hk => (h.1.lt k hk).2
theorem Own.kp (h : Own w ok e size v n xs) (hk : Kp S w w') (hd : ∀ i,ok i → ¬ S i) : Own w' ok e size v n xs := by
 obtain ⟨⟨h1,h2⟩,h3⟩ := h
 refine ⟨⟨h1,?_⟩,h3⟩
 rcases h2 with h2 | ⟨g,cap,cur,rfl,hg,hh,r⟩
 ·exact .inl h2
 ·have hok := h3 g rfl
  have hlt : g < w.heap.size := by
   rcases Nat.lt_or_ge g w.heap.size with h | h
   ·exact h
   ·rw [Array.getElem?_eq_none h] at hh;cases hh
  exact .inr ⟨g,cap,cur,rfl,hg,(hk.block g hlt (hd g hok)).trans hh,r⟩
theorem Own.mono (h : Own w ok e size v n xs) (hd : ∀ i,i < w.heap.size → ok i → ok' i) : Own w ok' e size v n xs := ⟨h.1,fun k hk => hd k (h.lt k hk) (h.2 k hk)⟩
theorem Own.shape (h : Own w ok e size v n xs) : ∃ A c,v = .slice A n c ∧ n ≤ c := by
 rcases h.1.2 with ⟨rfl,rfl⟩ | ⟨g,cap,cur,rfl,_,_,hn,_⟩
 ·exact ⟨none,0,rfl,Nat.le_refl _⟩
 ·exact ⟨_,cap,rfl,hn⟩
theorem Own.rd {A : Option Addr} {c : Nat} (h : Own w ok e size (.slice A n c) n xs) : Rd w ok size A n xs := Rd.of_own h.1 (fun g hg => h.2 g (by rw [hg];rfl))
theorem Own.block {t : TypeId} {g : Nat} {cs : Array Value} (h : Own w ok e size v n xs) (hb : Blk w g t cs) (hne : e ≠ t) : v.ownBlock ≠ some g := by
 rcases h.1.2 with ⟨rfl,_⟩ | ⟨g',cap,cur,rfl,_,hh,_⟩
 ·simp [Value.ownBlock]
 ·intro he
  have : g' = g := by simpa [Value.ownBlock] using he
  subst this
  exact Blk.ne_ (t := e) hh hb hne rfl
theorem Own.apart {e' size' n' : Nat} {v' : Value} {xs' : List Value} (h : Own w ok e size v n xs) (h' : Own w ok' e' size' v' n' xs') (hne : e ≠ e') {g : Nat} (hg : v'.ownBlock = some g) : v.ownBlock ≠ some g := by
 rcases h'.1.2 with ⟨rfl,_⟩ | ⟨g',cap,cur,rfl,_,hh,_⟩
 ·simp [Value.ownBlock] at hg
 ·have : g' = g := by simpa [Value.ownBlock] using hg
  subst this
  exact h.block (t := e') hh hne
/-- Cut at its end. -/
theorem Own.take {A : Option Addr} {c : Nat} (h : Own w ok e size (.slice A n c) n xs) {k : Nat} (hk : k ≤ n) : Own w ok e size (.slice A k c) k (xs.take (k * size)) := by
 obtain ⟨⟨h1,h2⟩,h3⟩ := h
 have hlen : (xs.take (k * size)).length = k * size := by rw [List.length_take,h1];have := Nat.mul_le_mul_right size hk;omega
 rcases h2 with ⟨h2,rfl⟩ | ⟨g,cap,cur,h2,hg,hh,hn,hc,hs,ht⟩
 ·injection h2 with hA _ hc
  subst hA hc
  obtain rfl : k = 0 := by omega
  exact ⟨⟨hlen,.inl ⟨rfl,rfl⟩⟩,h3⟩
 ·injection h2 with hA _ hc'
  subst hA hc'
  refine ⟨⟨hlen,.inr ⟨g,c,cur,rfl,hg,hh,by omega,hc,hs,?_⟩⟩,h3⟩
  rw [← ht,List.take_take,Nat.min_eq_left (Nat.mul_le_mul_right size hk)]
end

end Go.Proofs.Ytfcghajnnllmhaa

namespace Go.Proofs.Ytfcghajnnllmhaa
open Go.ChangeShapes Go.WideShapes Go.ChangeAt Go.RowKit Go.Deep

/-- Integers of a kind, as cells. -/
def ic (k : IntKind) (l : List Int) : List Value := l.map fun n => Value.int k n
/-- A slice value that reads as these integers. -/
def IR (k : IntKind) (w : World) (ok : Nat → Prop) (v : Value) (l : List Int) : Prop := ∃ A c,v = .slice A l.length c ∧ l.length ≤ c ∧ Rd w ok 1 A l.length (ic k l)

theorem Rd.int {k : IntKind} {w : World} {ok : Nat → Prop} {A : Option Addr} {l : List Int} {i : Nat} (h : Rd w ok 1 A l.length (ic k l)) (hi : i < l.length) :
  ∃ b off,A = some ⟨b,off,none⟩ ∧ ok b ∧ w.cell? ⟨b,off + i,none⟩ = some (.int k (l[i]'hi)) := by
 obtain ⟨b,off,u,hA,hb,hu,hc⟩ := h.at_ hi
 refine ⟨b,off,hA,hb,?_⟩
 rw [hc]
 simp [ic,hi] at hu
 rw [hu]
section
variable {H : Type} {enc : TypeId × Value → H} {P : Program} {w : World} {base : Nat} {spare sp : Nat → Bool} {held : Bool} {r : Reach} {b0 : Nat}

/-- How long a slice's datum is. -/
def lenD : DataW H → Nat
 | .slice es _ => es.length
 | _ => 0

theorem open_ir {t e : TypeId} {k : IntKind} {v : Value} {d : DataW H} {ps : List MemPlace} (ht : P.underlying t = some (.slice e)) (he : P.underlying e = some (.int k)) (hC : P.cellsOf e = 1)
  (hv : Value.okWide P w r b0 t v) (h : DataW.Trod enc P w 0 sp held t v d ps) :
  ∃ l : List Int,IR k w (· < w.heap.size) v l ∧ (∀ n ∈ l,(Lit.int k n).wf = true) ∧ lenD d = l.length := by
 obtain ⟨a,len,cap,rfl⟩ := okWide_slice ht hv
 obtain ⟨fuel,hf⟩ := h
 rcases open_ints ht he hC hf with ⟨hcs,hx⟩ | ⟨x,l,c,zs,hcs,_,hl,hm,hz,hx,hcell,hwz⟩
 ·simp [Value.cells] at hcs
  obtain ⟨rfl,rfl,rfl⟩ := hcs
  simp only [Prod.mk.injEq] at hx
  obtain ⟨rfl,rfl⟩ := hx
  exact ⟨[],⟨none,0,rfl,Nat.le_refl _,Rd.none_⟩,fun n hn => by simp at hn,rfl⟩
 ·simp [Value.cells] at hcs
  obtain ⟨rfl,rfl,rfl⟩ := hcs
  simp only [Prod.mk.injEq] at hx
  obtain ⟨rfl,rfl⟩ := hx
  have hlz : len ≤ zs.length := by rw [hz];split <;> omega
  have hlt : (zs.take len).length = len := by simp;omega
  refine ⟨zs.take len,⟨some x,cap,?_,?_,?_,fun hn => ?_⟩,fun n hn => hwz n (List.mem_of_mem_take hn),?_⟩
  ·rw [hlt]
  ·rw [hlt];exact hl
  ·simp [ic]
  ·have h0 := hcell 0 (by rw [hlt] at hn;omega)
   have hsp : x.spot = none := by simpa [Addr.add] using World.cell?_spot h0
   have hb := cell_lt h0
   rw [block_add] at hb
   refine ⟨x,rfl,hsp,hb,fun j u hu => ?_⟩
   simp only [ic,List.getElem?_map,List.getElem?_take] at hu
   split at hu
   ·rename_i hj
    have hj' : j < zs.length := by omega
    rw [List.getElem?_eq_getElem hj'] at hu
    simp at hu
    subst hu
    have h1 := hcell j hj'
    rw [h1]
    simp [List.getElem?_eq_getElem hj']
   ·simp at hu
  ·simp [lenD,lits]

theorem bytes_of {l : List Int} (h : ∀ n ∈ l,(Lit.int .u8 n).wf = true) : ∃ m : List UInt8,ic .u8 l = bc m ∧ m.length = l.length := by
 induction l with
 | nil => exact ⟨[],rfl,rfl⟩
 | cons a l ih =>
  obtain ⟨m,hm,hl⟩ := ih (fun n hn => h n (List.mem_cons_of_mem _ hn))
  obtain ⟨h0,h1⟩ := bounds_u8 (h a List.mem_cons_self)
  refine ⟨UInt8.ofNat a.toNat :: m,?_,by simp [hl]⟩
  have e : ((UInt8.ofNat a.toNat).toNat : Int) = a := by
   rw [UInt8.toNat_ofNat']
   omega
  simp only [ic,bc,List.map_cons] at hm ⊢
  rw [hm,e]

theorem open_br {t e : TypeId} {v : Value} {d : DataW H} {ps : List MemPlace} (ht : P.underlying t = some (.slice e)) (he : P.underlying e = some (.int .u8)) (hC : P.cellsOf e = 1)
  (hv : Value.okWide P w r b0 t v) (h : DataW.Trod enc P w 0 sp held t v d ps) :
  ∃ l : List UInt8,BR w (· < w.heap.size) v l ∧ lenD d = l.length := by
 obtain ⟨l,⟨A,c,rfl,hc,hr⟩,hw,hd⟩ := open_ir ht he hC hv h
 obtain ⟨m,hm,hl⟩ := bytes_of hw
 refine ⟨m,⟨A,c,by rw [hl],by omega,?_⟩,by omega⟩
 rw [← hm,hl]
 exact hr

theorem sized_len {ts : List TypeId} {ds : List (DataW H)} (h : (DataW.weightsEach P ts ds).all (· ≤ reachBytes) = true) {j : Nat} {t e : TypeId} {d : DataW H} (ht : ts[j]? = some t) (hd : ds[j]? = some d) (hu : P.underlying t = some (.slice e)) {n : Nat} (hn : lenD d = n) :
  n * P.bytesOf e ≤ 140737488351232 := by
 subst hn
 cases d with
 | slice es rest =>
  have := sized_slice h ht hd hu
  simp only [lenD]
  have h2 := Nat.mul_le_mul_right (P.bytesOf e) (Nat.le_add_right es.length rest.length)
  have h3 : reachBytes = 140737488351232 := by decide
  omega
 | _ => simp [lenD]
end
end Go.Proofs.Ytfcghajnnllmhaa

set_option linter.unusedVariables false
set_option linter.unusedSimpArgs false
namespace Go.Proofs.YtfcghajnnllmhaaW.PrintWords
open Go.RowKit

/-- A fact that the walk's simp doesn't look into. -/
structure Aside0 (p : Prop) : Prop where mk :: (out : p)
/-- The world is the old one, some orders having been drawn. -/
structure Drawn0 (w w' : World) : Prop where mk :: (out : ∃ n, w' = w.drewN n)
theorem Drawn0.refl (w : World) : Drawn0 w w := ⟨⟨0, rfl⟩⟩
theorem Drawn0.step {w w' : World} (h : Drawn0 w w') (n : Nat) : Drawn0 w (w'.drewN n) := by
  obtain ⟨m, rfl⟩ := h
  exact ⟨⟨m + n, World.drewN_drewN ..⟩⟩
theorem Drawn0.grown {w w' : World} (h : Drawn0 w w') : Grown w w' := by
  obtain ⟨n, rfl⟩ := h
  induction n with
  | zero => exact Grown.refl _
  | succ n ih => rw [← World.drew_drewN]; exact Grown.drew ih
theorem Drawn0.below {w w' : World} (h : Drawn0 w w') : Below w.heap.size w w' := by
  obtain ⟨n, rfl⟩ := h
  induction n with
  | zero => exact Below.refl _ _
  | succ n ih => rw [← World.drew_drewN]; exact ih.drew

/-! ### 1. Values and lists -/
def rd (xs : List Int) (i : Int) : Int := xs.getD i.toNat 0
def bt (s : ByteArray) (i : Int) : Int := if h : i.toNat < s.size then ((s[i.toNat]'h).toNat : Int) else 0
def nums (k : IntKind) (xs : List Int) : List Value := xs.map fun x => .int k x
def bools (xs : List Bool) : List Value := xs.map fun x => .bool x
def pw_strs (xs : List ByteArray) : List Value := xs.map fun x => .string x
/-! ### 2. The world -/
theorem below_alloc {w W : World} (h : Below w.heap.size w W) (o : Obj) : Below w.heap.size w (W.alloc o) := h.alloc h.size o
theorem below_drew {B : Nat} {w W : World} (h : Below B w W) : Below B w W.drew := ⟨h.os, h.tape, h.output, h.size, h.block⟩
theorem pw_below_drewN {B : Nat} {w W : World} (h : Below B w W) (n : Nat) : Below B w (W.drewN n) := ⟨h.os, h.tape, h.output, h.size, h.block⟩
theorem below_then {B : Nat} {w w1 w2 : World} (h : Below B w w1) (hB : B ≤ w1.heap.size) (k : Below w1.heap.size w1 w2) : Below B w w2 :=
  h.trans ⟨k.os, k.tape, k.output, k.size, fun i hi => k.block i (Nat.lt_of_lt_of_le hi hB)⟩
theorem grown_of_below {w w1 : World} (h : Below w.heap.size w w1) (row : Option Nat) : w.grownBy w1 row := ⟨h.os, h.tape, h.output, h.size, fun i hi _ => h.block i hi⟩
theorem pw_cell_below {w w1 : World} (h : Below w.heap.size w w1) {a : Addr} {v : Value} (hc : w.cell? a = some v) : w1.cell? a = some v := (h.cell (World.block_lt_of_cell? w a hc)).trans hc

/-! ### 3. A slice of whole numbers that is read; nil, empty and other slices alike -/
def ReadsInt (w : World) (k : IntKind) (A : Option Addr) (n : Nat) (xs : List Int) : Prop :=
  xs.length = n ∧ n ≤ 9223372036854775807 ∧ (0 < n → ∃ ad, A = some ad ∧ ∀ j, j < n → w.cell? (ad.add j) = some (.int k (xs.getD j 0)))
theorem ReadsInt.at_ {w : World} {k : IntKind} {A : Option Addr} {n : Nat} {xs : List Int} (h : ReadsInt w k A n xs) (i : Int) (h0 : 0 ≤ i) (h1 : i < n) : ∃ ad, A = some ad ∧ w.cell? (ad.add i.toNat) = some (.int k (rd xs i)) := by
  obtain ⟨ad, e, hc⟩ := h.2.2 (by omega)
  exact ⟨ad, e, hc _ (by omega)⟩
theorem ReadsInt.below {w w1 : World} {k : IntKind} {A : Option Addr} {n : Nat} {xs : List Int} (h : ReadsInt w k A n xs) (hb : Below w.heap.size w w1) : ReadsInt w1 k A n xs :=
  ⟨h.1, h.2.1, fun hn => by
    obtain ⟨ad, e, hc⟩ := h.2.2 hn
    exact ⟨ad, e, fun j hj => pw_cell_below hb (hc j hj)⟩⟩

/-! ### 4. A row of the call's own -/
theorem own_nil (W : World) (base : Nat) (e : TypeId) (size : Nat) : W.ownsRow base e size (.slice none 0 0) 0 [] := ⟨by simp, .inl ⟨rfl, rfl⟩⟩
theorem own_base {w : World} {base : Nat} {e : TypeId} {size n : Nat} {v : Value} {xs : List Value} (h : w.ownsRow base e size v n xs) (k : Nat) (hk : v.ownBlock = some k) : base ≤ k := by
  rcases h.2 with ⟨rfl, _⟩ | ⟨g, cap, cur, rfl, hb, _⟩
  · simp [Value.ownBlock] at hk
  · have : g = k := by simpa [Value.ownBlock] using hk
    omega
theorem own_lt {w : World} {base : Nat} {e : TypeId} {size n : Nat} {v : Value} {xs : List Value} (h : w.ownsRow base e size v n xs) (k : Nat) (hk : v.ownBlock = some k) : k < w.heap.size := by
  rcases h.2 with ⟨rfl, _⟩ | ⟨g, cap, cur, rfl, hb, hh, _⟩
  · simp [Value.ownBlock] at hk
  · have : g = k := by simpa [Value.ownBlock] using hk
    subst this
    exact (Array.getElem?_eq_some_iff.1 hh).1
theorem pw_own_below {w w1 : World} {base : Nat} {e : TypeId} {size n : Nat} {v : Value} {xs : List Value} (h : w.ownsRow base e size v n xs) (hb : Below w.heap.size w w1) : w1.ownsRow base e size v n xs :=
  h.kept (grown_of_below hb none) (by cases v.ownBlock <;> simp)
/-! ### 5. append(v, x): behind 'at_builtin'; the goal's world is 'W.alloc' of the variadic's box -/
section
variable {P : Program} {ops : Array Oper} {rest : List Oper} {o : Oper} {a : Act} {Q : Exit → Act → World → Prop}

end

/-! ### 6. make([]T, n), n an Int; a literal -/
section
variable {P : Program}
end
/-! ### 7. v[i] read and v[i] = x, v a row of the call's own: 'obtain ⟨g, cap, rfl, hgb, hgl⟩ := HO.out.form (by omega)' first -/
/-! ### 8. append(v, ys...): ys a slice that is read, nil let in; behind 'at_builtin' -/
section
variable {P : Program} {ops : Array Oper} {rest : List Oper} {o : Oper} {a : Act} {Q : Exit → Act → World → Prop}
end

/-! ### 9. []byte(s): a slice that is read (its row bears a conversion's mark: no row of one's own); cuts of a slice that is read -/
def bytesOf (s : ByteArray) : List Int := s.data.toList.map fun b => (b.toNat : Int)
/-- 'xs[:k]' and 'xs[k:]' of a slice that is read; the address of the second as_ the walk has it. -/
theorem ReadsInt.take_ {w : World} {k : IntKind} {A : Option Addr} {n : Nat} {xs : List Int} (h : ReadsInt w k A n xs) (i : Nat) (hi : i ≤ n) : ReadsInt w k A i (xs.take i) := by
  refine ⟨by rw [List.length_take, h.1]; omega, by have := h.2.1; omega, fun hp => ?_⟩
  obtain ⟨ad, e, hc⟩ := h.2.2 (by omega)
  refine ⟨ad, e, fun j hj => ?_⟩
  rw [hc j (by omega)]
  simp [List.getD_eq_getElem?_getD, hj]
theorem ReadsInt.drop_ {w : World} {k : IntKind} {A : Option Addr} {n c : Nat} {xs : List Int} (h : ReadsInt w k A n xs) (i : Nat) (hi : i ≤ n) (hc : n ≤ c) : ReadsInt w k (if c = i then A else A.map (·.add i)) (n - i) (xs.drop i) := by
  refine ⟨by rw [List.length_drop, h.1], by have := h.2.1; omega, fun hp => ?_⟩
  obtain ⟨ad, rfl, hcell⟩ := h.2.2 (by omega)
  rw [if_neg (by omega)]
  refine ⟨ad.add i, rfl, fun j hj => ?_⟩
  have ha : (ad.add i).add j = ad.add (i + j) := by
    unfold Addr.add
    by_cases h1 : i = 0 <;> by_cases h2 : j = 0 <;> simp [h1, h2, Nat.add_assoc]
  rw [ha, hcell (i + j) (by omega)]
  simp [List.getD_eq_getElem?_getD, List.getElem?_drop]
/-! ### 10. Rounds: more rounds give the same answer; what ends gives a number of rounds -/
/-- Where the first answers, the second answers the same. -/
def LeO {α : Type} (a b : Option α) : Prop := ∀ r, a = some r → b = some r
theorem LeO.refl {α : Type} (a : Option α) : LeO a a := fun _ h => h
theorem LeO.none {α : Type} (b : Option α) : LeO Option.none b := fun _ h => by cases h
theorem LeO.trans {α : Type} {a b c : Option α} (h : LeO a b) (k : LeO b c) : LeO a c := fun r hr => k r (h r hr)
theorem LeO.ite {α : Type} {c : Prop} [Decidable c] {a a' b b' : Option α} (h : LeO a a') (k : LeO b b') : LeO (if c then a else b) (if c then a' else b') := by
  split
  · exact h
  · exact k
theorem LeO.bind {α β : Type} {a a' : Option α} {f f' : α → Option β} (h : LeO a a') (k : ∀ x, LeO (f x) (f' x)) : LeO (a.bind f) (a'.bind f') := by
  intro r hr
  obtain ⟨x, hx, hf⟩ := Option.bind_eq_some_iff.1 hr
  exact Option.bind_eq_some_iff.2 ⟨x, h x hx, k x r hf⟩
theorem LeO.map {α β : Type} {a a' : Option α} (f : α → β) (h : LeO a a') : LeO (a.map f) (a'.map f) := by
  intro r hr
  obtain ⟨x, hx, hf⟩ := Option.map_eq_some_iff.1 hr
  exact Option.map_eq_some_iff.2 ⟨x, h x hx, hf⟩
theorem more_rounds {α : Type} {g : Nat → Option α} (h : ∀ k, LeO (g k) (g (k + 1))) (k : Nat) : ∀ j, LeO (g k) (g (k + j))
  | 0 => LeO.refl _
  | j + 1 => (more_rounds h k j).trans (h (k + j))
theorem at_rounds {α : Type} {g : Nat → Option α} (h : ∀ k, LeO (g k) (g (k + 1))) {k k' : Nat} (hk : k ≤ k') {r : α} (hr : g k = some r) : g k' = some r := by
  have := more_rounds h k (k' - k) r hr
  rwa [Nat.add_sub_cancel' hk] at this
/-! ### 11. Rows of elements of several cells (structs): read, made. R: what an element's cells say ('RepItem w': printed for each type) -/
def Reps {α : Type} (R : α → List Value → Prop) (size : Nat) (ps : List α) (cs : List Value) : Prop :=
  cs.length = ps.length * size ∧ ∀ j p, ps[j]? = some p → R p ((cs.drop (j * size)).take size)
theorem Reps.none {α : Type} (R : α → List Value → Prop) (size : Nat) : Reps R size [] [] := ⟨by simp, fun j p h => by simp at h⟩
theorem Reps.snoc {α : Type} {R : α → List Value → Prop} {size : Nat} {ps : List α} {cs c : List Value} {p : α} (h : Reps R size ps cs) (hp : R p c) (hc : c.length = size) : Reps R size (ps ++ [p]) (cs ++ c) := by
  refine ⟨by rw [List.length_append, h.1, hc, List.length_append, List.length_singleton, Nat.add_mul, Nat.one_mul], fun j q hq => ?_⟩
  rcases Nat.lt_or_ge j ps.length with hj | hj
  · rw [List.getElem?_append_left hj] at hq
    have h1 : j * size + size ≤ cs.length := by rw [h.1, ← Nat.succ_mul]; exact Nat.mul_le_mul_right _ hj
    have h2 := h.2 j q hq
    rw [List.drop_append_of_le_length (by omega), List.take_append_of_le_length (by rw [List.length_drop]; omega)]
    exact h2
  · have hj' : j = ps.length := by
      have := (List.getElem?_eq_some_iff.1 hq).1
      rw [List.length_append, List.length_singleton] at this
      omega
    subst hj'
    have hq' : p = q := by simpa using hq
    subst hq'
    rw [← h.1, List.drop_left, ← hc, List.take_length]
    exact hp
theorem Reps.imp_ {α : Type} {R R' : α → List Value → Prop} {size : Nat} {ps : List α} {cs : List Value} (h : Reps R size ps cs) (hR : ∀ p c, R p c → R' p c) : Reps R' size ps cs := ⟨h.1, fun j p hj => hR _ _ (h.2 j p hj)⟩

def ReadsRow {α : Type} (R : α → List Value → Prop) (size : Nat) (w : World) (A : Option Addr) (n : Nat) (ps : List α) : Prop :=
  ps.length = n ∧ n ≤ 9223372036854775807 ∧ (0 < n → ∃ ad, A = some ad ∧ ∀ j p, ps[j]? = some p → ∃ c, c.length = size ∧ R p c ∧ ∀ i u, c[i]? = some u → w.cell? (ad.add (j * size + i)) = some u)
theorem ReadsRow.get_ {α : Type} {R : α → List Value → Prop} {size : Nat} {w : World} {A : Option Addr} {n : Nat} {ps : List α} (h : ReadsRow R size w A n ps) (d : α) (i : Int) (h0 : 0 ≤ i) (h1 : i < n) :
    ∃ ad c, A = some ad ∧ c.length = size ∧ R (ps.getD i.toNat d) c ∧ ∀ j u, c[j]? = some u → w.cell? (ad.add (i.toNat * size + j)) = some u := by
  obtain ⟨ad, e, hc⟩ := h.2.2 (by omega)
  have hl : i.toNat < ps.length := by have := h.1; omega
  obtain ⟨c, hs, hr, hcell⟩ := hc i.toNat _ (List.getElem?_eq_getElem hl)
  refine ⟨ad, c, e, hs, ?_, hcell⟩
  rw [List.getD_eq_getElem?_getD, List.getElem?_eq_getElem hl]
  exact hr
theorem ReadsRow.imp_ {α : Type} {R R' : α → List Value → Prop} {size : Nat} {w w1 : World} {A : Option Addr} {n : Nat} {ps : List α} (h : ReadsRow R size w A n ps) (hb : Below w.heap.size w w1) (hR : ∀ p c, R p c → R' p c) : ReadsRow R' size w1 A n ps :=
  ⟨h.1, h.2.1, fun hn => by
    obtain ⟨ad, e, hc⟩ := h.2.2 hn
    refine ⟨ad, e, fun j p hj => ?_⟩
    obtain ⟨c, hs, hr, hcell⟩ := hc j p hj
    exact ⟨c, hs, hR _ _ hr, fun i u hu => pw_cell_below hb (hcell i u hu)⟩⟩
theorem own_reads_row {α : Type} {R : α → List Value → Prop} {w : World} {base n size : Nat} {e : TypeId} {v : Value} {ps : List α} {cs : List Value} (h : w.ownsRow base e size v n cs) (hR : Reps R size ps cs) (hn : ps.length = n) :
    ∃ A c, v = .slice A n c ∧ ReadsRow R size w A n ps := by
  rcases Nat.eq_zero_or_pos n with h0 | h0
  · rcases h.2 with ⟨rfl, rfl⟩ | ⟨g, cap, cur, rfl, _⟩
    · exact ⟨none, 0, rfl, hn, by omega, fun hp => absurd hp (by omega)⟩
    · exact ⟨_, cap, rfl, hn, by omega, fun hp => absurd hp (by omega)⟩
  · obtain ⟨g, cap, rfl, _, _⟩ := h.form h0
    have hm : n ≤ 9223372036854775807 := by
      rcases h.2 with ⟨_, h1⟩ | ⟨g', cap', cur, he, _, _, h1, h2, _⟩
      · omega
      · simp only [maxLen] at h2
        omega
    refine ⟨_, cap, rfl, hn, hm, fun _ => ⟨_, rfl, fun j p hj => ⟨(cs.drop (j * size)).take size, ?_, hR.2 j p hj, fun i u hu => ?_⟩⟩⟩
    · have hjl := (List.getElem?_eq_some_iff.1 hj).1
      have h1 : j * size + size ≤ cs.length := by rw [hR.1, ← Nat.succ_mul]; exact Nat.mul_le_mul_right _ hjl
      rw [List.length_take, List.length_drop]
      omega
    · refine h.cells (g := g) rfl _ u ?_
      rw [List.getElem?_take] at hu
      split at hu
      · rw [List.getElem?_drop] at hu
        exact hu
      · cases hu
/-- A field's address as_ the walk spells it. -/
theorem add_field (ad : Addr) (m j : Nat) (hj : 0 < j) : ad.add (m + j) = ⟨(ad.add m).block, (ad.add m).off + j, none⟩ := by
  unfold Addr.add
  by_cases hm : m = 0
  · subst hm
    simp [Nat.ne_of_gt hj]
  · simp [hm, Nat.add_assoc]

section
variable {P : Program} {ops : Array Oper} {rest : List Oper} {o : Oper} {a : Act} {Q : Exit → Act → World → Prop}
/-- append(v, x), x of several cells; behind 'at_builtin'; the goal's world is 'W.alloc' of the variadic's box. -/
theorem print_append_cells {w0 W : World} (base : Nat) (hgd : o.guard = none) (s x : Operand) (t e : TypeId) (z : Value) (size bytes : Nat)
    (ho : o.op = .call { callee := .builtin .append, args := #[s, x], argTypes := #[t, t] })
    (ht : P.underlying t = some (.slice e)) (hinfo : (P.info? e).map (fun i => (i.zero, i.size, i.bytes)) = some (some z, size, bytes)) (hz : z.cells.size = size) (hs0 : 0 < size) (hb0 : 0 < bytes)
    (v : Value) (n : Nat) (xs ys : List Value) (hs : a.eval s = v) (hx : a.eval x = .slice (some ⟨W.heap.size, 0, none⟩) 1 1) (hys : ys.length = size) (h1 : ∀ u ∈ ys, u.oneCell' = true)
    (HO : W.ownsRow base e size v n xs) (HB : Below base w0 W) (hbase : base ≤ W.heap.size) (hl : (n + 1) * bytes ≤ 140737488355328)
    (h : ∀ v1 w1, w1.ownsRow base e size v1 (n + 1) (xs ++ ys) → Below base w0 w1 → W.grownBy w1 v.ownBlock → (v1.ownBlock = v.ownBlock ∨ ∃ b, v1.ownBlock = some b ∧ W.heap.size ≤ b) → wpList P ops Q rest (a.put o.dst v1) w1) :
    wpList P ops Q (o :: rest) a (W.alloc (.cells ys.toArray e)) := by
  obtain ⟨i0, hi, hzz⟩ := Option.map_eq_some_iff.1 hinfo
  simp only [Prod.mk.injEq] at hzz
  obtain ⟨hz0, hz1, hz2⟩ := hzz
  have hlen : n + 1 ≤ 140737488355328 := Nat.le_trans (Nat.le_mul_of_pos_right _ hb0) hl
  refine wpList_append_own_at (W.alloc (.cells ys.toArray e)) hgd s x t ho base e i0 z size bytes ht hi hz0 hz1 hz2 hz hs0 v n xs hs (HO.alloc _) ⟨W.heap.size, 0, none⟩ 1 1 ys hx (by rw [hys]; simp)
    (by simpa using World.news_of_block (cs := ys.toArray) (t := e) (fr := (0, 0)) (heap_alloc_new W (.cells ys.toArray e))) h1 (by simp only [maxLen]; omega) hl (by simp; omega) ?_
  intro v1 w1 hown hg _ hat
  refine h v1 w1 hown ((HB.alloc hbase _).grown hg (by simp; omega) (own_base HO)) (World.grownBy.trans (World.grownBy_alloc W _ _) hg) ?_
  rcases hat with hat | hat
  · exact .inl hat
  · exact .inr ⟨_, hat, by simp⟩
end

/-! ### 12. A block of one's own that is a state: its cells, what a store leaves -/
theorem own_ne {w : World} {base : Nat} {e t : TypeId} {size n g : Nat} {v : Value} {xs : List Value} {cs : Array Value} (h : w.ownsRow base e size v n xs) (hg : w.heap[g]? = some (.cells cs t (0, 0))) (hne : e ≠ t) : some g ≠ v.ownBlock := by
  rcases h.2 with ⟨rfl, _⟩ | ⟨g', cap, cur, rfl, _, hh, _⟩
  · simp [Value.ownBlock]
  · intro he
    have : g = g' := by simpa [Value.ownBlock] using he
    subst this
    rw [hg] at hh
    injection hh with hh
    injection hh with _ ht
    exact hne ht.symm
theorem own_setCell {w : World} {base : Nat} {e : TypeId} {size n : Nat} {v : Value} {xs : List Value} (h : w.ownsRow base e size v n xs) {p : Addr} (hne : some p.block ≠ v.ownBlock) (u : Value) : (w.setCell p u).ownsRow base e size v n xs := by
  obtain ⟨h1, h2⟩ := h
  refine ⟨h1, ?_⟩
  rcases h2 with h2 | ⟨g, cap, cur, rfl, hg, hh, r⟩
  · exact .inl h2
  · exact .inr ⟨g, cap, cur, rfl, hg, by rw [Below.heap_setCell _ _ _ _ (fun e => hne (by rw [e]; rfl))]; exact hh, r⟩
theorem blk_set {w : World} {g : Nat} {t : TypeId} {cs : Array Value} (h : w.heap[g]? = some (.cells cs t (0, 0))) (i : Nat) (u : Value) : (w.setCell ⟨g, i, none⟩ u).heap[g]? = some (.cells (cs.setIfInBounds i u) t (0, 0)) := by
  simp [World.setCell, Array.getElem?_modify, h]
theorem blk_far {w : World} {g : Nat} {t : TypeId} {cs : Array Value} (h : w.heap[g]? = some (.cells cs t (0, 0))) {p : Addr} (hp : g ≠ p.block) (u : Value) : (w.setCell p u).heap[g]? = some (.cells cs t (0, 0)) := (Below.heap_setCell w p u g hp).trans h
theorem blk_lt {w : World} {g : Nat} {o : Obj} (h : w.heap[g]? = some o) : g < w.heap.size := (Array.getElem?_eq_some_iff.1 h).1
theorem blk_cell {w : World} {g : Nat} {t : TypeId} {cs : Array Value} (h : w.heap[g]? = some (.cells cs t (0, 0))) (i : Nat) : w.cell? ⟨g, i, none⟩ = cs[i]? := cell_of_row w g i cs t (0, 0) h
theorem blk_frozen {w : World} {g : Nat} {t : TypeId} {cs : Array Value} (h : w.heap[g]? = some (.cells cs t (0, 0))) (i : Nat) : w.frozen? ⟨g, i, none⟩ = false := by simp [World.frozen?, h]
/-! ### 13. Two states at once: what a call on the state at block g (its row before: 'row') has turned -/
def KeepBut (w w' : World) (g : Nat) (row : Option Nat) : Prop := w.heap.size ≤ w'.heap.size ∧ ∀ i, i < w.heap.size → i ≠ g → some i ≠ row → w'.heap[i]? = w.heap[i]?
theorem KeepBut.refl (w : World) (g : Nat) (row : Option Nat) : KeepBut w w g row := ⟨Nat.le_refl _, fun _ _ _ _ => rfl⟩
theorem KeepBut.of_grown {w w1 : World} {row : Option Nat} (h : w.grownBy w1 row) (g : Nat) : KeepBut w w1 g row := ⟨h.size, fun i hi _ hr => h.block i hi hr⟩
theorem KeepBut.of_below {w w1 : World} (h : Below w.heap.size w w1) (g : Nat) (row : Option Nat) : KeepBut w w1 g row := ⟨h.size, fun i hi _ _ => h.block i hi⟩
theorem KeepBut.set_ {w w1 : World} {g : Nat} {row : Option Nat} (h : KeepBut w w1 g row) (j : Nat) (u : Value) : KeepBut w (w1.setCell ⟨g, j, none⟩ u) g row :=
  ⟨by simpa [World.setCell] using h.1, fun i hi hg hr => (Below.heap_setCell w1 ⟨g, j, none⟩ u i hg).trans (h.2 i hi hg hr)⟩
theorem KeepBut.trans {w w1 w2 : World} {g : Nat} {row row1 : Option Nat} (h : KeepBut w w1 g row) (k : KeepBut w1 w2 g row1) (hr : row1 = row ∨ ∃ b, row1 = some b ∧ w.heap.size ≤ b) : KeepBut w w2 g row :=
  ⟨Nat.le_trans h.1 k.1, fun i hi hg hn => by
    refine (k.2 i (Nat.lt_of_lt_of_le hi h.1) hg ?_).trans (h.2 i hi hg hn)
    rcases hr with rfl | ⟨b, rfl, hb⟩
    · exact hn
    · intro e
      injection e with e
      omega⟩
/-- Another block, another row: they live on. -/
theorem KeepBut.blk {w w1 : World} {g g' : Nat} {row : Option Nat} {o : Obj} (h : KeepBut w w1 g row) (hb : w.heap[g']? = some o) (hg : g' ≠ g) (hr : some g' ≠ row) : w1.heap[g']? = some o := (h.2 g' (blk_lt hb) hg hr).trans hb
theorem KeepBut.own {w w1 : World} {g : Nat} {row : Option Nat} {base : Nat} {e : TypeId} {size n : Nat} {v : Value} {xs : List Value} (h : KeepBut w w1 g row) (ho : w.ownsRow base e size v n xs) (hg : v.ownBlock ≠ some g) (hr : v.ownBlock = none ∨ v.ownBlock ≠ row) : w1.ownsRow base e size v n xs := by
  obtain ⟨h1, h2⟩ := ho
  refine ⟨h1, ?_⟩
  rcases h2 with h2 | ⟨b, cap, cur, rfl, hb, hh, r⟩
  · exact .inl h2
  · refine .inr ⟨b, cap, cur, rfl, hb, h.blk hh ?_ ?_, r⟩
    · intro e
      exact hg (by rw [← e]; rfl)
    · rcases hr with hr | hr
      · simp [Value.ownBlock] at hr
      · exact hr
/-! ### 10b. From some number of rounds on -/
def Ev {α : Type} (g : Nat → Option α) (r : α) : Prop := ∃ K, ∀ k, K ≤ k → g k = some r
theorem Ev.of {α : Type} {g : Nat → Option α} {r : α} (hg : ∀ k, LeO (g k) (g (k + 1))) {k : Nat} (h : g k = some r) : Ev g r := ⟨k, fun _ hk => at_rounds hg hk h⟩
theorem Ev.now {α : Type} (r : α) : Ev (fun _ => some r) r := ⟨0, fun _ _ => rfl⟩
theorem Ev.rounds {α : Type} {g : Nat → Option α} {r : α} (h : Ev g r) : ∃ k, g k = some r := by
  obtain ⟨K, h⟩ := h
  exact ⟨K, h K (Nat.le_refl _)⟩
theorem Ev.bind {α β : Type} {g : Nat → Option α} {f : Nat → α → Option β} {a : α} {r : β} (h : Ev g a) (k : Ev (fun n => f n a) r) : Ev (fun n => (g n).bind (f n)) r := by
  obtain ⟨K, h⟩ := h
  obtain ⟨K', k⟩ := k
  refine ⟨max K K', fun n hn => ?_⟩
  have h1 := h n (by omega)
  have h2 := k n (by omega)
  simp only [h1, Option.bind_some]
  exact h2
/-- One round of a loop. -/
theorem Ev.step {α : Type} {g f : Nat → Option α} {r : α} (h : ∀ k, g (k + 1) = f k) (k : Ev f r) : Ev g r := by
  obtain ⟨K, k⟩ := k
  refine ⟨K + 1, fun n hn => ?_⟩
  obtain ⟨m, rfl⟩ : ∃ m, n = m + 1 := ⟨n - 1, by omega⟩
  rw [h]
  exact k m (by omega)
theorem Ev.congr {α : Type} {g f : Nat → Option α} {r : α} (h : ∀ k, g k = f k) (k : Ev f r) : Ev g r := by
  obtain ⟨K, k⟩ := k
  exact ⟨K, fun n hn => (h n).trans (k n hn)⟩
/-! ### 14. append as_ one step of a region that draws its order: for 'go_region_law' (and a region walked by hand) -/
section
variable {P : Program} {ops : Array Oper} {o : Oper} {a : Act} {Q : Exit → Act → World → Prop} {K : Act → World → Prop}
end
/-! ### 15. A row's base may be lowered -/
theorem own_weaken {w : World} {base base' : Nat} {e : TypeId} {size n : Nat} {v : Value} {xs : List Value} (h : w.ownsRow base e size v n xs) (hb : base' ≤ base) : w.ownsRow base' e size v n xs := by
  obtain ⟨h1, h2⟩ := h
  refine ⟨h1, ?_⟩
  rcases h2 with h2 | ⟨g, cap, cur, rfl, hg, r⟩
  · exact .inl h2
  · exact .inr ⟨g, cap, cur, rfl, Nat.le_trans hb hg, r⟩
/-! ### 16. Parts 3 to 9 for ANY element of one cell: 'enc' (Value.int k, Value.string, Value.bool), a default 'd' -/
section
variable {α : Type} {enc : α → Value} {d : α}
def encs (enc : α → Value) (xs : List α) : List Value := xs.map enc
def rdOf (d : α) (xs : List α) (i : Int) : α := xs.getD i.toNat d
def ReadsOf (enc : α → Value) (d : α) (w : World) (A : Option Addr) (n : Nat) (xs : List α) : Prop :=
  xs.length = n ∧ n ≤ 9223372036854775807 ∧ (0 < n → ∃ ad, A = some ad ∧ ∀ j, j < n → w.cell? (ad.add j) = some (enc (xs.getD j d)))
theorem ReadsOf.at_ {w : World} {A : Option Addr} {n : Nat} {xs : List α} (h : ReadsOf enc d w A n xs) (i : Int) (h0 : 0 ≤ i) (h1 : i < n) : ∃ ad, A = some ad ∧ w.cell? (ad.add i.toNat) = some (enc (rdOf d xs i)) := by
  obtain ⟨ad, e, hc⟩ := h.2.2 (by omega)
  exact ⟨ad, e, hc _ (by omega)⟩
theorem ReadsOf.below {w w1 : World} {A : Option Addr} {n : Nat} {xs : List α} (h : ReadsOf enc d w A n xs) (hb : Below w.heap.size w w1) : ReadsOf enc d w1 A n xs :=
  ⟨h.1, h.2.1, fun hn => by
    obtain ⟨ad, e, hc⟩ := h.2.2 hn
    exact ⟨ad, e, fun j hj => pw_cell_below hb (hc j hj)⟩⟩
theorem ReadsOf.take_ {w : World} {A : Option Addr} {n : Nat} {xs : List α} (h : ReadsOf enc d w A n xs) (i : Nat) (hi : i ≤ n) : ReadsOf enc d w A i (xs.take i) := by
  refine ⟨by rw [List.length_take, h.1]; omega, by have := h.2.1; omega, fun hp => ?_⟩
  obtain ⟨ad, e, hc⟩ := h.2.2 (by omega)
  refine ⟨ad, e, fun j hj => ?_⟩
  rw [hc j (by omega)]
  simp [List.getD_eq_getElem?_getD, hj]
theorem ReadsOf.drop_ {w : World} {A : Option Addr} {n c : Nat} {xs : List α} (h : ReadsOf enc d w A n xs) (i : Nat) (hi : i ≤ n) (hc : n ≤ c) : ReadsOf enc d w (if c = i then A else A.map (·.add i)) (n - i) (xs.drop i) := by
  refine ⟨by rw [List.length_drop, h.1], by have := h.2.1; omega, fun hp => ?_⟩
  obtain ⟨ad, rfl, hcell⟩ := h.2.2 (by omega)
  rw [if_neg (by omega)]
  refine ⟨ad.add i, rfl, fun j hj => ?_⟩
  have ha : (ad.add i).add j = ad.add (i + j) := by
    unfold Addr.add
    by_cases h1 : i = 0 <;> by_cases h2 : j = 0 <;> simp [h1, h2, Nat.add_assoc]
  rw [ha, hcell (i + j) (by omega)]
  simp [List.getD_eq_getElem?_getD, List.getElem?_drop]
end
section
variable {α : Type} {P : Program} {ops : Array Oper} {rest : List Oper} {o : Oper} {a : Act} {Q : Exit → Act → World → Prop}
end

/-! ### 17. Rows of one element type held at once: no two share a block -/
def NeRow (v v' : Value) : Prop := ∀ k, v.ownBlock = some k → v'.ownBlock ≠ some k
/-! ### 18. A block behind a new one; behind a draw -/
theorem blk_alloc {w : World} {g : Nat} {o : Obj} (h : w.heap[g]? = some o) (o' : Obj) : (w.alloc o').heap[g]? = some o := (Below.heap_alloc w o' g (blk_lt h)).trans h
theorem blk_drew {w : World} {g : Nat} {o : Obj} (h : w.heap[g]? = some o) : w.drew.heap[g]? = some o := h
theorem blk_drewN {w : World} {g : Nat} {o : Obj} (h : w.heap[g]? = some o) (n : Nat) : (w.drewN n).heap[g]? = some o := h
theorem blk_below {w w1 : World} {g : Nat} {o : Obj} (h : w.heap[g]? = some o) (hb : Below w.heap.size w w1) : w1.heap[g]? = some o := (hb.block g (blk_lt h)).trans h
theorem blk_new (w : World) (o : Obj) : (w.alloc o).heap[w.heap.size]? = some o := heap_alloc_new w o
/-! ### 19. Results that lie in memory beside others -/
section
variable {P : Program}
end
/-! ### 20. Rows of elements of any kind: R is what an element's cells say -/
theorem own_le {w : World} {base n m c size : Nat} {e : TypeId} {A : Option Addr} {xs : List Value} (h : w.ownsRow base e size (.slice A m c) n xs) : m ≤ c := by
  rcases h.2 with ⟨he, _⟩ | ⟨g, cap, cur, he, _, _, hnc, _⟩
  · injection he with _ h2 h3
    omega
  · injection he with _ h2 h3
    omega
def OwnRow {α : Type} (R : α → List Value → Prop) (e : TypeId) (size : Nat) (w : World) (base : Nat) (v : Value) (ps : List α) : Prop :=
  ∃ inner, w.ownsRow base e size v ps.length inner ∧ Reps R size ps inner
section
variable {α : Type} {R R' : α → List Value → Prop} {e : TypeId} {size : Nat} {w w1 : World} {base : Nat} {v : Value} {ps : List α}
theorem OwnRow.none_ (R : α → List Value → Prop) (e : TypeId) (size : Nat) (w : World) (base : Nat) : OwnRow R e size w base (.slice none 0 0) [] := ⟨[], own_nil _ _ _ _, Reps.none _ _⟩
theorem OwnRow.imp_ (h : OwnRow R e size w base v ps) (hR : ∀ p c, R p c → R' p c) : OwnRow R' e size w base v ps := by
  obtain ⟨inner, ho, hr⟩ := h
  exact ⟨inner, ho, hr.imp_ hR⟩
theorem OwnRow.below (h : OwnRow R e size w base v ps) (hb : Below w.heap.size w w1) : OwnRow R e size w1 base v ps := by
  obtain ⟨inner, ho, hr⟩ := h
  exact ⟨inner, pw_own_below ho hb, hr⟩
theorem OwnRow.set_ (h : OwnRow R e size w base v ps) {g : Nat} {t : TypeId} {cells : Array Value} (hb : w.heap[g]? = some (.cells cells t (0, 0))) (ht : e ≠ t) (j : Nat) (u : Value) : OwnRow R e size (w.setCell ⟨g, j, none⟩ u) base v ps := by
  obtain ⟨inner, ho, hr⟩ := h
  exact ⟨inner, own_setCell ho (own_ne ho hb ht) u, hr⟩
theorem OwnRow.keep (h : OwnRow R e size w base v ps) {g : Nat} {t : TypeId} {cells : Array Value} (hb : w.heap[g]? = some (.cells cells t (0, 0))) (ht : e ≠ t) (hk : KeepBut w w1 g none) : OwnRow R e size w1 base v ps := by
  obtain ⟨inner, ho, hr⟩ := h
  exact ⟨inner, hk.own ho (Ne.symm (own_ne ho hb ht)) (by cases v.ownBlock <;> simp), hr⟩
theorem OwnRow.reads (h : OwnRow R e size w base v ps) : ∃ A c, v = .slice A ps.length c ∧ ps.length ≤ c ∧ ReadsRow R size w A ps.length ps := by
  obtain ⟨inner, ho, hr⟩ := h
  obtain ⟨A, c, rfl, hrow⟩ := own_reads_row ho hr rfl
  exact ⟨A, c, rfl, own_le ho, hrow⟩
/-- A literal: the elements' cells one behind the other. -/
theorem OwnRow.lit (W : World) (base : Nat) {inner : List Value} (hr : Reps R size ps inner) (hb : base ≤ W.heap.size) (hm : ps.length ≤ 9223372036854775807) :
    OwnRow R e size (W.alloc (.cells inner.toArray e)) base (.slice (some ⟨W.heap.size, 0, none⟩) ps.length ps.length) ps := by
  have h := World.ownsRow_lit (base := base) (e := e) (size := size) W inner.toArray ps.length hb (by simpa [maxLen] using hm) (by simpa using hr.1)
  exact ⟨inner, by simpa using h, hr⟩
end
section
variable {P : Program} {ops : Array Oper} {rest : List Oper} {o : Oper} {a : Act} {Q : Exit → Act → World → Prop} {α : Type} {R : α → List Value → Prop}
/-- append(v, x): x's cells are cs. R is that of the world AHEAD; move it over hg ('OwnRow.imp_'). -/
theorem OwnRow.append {w0 W : World} (base : Nat) (hgd : o.guard = none) (s x : Operand) (t e : TypeId) (z : Value) (size bytes : Nat)
    (ho : o.op = .call { callee := .builtin .append, args := #[s, x], argTypes := #[t, t] })
    (ht : P.underlying t = some (.slice e)) (hinfo : (P.info? e).map (fun i => (i.zero, i.size, i.bytes)) = some (some z, size, bytes)) (hz : z.cells.size = size) (hs0 : 0 < size) (hb0 : 0 < bytes)
    (v : Value) (ps : List α) (p : α) (cs : List Value) (hs : a.eval s = v) (hx : a.eval x = .slice (some ⟨W.heap.size, 0, none⟩) 1 1) (hp : R p cs) (hcs : cs.length = size) (h1 : ∀ u ∈ cs, u.oneCell' = true)
    (HO : OwnRow R e size W base v ps) (HB : Below base w0 W) (hbase : base ≤ W.heap.size) (hl : (ps.length + 1) * bytes ≤ 140737488355328)
    (h : ∀ v1 w1, OwnRow R e size w1 base v1 (ps ++ [p]) → Below base w0 w1 → W.grownBy w1 v.ownBlock → (v1.ownBlock = v.ownBlock ∨ ∃ b, v1.ownBlock = some b ∧ W.heap.size ≤ b) → wpList P ops Q rest (a.put o.dst v1) w1) :
    wpList P ops Q (o :: rest) a (W.alloc (.cells cs.toArray e)) := by
  obtain ⟨inner, hown, hr⟩ := HO
  refine print_append_cells base hgd s x t e z size bytes ho ht hinfo hz hs0 hb0 v ps.length inner cs hs hx hcs h1 hown HB hbase hl ?_
  intro v1 w1 hown1 hb1 hg1 hat1
  exact h v1 w1 ⟨inner ++ cs, by rw [List.length_append, List.length_singleton]; exact hown1, hr.snoc hp hcs⟩ hb1 hg1 hat1
end
section
variable {P : Program} {ops : Array Oper} {o : Oper} {a : Act} {Q : Exit → Act → World → Prop} {K : Act → World → Prop} {α : Type} {R : α → List Value → Prop}
end
/-- What is read as_ a row has its cells one behind the other. -/
theorem ReadsRow.inner_ {α : Type} {R : α → List Value → Prop} {size : Nat} {w : World} {ad : Addr} {n : Nat} {ps : List α} (h : ReadsRow R size w (some ad) n ps) :
    ∃ inner, Reps R size ps inner ∧ ∀ j u, inner[j]? = some u → w.cell? (ad.add j) = some u := by
  have key : ∀ m, m ≤ ps.length → ∃ inner, Reps R size (ps.take m) inner ∧ ∀ j u, inner[j]? = some u → w.cell? (ad.add j) = some u := by
    intro m
    induction m with
    | zero => exact fun _ => ⟨[], Reps.none _ _, fun j u hu => by simp at hu⟩
    | succ m ih =>
      intro hm
      obtain ⟨inner, hr, hc⟩ := ih (by omega)
      obtain ⟨ad', he, hcell⟩ := h.2.2 (by have := h.1; omega)
      injection he with he
      subst he
      obtain ⟨c, hcl, hp, hcc⟩ := hcell m _ (List.getElem?_eq_getElem (show m < ps.length by omega))
      refine ⟨inner ++ c, ?_, fun j u hu => ?_⟩
      · rw [List.take_succ_eq_append_getElem (show m < ps.length by omega)]
        exact hr.snoc hp hcl
      · have hil : inner.length = m * size := by rw [hr.1, List.length_take, Nat.min_eq_left (by omega)]
        rcases Nat.lt_or_ge j inner.length with hj | hj
        · rw [List.getElem?_append_left hj] at hu
          exact hc j u hu
        · rw [List.getElem?_append_right hj] at hu
          have := hcc (j - inner.length) u hu
          rwa [hil, Nat.add_sub_cancel' (by omega)] at this
  obtain ⟨inner, hr, hc⟩ := key ps.length (Nat.le_refl _)
  rw [List.take_length] at hr
  exact ⟨inner, hr, hc⟩
/-! ### 21. Cuts of a slice that came in, lengths spelled as_ the lists' -/
section
variable {α : Type} {P : Program}
end

/-! ### 22. append([]byte, s...), s a string; behind 'at_builtin'. (No word on where the new row lies: two rows of bytes at once don't go by it.) -/
section
variable {P : Program} {ops : Array Oper} {rest : List Oper} {o : Oper} {a : Act} {Q : Exit → Act → World → Prop}
end
/-! ### 23. KINDS: what a value's cells say, read (K) and made (M), kind by kind; every mover proved once -/
/-- ok: which blocks the rows inside may be ('not the row that is being written'). -/
structure Kd (α : Type) where
  sz : Nat
  E : List Nat
  K : World → α → List Value → Prop
  M : World → Nat → (Nat → Prop) → α → List Value → Prop
  K_len : ∀ {w x cs}, K w x cs → cs.length = sz
  K_one : ∀ {w x cs}, K w x cs → ∀ u ∈ cs, u.oneCell' = true
  K_below : ∀ {w w1 : World} {x cs}, Below w.heap.size w w1 → K w x cs → K w1 x cs
  K_of_M : ∀ {w base ok x cs}, M w base ok x cs → K w x cs
  M_mono : ∀ {w base ok ok' x cs}, (∀ k, ok k → ok' k) → M w base ok x cs → M w base ok' x cs
  M_bound : ∀ {w : World} {base ok x cs}, M w base ok x cs → M w base (fun k => ok k ∧ base ≤ k ∧ k < w.heap.size ∧ ∃ q, q ∈ E ∧ ∃ cells, w.heap[k]? = some (.cells cells q (0, 0))) x cs
  M_move : ∀ {w w1 : World} {base ok x cs}, (∀ k, ok k → w1.heap[k]? = w.heap[k]?) → M w base ok x cs → M w1 base ok x cs
  M_lower : ∀ {w base base' ok x cs}, base' ≤ base → M w base ok x cs → M w base' ok x cs

theorem own_move {w w1 : World} {base : Nat} {e : TypeId} {size n : Nat} {v : Value} {xs : List Value} (h : w.ownsRow base e size v n xs) (hm : ∀ k, v.ownBlock = some k → w1.heap[k]? = w.heap[k]?) : w1.ownsRow base e size v n xs := by
  obtain ⟨h1, h2⟩ := h
  refine ⟨h1, ?_⟩
  rcases h2 with h2 | ⟨g, cap, cur, rfl, hg, hh, r⟩
  · exact .inl h2
  · exact .inr ⟨g, cap, cur, rfl, hg, (hm g (by simp [Value.ownBlock])).trans hh, r⟩
theorem own_typed {w : World} {base : Nat} {e : TypeId} {size n : Nat} {v : Value} {xs : List Value} (h : w.ownsRow base e size v n xs) (k : Nat) (hk : v.ownBlock = some k) : ∃ cells, w.heap[k]? = some (.cells cells e (0, 0)) := by
  rcases h.2 with ⟨rfl, _⟩ | ⟨g, cap, cur, rfl, hg, hh, r⟩
  · simp [Value.ownBlock] at hk
  · have : g = k := by simpa [Value.ownBlock] using hk
    subst this
    exact ⟨cur, hh⟩

namespace Kd
/-- A row of elements that is read. -/
def C {α : Type} (d : Kd α) (w : World) (A : Option Addr) (n : Nat) (xs : List α) : Prop := ReadsRow (d.K w) d.sz w A n xs
/-- A row of elements (type e) of the call's own; the elements' rows are not this one. -/
def R {α : Type} (d : Kd α) (e : Nat) (w : World) (base : Nat) (ok : Nat → Prop) (v : Value) (xs : List α) : Prop :=
  (∀ k, v.ownBlock = some k → ok k) ∧ OwnRow (d.M w base (fun k => ok k ∧ some k ≠ v.ownBlock)) e d.sz w base v xs
section
variable {α : Type} {d : Kd α} {e : Nat} {w w1 : World} {base : Nat} {ok ok' : Nat → Prop} {v : Value} {xs : List α}
theorem C_below {A : Option Addr} {n : Nat} (h : d.C w A n xs) (hb : Below w.heap.size w w1) : d.C w1 A n xs := ReadsRow.imp_ h hb (fun _ _ hp => d.K_below hb hp)
theorem R_nil (d : Kd α) (e : Nat) (w : World) (base : Nat) (ok : Nat → Prop) : d.R e w base ok (.slice none 0 0) [] := ⟨fun k hk => by simp [Value.ownBlock] at hk, OwnRow.none_ _ _ _ _ _⟩
theorem R_mono (h : d.R e w base ok v xs) (hok : ∀ k, ok k → ok' k) : d.R e w base ok' v xs := ⟨fun k hk => hok k (h.1 k hk), h.2.imp_ (fun _ _ hp => d.M_mono (fun k hk => ⟨hok k hk.1, hk.2⟩) hp)⟩
theorem R_bound (h : d.R e w base ok v xs) : d.R e w base (fun k => ok k ∧ base ≤ k ∧ k < w.heap.size ∧ ∃ q, q ∈ e :: d.E ∧ ∃ cells, w.heap[k]? = some (.cells cells q (0, 0))) v xs := by
  obtain ⟨h0, inner, ho, hr⟩ := h
  refine ⟨fun k hk => ?_, inner, ho, hr.imp_ (fun _ _ hp => d.M_mono (fun k hk => ?_) (d.M_bound hp))⟩
  · obtain ⟨cells, hc⟩ := own_typed ho k hk
    exact ⟨h0 k hk, own_base ho k hk, own_lt ho k hk, e, List.mem_cons_self, cells, hc⟩
  · obtain ⟨⟨h1, h2⟩, h3, h4, q, hq, hc⟩ := hk
    exact ⟨⟨h1, h3, h4, q, List.mem_cons_of_mem _ hq, hc⟩, h2⟩
theorem R_move (h : d.R e w base ok v xs) (hm : ∀ k, ok k → w1.heap[k]? = w.heap[k]?) : d.R e w1 base ok v xs := by
  obtain ⟨h0, inner, ho, hr⟩ := h
  exact ⟨h0, inner, own_move ho (fun k hk => hm k (h0 k hk)), hr.imp_ (fun _ _ hp => d.M_move (fun k hk => hm k hk.1) hp)⟩
theorem R_lower {base' : Nat} (h : d.R e w base ok v xs) (hb : base' ≤ base) : d.R e w base' ok v xs := by
  obtain ⟨h0, inner, ho, hr⟩ := h
  exact ⟨h0, inner, own_weaken ho hb, hr.imp_ (fun _ _ hp => d.M_lower hb hp)⟩
/-- Any mover: what is ok, and a block of w's, stays. -/
theorem R_step (h : d.R e w base ok v xs) (hm : ∀ k, ok k → k < w.heap.size → w1.heap[k]? = w.heap[k]?) : d.R e w1 base ok v xs :=
  R_mono (R_move (R_bound h) (fun k hk => hm k hk.1 hk.2.2.1)) (fun _ hk => hk.1)
theorem M_step {x : α} {cs : List Value} (h : d.M w base ok x cs) (hm : ∀ k, ok k → k < w.heap.size → w1.heap[k]? = w.heap[k]?) : d.M w1 base ok x cs :=
  d.M_mono (fun _ hk => hk.1) (d.M_move (fun k hk => hm k hk.1 hk.2.2.1) (d.M_bound h))
theorem R_below (h : d.R e w base ok v xs) (hb : Below w.heap.size w w1) : d.R e w1 base ok v xs := R_step h (fun k _ hk => hb.block k hk)
/-- A store into another block. -/
theorem R_far (h : d.R e w base ok v xs) {p : Addr} (hok : ∀ k, ok k → k ≠ p.block) (u : Value) : d.R e (w.setCell p u) base ok v xs := R_step h (fun k ho _ => Below.heap_setCell w p u k (hok k ho))
/-- By types alone: the rows inside are none of a block of type t. -/
theorem R_types (h : d.R e w base ok v xs) {g t : Nat} {cells : Array Value} (hb : w.heap[g]? = some (.cells cells t (0, 0))) (ht : ∀ q, q ∈ e :: d.E → q ≠ t) : d.R e w base (fun k => ok k ∧ k ≠ g) v xs :=
  R_mono (R_bound h) (fun k hk => ⟨hk.1, by
    obtain ⟨_, _, _, q, hq, cells', hc⟩ := hk
    rintro rfl
    rw [hc] at hb
    injection hb with hb
    injection hb with _ hb
    exact ht q hq hb⟩)
theorem R_reads (h : d.R e w base ok v xs) : ∃ A c, v = .slice A xs.length c ∧ xs.length ≤ c ∧ d.C w A xs.length xs := by
  obtain ⟨A, c, he, hl, hr⟩ := OwnRow.reads h.2
  exact ⟨A, c, he, hl, hr.imp_ (Below.refl _ _) (fun _ _ hp => d.K_of_M hp)⟩
theorem R_slice (h : d.R e w base ok v xs) : ∃ A c, v = .slice A xs.length c := by
  obtain ⟨A, c, he, _⟩ := R_reads h
  exact ⟨A, c, he⟩
end

/-! #### the kinds -/
def scalar {α : Type} (enc : α → Value) (h1 : ∀ x, (enc x).oneCell' = true) : Kd α where
  sz := 1
  E := []
  K := fun _ x cs => cs = [enc x]
  M := fun _ _ _ x cs => cs = [enc x]
  K_len := fun h => by rw [h]; rfl
  K_one := fun h u hu => by
    rw [h] at hu
    rw [List.mem_singleton.1 hu]
    exact h1 _
  K_below := fun _ h => h
  K_of_M := fun h => h
  M_mono := fun _ h => h
  M_bound := fun h => h
  M_move := fun _ h => h
  M_lower := fun _ h => h
def int (k : IntKind) : Kd Int := scalar (Value.int k) (fun _ => rfl)
def bool : Kd Bool := scalar Value.bool (fun _ => rfl)
def string : Kd ByteArray := scalar Value.string (fun _ => rfl)
def slice {α : Type} (e : Nat) (d : Kd α) : Kd (List α) where
  sz := 1
  E := e :: d.E
  K := fun w xs cs => ∃ A c, cs = [.slice A xs.length c] ∧ xs.length ≤ c ∧ d.C w A xs.length xs
  M := fun w base ok xs cs => ∃ v, cs = [v] ∧ d.R e w base ok v xs
  K_len := by
    rintro w x cs ⟨A, c, rfl, _⟩
    rfl
  K_one := by
    rintro w x cs ⟨A, c, rfl, _⟩ u hu
    rw [List.mem_singleton.1 hu]
    rfl
  K_below := by
    rintro w w1 x cs hb ⟨A, c, rfl, hl, hr⟩
    exact ⟨A, c, rfl, hl, C_below hr hb⟩
  K_of_M := by
    rintro w base ok x cs ⟨v, rfl, h⟩
    obtain ⟨A, c, rfl, hl, hr⟩ := R_reads h
    exact ⟨A, c, rfl, hl, hr⟩
  M_mono := by
    rintro w base ok ok' x cs hok ⟨v, rfl, h⟩
    exact ⟨v, rfl, R_mono h hok⟩
  M_bound := by
    rintro w base ok x cs ⟨v, rfl, h⟩
    exact ⟨v, rfl, R_bound h⟩
  M_move := by
    rintro w w1 base ok x cs hm ⟨v, rfl, h⟩
    exact ⟨v, rfl, R_move h hm⟩
  M_lower := by
    rintro w base base' ok x cs hb ⟨v, rfl, h⟩
    exact ⟨v, rfl, R_lower h hb⟩
/-- Two in line. -/
def pair {α β : Type} (a : Kd α) (b : Kd β) : Kd (α × β) where
  sz := a.sz + b.sz
  E := a.E ++ b.E
  K := fun w x cs => ∃ c0 c1, cs = c0 ++ c1 ∧ a.K w x.1 c0 ∧ b.K w x.2 c1
  M := fun w base ok x cs => ∃ c0 c1, cs = c0 ++ c1 ∧ a.M w base ok x.1 c0 ∧ b.M w base ok x.2 c1
  K_len := by
    rintro w x cs ⟨c0, c1, rfl, h0, h1⟩
    rw [List.length_append, a.K_len h0, b.K_len h1]
  K_one := by
    rintro w x cs ⟨c0, c1, rfl, h0, h1⟩ u hu
    rcases List.mem_append.1 hu with hu | hu
    · exact a.K_one h0 u hu
    · exact b.K_one h1 u hu
  K_below := by
    rintro w w1 x cs hb ⟨c0, c1, rfl, h0, h1⟩
    exact ⟨c0, c1, rfl, a.K_below hb h0, b.K_below hb h1⟩
  K_of_M := by
    rintro w base ok x cs ⟨c0, c1, rfl, h0, h1⟩
    exact ⟨c0, c1, rfl, a.K_of_M h0, b.K_of_M h1⟩
  M_mono := by
    rintro w base ok ok' x cs hok ⟨c0, c1, rfl, h0, h1⟩
    exact ⟨c0, c1, rfl, a.M_mono hok h0, b.M_mono hok h1⟩
  M_bound := by
    rintro w base ok x cs ⟨c0, c1, rfl, h0, h1⟩
    refine ⟨c0, c1, rfl, a.M_mono ?_ (a.M_bound h0), b.M_mono ?_ (b.M_bound h1)⟩
    · rintro k ⟨h2, h3, h4, q, hq, hc⟩
      exact ⟨h2, h3, h4, q, List.mem_append_left _ hq, hc⟩
    · rintro k ⟨h2, h3, h4, q, hq, hc⟩
      exact ⟨h2, h3, h4, q, List.mem_append_right _ hq, hc⟩
  M_move := by
    rintro w w1 base ok x cs hm ⟨c0, c1, rfl, h0, h1⟩
    exact ⟨c0, c1, rfl, a.M_move hm h0, b.M_move hm h1⟩
  M_lower := by
    rintro w base base' ok x cs hb ⟨c0, c1, rfl, h0, h1⟩
    exact ⟨c0, c1, rfl, a.M_lower hb h0, b.M_lower hb h1⟩
/-- A Lean structure by its fields. -/
def iso {α β : Type} (d : Kd α) (f : β → α) : Kd β where
  sz := d.sz
  E := d.E
  K := fun w x cs => d.K w (f x) cs
  M := fun w base ok x cs => d.M w base ok (f x) cs
  K_len := d.K_len
  K_one := d.K_one
  K_below := d.K_below
  K_of_M := d.K_of_M
  M_mono := d.M_mono
  M_bound := d.M_bound
  M_move := d.M_move
  M_lower := d.M_lower
/-- Nothing is of this kind: where the nesting's depth is used up. -/
def bot {α : Type} (sz : Nat) (E : List Nat) : Kd α where
  sz := sz
  E := E
  K := fun _ _ _ => False
  M := fun _ _ _ _ _ => False
  K_len := fun h => h.elim
  K_one := fun h => h.elim
  K_below := fun _ h => h
  K_of_M := fun h => h
  M_mono := fun _ h => h
  M_bound := fun h => h
  M_move := fun _ h => h
  M_lower := fun _ h => h
/-- A type nested in itself: nested at most n deep .. -/
def upto {α : Type} (F : Kd α → Kd α) (sz : Nat) (E : List Nat) : Nat → Kd α
  | 0 => bot sz E
  | n + 1 => F (upto F sz E n)
/-- .. for some n. -/
def fix {α : Type} (F : Kd α → Kd α) (sz : Nat) (E : List Nat) (hs : ∀ n, (upto F sz E n).sz = sz) (hE : ∀ n q, q ∈ (upto F sz E n).E → q ∈ E) : Kd α where
  sz := sz
  E := E
  K := fun w x cs => ∃ n, (upto F sz E n).K w x cs
  M := fun w base ok x cs => ∃ n, (upto F sz E n).M w base ok x cs
  K_len := by
    rintro w x cs ⟨n, h⟩
    rw [(upto F sz E n).K_len h, hs n]
  K_one := by
    rintro w x cs ⟨n, h⟩
    exact (upto F sz E n).K_one h
  K_below := by
    rintro w w1 x cs hb ⟨n, h⟩
    exact ⟨n, (upto F sz E n).K_below hb h⟩
  K_of_M := by
    rintro w base ok x cs ⟨n, h⟩
    exact ⟨n, (upto F sz E n).K_of_M h⟩
  M_mono := by
    rintro w base ok ok' x cs hok ⟨n, h⟩
    exact ⟨n, (upto F sz E n).M_mono hok h⟩
  M_bound := by
    rintro w base ok x cs ⟨n, h⟩
    refine ⟨n, (upto F sz E n).M_mono ?_ ((upto F sz E n).M_bound h)⟩
    rintro k ⟨h2, h3, h4, q, hq, hc⟩
    exact ⟨h2, h3, h4, q, hE n q hq, hc⟩
  M_move := by
    rintro w w1 base ok x cs hm ⟨n, h⟩
    exact ⟨n, (upto F sz E n).M_move hm h⟩
  M_lower := by
    rintro w base base' ok x cs hb ⟨n, h⟩
    exact ⟨n, (upto F sz E n).M_lower hb h⟩

/-! #### an element of a row that is read; an element appended -/
theorem C_get {α : Type} {d : Kd α} {w : World} {A : Option Addr} {n : Nat} {xs : List α} (h : d.C w A n xs) (z : α) (i : Int) (h0 : 0 ≤ i) (h1 : i < n) :
    ∃ ad c, A = some ad ∧ c.length = d.sz ∧ d.K w (xs.getD i.toNat z) c ∧ ∀ j u, c[j]? = some u → w.cell? (ad.add (i.toNat * d.sz + j)) = some u := ReadsRow.get_ h z i h0 h1
section
variable {P : Program} {ops : Array Oper} {rest : List Oper} {o : Oper} {a : Act} {Q : Exit → Act → World → Prop} {α : Type}
end
section
variable {P : Program} {ops : Array Oper} {o : Oper} {a : Act} {Q : Exit → Act → World → Prop} {Kc : Act → World → Prop} {α : Type}
end
theorem reads_of_C {α : Type} {enc : α → Value} {d : α} {h1 : ∀ x, (enc x).oneCell' = true} {w : World} {A : Option Addr} {n : Nat} {xs : List α} (h : (scalar enc h1).C w A n xs) : ReadsOf enc d w A n xs := by
  refine ⟨h.1, h.2.1, fun hn => ?_⟩
  obtain ⟨ad, e, hc⟩ := h.2.2 hn
  refine ⟨ad, e, fun j hj => ?_⟩
  have hl : j < xs.length := by have := h.1; omega
  obtain ⟨c, _, hK, hcell⟩ := hc j _ (List.getElem?_eq_getElem hl)
  have hK' : c = [enc xs[j]] := hK
  subst hK'
  have := hcell 0 _ rfl
  simpa [scalar, List.getD_eq_getElem?_getD, List.getElem?_eq_getElem hl] using this
end Kd
/-! ### 24. Kinds nested in themselves -/
namespace Kd
/-- F says the more, the more its argument says. -/
structure Mono {α β : Type} (F : Kd α → Kd β) : Prop where
  sz : ∀ d d' : Kd α, d.sz = d'.sz → (F d).sz = (F d').sz
  K : ∀ d d' : Kd α, d.sz = d'.sz → (∀ w x cs, d.K w x cs → d'.K w x cs) → ∀ w x cs, (F d).K w x cs → (F d').K w x cs
  M : ∀ d d' : Kd α, d.sz = d'.sz → (∀ w base ok x cs, d.M w base ok x cs → d'.M w base ok x cs) → ∀ w base ok x cs, (F d).M w base ok x cs → (F d').M w base ok x cs
theorem mono_const {α β : Type} (k : Kd β) : Mono (fun _ : Kd α => k) := ⟨fun _ _ _ => rfl, fun _ _ _ _ _ _ _ h => h, fun _ _ _ _ _ _ _ _ _ h => h⟩
theorem mono_id {α : Type} : Mono (fun d : Kd α => d) := ⟨fun _ _ h => h, fun _ _ _ h => h, fun _ _ _ h => h⟩
theorem C_imp {α : Type} {d d' : Kd α} (hs : d.sz = d'.sz) (h : ∀ w x cs, d.K w x cs → d'.K w x cs) {w : World} {A : Option Addr} {n : Nat} {xs : List α} (hc : d.C w A n xs) : d'.C w A n xs := by
  unfold C at hc ⊢
  rw [← hs]
  exact hc.imp_ (Below.refl _ _) (fun _ _ hp => h _ _ _ hp)
theorem R_imp {α : Type} {d d' : Kd α} (hs : d.sz = d'.sz) (h : ∀ w base ok x cs, d.M w base ok x cs → d'.M w base ok x cs) {e : Nat} {w : World} {base : Nat} {ok : Nat → Prop} {v : Value} {xs : List α} (hr : d.R e w base ok v xs) : d'.R e w base ok v xs := by
  unfold R at hr ⊢
  rw [← hs]
  exact ⟨hr.1, hr.2.imp_ (fun _ _ hp => h _ _ _ _ _ hp)⟩
theorem mono_slice {α β : Type} (e : Nat) {G : Kd α → Kd β} (hG : Mono G) : Mono (fun d => slice e (G d)) := by
  refine ⟨fun _ _ _ => rfl, ?_, ?_⟩
  · rintro d d' hs h w x cs ⟨A, c, rfl, hl, hr⟩
    exact ⟨A, c, rfl, hl, C_imp (hG.sz d d' hs) (hG.K d d' hs h) hr⟩
  · rintro d d' hs h w base ok x cs ⟨v, rfl, hr⟩
    exact ⟨v, rfl, R_imp (hG.sz d d' hs) (hG.M d d' hs h) hr⟩
theorem mono_pair {α β γ : Type} {G : Kd α → Kd β} {H : Kd α → Kd γ} (hG : Mono G) (hH : Mono H) : Mono (fun d => pair (G d) (H d)) := by
  refine ⟨fun d d' hs => ?_, ?_, ?_⟩
  · show (G d).sz + (H d).sz = (G d').sz + (H d').sz
    rw [hG.sz d d' hs, hH.sz d d' hs]
  · rintro d d' hs h w x cs ⟨c0, c1, rfl, h0, h1⟩
    exact ⟨c0, c1, rfl, hG.K d d' hs h _ _ _ h0, hH.K d d' hs h _ _ _ h1⟩
  · rintro d d' hs h w base ok x cs ⟨c0, c1, rfl, h0, h1⟩
    exact ⟨c0, c1, rfl, hG.M d d' hs h _ _ _ _ _ h0, hH.M d d' hs h _ _ _ _ _ h1⟩
theorem mono_iso {α β γ : Type} {G : Kd α → Kd β} (f : γ → β) (hG : Mono G) : Mono (fun d => iso (G d) f) :=
  ⟨hG.sz, fun d d' hs h w x cs => hG.K d d' hs h w (f x) cs, fun d d' hs h w base ok x cs => hG.M d d' hs h w base ok (f x) cs⟩
/-- The element types inside stay among E. -/
def Sub {α β : Type} (F : Kd α → Kd β) (E : List Nat) : Prop := ∀ d : Kd α, (∀ q, q ∈ d.E → q ∈ E) → ∀ q, q ∈ (F d).E → q ∈ E
theorem sub_const {α β : Type} {E : List Nat} (k : Kd β) (h : ∀ q, q ∈ k.E → q ∈ E) : Sub (fun _ : Kd α => k) E := fun _ _ => h
theorem sub_id {α : Type} {E : List Nat} : Sub (fun d : Kd α => d) E := fun _ h => h
theorem sub_slice {α β : Type} {E : List Nat} (e : Nat) {G : Kd α → Kd β} (he : e ∈ E) (hG : Sub G E) : Sub (fun d => slice e (G d)) E := fun d h q hq => by
  rcases List.mem_cons.1 hq with rfl | hq
  · exact he
  · exact hG d h q hq
theorem sub_pair {α β γ : Type} {E : List Nat} {G : Kd α → Kd β} {H : Kd α → Kd γ} (hG : Sub G E) (hH : Sub H E) : Sub (fun d => pair (G d) (H d)) E := fun d h q hq => by
  rcases List.mem_append.1 hq with hq | hq
  · exact hG d h q hq
  · exact hH d h q hq
theorem sub_iso {α β γ : Type} {E : List Nat} {G : Kd α → Kd β} (f : γ → β) (hG : Sub G E) : Sub (fun d => iso (G d) f) E := hG
theorem upto_E {α : Type} {F : Kd α → Kd α} {sz : Nat} {E : List Nat} (h : Sub F E) : ∀ n q, q ∈ (upto F sz E n).E → q ∈ E
  | 0, _, hq => hq
  | n + 1, q, hq => h _ (upto_E h n) q hq
theorem upto_sz {α : Type} {F : Kd α → Kd α} {sz : Nat} {E : List Nat} (h : ∀ d : Kd α, (F d).sz = sz) : ∀ n, (upto F sz E n).sz = sz
  | 0 => rfl
  | _ + 1 => h _
section
variable {α : Type} {F : Kd α → Kd α} {sz : Nat} {E : List Nat} {hs : ∀ n, (upto F sz E n).sz = sz} {hE : ∀ n q, q ∈ (upto F sz E n).E → q ∈ E}
theorem upto_K (hm : Mono F) (hs : ∀ n, (upto F sz E n).sz = sz) : ∀ n {w x cs}, (upto F sz E n).K w x cs → (upto F sz E (n + 1)).K w x cs
  | 0, _, _, _, h => h.elim
  | n + 1, _, _, _, h => hm.K _ _ (by rw [hs n, hs (n + 1)]) (fun _ _ _ hk => upto_K hm hs n hk) _ _ _ h
theorem upto_K_le (hm : Mono F) (hs : ∀ n, (upto F sz E n).sz = sz) {n m : Nat} (hnm : n ≤ m) {w x cs} (h : (upto F sz E n).K w x cs) : (upto F sz E m).K w x cs := by
  obtain ⟨j, rfl⟩ := Nat.exists_eq_add_of_le hnm
  induction j with
  | zero => exact h
  | succ j ih => exact upto_K hm hs _ (ih (by omega))
theorem fix_C {n : Nat} {w : World} {A : Option Addr} {m : Nat} {xs : List α} (h : (upto F sz E n).C w A m xs) : (fix F sz E hs hE).C w A m xs := C_imp (d' := fix F sz E hs hE) (hs n) (fun w x cs hp => (⟨n, hp⟩ : ∃ n, (upto F sz E n).K w x cs)) h
theorem bounded {P : Nat → Nat → Prop} (hP : ∀ n m j, n ≤ m → P n j → P m j) : ∀ m, (∀ j, j < m → ∃ n, P n j) → ∃ N, ∀ j, j < m → P N j
  | 0, _ => ⟨0, fun j hj => absurd hj (Nat.not_lt_zero j)⟩
  | m + 1, h => by
    obtain ⟨N, hN⟩ := bounded hP m (fun j hj => h j (by omega))
    obtain ⟨n, hn⟩ := h m (by omega)
    refine ⟨max N n, fun j hj => ?_⟩
    rcases Nat.lt_or_ge j m with hj' | hj'
    · exact hP N _ j (Nat.le_max_left _ _) (hN j hj')
    · have : j = m := by omega
      subst this
      exact hP n _ j (Nat.le_max_right _ _) hn
theorem fix_C_back (hm : Mono F) {w : World} {A : Option Addr} {m : Nat} {xs : List α} (h : (fix F sz E hs hE).C w A m xs) : ∃ n, (upto F sz E n).C w A m xs := by
  rcases Nat.eq_zero_or_pos m with hz | hpos
  · subst hz
    exact ⟨0, h.1, h.2.1, fun hp => absurd hp (Nat.lt_irrefl 0)⟩
  · obtain ⟨ad, e, hc⟩ := h.2.2 hpos
    obtain ⟨N, hN⟩ := bounded (P := fun n j => ∀ p, xs[j]? = some p → ∃ c, c.length = sz ∧ (upto F sz E n).K w p c ∧ ∀ i u, c[i]? = some u → w.cell? (ad.add (j * sz + i)) = some u)
      (fun n n' j hnm hp p hj => by
        obtain ⟨c, h1, h2, h3⟩ := hp p hj
        exact ⟨c, h1, upto_K_le hm hs hnm h2, h3⟩) xs.length
      (fun j hj => by
        obtain ⟨c, h1, ⟨n, h2⟩, h3⟩ := hc j _ (List.getElem?_eq_getElem hj)
        refine ⟨n, fun p hp => ?_⟩
        rw [List.getElem?_eq_getElem hj] at hp
        injection hp with hp
        rw [← hp]
        exact ⟨c, h1, h2, h3⟩)
    refine ⟨N, h.1, h.2.1, fun _ => ⟨ad, e, fun j p hj => ?_⟩⟩
    rw [hs N]
    exact hN j (List.getElem?_eq_some_iff.1 hj).1 p hj
theorem upto_C_le (hm : Mono F) (hs : ∀ n, (upto F sz E n).sz = sz) {n m : Nat} (hnm : n ≤ m) {w : World} {A : Option Addr} {l : Nat} {xs : List α} (h : (upto F sz E n).C w A l xs) : (upto F sz E m).C w A l xs := C_imp (by rw [hs n, hs m]) (fun _ _ _ hp => upto_K_le hm hs hnm hp) h
end
end Kd
/-! ### 25. What is held while another row is written: 'ok' says that its rows are none of that row's block -/
namespace Kd
end Kd
/-! ### 26. Words for a printer that takes every slice by its kind -/
namespace Kd
section
variable {α β : Type} {d : Kd α} {d' : Kd β} {e e' : Nat} {w w1 W : World} {base b b' : Nat} {ok ok' okv oku : Nat → Prop} {v u : Value} {xs : List α} {ys : List β}
theorem R_alloc (h : d.R e w base ok v xs) (o : Obj) : d.R e (w.alloc o) base ok v xs := R_below h (below_alloc (Below.refl _ _) o)
theorem R_drew (h : d.R e w base ok v xs) : d.R e w.drew base ok v xs := R_below h (below_drew (Below.refl _ _))
theorem R_drewN (h : d.R e w base ok v xs) (m : Nat) : d.R e (w.drewN m) base ok v xs := R_below h (pw_below_drewN (Below.refl _ _) m)
theorem C_alloc {A : Option Addr} {n : Nat} (h : d.C w A n xs) (o : Obj) : d.C (w.alloc o) A n xs := C_below h (below_alloc (Below.refl _ _) o)
theorem C_drew {A : Option Addr} {n : Nat} (h : d.C w A n xs) : d.C w.drew A n xs := C_below h (below_drew (Below.refl _ _))
theorem C_drewN {A : Option Addr} {n : Nat} (h : d.C w A n xs) (m : Nat) : d.C (w.drewN m) A n xs := C_below h (pw_below_drewN (Below.refl _ _) m)
theorem C_nil (d : Kd α) (w : World) : d.C w none ([] : List α).length [] := ⟨rfl, by simp, fun h => absurd h (Nat.lt_irrefl 0)⟩
end
/-! #### scalars -/
section
variable {w W : World} {A : Option Addr} {n : Nat}
variable {α : Type} {enc : α → Value} {h1 : ∀ x, (enc x).oneCell' = true} {e base g cap : Nat} {ok : Nat → Prop} {xs : List α}
end

/-! #### events: a letter for what make and a literal leave -/
section
variable {P : Program} {ops : Array Oper} {rest : List Oper} {o : Oper} {a : Act} {Q : Exit → Act → World → Prop}
theorem event_run {W w1 : World} {v : Value} (hgd : o.guard = none) (hrun : (execOp a.eval o).run P W = .ok (.value v) w1) (h : wpList P ops Q rest (a.put o.dst v) w1) : wpList P ops Q (o :: rest) a W := by
  refine wpList_plain hgd fun K hK => ?_
  unfold Oper.wp
  rw [hrun]
  exact hK _ _ h
variable {α : Type}
end
end Kd
/-! ### 27. Cuts of a row of one's own: 'xs = xs[:n]' stays a row (R_take); 'xs = xs[k:]' is a row that begins inside its block (Kd.Q), append goes on it too -/
section
variable {P : Program}
end
/-- A row of one's own that may begin inside its block. -/
def QRow (w : World) (base : Nat) (e : TypeId) (size : Nat) (v : Value) (n : Nat) (xs : List Value) : Prop :=
  xs.length = n * size ∧
  ((n = 0 ∧ ∃ A, v = .slice A 0 0 ∧ ∀ a, A = some a → base ≤ a.block ∧ ∃ cur, w.heap[a.block]? = some (.cells cur e (0, 0))) ∨
   ∃ g off cap cur, v = .slice (some ⟨g, off * size, none⟩) n cap ∧ base ≤ g ∧ w.heap[g]? = some (.cells cur e (0, 0)) ∧ n ≤ cap ∧ off + cap ≤ maxLen ∧ cur.size = (off + cap) * size ∧ (cur.toList.drop (off * size)).take (n * size) = xs)
section
variable {w w1 : World} {base n size : Nat} {e : TypeId} {v : Value} {xs : List Value}
theorem q_of_own (h : w.ownsRow base e size v n xs) : QRow w base e size v n xs := by
  obtain ⟨h1, h2⟩ := h
  refine ⟨h1, ?_⟩
  rcases h2 with ⟨rfl, h0⟩ | ⟨g, cap, cur, rfl, hb, hh, hnc, hcm, hcs, ht⟩
  · exact .inl ⟨h0, none, rfl, fun a ha => by cases ha⟩
  · exact .inr ⟨g, 0, cap, cur, by rw [Nat.zero_mul], hb, hh, hnc, by rw [Nat.zero_add]; exact hcm, by rw [Nat.zero_add]; exact hcs, by rw [Nat.zero_mul, List.drop_zero]; exact ht⟩
end
section
variable {P : Program}
end
/-! ### 28. The kinds' words for cuts: R_take; Q (a row that may begin inside its block) with all of R's movers -/
namespace Kd
def Q {α : Type} (d : Kd α) (e : Nat) (w : World) (base : Nat) (ok : Nat → Prop) (v : Value) (xs : List α) : Prop :=
  (∀ k, v.ownBlock = some k → ok k) ∧ ∃ inner, QRow w base e d.sz v xs.length inner ∧ Reps (d.M w base (fun k => ok k ∧ some k ≠ v.ownBlock)) d.sz xs inner
section
variable {α : Type} {d : Kd α} {e : Nat} {w w1 W : World} {base : Nat} {ok ok' : Nat → Prop} {v : Value} {xs : List α}
theorem Q_of_R (h : d.R e w base ok v xs) : d.Q e w base ok v xs := by
  obtain ⟨h0, inner, ho, hr⟩ := h
  exact ⟨h0, inner, q_of_own ho, hr⟩
theorem Q_nil (d : Kd α) (e : Nat) (w : World) (base : Nat) (ok : Nat → Prop) : d.Q e w base ok (.slice none 0 0) [] := Q_of_R (R_nil d e w base ok)
end
section
variable {P : Program} {ops : Array Oper} {rest : List Oper} {o : Oper} {a : Act} {Q' : Exit → Act → World → Prop} {Kc : Act → World → Prop} {α : Type}
end
end Kd
/-! ### 29. Movers that ask of another row no more than they need: for R and for Q -/
namespace Kd
section
variable {α : Type} {d : Kd α} {e e' : Nat} {w w1 W : World} {base : Nat} {ok : Nat → Prop} {u v : Value} {xs : List α}
end
end Kd
/-! ### 30. Elements written: x[i] = T{..}, x[i].f = v, swaps, in a row of elements of any kind -/
namespace Kd
section
variable {α : Type} {d : Kd α} {e base g n cap : Nat} {ok okp : Nat → Prop} {W : World} {xs : List α}
end
end Kd
/-! ### 31. What came in, put into what is made: 'fixed d w0' (read in w0, whatever happens since), 'or_ a b', 'mix' (a slice that came in, or one that is made) -/
namespace Kd
def fixed {α : Type} (d : Kd α) (w0 : World) : Kd α where
  sz := d.sz
  E := []
  K := fun _ x cs => d.K w0 x cs
  M := fun _ _ _ x cs => d.K w0 x cs
  K_len := d.K_len
  K_one := d.K_one
  K_below := fun _ h => h
  K_of_M := fun h => h
  M_mono := fun _ h => h
  M_bound := fun h => h
  M_move := fun _ h => h
  M_lower := fun _ h => h
def or_ {α : Type} (a b : Kd α) (h : b.sz = a.sz) : Kd α where
  sz := a.sz
  E := a.E ++ b.E
  K := fun w x cs => a.K w x cs ∨ b.K w x cs
  M := fun w base ok x cs => a.M w base ok x cs ∨ b.M w base ok x cs
  K_len := fun hk => hk.elim a.K_len (fun hk => (b.K_len hk).trans h)
  K_one := fun hk => hk.elim a.K_one b.K_one
  K_below := fun hb hk => hk.imp (a.K_below hb) (b.K_below hb)
  K_of_M := fun hk => hk.imp a.K_of_M b.K_of_M
  M_mono := fun hok hk => hk.imp (a.M_mono hok) (b.M_mono hok)
  M_bound := fun hk => hk.imp
    (fun hk => a.M_mono (fun _ ⟨h1, h2, h3, q, hq, hc⟩ => ⟨h1, h2, h3, q, List.mem_append_left _ hq, hc⟩) (a.M_bound hk))
    (fun hk => b.M_mono (fun _ ⟨h1, h2, h3, q, hq, hc⟩ => ⟨h1, h2, h3, q, List.mem_append_right _ hq, hc⟩) (b.M_bound hk))
  M_move := fun hm hk => hk.imp (a.M_move hm) (b.M_move hm)
  M_lower := fun hb hk => hk.imp (a.M_lower hb) (b.M_lower hb)
/-- A slice whose elements are read by d when it came in, and are of kind dm when it is made. -/
def mix {α : Type} (e : Nat) (d dm : Kd α) (w0 : World) : Kd (List α) := or_ (fixed (slice e d) w0) (slice e dm) rfl
section
variable {α : Type} {F : Kd α → Kd α} {sz : Nat} {E : List Nat} {hs : ∀ n, (upto F sz E n).sz = sz} {hE : ∀ n q, q ∈ (upto F sz E n).E → q ∈ E}
end
end Kd
/-! ### 32. A whole row appended, of elements of any kind; copy onto a row of scalars of one's own -/
namespace Kd
theorem reps_append {α : Type} {R : α → List Value → Prop} {size : Nat} {ps qs : List α} {cs ds : List Value} (h : Reps R size ps cs) (h' : Reps R size qs ds) : Reps R size (ps ++ qs) (cs ++ ds) := by
  refine ⟨by rw [List.length_append, List.length_append, h.1, h'.1, Nat.add_mul], fun j p hj => ?_⟩
  rcases Nat.lt_or_ge j ps.length with hlt | hge
  · rw [List.getElem?_append_left hlt] at hj
    have hle : j * size + size ≤ cs.length := by rw [h.1, ← Nat.succ_mul]; exact Nat.mul_le_mul_right _ hlt
    rw [List.drop_append_of_le_length (by omega), List.take_append_of_le_length (by rw [List.length_drop]; omega)]
    exact h.2 j p hj
  · rw [List.getElem?_append_right hge] at hj
    have h2 := h'.2 (j - ps.length) p hj
    have hle : ps.length * size ≤ j * size := Nat.mul_le_mul_right _ hge
    rw [List.drop_append, List.drop_eq_nil_of_le (by rw [h.1]; exact hle), List.nil_append, h.1, ← Nat.sub_mul]
    exact h2
section
variable {P : Program} {ops : Array Oper} {rest : List Oper} {o : Oper} {a : Act} {Q : Exit → Act → World → Prop} {α : Type}
/-- append(v, ys...): Rr is what is known of a read element's cells (d.K W; or k<T>.K w0 for a row that came in), hKM: it may stand as_ made. -/
theorem R_append_rows (d : Kd α) {Rr : α → List Value → Prop} {w0 W : World} (base : Nat) (hgd : o.guard = none) (s x : Operand) (t e : TypeId) (z : Value) (bytes : Nat)
    (ho : o.op = .call { callee := .builtin .append, args := #[s, x], argTypes := #[t, t] })
    (ht : P.underlying t = some (.slice e)) (hinfo : (P.info? e).map (fun i => (i.zero, i.size, i.bytes)) = some (some z, d.sz, bytes)) (hz : z.cells.size = d.sz) (hs0 : 0 < d.sz) (hb0 : 0 < bytes)
    (v : Value) (xs ys : List α) (A : Option Addr) (m c : Nat) (ok okp : Nat → Prop) (hs : a.eval s = v) (hx : a.eval x = .slice A m c)
    (HO : d.R e W base ok v xs) (HR : ReadsRow Rr d.sz W A m ys) (hKM : ∀ x cs, Rr x cs → d.M W base okp x cs) (hokp : ∀ k, okp k → ok k ∧ some k ≠ v.ownBlock) (hfresh : ∀ k, W.heap.size ≤ k → ok k)
    (HB : Below base w0 W) (hbase : base ≤ W.heap.size) (hl : (xs.length + m) * bytes ≤ 140737488355328)
    (h : ∀ v1 w1, d.R e w1 base ok v1 (xs ++ ys) → Below base w0 w1 → W.grownBy w1 v.ownBlock → (v1.ownBlock = v.ownBlock ∨ ∃ b, v1.ownBlock = some b ∧ W.heap.size ≤ b) → wpList P ops Q rest (a.put o.dst v1) w1) :
    wpList P ops Q (o :: rest) a W := by
  obtain ⟨i0, hi, hzz⟩ := Option.map_eq_some_iff.1 hinfo
  simp only [Prod.mk.injEq] at hzz
  obtain ⟨hz0, hz1, hz2⟩ := hzz
  have hm : ys.length = m := HR.1
  have hlen : xs.length + m ≤ 140737488355328 := Nat.le_trans (Nat.le_mul_of_pos_right _ hb0) hl
  obtain ⟨hok, inner, hown, hr⟩ := HO
  have hrun : ∃ v1 w1, (Builtin.append_ #[t, t] o.type #[v, .slice A m c]).run P W = .ok v1 w1 ∧ d.R e w1 base ok v1 (xs ++ ys) ∧ W.grownBy w1 v.ownBlock ∧ (v1.ownBlock = v.ownBlock ∨ ∃ b, v1.ownBlock = some b ∧ W.heap.size ≤ b) := by
    rcases A with _ | ad
    · have h0 : m = 0 := by
        rcases Nat.eq_zero_or_pos m with h0 | h0
        · exact h0
        · obtain ⟨ad, h, _⟩ := HR.2.2 h0
          cases h
      subst h0
      obtain rfl : ys = [] := List.eq_nil_of_length_eq_zero hm
      refine ⟨v, W, ?_, by rw [List.append_nil]; exact ⟨hok, inner, hown, hr⟩, World.grownBy.refl W _, .inl rfl⟩
      rcases hown.2 with ⟨rfl, hn⟩ | ⟨g, cap, cur, rfl, _, _, hnc, _⟩
      · simp [Builtin.append_, run_underlying ht, sizeOf, typeInfo, hi, Builtin.lenOf, Builtin.firstCells]
      · simp [Builtin.append_, run_underlying ht, sizeOf, typeInfo, hi, Builtin.lenOf, Builtin.firstCells, hnc, storeCells]
    · obtain ⟨news, hnr, hnc⟩ := ReadsRow.inner_ HR
      have hnM : Reps (d.M W base okp) d.sz ys news := hnr.imp_ (fun p c hp => hKM p c hp)
      have hone : ∀ u ∈ news, u.oneCell' = true := by
        intro u hu
        obtain ⟨q, hq, rfl⟩ := List.mem_iff_getElem.1 hu
        have hql : q / d.sz < ys.length := by
          rw [Nat.div_lt_iff_lt_mul hs0]
          rw [← hnM.1]
          exact hq
        have hc := hnM.2 (q / d.sz) _ (List.getElem?_eq_getElem hql)
        refine d.K_one (d.K_of_M hc) _ ?_
        rw [List.mem_iff_getElem?]
        refine ⟨q % d.sz, ?_⟩
        rw [List.getElem?_take, if_pos (Nat.mod_lt _ hs0), List.getElem?_drop, Nat.mul_comm, Nat.div_add_mod, List.getElem?_eq_getElem hq]
      obtain ⟨v1, w1, hrun, h2, hg, _, hat⟩ := run_append_own_at (P := P) W base t o.type e i0 z d.sz bytes ht hi hz0 hz1 hz2 hz hs0 v xs.length inner hown ad m c news (by rw [hnM.1, hm]) hnc hone (by simp only [maxLen]; omega) hl hbase
      have hat' : v1.ownBlock = v.ownBlock ∨ ∃ b, v1.ownBlock = some b ∧ W.heap.size ≤ b := by
        rcases hat with hat | hat
        · exact .inl hat
        · exact .inr ⟨_, hat, Nat.le_refl _⟩
      have hne : ∀ k, some k ≠ v.ownBlock → k < W.heap.size → some k ≠ v1.ownBlock := by
        intro k hk hlt
        rcases hat' with hat | ⟨b, hb, hle⟩
        · rw [hat]; exact hk
        · rw [hb]
          intro he
          injection he with he
          omega
      have step : ∀ {q : α} {c : List Value} {o : Nat → Prop}, d.M W base o q c → (∀ k, o k → ok k ∧ some k ≠ v.ownBlock) → d.M w1 base (fun k => ok k ∧ some k ≠ v1.ownBlock) q c := by
        intro q c o hq ho
        have h1 := d.M_move (w1 := w1) (fun k hk => hg.block k hk.2.2.1 (ho k hk.1).2) (d.M_bound hq)
        exact d.M_mono (fun k hk => ⟨(ho k hk.1).1, hne k (ho k hk.1).2 hk.2.2.1⟩) h1
      refine ⟨v1, w1, hrun, ⟨fun k hk => ?_, inner ++ news, by rw [List.length_append, hm]; exact h2, reps_append (hr.imp_ (fun _ _ hq => step hq (fun _ hk => hk))) (hnM.imp_ (fun _ _ hq => step hq hokp))⟩, hg, hat'⟩
      rcases hat' with hat | ⟨b, hb, hle⟩
      · exact hok k (hat ▸ hk)
      · rw [hb] at hk
        injection hk with hk
        exact hfresh k (by omega)
  obtain ⟨v1, w1, hr1, h1, hg, hat⟩ := hrun
  refine wpList_plain hgd fun K hK => ?_
  unfold Oper.wp execOp
  simp only [ho, resolve, invoke, builtin, Sem.run_bind, Sem.run_pure, Result.andThen_ok, List.map_toArray, List.map_cons, List.map_nil, hs, hx, hr1]
  exact hK _ _ (h v1 w1 h1 (HB.grown hg hbase (own_base hown)) hg hat)
end
end Kd
/-! ### 33. A store into a row of one's own, as_ an event: no go_simp -/
namespace Kd
section
variable {P : Program} {ops : Array Oper} {rest : List Oper} {o : Oper} {a : Act} {Q : Exit → Act → World → Prop} {α : Type}
end
end Kd
/-! ### 34. Cuts that are only read, of any row -/
theorem add_add (a : Addr) (i j : Nat) : (a.add i).add j = a.add (i + j) := by
  unfold Addr.add
  by_cases h1 : i = 0 <;> by_cases h2 : j = 0 <;> simp [h1, h2, Nat.add_assoc]
namespace Kd
section
variable {α : Type} {k : Kd α} {w : World} {A : Option Addr} {xs : List α} {m c : Nat}
end
end Kd
section
variable {P : Program}
end
/-! ### 35. string(b), b read (a cut too) -/
theorem string_of_reads {P : Program} {w : World} {src dst e : TypeId} {A : Option Addr} {n c : Nat} {xs : List Int} (hs : P.underlying src = some (.slice e)) (he : P.underlying e = some (.int .u8)) (hd : P.underlying dst = some .string)
    (h : ReadsInt w .u8 A n xs) : (convert src dst (.slice A n c)).run P w = .ok (.string (strOfNums xs)) w := by
  have hn : xs.length = n := h.1
  rcases A with _ | ad
  · have h0 : n = 0 := by
      rcases Nat.eq_zero_or_pos n with h0 | h0
      · exact h0
      · obtain ⟨ad, h', _⟩ := h.2.2 h0
        cases h'
    subst h0
    obtain rfl : xs = [] := List.eq_nil_of_length_eq_zero hn
    exact run_convert_bytes_nil w src e hs he 0 c dst hd
  · have hl : (loadCells ad n).run P w = .ok (xs.map (Value.int .u8)).toArray w := by
      have := run_loadCells_list (P := P) w ad (xs.map (Value.int .u8)) (fun j v hj => by
        have hjl : j < xs.length := by
          rcases Nat.lt_or_ge j xs.length with h' | h'
          · exact h'
          · rw [List.getElem?_eq_none (by rw [List.length_map]; exact h')] at hj
            cases hj
        obtain ⟨ad', he', hc⟩ := h.2.2 (by omega)
        injection he' with he'
        subst he'
        rw [hc j (by omega)]
        rw [List.getElem?_map, List.getElem?_eq_getElem hjl] at hj
        simp at hj
        subst hj
        simp [List.getD_eq_getElem?_getD, List.getElem?_eq_getElem hjl])
      simpa [hn] using this
    rw [run_convert_bytes_string w src dst e _ n c hs he hd, run_bytesToString w ad n c xs hl, foldl_push_bytes]
    simp [strOfNums, ByteArray.empty, ByteArray.emptyWithCapacity]
    rfl
theorem Kd.C_string {P : Program} {w : World} {src dst e : TypeId} {A : Option Addr} {n c : Nat} {xs : List Int} (hs : P.underlying src = some (.slice e)) (he : P.underlying e = some (.int .u8)) (hd : P.underlying dst = some .string)
    (h : (Kd.int .u8).C w A n xs) : (convert src dst (.slice A n c)).run P w = .ok (.string (strOfNums xs)) w :=
  string_of_reads hs he hd (Kd.reads_of_C (enc := Value.int .u8) (d := (0 : Int)) (h1 := fun _ => rfl) h)
/-! ### 6. What the printer adds -/
theorem below_size {w W : World} (h : Below w.heap.size w W) : w.heap.size ≤ W.heap.size := h.size
theorem below_step {w W w2 : World} (h : Below w.heap.size w W) (k : Below W.heap.size W w2) : Below w.heap.size w w2 := below_then h h.size k
theorem ReadsInt.nil (W : World) (k : IntKind) : ReadsInt W k none ([] : List Int).length [] := ⟨rfl, by simp, fun h => absurd h (Nat.lt_irrefl 0)⟩
theorem ReadsInt.drewN {W : World} {k : IntKind} {A : Option Addr} {n : Nat} {xs : List Int} (h : ReadsInt W k A n xs) (m : Nat) : ReadsInt (W.drewN m) k A n xs := h
theorem ReadsInt.allocS {W : World} {k : IntKind} {A : Option Addr} {n : Nat} {xs : List Int} (h : ReadsInt W k A n xs) (o : Obj) : ReadsInt (W.alloc o) k A n xs := h.below (below_alloc (Below.refl _ _) o)
theorem below_set {w W : World} {g j : Nat} {v : Value} (h : Below w.heap.size w W) (hg : w.heap.size ≤ g) : Below w.heap.size w (W.setCell ⟨g, j, none⟩ v) := h.setCell hg _
theorem keep_cell {w W : World} {g : Nat} (h : KeepBut w W g none) {a : Addr} {v : Value} (hc : w.cell? a = some v) (hne : a.block ≠ g) : W.cell? a = some v := by
  have := h.2 a.block (World.block_lt_of_cell? w a hc) hne (by simp)
  simpa [World.cell?, this] using hc
theorem add_block (a : Addr) (i : Nat) : (a.add i).block = a.block := by unfold Addr.add; split <;> rfl
theorem ReadsOf.nil {α : Type} (enc : α → Value) (d : α) (W : World) : ReadsOf enc d W none ([] : List α).length [] := ⟨rfl, by simp, fun h => absurd h (Nat.lt_irrefl 0)⟩
theorem ReadsOf.drewN {α : Type} {enc : α → Value} {d : α} {W : World} {A : Option Addr} {n : Nat} {xs : List α} (h : ReadsOf enc d W A n xs) (m : Nat) : ReadsOf enc d (W.drewN m) A n xs := h
theorem ReadsOf.allocS {α : Type} {enc : α → Value} {d : α} {W : World} {A : Option Addr} {n : Nat} {xs : List α} (h : ReadsOf enc d W A n xs) (o : Obj) : ReadsOf enc d (W.alloc o) A n xs := h.below (below_alloc (Below.refl _ _) o)
/-- An own row, or what came in, lies elsewhere than the state's block. -/
theorem far_own {W : World} {base n c g : Nat} {e : TypeId} {size : Nat} {A : Option Addr} {xs : List Value} (_ : W.ownsRow base e size (.slice A n c) n xs) (hne : some g ≠ (Value.slice A n c).ownBlock) : ∀ ad, A = some ad → 0 < n → ad.block ≠ g := by
  rintro ad rfl _ rfl
  exact hne (by simp [Value.ownBlock])
theorem ReadsInt.keep {w W : World} {k : IntKind} {A : Option Addr} {n g : Nat} {xs : List Int} (h : ReadsInt w k A n xs) (hk : KeepBut w W g none) (hf : ∀ ad, A = some ad → 0 < n → ad.block ≠ g) : ReadsInt W k A n xs :=
  ⟨h.1, h.2.1, fun hn => by
    obtain ⟨ad, e, hc⟩ := h.2.2 hn
    exact ⟨ad, e, fun j hj => keep_cell hk (hc j hj) (by rw [add_block]; exact hf ad e hn)⟩⟩
theorem ReadsOf.keep {α : Type} {enc : α → Value} {d : α} {w W : World} {A : Option Addr} {n g : Nat} {xs : List α} (h : ReadsOf enc d w A n xs) (hk : KeepBut w W g none) (hf : ∀ ad, A = some ad → 0 < n → ad.block ≠ g) : ReadsOf enc d W A n xs :=
  ⟨h.1, h.2.1, fun hn => by
    obtain ⟨ad, e, hc⟩ := h.2.2 hn
    exact ⟨ad, e, fun j hj => keep_cell hk (hc j hj) (by rw [add_block]; exact hf ad e hn)⟩⟩
theorem blk_put {w : World} {g : Nat} {t : TypeId} {cs cs' : Array Value} (h : w.heap[g]? = some (.cells cs t (0, 0))) (i : Nat) (u : Value) (e : cs.setIfInBounds i u = cs') : (w.setCell ⟨g, i, none⟩ u).heap[g]? = some (.cells cs' t (0, 0)) := e ▸ blk_set h i u
theorem own_blk {W : World} {base n c : Nat} {e : TypeId} {size g : Nat} {ad : Addr} {xs : List Value} (_ : W.ownsRow base e size (.slice (some ad) n c) n xs) (hne : some g ≠ (Value.slice (some ad) n c).ownBlock) : ad.block ≠ g := by
  rintro rfl
  exact hne (by simp [Value.ownBlock])
theorem below_drew1 {base : Nat} {w W : World} (h : Below base w W) : Below base w W.drew := h.drew
namespace Kd
section
variable {α β : Type} {d : Kd α} {d' : Kd β} {e e' base base' n : Nat} {ok ok' : Nat → Prop} {w W w1 W1 : World} {v u : Value} {xs : List α} {ys : List β} {A : Option Addr} {c : Nat}
theorem own_blk {ad : Addr} {g : Nat} (hne : some g ≠ (Value.slice (some ad) n c).ownBlock) : ad.block ≠ g := by
  rintro rfl
  exact hne (by simp [Value.ownBlock])
theorem far_own {g : Nat} (_ : d.R e w base ok (.slice A n c) xs) (hne : some g ≠ (Value.slice A n c).ownBlock) : ∀ ad, A = some ad → 0 < n → ad.block ≠ g := by
  rintro ad rfl _ rfl
  exact hne (by simp [Value.ownBlock])
end
section
variable {α : Type} {enc : α → Value} {h1 : ∀ x, (enc x).oneCell' = true} {w W : World} {A : Option Addr} {n g : Nat} {xs : List α}
end
end Kd
namespace Kd
section
variable {α : Type} {d : Kd α} {e base g : Nat} {ok : Nat → Prop} {w w1 : World} {v : Value} {xs : List α} {o : Obj}
theorem freshB (hb : w.heap[g]? = some o) : ∀ k, w.heap.size ≤ k → k ≠ g := fun k hk => by have := blk_lt hb; omega
end
end Kd
section
variable {P : Program} {ops : Array Oper} {rest : List Oper} {o : Oper} {a : Act} {Q : Exit → Act → World → Prop}
theorem box_event {W : World} (hgd : o.guard = none) {N : Tmp} (_hd : o.dst = some N) {cs : Array Value} {t : TypeId}
    (hrun : (execOp a.eval o).run P W = .ok (.value (.pointer (some ⟨W.heap.size, 0, none⟩))) (W.alloc (.cells cs t (0, 0))))
    (h : ∀ g, g = W.heap.size → ∀ w1, w1.heap[g]? = some (.cells cs t (0, 0)) → Below W.heap.size W w1 → wpList P ops Q rest (a.put o.dst (.pointer (some ⟨g, 0, none⟩))) w1) : wpList P ops Q (o :: rest) a W :=
  Kd.event_run hgd hrun (h _ rfl _ (blk_new W _) (below_alloc (Below.refl _ _) _))
end
namespace Kd
section
variable {α : Type} {enc : α → Value} {h1 : ∀ x, (enc x).oneCell' = true} {e base g n cap : Nat} {ok : Nat → Prop} {W : World} {xs : List α}
end
end Kd
section
variable {P : Program} {ops : Array Oper} {rest : List Oper} {o : Oper} {a : Act} {Q : Exit → Act → World → Prop}
end
namespace Kd
section
variable {α : Type} {enc : α → Value} {h1 : ∀ x, (enc x).oneCell' = true} {e base g n cap : Nat} {ok : Nat → Prop} {W : World} {xs : List α}
end
end Kd
section
variable {P : Program} {ops : Array Oper} {rest : List Oper} {o : Oper} {a : Act} {Q : Exit → Act → World → Prop} {W : World}
theorem gate_dst {N : Tmp} (_hN : o.dst = some N) (h : wpList P ops Q (o :: rest) a W) : wpList P ops Q (o :: rest) a W := h
end
/-! ### 36. Events as_ one step of a region that draws (for one_, two_, three_) -/
section
variable {P : Program} {ops : Array Oper} {o : Oper} {a : Act} {Q : Exit → Act → World → Prop} {Kc : Act → World → Prop}
namespace Kd
variable {α : Type}
end Kd
end
/-! ### 37. Results of any shape -/
inductive Vals (P : Program) (tmps : Array Value) (w : World) : List ResultVar → List Value → Prop where
  | nil : Vals P tmps w [] []
  | tmp {u : Tmp} {rs : List ResultVar} {vs : List Value} (h : Vals P tmps w rs vs) : Vals P tmps w (.tmp u :: rs) (tmps.getD u undef :: vs)
  | cell {p : Tmp} {ty : TypeId} {rs : List ResultVar} {vs : List Value} (g : Nat) (t : TypeId) (cs : Array Value) (fr : Nat × Nat) (d : TypeDesc)
      (hp : tmps.getD p undef = .pointer (some ⟨g, 0, none⟩)) (hg : w.heap[g]? = some (.cells cs t fr))
      (hu : P.underlying ty = some d) (hd : (match d with | .struct _ | .array _ _ => true | _ => false) = true) (hi : (P.info? ty).map (·.size) = some cs.size)
      (h : Vals P tmps w rs vs) : Vals P tmps w (.cell p ty :: rs) (.agg cs :: vs)
section
variable {P : Program} {tmps : Array Value} {w : World}
end
/-! ### 38. 'out = append(out[:k], out[k+1:]...)': an element taken out of a row of one's own, in place -/
namespace Kd
section
variable {P : Program} {α : Type}
end
section
variable {P : Program} {ops : Array Oper} {rest : List Oper} {o : Oper} {a : Act} {Q : Exit → Act → World → Prop} {Kc : Act → World → Prop} {α : Type}
end
end Kd

end Go.Proofs.YtfcghajnnllmhaaW.PrintWords

/-! ### 58. A guarded operation whose guard is known to want it: the same goal without the guard -/
namespace Go.Proofs.YtfcghajnnllmhaaW.PrintWords
open Go.RowKit
section
variable {P : Program} {ops : Array Oper} {rest : List Oper} {o : Oper} {a : Act} {Q : Exit → Act → World → Prop} {W : World}
/-- The gate takes the guard off (hw: 'by rfl', 'by kernel_rfl': the guard's slot holds what is wanted). -/
theorem gate_guard (hw : Region.wanted o (yielded ops a.tmps) = true) (h : wpList P ops Q ({ o with guard := none } :: rest) a W) : wpList P ops Q (o :: rest) a W := by
 have h1 : Region.wanted { o with guard := none } (yielded ops a.tmps) = true := rfl
 unfold wpList at h ⊢
 rw [if_pos h1] at h
 rw [if_pos hw]
 exact h
end
end Go.Proofs.YtfcghajnnllmhaaW.PrintWords

/-
 PRINTED WORDS,second file: A REGION THAT DRAWS ITS ORDER,WALKED BY HAND,where its last store writes what its own loads read ('x.f = append(x.f,f(i))'). Plain theorems;no macro,no elab. A claim may hold it (turn the namespace's name).
 A load may be taken first in every world that meets S;behind the operations of ds nothing is shown;sound because each of ds waits for what is taken (Region.lastB). The kernel checks it.
 By an AI agent of Go's test side,Mon Nov 16 2026. No person has read it.
-/
namespace Go.Proofs.YtfcghajnnllmhaaW.PrintLast

section
variable {P : Program} {ops : Array Oper} {Q : Exit → Act → World → Prop} {md : Region.Mode} {S : World → Prop} {ds : List Nat}

/-- Operation d waits for operation i, by a chain of at most 'fuel' edges. -/
def Region.reachB (md : Region.Mode) (ops : Array Oper) (i : Nat) : Nat → Nat → Bool
 | 0,_ => false
 | fuel + 1,d => match ops[d]? with
  | some o => o.after.any fun e => Region.binds md e && (e.on == i || Region.reachB md ops i fuel e.on)
  | none => false

/-- What is listed is closed under the edges. -/
def Region.closedB (md : Region.Mode) (ops : Array Oper) (listed : Array Bool) : Bool :=
 (List.range ops.size).all fun j => !listed.getD j false || match ops[j]? with
  | some o => o.after.all fun e => !Region.binds md e || listed.getD e.on false
  | none => true

/-- Each of ds that has not come up yet waits for number i. -/
def Region.lastB (md : Region.Mode) (ops : Array Oper) (listed : Array Bool) (ds : List Nat) (i : Nat) : Bool :=
 ds.all fun d => listed.getD d true || Region.reachB md ops i ops.size d

def ListedClosed (md : Region.Mode) (ops : Array Oper) (listed : Array Bool) : Prop :=
 ∀ j oj,ops[j]? = some oj → listed.getD j false = true → ∀ e ∈ oj.after,Region.binds md e = true → listed.getD e.on false = true

theorem Region.closedB_spec {listed : Array Bool} (h : Region.closedB md ops listed = true) : ListedClosed md ops listed := by
 intro j oj hj hl e he hb
 have hlt : j < ops.size := (Array.getElem?_eq_some_iff.1 hj).1
 have h1 := List.all_eq_true.1 h j (List.mem_range.2 hlt)
 simp only [hl,hj,Bool.not_true,Bool.false_or] at h1
 have h2 := Array.all_eq_true_iff_forall_mem.1 h1 e he
 simpa [hb] using h2

theorem ListedClosed.set {listed : Array Bool} {i : Nat} (h : ListedClosed md ops listed) (hi : i ∈ Region.ready md ops listed) : ListedClosed md ops (listed.setIfInBounds i true) := by
 obtain ⟨_,oi,hoi,hall⟩ := mem_ready.1 hi
 intro j oj hj hl e he hb
 by_cases hij : i = j
 ·subst hij
  have : oj = oi := Option.some.inj (hj.symm.trans hoi)
  subst this
  exact getD_set_true (hall e he hb)
 ·rw [getD_set_ne false hij] at hl
  exact getD_set_true (h j oj hj hl e he hb)

theorem Region.reach_listed {listed : Array Bool} {i : Nat} (hc : ListedClosed md ops listed) : ∀ (fuel d : Nat),Region.reachB md ops i fuel d = true → listed.getD d false = true → listed.getD i false = true
 | 0,_,h,_ => by simp [Region.reachB] at h
 | fuel + 1,d,h,hl => by
  unfold Region.reachB at h
  cases ho : ops[d]? with
  | none => rw [ho] at h;simp at h
  | some o =>
   rw [ho] at h
   obtain ⟨e,he,h1⟩ := Array.any_eq_true'.1 h
   simp only [Bool.and_eq_true,Bool.or_eq_true,beq_iff_eq] at h1
   have hle := hc d o ho hl e he h1.1
   rcases h1.2 with h2 | h2
   ·rw [← h2];exact hle
   ·exact Region.reach_listed hc fuel e.on h2 hle

/-- What waits for i cannot come up before i is listed. -/
theorem Region.reach_not_ready {listed : Array Bool} {i d fuel : Nat} (hc : ListedClosed md ops listed) (hr : Region.reachB md ops i fuel d = true) (hun : listed.getD i true = false) : d ∉ Region.ready md ops listed := by
 intro hd
 obtain ⟨_,o,ho,hall⟩ := mem_ready.1 hd
 have hi : listed.getD i false = true := by
  cases fuel with
  | zero => simp [Region.reachB] at hr
  | succ n =>
   unfold Region.reachB at hr
   rw [ho] at hr
   obtain ⟨e,he,h1⟩ := Array.any_eq_true'.1 hr
   simp only [Bool.and_eq_true,Bool.or_eq_true,beq_iff_eq] at h1
   have hle := hall e he h1.1
   rcases h1.2 with h2 | h2
   ·rw [← h2];exact hle
   ·exact Region.reach_listed hc n e.on h2 hle
 rcases Nat.lt_or_ge i listed.size with h' | h'
 ·simp [h'] at hun hi
  rw [hun] at hi
  cases hi
 ·simp [Array.getElem?_eq_none h'] at hun

/-- Whatever order is picked from here on, AND 'S' HOLDS BEHIND EVERY OPERATION THAT IS CARRIED OUT, those of ds apart. -/
def wpAnyLast (P : Program) (md : Region.Mode) (ops : Array Oper) (Q : Exit → Act → World → Prop) (S : World → Prop) (ds : List Nat) : Nat → Array Bool → Act → World → Prop
 | 0,listed,a,w => Region.ready md ops listed = [] ∧ Q .normal a w
 | fuel + 1,listed,a,w =>
  (Region.ready md ops listed = [] → Q .normal a w) ∧
  ∀ i ∈ Region.ready md ops listed,wpOp P ops Q i (fun a' w' => (i ∉ ds → S w → S w') ∧ wpAnyLast P md ops Q S ds fuel (listed.setIfInBounds i true) a' w') a w

theorem wpAny_of_last : ∀ (fuel : Nat) (listed : Array Bool) (a : Act) (w : World),wpAnyLast P md ops Q S ds fuel listed a w → wpAny P md ops Q fuel listed a w
 | 0,_,_,_,h => h
 | fuel + 1,_,_,_,h => ⟨h.1,fun i hi => wpOp_mono (fun a' w' h' => wpAny_of_last fuel _ a' w' h'.2) (h.2 i hi)⟩

theorem wpAnyLast_first {i : Nat} {oi : Oper} {v : Value} (hi : ops[i]? = some oi) (hsel : ∀ (j : Nat) (o : Oper) cs b,ops[j]? = some o → o.op ≠ .select cs b)
  (hQ : ∀ c a w,Q (.panic c) (a.put oi.dst v) w → Q (.panic c) a w) (n : Nat) :
  ∀ (fuel : Nat) (listed : Array Bool) (a : Act) (w : World),
   (∀ j oj,ops[j]? = some oj → j ≠ i → listed.getD j true = false → (∀ e ∈ oj.after,Region.binds md e = true → e.on ≠ i) → oi.apart ops oj = true) →
   ListedClosed md ops listed → (∀ d ∈ ds,listed.getD d true = false → Region.reachB md ops i n d = true) →
   i ∈ Region.ready md ops listed → YieldsIf P ops S oi v a → S w →
   wpAnyLast P md ops Q S ds fuel (listed.setIfInBounds i true) (a.put oi.dst v) w → wpAnyLast P md ops Q S ds (fuel + 1) listed a w := by
 intro fuel
 induction fuel with
 | zero =>
  intro listed a w _ _ _ hr hy hS H
  refine ⟨fun h => (by rw [h] at hr;cases hr),fun j hj => ?_⟩
  by_cases hji : j = i
  ·subst hji;exact hy.wpOp hi hS ⟨fun _ h => h,H⟩
  ·have := ready_mono hj hji
   rw [H.1] at this
   cases this
 | succ fuel ih =>
  intro listed a w hfree hc hd hr hy hS H
  refine ⟨fun h => (by rw [h] at hr;cases hr),fun j hj => ?_⟩
  by_cases hji : j = i
  ·subst hji;exact hy.wpOp hi hS ⟨fun _ h => h,H⟩
  ·have h1 := H.2 j (ready_mono hj hji)
   obtain ⟨hjun,oj,hoj,hall⟩ := mem_ready.1 hj
   have hiun := (mem_ready.1 hr).1
   have hnot : ∀ e ∈ oj.after,Region.binds md e = true → e.on ≠ i := fun e he hb heq => by
    have h1 := hall e he hb
    rw [heq] at h1
    rcases Nat.lt_or_ge i listed.size with h' | h'
    ·simp [h'] at hiun h1;rw [hiun] at h1;cases h1
    ·simp [Array.getElem?_eq_none h'] at h1
   have hjd : j ∉ ds := fun hm => Region.reach_not_ready hc (hd j hm hjun) hiun hj
   have h2 := wpOp_putIf hoj (hfree j oj hoj hji hjun hnot) (fun cs b => hsel i oi cs b hi) (fun cs b => hsel j oj cs b hoj) hQ hy h1
   have hfree' : ∀ k ok,ops[k]? = some ok → k ≠ i → (listed.setIfInBounds j true).getD k true = false →
     (∀ e ∈ ok.after,Region.binds md e = true → e.on ≠ i) → oi.apart ops ok = true := fun k ok hk hki hun hno => by
    refine hfree k ok hk hki ?_ hno
    by_cases hjk : j = k
    ·subst hjk;exact hjun
    ·rw [getD_set_ne true hjk] at hun;exact hun
   have hd' : ∀ d ∈ ds,(listed.setIfInBounds j true).getD d true = false → Region.reachB md ops i n d = true := fun d hm hun => by
    refine hd d hm ?_
    by_cases hjk : j = d
    ·subst hjk;exact hjun
    ·rw [getD_set_ne true hjk] at hun;exact hun
   refine wpOp_mono (fun a' w' h3 => ⟨h3.2.1,ih (listed.setIfInBounds j true) a' w' hfree' (hc.set hj) hd' (ready_mono hr (Ne.symm hji)) h3.1 (h3.2.1 hjd hS) ?_⟩) h2
   rw [Array.setIfInBounds_comm _ _ hji]
   exact h3.2.2

/-- Take number 'i' first, which yields whatever the world: no S is asked for, nor that anything waits for it. -/
theorem wpAnyLast_any {i : Nat} {oi : Oper} {v : Value} (hi : ops[i]? = some oi) (hsel : ∀ (j : Nat) (o : Oper) cs b,ops[j]? = some o → o.op ≠ .select cs b)
  (hQ : ∀ c a w,Q (.panic c) (a.put oi.dst v) w → Q (.panic c) a w) :
  ∀ (fuel : Nat) (listed : Array Bool) (a : Act) (w : World),
   (∀ j oj,ops[j]? = some oj → j ≠ i → listed.getD j true = false → (∀ e ∈ oj.after,Region.binds md e = true → e.on ≠ i) → oi.apart ops oj = true) →
   i ∈ Region.ready md ops listed → Yields P ops oi v a →
   wpAnyLast P md ops Q S ds fuel (listed.setIfInBounds i true) (a.put oi.dst v) w → wpAnyLast P md ops Q S ds (fuel + 1) listed a w := by
 intro fuel
 induction fuel with
 | zero =>
  intro listed a w _ hr hy H
  refine ⟨fun h => (by rw [h] at hr;cases hr),fun j hj => ?_⟩
  by_cases hji : j = i
  ·subst hji;exact (hy.yieldsIf (S := fun _ => True)).wpOp hi trivial ⟨fun _ h => h,H⟩
  ·have := ready_mono hj hji
   rw [H.1] at this
   cases this
 | succ fuel ih =>
  intro listed a w hfree hr hy H
  refine ⟨fun h => (by rw [h] at hr;cases hr),fun j hj => ?_⟩
  by_cases hji : j = i
  ·subst hji;exact (hy.yieldsIf (S := fun _ => True)).wpOp hi trivial ⟨fun _ h => h,H⟩
  ·have h1 := H.2 j (ready_mono hj hji)
   obtain ⟨hjun,oj,hoj,hall⟩ := mem_ready.1 hj
   have hiun := (mem_ready.1 hr).1
   have hnot : ∀ e ∈ oj.after,Region.binds md e = true → e.on ≠ i := fun e he hb heq => by
    have h1 := hall e he hb
    rw [heq] at h1
    rcases Nat.lt_or_ge i listed.size with h' | h'
    ·simp [h'] at hiun h1;rw [hiun] at h1;cases h1
    ·simp [Array.getElem?_eq_none h'] at h1
   have h2 := wpOp_put hoj (hfree j oj hoj hji hjun hnot) (fun cs b => hsel i oi cs b hi) (fun cs b => hsel j oj cs b hoj) hQ hy h1
   have hfree' : ∀ k ok,ops[k]? = some ok → k ≠ i → (listed.setIfInBounds j true).getD k true = false →
     (∀ e ∈ ok.after,Region.binds md e = true → e.on ≠ i) → oi.apart ops ok = true := fun k ok hk hki hun hno => by
    refine hfree k ok hk hki ?_ hno
    by_cases hjk : j = k
    ·subst hjk;exact hjun
    ·rw [getD_set_ne true hjk] at hun;exact hun
   refine wpOp_mono (fun a' w' h3 => ⟨h3.2.1,ih (listed.setIfInBounds j true) a' w' hfree' (ready_mono hr (Ne.symm hji)) h3.1 ?_⟩) h2
   rw [Array.setIfInBounds_comm _ _ hji]
   exact h3.2.2

/-- Take number 'i' first. -/
theorem wpAnyLast_take {i : Nat} {oi : Oper} {v : Value} {fuel : Nat} {listed : Array Bool} {a : Act} {w : World} (hi : ops[i]? = some oi)
  (hs : Region.noSelect ops = true) (hf : Region.free md ops listed i = true) (hr : (Region.ready md ops listed).contains i = true)
  (hc : Region.closedB md ops listed = true) (hl : Region.lastB md ops listed ds i = true)
  (hQ : ∀ c a w,Q (.panic c) (a.put oi.dst v) w → Q (.panic c) a w) (hy : YieldsIf P ops S oi v a) (hS : S w)
  (h : wpAnyLast P md ops Q S ds fuel (listed.setIfInBounds i true) (a.put oi.dst v) w) : wpAnyLast P md ops Q S ds (fuel + 1) listed a w :=
 wpAnyLast_first hi (Region.noSelect_spec hs) hQ ops.size fuel listed a w (Region.free_spec hi hf) (Region.closedB_spec hc)
  (fun d hm hun => by have := List.all_eq_true.1 hl d hm;rw [hun] at this;simpa using this) (by simpa using hr) hy hS h

theorem wpAnyLast_all {rs : List Nat} {fuel : Nat} {listed : Array Bool} {a : Act} {w : World} (hr : Region.ready md ops listed = rs) (hne : rs ≠ [])
  (h : ∀ i ∈ rs,wpOp P ops Q i (fun a' w' => (i ∉ ds → S w → S w') ∧ wpAnyLast P md ops Q S ds fuel (listed.setIfInBounds i true) a' w') a w) : wpAnyLast P md ops Q S ds (fuel + 1) listed a w :=
 ⟨fun h0 => absurd (hr ▸ h0) hne,hr ▸ h⟩

theorem wpAnyLast_done {listed : Array Bool} {a : Act} {w : World} (hr : Region.ready md ops listed = []) (h : Q .normal a w) :
  ∀ fuel,wpAnyLast P md ops Q S ds fuel listed a w
 | 0 => ⟨hr,h⟩
 | _ + 1 => ⟨fun _ => h,by rw [hr];simp⟩

theorem wp_region_last {id : Nat} {a : Act} {w : World} (hm : P.follows .mixedOrders = true)
  (h : wpAnyLast P .any ops Q S ds ops.size (Array.replicate ops.size false) a { w with drawn := w.drawn + 1 }) : (Code.region id ops true).wp P Q a w :=
 wp_region_any hm (wpAny_of_last _ _ _ _ h)

end

section
variable {P : Program} {ops : Array Oper} {Q : Exit → Act → World → Prop} {md : Region.Mode} {S : World → Prop} {ds : List Nat}

def AllReadyL (P : Program) (md : Region.Mode) (ops : Array Oper) (Q : Exit → Act → World → Prop) (S : World → Prop) (ds : List Nat) (fuel : Nat) (listed : Array Bool) (a : Act) (w : World) (rs : List Nat) : Prop :=
 ∀ i ∈ rs,wpOp P ops Q i (fun a' w' => (i ∉ ds → S w → S w') ∧ wpAnyLast P md ops Q S ds fuel (listed.setIfInBounds i true) a' w') a w
theorem AllReadyL.nil {fuel : Nat} {listed : Array Bool} {a : Act} {w : World} : AllReadyL P md ops Q S ds fuel listed a w [] := fun _ h => by cases h
theorem AllReadyL.cons {fuel : Nat} {listed : Array Bool} {a : Act} {w : World} {i : Nat} {o : Oper} {rs : List Nat} (ho : ops[i]? = some o) (hd : i ∉ ds)
  (h : ∀ K' : Act → World → Prop,Shut (∀ a w,S w → (S w → wpAnyLast P md ops Q S ds fuel (listed.setIfInBounds i true) a w) → K' a w) → if Region.wanted o (yielded ops a.tmps) = true then Oper.wp P o a w K' Q else K' (a.put o.dst undef) w)
  (hs : AllReadyL P md ops Q S ds fuel listed a w rs) : AllReadyL P md ops Q S ds fuel listed a w (i :: rs) := fun j hj => by
 rcases List.mem_cons.1 hj with rfl | hj
 ·exact wpOp_step ho (fun K' hK => h K' (fun a w hS hW => hK a w ⟨fun _ _ => hS,hW hS⟩))
 ·exact hs j hj
theorem wpAnyLast_ready {rs : List Nat} {fuel : Nat} {listed : Array Bool} {a : Act} {w : World} (hr : Region.ready md ops listed = rs) (hne : rs ≠ [])
  (h : AllReadyL P md ops Q S ds fuel listed a w rs) : wpAnyLast P md ops Q S ds (fuel + 1) listed a w := wpAnyLast_all hr hne h
/-- THE SAME STEPS WITH WHAT HAS COME UP WRITTEN OUT (a literal array of Bools) and one check a step: quicker, and what is printed stays short. -/
theorem start_ {id n : Nat} {a : Act} {w : World} (l : Array Bool) (hm : P.follows .mixedOrders = true) (hn : ops.size = n) (hl : Array.replicate n false = l) (hS : S w.drew)
  (h : S w.drew → wpAnyLast P .any ops Q S ds n l a w.drew) : (Code.region id ops true).wp P Q a w := by
 subst hn
 subst hl
 exact wp_region_last hm (h hS)
def takeB (md : Region.Mode) (ops : Array Oper) (ds : List Nat) (l l' : Array Bool) (i : Nat) : Bool :=
 Region.noSelect ops && Region.free md ops l i && (Region.ready md ops l).contains i && Region.closedB md ops l && Region.lastB md ops l ds i && (l.setIfInBounds i true == l')
theorem take_ {i : Nat} {N : Option Tmp} {oi : Oper} {v : Value} {fuel : Nat} {l : Array Bool} {a : Act} {w : World} (l' : Array Bool) (hi : ops[i]? = some oi) (hN : oi.dst = N) (hc : takeB md ops ds l l' i = true)
  (hQ : ∀ c a w,Q (.panic c) (a.put oi.dst v) w → Q (.panic c) a w) (hy : YieldsIf P ops S oi v a) (hS : S w) {a' : Act} (ha : a.put N v = a')
  (h : wpAnyLast P md ops Q S ds fuel l' a' w) : wpAnyLast P md ops Q S ds (fuel + 1) l a w := by
 subst ha
 subst hN
 simp only [takeB,Bool.and_eq_true,beq_iff_eq] at hc
 obtain ⟨⟨⟨⟨⟨h1,h2⟩,h3⟩,h4⟩,h5⟩,h6⟩ := hc
 subst h6
 exact wpAnyLast_take hi h1 h2 h3 h4 h5 hQ hy hS h
def anyB (md : Region.Mode) (ops : Array Oper) (l l' : Array Bool) (i : Nat) : Bool :=
 Region.noSelect ops && Region.free md ops l i && (Region.ready md ops l).contains i && (l.setIfInBounds i true == l')
/-- An operation that yields in every world (a move, a number, an address): taken first wherever it may come up, behind a store too. -/
theorem pure_ {i : Nat} {N : Option Tmp} {oi : Oper} {v : Value} {fuel : Nat} {l : Array Bool} {a : Act} {w : World} (l' : Array Bool) (hi : ops[i]? = some oi) (hN : oi.dst = N) (hc : anyB md ops l l' i = true)
  (hQ : ∀ c a w,Q (.panic c) (a.put oi.dst v) w → Q (.panic c) a w) (hy : Yields P ops oi v a) {a' : Act} (ha : a.put N v = a')
  (h : wpAnyLast P md ops Q S ds fuel l' a' w) : wpAnyLast P md ops Q S ds (fuel + 1) l a w := by
 subst ha
 subst hN
 simp only [anyB,Bool.and_eq_true,beq_iff_eq] at hc
 obtain ⟨⟨⟨h1,h2⟩,h3⟩,h6⟩ := hc
 subst h6
 exact wpAnyLast_any hi (Region.noSelect_spec h1) hQ fuel l a w (Region.free_spec hi h2) (by simpa using h3) hy h
def readyB (md : Region.Mode) (ops : Array Oper) (l l' : Array Bool) (i : Nat) : Bool := (Region.ready md ops l == [i]) && (l.setIfInBounds i true == l')
/-- One operation alone may come up now (a call, a build, an append ..): it is run, S is shown behind it. -/
theorem one_ {i : Nat} {N : Option Tmp} {oi : Oper} {fuel : Nat} {l : Array Bool} {a : Act} {w : World} (l' : Array Bool) (hi : ops[i]? = some oi) (hN : oi.dst = N) (hc : readyB md ops l l' i = true) (hd : i ∉ ds)
  (h : ∀ K : Act → World → Prop,Shut (∀ a' w',S w' → (S w' → wpAnyLast P md ops Q S ds fuel l' a' w') → K a' w') → if Region.wanted oi (yielded ops a.tmps) = true then Oper.wp P oi a w K Q else K (a.put N undef) w) :
  wpAnyLast P md ops Q S ds (fuel + 1) l a w := by
 subst hN
 simp only [readyB,Bool.and_eq_true,beq_iff_eq] at hc
 obtain ⟨h1,h2⟩ := hc
 subst h2
 exact wpAnyLast_ready h1 (by simp) (AllReadyL.cons hi hd (fun K hK => h K hK) AllReadyL.nil)
theorem done_ {l : Array Bool} {a : Act} {w : World} {n : Nat} (hr : (Region.ready md ops l == []) = true) (h : Q .normal a w) : wpAnyLast P md ops Q S ds n l a w := wpAnyLast_done (by simpa using hr) h n
/-! ### Several operations that write or call may come up: each order is walked, what follows is shown once (join_) -/
/-- The act with some destinations filled. -/
def putAll : Act → List (Tmp × Value) → Act
 | a,[] => a
 | a,(n,v) :: r => putAll (a.put (some n) v) r
/-- The act written out. -/
theorem norm_ {fuel : Nat} {l : Array Bool} {a a' : Act} {w : World} (ha : a = a') (h : wpAnyLast P md ops Q S ds fuel l a' w) : wpAnyLast P md ops Q S ds fuel l a w := by
 subst ha
 exact h
/-- A call of a Go function, by its contract. -/
theorem call_ {oi : Oper} {N : Option Tmp} {a : Act} {w : World} {K : Act → World → Prop} (f : FuncId) (args : Array Value) (hw : Region.wanted oi (yielded ops a.tmps) = true) (hN : oi.dst = N) (hrun : (execOp a.eval oi).run P w = .ok (.enter f args) w)
  (h : Calls P f args w fun e w' => ∃ v,e = .returned v ∧ K (a.put N v) w') : if Region.wanted oi (yielded ops a.tmps) = true then Oper.wp P oi a w K Q else K (a.put N undef) w := by
 rw [if_pos hw]
 subst hN
 unfold Oper.wp
 rw [hrun,Oper.upon_enter]
 refine h.mono fun e w'' hh => ?_
 obtain ⟨v,rfl,hk⟩ := hh
 exact hk
theorem enters_ {f : FuncId} {fn : Func} (hf : P.funcs[f]? = some fn) (hname : (fn.name == "runtime.NumGoroutine") = false) (hb : fn.body.isSome = true) (args : Array Value) (w : World) : (callFunc f args).run P w = .ok (.enter f args) w := by
 have h1 : fn.name ≠ "runtime.NumGoroutine" := by simpa using hname
 obtain ⟨c,hc⟩ := Option.isSome_iff_exists.1 hb
 simp [callFunc,hf,h1,hc]
/-- The same, the operation's run shown here: 'goes_ A.func3 (by kernel_rfl) rfl #[..] (by rfl) rfl rfl (by rfl) ?_'. -/
theorem goes_ {oi : Oper} {N : Option Tmp} {a : Act} {w : World} {K : Act → World → Prop} {f : FuncId} {fn : Func} {as_ : Array Operand} {ts : Array TypeId} (hf : P.funcs[f]? = some fn) (hname : (fn.name == "runtime.NumGoroutine") = false) (hb : fn.body.isSome = true) (args : Array Value)
  (hw : Region.wanted oi (yielded ops a.tmps) = true) (hN : oi.dst = N) (hop : oi.op = .call { callee := .value (.func f),args := as_,argTypes := ts }) (hargs : as_.map a.eval = args)
  (h : Calls P f args w fun e w' => ∃ v,e = .returned v ∧ K (a.put N v) w') : if Region.wanted oi (yielded ops a.tmps) = true then Oper.wp P oi a w K Q else K (a.put N undef) w := by
 refine call_ f args hw hN ?_ h
 have he := enters_ hf hname hb args w
 unfold execOp
 simp [hop,resolve,Deferred.ofValue,invoke,Act.eval,hargs,he]
/-- A call in a plain region, as_ an arm of go_wp2_with ('hd' first: it fails at once at another operation). -/
theorem goesL_ {rest : List Oper} {oi : Oper} {a : Act} {w : World} (N : Option Tmp) (hd : oi.dst = N) (hg : oi.guard = none) {f : FuncId} {fn : Func} {as_ : Array Operand} {ts : Array TypeId} (hf : P.funcs[f]? = some fn) (hname : (fn.name == "runtime.NumGoroutine") = false) (hb : fn.body.isSome = true) (args : Array Value)
  (hop : oi.op = .call { callee := .value (.func f),args := as_,argTypes := ts }) (hargs : as_.map a.eval = args)
  (h : Calls P f args w fun e w' => ∃ v,e = .returned v ∧ wpList P ops Q rest (a.put N v) w') : wpList P ops Q (oi :: rest) a w := by
 refine wpList_plain hg fun K hK => ?_
 have he := enters_ hf hname hb args w
 have hrun : (execOp a.eval oi).run P w = .ok (.enter f args) w := by
  unfold execOp
  simp [hop,resolve,Deferred.ofValue,invoke,Act.eval,hargs,he]
 unfold Oper.wp
 rw [hrun,Oper.upon_enter]
 refine h.mono fun e w'' hh => ?_
 obtain ⟨v,rfl,hk⟩ := hh
 subst hd
 exact hK _ _ hk
theorem i64_w (n : Int) : IntKind.i64.wrap n = Go.RowKit.wrap64 n := by unfold Go.RowKit.wrap64;exact IntKind.wrap_i64 n
theorem i32_w (n : Int) : IntKind.i32.wrap n = Go.RowKit.wrap32 n := by unfold Go.RowKit.wrap32;exact IntKind.wrap_i32 n
end
end Go.Proofs.YtfcghajnnllmhaaW.PrintLast

/-! ### 39. Stores into a row that may begin inside its block (Q): Q_form, Q_elem, Q_seg; scalars: Q_cell, Q_putg -/
namespace Go.Proofs.YtfcghajnnllmhaaW.PrintWords
open Go.RowKit
namespace Kd
section
variable {α : Type} {d : Kd α} {e base g o n cap : Nat} {ok okp : Nat → Prop} {w W : World} {v : Value} {xs : List α}
end
section
variable {α : Type} {enc : α → Value} {h1 : ∀ x,(enc x).oneCell' = true} {e base g o n cap : Nat} {ok : Nat → Prop} {W : World} {xs : List α}
end
end Kd
end Go.Proofs.YtfcghajnnllmhaaW.PrintWords

/-! ### 40. Elements whose inner rows lie apart: what is stored into one says nothing of the others.
   S: as_ R, with an owner function f (block to element's index). H: as_ S with a hole: of element i its cells alone are told, its blocks are oki. -/
namespace Go.Proofs.YtfcghajnnllmhaaW.PrintWords
open Go.RowKit
namespace Kd
/-- An element with its index: its blocks are those that f gives to it. -/
def tag {α : Type} (f : Nat → Nat) (d : Kd α) : Kd (α × Nat) where
  sz := d.sz
  E := d.E
  K := fun w x cs => d.K w x.1 cs
  M := fun w base ok x cs => d.M w base (fun k => ok k ∧ f k = x.2) x.1 cs
  K_len := fun h => d.K_len h
  K_one := fun h => d.K_one h
  K_below := fun hb h => d.K_below hb h
  K_of_M := fun h => d.K_of_M h
  M_mono := fun hok h => d.M_mono (fun k hk => ⟨hok k hk.1, hk.2⟩) h
  M_bound := fun h => d.M_mono (fun _ hk => ⟨⟨hk.1.1, hk.2⟩, hk.1.2⟩) (d.M_bound h)
  M_move := fun hm h => d.M_move (fun k hk => hm k hk.1) h
  M_lower := fun hb h => d.M_lower hb h
/-- Nothing but its cells: no block is said of it. -/
def bare {α : Type} (d : Kd α) : Kd α where
  sz := d.sz
  E := d.E
  K := d.K
  M := fun w base _ x cs => d.M w base (fun _ => False) x cs
  K_len := fun h => d.K_len h
  K_one := fun h => d.K_one h
  K_below := fun hb h => d.K_below hb h
  K_of_M := fun h => d.K_of_M h
  M_mono := fun _ h => h
  M_bound := fun h => h
  M_move := fun _ h => d.M_move (fun _ hk => hk.elim) h
  M_lower := fun hb h => d.M_lower hb h
/-- The cells themselves. -/
def raw (sz : Nat) : Kd (List Value) where
  sz := sz
  E := []
  K := fun _ x cs => cs = x ∧ cs.length = sz ∧ ∀ u ∈ cs, u.oneCell' = true
  M := fun _ _ _ x cs => cs = x ∧ cs.length = sz ∧ ∀ u ∈ cs, u.oneCell' = true
  K_len := fun h => h.2.1
  K_one := fun h => h.2.2
  K_below := fun _ h => h
  K_of_M := fun h => h
  M_mono := fun _ h => h
  M_bound := fun h => h
  M_move := fun _ h => h
  M_lower := fun _ h => h
/-- A row of elements (type e) of the call's own, no two of which lead to one block. -/
def S {α : Type} (d : Kd α) (e : Nat) (w : World) (base : Nat) (ok : Nat → Prop) (v : Value) (xs : List α) : Prop := ∃ f, (tag f d).R e w base ok v xs.zipIdx
section
variable {α β : Type} {d : Kd α} {d' : Kd β} {e e' : Nat} {w w1 W : World} {base b : Nat} {ok ok' okv oku : Nat → Prop} {u v : Value} {xs : List α} {ys : List β}
theorem S_nil (d : Kd α) (e : Nat) (w : World) (base : Nat) (ok : Nat → Prop) : S d e w base ok (.slice none 0 0) [] := ⟨fun _ => 0, R_nil _ _ _ _ _⟩
end
section
variable {α β : Type} {d : Kd α} {d' : Kd β} {e e' g : Nat} {w w1 W : World} {base b : Nat} {ok ok' okv oku : Nat → Prop} {u v : Value} {xs : List α} {ys : List β}
end
/-! #### append, make, literals: the new element's blocks are none of the elder ones' -/
section
variable {P : Program} {ops : Array Oper} {rest : List Oper} {o : Oper} {a : Act} {Q : Exit → Act → World → Prop} {Kc : Act → World → Prop} {α : Type}
end
/-! #### a row with a hole: element i is lent, its blocks are oki; of it the row says its cells alone -/
/-- Element i is these cells; the others are d's. -/
def gap {α : Type} (f : Nat → Nat) (d : Kd α) (i : Nat) (c : List Value) : Kd (α × Nat) where
  sz := d.sz
  E := d.E
  K := fun w x cs => (x.2 = i → cs = c ∧ cs.length = d.sz ∧ ∀ u ∈ cs, u.oneCell' = true) ∧ (x.2 ≠ i → d.K w x.1 cs)
  M := fun w base ok x cs => (x.2 = i → cs = c ∧ cs.length = d.sz ∧ ∀ u ∈ cs, u.oneCell' = true) ∧ (x.2 ≠ i → d.M w base (fun k => ok k ∧ f k = x.2) x.1 cs)
  K_len := fun {w x cs} h => by
    by_cases hx : x.2 = i
    · exact (h.1 hx).2.1
    · exact d.K_len (h.2 hx)
  K_one := fun {w x cs} h => by
    by_cases hx : x.2 = i
    · exact (h.1 hx).2.2
    · exact d.K_one (h.2 hx)
  K_below := fun hb h => ⟨h.1, fun hx => d.K_below hb (h.2 hx)⟩
  K_of_M := fun h => ⟨h.1, fun hx => d.K_of_M (h.2 hx)⟩
  M_mono := fun hok h => ⟨h.1, fun hx => d.M_mono (fun k hk => ⟨hok k hk.1, hk.2⟩) (h.2 hx)⟩
  M_bound := fun h => ⟨h.1, fun hx => d.M_mono (fun _ hk => ⟨⟨hk.1.1, hk.2⟩, hk.1.2⟩) (d.M_bound (h.2 hx))⟩
  M_move := fun hm h => ⟨h.1, fun hx => d.M_move (fun k hk => hm k hk.1) (h.2 hx)⟩
  M_lower := fun hb h => ⟨h.1, fun hx => d.M_lower hb (h.2 hx)⟩
def H {α : Type} (d : Kd α) (e : Nat) (w : World) (base : Nat) (ok : Nat → Prop) (v : Value) (xs : List α) (i : Int) (oki : Nat → Prop) (c : List Value) : Prop :=
  (∀ k, oki k → ok k) ∧ ∃ f, (gap f d i.toNat c).R e w base (fun k => ok k ∧ ¬ oki k) v xs.zipIdx
section
variable {α β : Type} {d : Kd α} {e e' g n cap : Nat} {w w1 W : World} {base : Nat} {ok ok' oki okp : Nat → Prop} {u v : Value} {xs : List α} {i : Int} {c : List Value}
end
section
variable {P : Program} {ops : Array Oper} {rest : List Oper} {o : Oper} {a : Act} {Q : Exit → Act → World → Prop} {α : Type}
end
end Kd
end Go.Proofs.YtfcghajnnllmhaaW.PrintWords

/-! ### 41. Arrays '[n]T' as_ values: a kind (a field, an element of a row), an element read, an element set -/
namespace Go.Proofs.YtfcghajnnllmhaaW.PrintWords
open Go.RowKit
namespace Kd
theorem reps_one {α : Type} {R : α → List Value → Prop} {size : Nat} {ps : List α} {cs : List Value} (h : Reps R size ps cs) (hs0 : 0 < size) (hR : ∀ p c,R p c → ∀ u ∈ c,u.oneCell' = true) : ∀ u ∈ cs,u.oneCell' = true := by
 intro u hu
 obtain ⟨q,hq,rfl⟩ := List.mem_iff_getElem.1 hu
 have hql : q / size < ps.length := by
  rw [Nat.div_lt_iff_lt_mul hs0,← h.1]
  exact hq
 refine hR _ _ (h.2 (q / size) _ (List.getElem?_eq_getElem hql)) _ ?_
 rw [List.mem_iff_getElem?]
 refine ⟨q % size,?_⟩
 rw [List.getElem?_take,if_pos (Nat.mod_lt _ hs0),List.getElem?_drop,Nat.mul_comm,Nat.div_add_mod,List.getElem?_eq_getElem hq]
/-- An array of n elements of kind d. -/
def arr {α : Type} (n : Nat) (d : Kd α) (hs : 0 < d.sz) : Kd (List α) where
 sz := n * d.sz
 E := d.E
 K := fun w xs cs => xs.length = n ∧ Reps (d.K w) d.sz xs cs
 M := fun w base ok xs cs => xs.length = n ∧ Reps (d.M w base ok) d.sz xs cs
 K_len := fun h => by rw [← h.1];exact h.2.1
 K_one := fun h => reps_one h.2 hs (fun _ _ hk => d.K_one hk)
 K_below := fun hb h => ⟨h.1,h.2.imp_ (fun _ _ hk => d.K_below hb hk)⟩
 K_of_M := fun h => ⟨h.1,h.2.imp_ (fun _ _ hk => d.K_of_M hk)⟩
 M_mono := fun hok h => ⟨h.1,h.2.imp_ (fun _ _ hk => d.M_mono hok hk)⟩
 M_bound := fun h => ⟨h.1,h.2.imp_ (fun _ _ hk => d.M_bound hk)⟩
 M_move := fun hm h => ⟨h.1,h.2.imp_ (fun _ _ hk => d.M_move hm hk)⟩
 M_lower := fun hb h => ⟨h.1,h.2.imp_ (fun _ _ hk => d.M_lower hb hk)⟩
section
variable {α : Type} {n : Nat} {d : Kd α} {hs : 0 < d.sz} {w : World} {base : Nat} {ok : Nat → Prop} {xs : List α} {cs : List Value}
end
section
variable {α : Type} {n : Nat} {enc : α → Value} {h1 : ∀ x,(enc x).oneCell' = true} {hs : 0 < (scalar enc h1).sz} {w : World} {base : Nat} {ok : Nat → Prop} {xs : List α} {cs : List Value}
end
end Kd
end Go.Proofs.YtfcghajnnllmhaaW.PrintWords

/-! ### 42. append(v, make([]T, n)...): the operation comes as_ append with the number in the second place -/
namespace Go.Proofs.YtfcghajnnllmhaaW.PrintWords
open Go.RowKit
section
variable {P : Program}
end
namespace Kd
section
variable {P : Program} {ops : Array Oper} {rest : List Oper} {o : Oper} {a : Act} {Q : Exit → Act → World → Prop} {Kc : Act → World → Prop} {α : Type}
end
/-! #### the same for rows whose elements lie apart -/
/-- As_ tag; an element without index leads to nothing. -/
def tagO {α : Type} (f : Nat → Nat) (d : Kd α) : Kd (α × Option Nat) where
 sz := d.sz
 E := d.E
 K := fun w x cs => d.K w x.1 cs
 M := fun w base ok x cs => d.M w base (fun k => ok k ∧ some (f k) = x.2) x.1 cs
 K_len := fun h => d.K_len h
 K_one := fun h => d.K_one h
 K_below := fun hb h => d.K_below hb h
 K_of_M := fun h => d.K_of_M h
 M_mono := fun hok h => d.M_mono (fun k hk => ⟨hok k hk.1,hk.2⟩) h
 M_bound := fun h => d.M_mono (fun _ hk => ⟨⟨hk.1.1,hk.2⟩,hk.1.2⟩) (d.M_bound h)
 M_move := fun hm h => d.M_move (fun k hk => hm k hk.1) h
 M_lower := fun hb h => d.M_lower hb h
section
variable {α : Type} {d : Kd α} {e : Nat} {w : World} {base : Nat} {ok : Nat → Prop} {v : Value} {xs : List α}
def zipO (xs : List α) (z : α) (m : Nat) : List (α × Option Nat) := xs.zipIdx.map (fun p => (p.1,some p.2)) ++ List.replicate m (z,none)
end
section
variable {P : Program} {ops : Array Oper} {rest : List Oper} {o : Oper} {a : Act} {Q : Exit → Act → World → Prop} {Kc : Act → World → Prop} {α : Type}
end
end Kd
end Go.Proofs.YtfcghajnnllmhaaW.PrintWords

/-! ### 43. What is read beside a state: it stays read whatever the state's calls turn ('∀ W', KeepBut w W' g none → d.C W' A n xs') -/
namespace Go.Proofs.YtfcghajnnllmhaaW.PrintWords
open Go.RowKit
namespace Kd
/-- What a kind reads lies in the blocks: nothing else of the world is looked at. -/
structure Heap {α : Type} (d : Kd α) : Prop where
 K : ∀ {w w1 : World} {x : α} {cs : List Value},(∀ k,k < w.heap.size → w1.heap[k]? = w.heap[k]?) → d.K w x cs → d.K w1 x cs
theorem cell_heap {w w1 : World} (hb : ∀ k,k < w.heap.size → w1.heap[k]? = w.heap[k]?) {a : Addr} {v : Value} (h : w.cell? a = some v) : w1.cell? a = some v := by
 have := hb a.block (World.block_lt_of_cell? w a h)
 simpa [World.cell?,this] using h
theorem Heap.C {α : Type} {d : Kd α} (hd : Heap d) {w w1 : World} {A : Option Addr} {n : Nat} {xs : List α} (hb : ∀ k,k < w.heap.size → w1.heap[k]? = w.heap[k]?) (h : d.C w A n xs) : d.C w1 A n xs :=
 ⟨h.1,h.2.1,fun hn => by
  obtain ⟨ad,e,hc⟩ := h.2.2 hn
  refine ⟨ad,e,fun j p hj => ?_⟩
  obtain ⟨c,hs,hr,hcell⟩ := hc j p hj
  exact ⟨c,hs,hd.K hb hr,fun i u hu => cell_heap hb (hcell i u hu)⟩⟩
theorem heap_int (k : IntKind) : Heap (Kd.int k) := ⟨fun _ h => h⟩
theorem heap_slice {α : Type} {d : Kd α} (e : Nat) (hd : Heap d) : Heap (slice e d) := ⟨by
 rintro w w1 x cs hb ⟨A,c,rfl,hl,hr⟩
 exact ⟨A,c,rfl,hl,hd.C hb hr⟩⟩
theorem heap_pair {α β : Type} {a : Kd α} {b : Kd β} (ha : Heap a) (hb' : Heap b) : Heap (pair a b) := ⟨by
 rintro w w1 x cs hb ⟨c0,c1,rfl,h0,h1⟩
 exact ⟨c0,c1,rfl,ha.K hb h0,hb'.K hb h1⟩⟩
theorem heap_iso {α β : Type} {d : Kd α} (f : β → α) (hd : Heap d) : Heap (iso d f) := ⟨fun hb h => hd.K hb h⟩
theorem heap_bot {α : Type} (sz : Nat) (E : List Nat) : Heap (bot sz E : Kd α) := ⟨fun _ h => h⟩
theorem heap_upto {α : Type} {F : Kd α → Kd α} {sz : Nat} {E : List Nat} (hF : ∀ d,Heap d → Heap (F d)) : ∀ n,Heap (upto F sz E n)
 | 0 => heap_bot sz E
 | n + 1 => hF _ (heap_upto hF n)
theorem heap_fix {α : Type} {F : Kd α → Kd α} {sz : Nat} {E : List Nat} {hs : ∀ n,(upto F sz E n).sz = sz} {hE : ∀ n q,q ∈ (upto F sz E n).E → q ∈ E} (hF : ∀ d,Heap d → Heap (F d)) : Heap (fix F sz E hs hE) := ⟨by
 rintro w w1 x cs hb ⟨n,h⟩
 exact ⟨n,(heap_upto hF n).K hb h⟩⟩
section
variable {α : Type} {d : Kd α} {e base g n c : Nat} {ok : Nat → Prop} {w w0 W : World} {A : Option Addr} {xs : List α}
end
end Kd
end Go.Proofs.YtfcghajnnllmhaaW.PrintWords

/-! ### 45. What a call keeps: all but the blocks of S (the rows that it was given to write) and what is new since -/
namespace Go.Proofs.YtfcghajnnllmhaaW.PrintWords
open Go.RowKit
def Kept (w W : World) (S : Nat → Prop) : Prop := w.heap.size ≤ W.heap.size ∧ ∀ i,i < w.heap.size → ¬ S i → W.heap[i]? = w.heap[i]?
section
variable {w W W2 : World} {S S2 S' : Nat → Prop}
theorem Kept.refl (w : World) (S : Nat → Prop) : Kept w w S := ⟨Nat.le_refl _,fun _ _ _ => rfl⟩
theorem Kept.of_below (h : Below w.heap.size w W) (S : Nat → Prop) : Kept w W S := ⟨h.size,fun i hi _ => h.block i hi⟩
theorem Kept.mono (h : Kept w W S) (hs : ∀ k,S k → S' k) : Kept w W S' := ⟨h.1,fun i hi hn => h.2 i hi (fun hk => hn (hs i hk))⟩
theorem Kept.then_ (h : Kept w W S) (k : Kept W W2 S2) (hs : ∀ k,S2 k → S k ∨ w.heap.size ≤ k) : Kept w W2 S :=
 ⟨Nat.le_trans h.1 k.1,fun i hi hn => (k.2 i (Nat.lt_of_lt_of_le hi h.1) (fun h2 => (hs i h2).elim hn (fun h3 => by omega))).trans (h.2 i hi hn)⟩
theorem Kept.of_grown {row : Option Nat} (hg : W.grownBy W2 row) (h : Kept w W S) (hr : ∀ k,row = some k → S k ∨ w.heap.size ≤ k) : Kept w W2 S :=
 h.then_ (S2 := fun k => row = some k) ⟨hg.size,fun i hi hn => hg.block i hi (fun he => hn he.symm)⟩ hr
theorem Kept.below (h : Kept w W S) (hb : Below W.heap.size W W2) : Kept w W2 S := h.then_ (Kept.of_below hb (fun _ => False)) (fun _ hk => hk.elim)
theorem Kept.alloc (h : Kept w W S) (o : Obj) : Kept w (W.alloc o) S := h.below (below_alloc (Below.refl _ _) o)
theorem Kept.drew (h : Kept w W S) : Kept w W.drew S := h
theorem Kept.drewN (h : Kept w W S) (m : Nat) : Kept w (W.drewN m) S := h
theorem Kept.setCell (h : Kept w W S) {p : Addr} (hp : S p.block ∨ w.heap.size ≤ p.block) (u : Value) : Kept w (W.setCell p u) S :=
 h.then_ (S2 := fun k => k = p.block) ⟨by simp [World.setCell],fun i _ hn => Below.heap_setCell W p u i hn⟩ (fun k hk => by rw [hk];exact hp)
/-- Beside a state: what was written is new since. -/
theorem Kept.keep {g : Nat} (h : KeepBut w W g none) (k : Kept W W2 S2) (hs : ∀ k,S2 k → w.heap.size ≤ k) : KeepBut w W2 g none :=
 ⟨Nat.le_trans h.1 k.1,fun i hi hg hr => (k.2 i (Nat.lt_of_lt_of_le hi h.1) (fun h2 => by have := hs i h2;omega)).trans (h.2 i hi hg hr)⟩
end
namespace Kd
section
variable {α : Type} {d : Kd α} {e base n c : Nat} {ok oki S S2 : Nat → Prop} {w w0 W W1 W2 : World} {v : Value} {A : Option Addr} {xs : List α} {i : Int} {cs : List Value}
end
end Kd
end Go.Proofs.YtfcghajnnllmhaaW.PrintWords

/-! ### 46. Values that share: what is only read, with the blocks it lies in (its footprint 'ok'): Foot, F (a row that is read), FK (an element's cells) -/
namespace Go.Proofs.YtfcghajnnllmhaaW.PrintWords
open Go.RowKit
/-- P holds in W and in every world that has W's blocks of ok. -/
def Foot (P : World → Prop) (W : World) (ok : Nat → Prop) : Prop := ∀ W' : World,(∀ k,ok k → k < W.heap.size → W'.heap[k]? = W.heap[k]?) → P W'
theorem heap_lt {W W1 : World} {k : Nat} (h : W1.heap[k]? = W.heap[k]?) (hlt : k < W.heap.size) : k < W1.heap.size := by
 rw [Array.getElem?_eq_getElem hlt] at h
 exact (Array.getElem?_eq_some_iff.1 h).1
namespace Foot
variable {P Q : World → Prop} {W W1 : World} {ok ok' : Nat → Prop}
theorem now (h : Foot P W ok) : P W := h W (fun _ _ _ => rfl)
theorem mono (h : Foot P W ok) (hok : ∀ k,ok k → ok' k) : Foot P W ok' := fun W' hW => h W' (fun k hk hlt => hW k (hok k hk) hlt)
theorem bound (h : Foot P W ok) : Foot P W (fun k => ok k ∧ k < W.heap.size) := fun W' hW => h W' (fun k hk hlt => hW k ⟨hk,hlt⟩ hlt)
theorem step (h : Foot P W ok) (hm : ∀ k,ok k → k < W.heap.size → W1.heap[k]? = W.heap[k]?) : Foot P W1 ok := fun W' hW => h W' (fun k hk hlt => (hW k hk (heap_lt (hm k hk hlt) hlt)).trans (hm k hk hlt))
theorem imp (h : Foot P W ok) (hi : ∀ W',P W' → Q W') : Foot Q W ok := fun W' hW => hi W' (h W' hW)
end Foot
namespace Kd
/-- A row that is only read: what it leads to lies in ok. -/
def F {α : Type} (d : Kd α) (W : World) (ok : Nat → Prop) (A : Option Addr) (n : Nat) (xs : List α) : Prop := Foot (fun W => d.C W A n xs) W ok
/-- An element's cells: what they lead to lies in ok. -/
def FK {α : Type} (d : Kd α) (W : World) (ok : Nat → Prop) (x : α) (c : List Value) : Prop := Foot (fun W => d.K W x c) W ok
section
variable {α β : Type} {d : Kd α} {e base n n' cc g N : Nat} {ok ok' okp S : Nat → Prop} {w w0 w1 W W1 : World} {A A' : Option Addr} {u v v1 : Value} {xs : List α} {xs' : List β} {d' : Kd β} {x : α} {c : List Value}
theorem F_now (h : F d W ok A n xs) : d.C W A n xs := Foot.now h
theorem F_mono (h : F d W ok A n xs) (hok : ∀ k,ok k → ok' k) : F d W ok' A n xs := Foot.mono h hok
theorem F_bound (h : F d W ok A n xs) : F d W (fun k => ok k ∧ k < W.heap.size) A n xs := Foot.bound h
theorem F_step (h : F d W ok A n xs) (hm : ∀ k,ok k → k < W.heap.size → W1.heap[k]? = W.heap[k]?) : F d W1 ok A n xs := Foot.step h hm
theorem F_below (h : F d W ok A n xs) (hb : Below W.heap.size W W1) : F d W1 ok A n xs := F_step h (fun k _ hlt => hb.block k hlt)
theorem F_alloc (h : F d W ok A n xs) (o : Obj) : F d (W.alloc o) ok A n xs := F_below h (below_alloc (Below.refl _ _) o)
theorem F_drew (h : F d W ok A n xs) : F d W.drew ok A n xs := F_below h (below_drew (Below.refl _ _))
theorem F_drewN (h : F d W ok A n xs) (m : Nat) : F d (W.drewN m) ok A n xs := F_below h (pw_below_drewN (Below.refl _ _) m)
theorem F_nil (d : Kd α) (W : World) (ok : Nat → Prop) : F d W ok none ([] : List α).length [] := fun W' _ => C_nil d W'
theorem F_elderB (h : F d W ok A n xs) (a : Nat) (ha : W.heap.size ≤ a) : F d W (fun k => ok k ∧ k ≠ a) A n xs := F_mono (F_bound h) (fun k hk => ⟨hk.1,by have := hk.2;omega⟩)
/-- What came in, a row of the call's own. -/
theorem C_F (hd : Heap d) (h : d.C w A n xs) : F d w (fun k => k < w.heap.size) A n xs := fun _ hW => hd.C (fun k hlt => hW k hlt hlt) h
/-- The same of an element's cells. -/
theorem FK_now (h : FK d W ok x c) : d.K W x c := Foot.now h
theorem FK_of_M (h : d.M W base ok x c) : FK d W ok x c := fun _ hW => d.K_of_M (M_step h hW)
/-- A block that is emptied reads no more. -/
theorem emptied (W : World) (g : Nat) : ∃ W' : World,(∀ k,k ≠ g → W'.heap[k]? = W.heap[k]?) ∧ ∀ a : Addr,a.block = g → W'.cell? a = none := by
 refine ⟨{ W with heap := W.heap.setIfInBounds g (.cells #[] 0) },fun k hk => by simp [Ne.symm hk],fun a ha => ?_⟩
 subst ha
 by_cases hlt : a.block < W.heap.size
 ·simp [World.cell?,hlt]
 ·simp [World.cell?,hlt]
end
end Kd
end Go.Proofs.YtfcghajnnllmhaaW.PrintWords

/-! ### 47. N: a row of the call's own whose elements share (what they lead to is only read) -/
namespace Go.Proofs.YtfcghajnnllmhaaW.PrintWords
open Go.RowKit
namespace Kd
/-- The cells one behind the other, element by element. -/
def chunks (sz : Nat) (n : Nat) (inner : List Value) : List (List Value) := (List.range n).map fun j => (inner.drop (j * sz)).take sz
theorem chunks_length (sz n : Nat) (inner : List Value) : (chunks sz n inner).length = n := by simp [chunks]
theorem chunks_at {sz n : Nat} {inner : List Value} {j : Nat} (hj : j < n) : (chunks sz n inner)[j]? = some ((inner.drop (j * sz)).take sz) := by simp [chunks,hj]
theorem chunks_get {sz n : Nat} {inner : List Value} {j : Nat} {c : List Value} (h : (chunks sz n inner)[j]? = some c) : c = (inner.drop (j * sz)).take sz := by
 have hj : j < n := by have := (List.getElem?_eq_some_iff.1 h).1;rwa [chunks_length] at this
 rw [chunks_at hj] at h
 injection h with h
 exact h.symm
theorem reps_raw {α : Type} {Rr : α → List Value → Prop} {sz : Nat} {xs : List α} {inner : List Value} (h : Reps Rr sz xs inner) (hR : ∀ x c,Rr x c → c.length = sz ∧ ∀ u ∈ c,u.oneCell' = true) : Reps (fun x cs => cs = x ∧ cs.length = sz ∧ ∀ u ∈ cs,u.oneCell' = true) sz (chunks sz xs.length inner) inner := by
 refine ⟨by rw [chunks_length];exact h.1,fun j p hj => ?_⟩
 have hjl : j < xs.length := by have := (List.getElem?_eq_some_iff.1 hj).1;rwa [chunks_length] at this
 have hp := chunks_get hj
 exact ⟨hp.symm,hR _ _ (h.2 j _ (List.getElem?_eq_getElem hjl))⟩
section
variable {α : Type} {d : Kd α} {e base n cc g : Nat} {ok ok' okp S : Nat → Prop} {w w1 W W1 : World} {A : Option Addr} {u v v1 : Value} {xs : List α} {x : α} {c : List Value}
/-- Element i of a row that is read: its cells, and what they lead to, in ok. -/
theorem F_get (h : F d W ok A n xs) (z : α) (i : Int) (h0 : 0 ≤ i) (h1 : i < n) :
  ∃ ad c,A = some ad ∧ c.length = d.sz ∧ FK d W ok (xs.getD i.toNat z) c ∧ (∀ j u,c[j]? = some u → W.cell? (ad.add (i.toNat * d.sz + j)) = some u) ∧ (0 < d.sz → ok ad.block) := by
 obtain ⟨ad,c,rfl,hcl,hK,hcc⟩ := C_get (F_now h) z i h0 h1
 have hin : 0 < d.sz → ok ad.block := by
  intro hs
  by_cases hk : ok ad.block
  ·exact hk
  ·obtain ⟨W',h2,h3⟩ := emptied W ad.block
   obtain ⟨ad',c',he,hcl',_,hcc'⟩ := C_get (h W' (fun k hk' _ => h2 k (fun e => hk (e ▸ hk')))) z i h0 h1
   injection he with he
   subst he
   have h4 := hcc' 0 _ (List.getElem?_eq_getElem (by omega))
   rw [h3 _ (add_block _ _)] at h4
   cases h4
 refine ⟨ad,c,rfl,hcl,fun W' hW => ?_,hcc,hin⟩
 obtain ⟨ad',c',he,hcl',hK',hcc'⟩ := C_get (h W' hW) z i h0 h1
 injection he with he
 subst he
 have hc : c = c' := by
  apply List.ext_getElem?
  intro j
  by_cases hj : j < d.sz
  ·have hb : W'.heap[ad.block]? = W.heap[ad.block]? := by
    have h5 := hcc j _ (List.getElem?_eq_getElem (by omega))
    have h6 := World.block_lt_of_cell? W _ h5
    rw [add_block] at h6
    exact hW _ (hin (by omega)) h6
   have h5 := hcc j _ (List.getElem?_eq_getElem (by omega))
   have h6 := hcc' j _ (List.getElem?_eq_getElem (by omega))
   have h7 : W'.cell? (ad.add (i.toNat * d.sz + j)) = W.cell? (ad.add (i.toNat * d.sz + j)) := by simp [World.cell?,add_block,hb]
   rw [h7,h5] at h6
   rw [List.getElem?_eq_getElem (by omega),List.getElem?_eq_getElem (by omega)]
   exact h6
  ·rw [List.getElem?_eq_none (by omega),List.getElem?_eq_none (by omega)]
 rw [hc]
 exact hK'
/-- A row of elements (type e) of the call's own; what the elements lead to is only read, and is not this row. -/
def N {α : Type} (d : Kd α) (e : Nat) (w : World) (base : Nat) (ok : Nat → Prop) (v : Value) (xs : List α) : Prop :=
 (∀ k,v.ownBlock = some k → ok k) ∧ ∃ rows : List (List Value),rows.length = xs.length ∧ (raw d.sz).R e w base (fun k => some k = v.ownBlock) v rows ∧ ∀ (j : Nat) (x : α) (c : List Value),xs[j]? = some x → rows[j]? = some c → FK d w (fun k => ok k ∧ some k ≠ v.ownBlock) x c
theorem R_N (h : d.R e w base ok v xs) : N d e w base ok v xs := by
 obtain ⟨h0,inner,ho,hr⟩ := h
 refine ⟨h0,chunks d.sz xs.length inner,chunks_length _ _ _,⟨fun k hk => hk.symm,inner,by rw [chunks_length];exact ho,reps_raw hr (fun x c hp => ⟨d.K_len (d.K_of_M hp),d.K_one (d.K_of_M hp)⟩)⟩,fun j x c hx hc => ?_⟩
 rw [chunks_get hc]
 exact FK_of_M (hr.2 j x hx)
theorem N_nil (d : Kd α) (e : Nat) (w : World) (base : Nat) (ok : Nat → Prop) : N d e w base ok (.slice none 0 0) [] := R_N (R_nil _ _ _ _ _)
end
end Kd
end Go.Proofs.YtfcghajnnllmhaaW.PrintWords

/-! ### 48. N's events: append, a whole row appended, zeros appended, literals, make, stores, cuts, an element taken out -/
namespace Go.Proofs.YtfcghajnnllmhaaW.PrintWords
open Go.RowKit
namespace Kd
section
variable {α : Type} {d : Kd α} {e base n cap g : Nat} {ok ok' okp : Nat → Prop} {w w1 W : World} {v v1 : Value} {xs ys : List α}
end
section
variable {P : Program} {ops : Array Oper} {rest : List Oper} {o : Oper} {a : Act} {Q : Exit → Act → World → Prop} {Kc : Act → World → Prop} {α : Type}
end
end Kd
end Go.Proofs.YtfcghajnnllmhaaW.PrintWords

namespace Go.Proofs.YtfcghajnnllmhaaW.PrintMore
open Go.RowKit Go.Proofs.YtfcghajnnllmhaaW.PrintWords
namespace Kd
open Go.Proofs.YtfcghajnnllmhaaW.PrintWords.Kd
end Kd

namespace Kd
open Go.Proofs.YtfcghajnnllmhaaW.PrintWords.Kd
section
variable {α : Type} {d : Kd α} {e base g N : Nat} {ok : Nat → Prop} {W w1 : World} {u v : Value} {xs : List α}
end
end Kd
/-- 'max' and 'min' of two whole numbers. -/
theorem max2_int (k k' : IntKind) (x y : Int) : Builtin.max2 (.int k x) (.int k' y) = pure (.int k (if x < y then y else x)) := by simp only [Builtin.max2,gt_iff_lt]
theorem min2_int (k k' : IntKind) (x y : Int) : Builtin.min2 (.int k x) (.int k' y) = pure (.int k (if y < x then y else x)) := by simp only [Builtin.min2]
theorem max_two (ats : Array TypeId) (ty : TypeId) (a b : Value) : Builtin.max_ ats ty #[a,b] = (Builtin.max2 a b >>= fun s => pure s) := by simp only [Builtin.max_,List.foldlM_cons,List.foldlM_nil]
theorem min_two (ats : Array TypeId) (ty : TypeId) (a b : Value) : Builtin.min_ ats ty #[a,b] = (Builtin.min2 a b >>= fun s => pure s) := by simp only [Builtin.min_,List.foldlM_cons,List.foldlM_nil]
theorem max_three (ats : Array TypeId) (ty : TypeId) (a b c : Value) : Builtin.max_ ats ty #[a,b,c] = (Builtin.max2 a b >>= fun s => Builtin.max2 s c >>= fun s => pure s) := by simp only [Builtin.max_,List.foldlM_cons,List.foldlM_nil]
theorem min_three (ats : Array TypeId) (ty : TypeId) (a b c : Value) : Builtin.min_ ats ty #[a,b,c] = (Builtin.min2 a b >>= fun s => Builtin.min2 s c >>= fun s => pure s) := by simp only [Builtin.min_,List.foldlM_cons,List.foldlM_nil]
theorem max_four (ats : Array TypeId) (ty : TypeId) (a b c d : Value) : Builtin.max_ ats ty #[a,b,c,d] = (Builtin.max2 a b >>= fun s => Builtin.max2 s c >>= fun s => Builtin.max2 s d >>= fun s => pure s) := by simp only [Builtin.max_,List.foldlM_cons,List.foldlM_nil]
theorem min_four (ats : Array TypeId) (ty : TypeId) (a b c d : Value) : Builtin.min_ ats ty #[a,b,c,d] = (Builtin.min2 a b >>= fun s => Builtin.min2 s c >>= fun s => Builtin.min2 s d >>= fun s => pure s) := by simp only [Builtin.min_,List.foldlM_cons,List.foldlM_nil]
end Go.Proofs.YtfcghajnnllmhaaW.PrintMore
namespace Go.Proofs.YtfcghajnnllmhaaW.PrintWords
open Go.RowKit
section
variable {P : Program} {ops : Array Oper} {rest : List Oper} {o : Oper} {a : Act} {Q : Exit → Act → World → Prop} {W : World}
/-- The operation is a call of this function (a cheap look ahead of a dear step). -/
theorem gate_callee {f : FuncId} {as_ : Array Operand} {ts : Array TypeId} (_ho : o.op = .call { callee := .value (.func f),args := as_,argTypes := ts }) (h : wpList P ops Q (o :: rest) a W) : wpList P ops Q (o :: rest) a W := h
end
/-- The greater of two whole numbers, as_ Go's max tells it. -/
def mx (a b : Int) : Int := if a < b then b else a
/-- The smaller of two whole numbers, as_ Go's min tells it. -/
def mn (a b : Int) : Int := if b < a then b else a
/-- A shift to the left, as_ Go tells it: a count beyond the width leaves nothing. -/
def shl (k : IntKind) (x y : Int) : Int := k.wrap (x * 2 ^ min y.toNat k.bits)
/-- A shift to the right: a count beyond the width leaves the sign. -/
def shr (k : IntKind) (x y : Int) : Int := x / 2 ^ min y.toNat k.bits
theorem shr_small {k : IntKind} {x y j : Int} (h : shr k x y = j) (hy : y ≤ k.bits) : x / 2 ^ y.toNat = j := by rw [← h];unfold shr;rw [Nat.min_eq_left (by omega)]
namespace Kd
section
variable {α : Type} {d : Kd α} {e base : Nat} {ok : Nat → Prop} {W w1 : World} {v : Value} {xs : List α}
end
section
variable {α : Type} {d : Kd α} {e base g n cap : Nat} {ok oki okp : Nat → Prop} {W : World} {xs : List α} {i : Int} {c : List Value}
end
section
variable {α : Type} {d : Kd α} {e base b b' g N : Nat} {ok ok1 : Nat → Prop} {W W2 w1 : World} {u v : Value} {xs ys : List α} {S : Nat → Prop}
end
end Kd
end Go.Proofs.YtfcghajnnllmhaaW.PrintWords
namespace Go.Proofs.YtfcghajnnllmhaaW.PrintWords
open Go.RowKit
namespace Kd
/-- A row that is only read, told by its value: its form, its length, what it leads to (in ok). e and base say nothing; they make it as_ the others are. -/
def V {α : Type} (d : Kd α) (_e : Nat) (W : World) (_base : Nat) (ok : Nat → Prop) (v : Value) (xs : List α) : Prop := ∃ A c,v = .slice A xs.length c ∧ xs.length ≤ c ∧ F d W ok A xs.length xs
section
variable {α β : Type} {d : Kd α} {e base base' n m c g N' lo hi : Nat} {ok ok' S : Nat → Prop} {w W w1 : World} {A : Option Addr} {ad : Addr} {u v v1 : Value} {xs : List α}
theorem V_map (h : V d e W base ok v xs) (hF : ∀ A,F d W ok A xs.length xs → F d w1 ok' A xs.length xs) : V d e w1 base' ok' v xs := by
 obtain ⟨A,c,hv,hl,hf⟩ := h
 exact ⟨A,c,hv,hl,hF A hf⟩
theorem V_mk (hl : xs.length ≤ c) (hf : F d W ok A xs.length xs) : V d e W base ok (.slice A xs.length c) xs := ⟨A,c,rfl,hl,hf⟩
theorem V_slice (h : V d e W base ok v xs) : ∃ A c,v = .slice A xs.length c := by
 obtain ⟨A,c,hv,_⟩ := h
 exact ⟨A,c,hv⟩
theorem V_at (h : V d e W base ok (.slice A n c) xs) : n = xs.length ∧ n ≤ c ∧ F d W ok A xs.length xs := by
 obtain ⟨A',c',hv,hl,hf⟩ := h
 injection hv with ha hn hc
 subst ha;subst hc
 exact ⟨hn,by rw [hn];exact hl,hf⟩
theorem V_reads' (h : V d e W base ok (.slice A n c) xs) : n = xs.length ∧ n ≤ c ∧ d.C W A xs.length xs := ⟨(V_at h).1,(V_at h).2.1,F_now (V_at h).2.2⟩
theorem V_F (h : V d e W base ok (.slice A n c) xs) : F d W ok A n xs := by
 obtain ⟨hn,_,hf⟩ := V_at h
 rw [hn]
 exact hf
theorem V_nil (d : Kd α) (e : Nat) (W : World) (base : Nat) (ok : Nat → Prop) : V d e W base ok (.slice none 0 0) [] := ⟨none,0,rfl,Nat.le_refl _,F_nil d W ok⟩
theorem V_mono (h : V d e W base ok v xs) (hok : ∀ k,ok k → ok' k) : V d e W base ok' v xs := V_map h (fun _ hf => F_mono hf hok)
theorem V_lower (h : V d e W base ok v xs) (_ : base' ≤ base) : V d e W base' ok v xs := h
theorem V_below (h : V d e W base ok v xs) (hb : Below W.heap.size W w1) : V d e w1 base ok v xs := V_map h (fun _ hf => F_below hf hb)
theorem V_alloc (h : V d e W base ok v xs) (o : Obj) : V d e (W.alloc o) base ok v xs := V_map h (fun _ hf => F_alloc hf o)
theorem V_drew (h : V d e W base ok v xs) : V d e W.drew base ok v xs := V_map h (fun _ hf => F_drew hf)
theorem V_drewN (h : V d e W base ok v xs) (m : Nat) : V d e (W.drewN m) base ok v xs := V_map h (fun _ hf => F_drewN hf m)
theorem V_elderB (h : V d e W base ok v xs) (a : Nat) (ha : W.heap.size ≤ a) : V d e W base (fun k => ok k ∧ k ≠ a) v xs := V_map h (fun _ hf => F_elderB hf a ha)
theorem V_get (h : V d e W base ok (.slice (some ad) n c) xs) (z : α) (i : Int) (h0 : 0 ≤ i) (h1 : i < n) :
  ∃ cs,cs.length = d.sz ∧ FK d W ok (xs.getD i.toNat z) cs ∧ ∀ j u,cs[j]? = some u → W.cell? (ad.add (i.toNat * d.sz + j)) = some u := by
 obtain ⟨ad',cs,he,hcl,hK,hcc,_⟩ := F_get (V_F h) z i h0 h1
 injection he with he
 subst he
 exact ⟨cs,hcl,hK,hcc⟩
end
end Kd
end Go.Proofs.YtfcghajnnllmhaaW.PrintWords

/-! ### 55. Reps told from the front, no append: for rows of one-cell elements and of wider ones -/
namespace Go.Proofs.YtfcghajnnllmhaaW.PrintWords
/-- One cell an element. -/
theorem Reps.one {α : Type} {R : α → List Value → Prop} {ps : List α} {cs : List Value} {p : α} {v : Value} (hp : R p [v]) (h : Reps R 1 ps cs) : Reps R 1 (p :: ps) (v :: cs) := by
 refine ⟨by simp [h.1],fun j q hq => ?_⟩
 cases j with
 | zero =>
  simp only [List.getElem?_cons_zero,Option.some.injEq] at hq
  subst hq
  simpa using hp
 | succ j =>
  simp only [List.getElem?_cons_succ] at hq
  have h1 := h.2 j q hq
  simpa [Nat.mul_one] using h1
/-- More cells an element: told apart by the cells' list. -/
theorem Reps.front {α : Type} {R : α → List Value → Prop} {size : Nat} {ps : List α} {cs c all : List Value} {p : α} (hp : R p c) (hc : c.length = size) (h : Reps R size ps cs) (ha : c ++ cs = all) : Reps R size (p :: ps) all := by
 subst ha
 refine ⟨by rw [List.length_append,hc,h.1,List.length_cons,Nat.succ_mul,Nat.add_comm],fun j q hq => ?_⟩
 cases j with
 | zero =>
  simp only [List.getElem?_cons_zero,Option.some.injEq] at hq
  subst hq
  rw [Nat.zero_mul,List.drop_zero,List.take_append_of_le_length (by omega),List.take_of_length_le (by omega)]
  exact hp
 | succ j =>
  simp only [List.getElem?_cons_succ] at hq
  have h1 := h.2 j q hq
  rw [Nat.succ_mul,List.drop_append,List.drop_of_length_le (by rw [hc];exact Nat.le_add_left _ _),List.nil_append,hc,Nat.add_sub_cancel]
  exact h1
theorem Reps.c2 {α : Type} {R : α → List Value → Prop} {ps : List α} {cs : List Value} {p : α} {va vb : Value} (hp : R p [va,vb]) (h : Reps R 2 ps cs) : Reps R 2 (p :: ps) (va :: vb :: cs) := Reps.front hp rfl h rfl
theorem Reps.c3 {α : Type} {R : α → List Value → Prop} {ps : List α} {cs : List Value} {p : α} {va vb vc : Value} (hp : R p [va,vb,vc]) (h : Reps R 3 ps cs) : Reps R 3 (p :: ps) (va :: vb :: vc :: cs) := Reps.front hp rfl h rfl
theorem Reps.c4 {α : Type} {R : α → List Value → Prop} {ps : List α} {cs : List Value} {p : α} {va vb vc vd : Value} (hp : R p [va,vb,vc,vd]) (h : Reps R 4 ps cs) : Reps R 4 (p :: ps) (va :: vb :: vc :: vd :: cs) := Reps.front hp rfl h rfl
theorem Reps.c5 {α : Type} {R : α → List Value → Prop} {ps : List α} {cs : List Value} {p : α} {va vb vc vd ve : Value} (hp : R p [va,vb,vc,vd,ve]) (h : Reps R 5 ps cs) : Reps R 5 (p :: ps) (va :: vb :: vc :: vd :: ve :: cs) := Reps.front hp rfl h rfl
theorem Reps.c6 {α : Type} {R : α → List Value → Prop} {ps : List α} {cs : List Value} {p : α} {va vb vc vd ve vf : Value} (hp : R p [va,vb,vc,vd,ve,vf]) (h : Reps R 6 ps cs) : Reps R 6 (p :: ps) (va :: vb :: vc :: vd :: ve :: vf :: cs) := Reps.front hp rfl h rfl
theorem Reps.c7 {α : Type} {R : α → List Value → Prop} {ps : List α} {cs : List Value} {p : α} {va vb vc vd ve vf vg : Value} (hp : R p [va,vb,vc,vd,ve,vf,vg]) (h : Reps R 7 ps cs) : Reps R 7 (p :: ps) (va :: vb :: vc :: vd :: ve :: vf :: vg :: cs) := Reps.front hp rfl h rfl
theorem Reps.c8 {α : Type} {R : α → List Value → Prop} {ps : List α} {cs : List Value} {p : α} {va vb vc vd ve vf vg vh : Value} (hp : R p [va,vb,vc,vd,ve,vf,vg,vh]) (h : Reps R 8 ps cs) : Reps R 8 (p :: ps) (va :: vb :: vc :: vd :: ve :: vf :: vg :: vh :: cs) := Reps.front hp rfl h rfl
theorem Reps.c9 {α : Type} {R : α → List Value → Prop} {ps : List α} {cs : List Value} {p : α} {va vb vc vd ve vf vg vh vi : Value} (hp : R p [va,vb,vc,vd,ve,vf,vg,vh,vi]) (h : Reps R 9 ps cs) : Reps R 9 (p :: ps) (va :: vb :: vc :: vd :: ve :: vf :: vg :: vh :: vi :: cs) := Reps.front hp rfl h rfl
theorem Reps.c10 {α : Type} {R : α → List Value → Prop} {ps : List α} {cs : List Value} {p : α} {va vb vc vd ve vf vg vh vi vj : Value} (hp : R p [va,vb,vc,vd,ve,vf,vg,vh,vi,vj]) (h : Reps R 10 ps cs) : Reps R 10 (p :: ps) (va :: vb :: vc :: vd :: ve :: vf :: vg :: vh :: vi :: vj :: cs) := Reps.front hp rfl h rfl
end Go.Proofs.YtfcghajnnllmhaaW.PrintWords

/-! ### 50. A region's order in a table, made once a region: each step asks the table (numbers alone), not the operations -/
namespace Go.Proofs.YtfcghajnnllmhaaW.PrintLast
open Go.Proofs.YtfcghajnnllmhaaW.PrintWords (Aside0)
def needsOf (md : Region.Mode) (o : Oper) : List Nat := (o.after.toList.filter (fun e => Region.binds md e)).map (fun e => e.on)
def clashOf (md : Region.Mode) (ops : Array Oper) (i : Nat) (oi : Oper) : List Nat := (List.range ops.size).filter fun j => !(j == i) && match ops[j]? with
 | some oj => !(oj.after.any (fun e => Region.binds md e && e.on == i) || oi.apart ops oj)
 | none => false
/-- No select in it; for each operation: what must have come up before it, and what may not come up behind it if it is taken first. -/
def rtab (md : Region.Mode) (ops : Array Oper) : Bool × List (List Nat × List Nat) := (Region.noSelect ops,(List.range ops.size).map fun i => match ops[i]? with
 | some o => (needsOf md o,clashOf md ops i o)
 | none => ([],[]))
def readyAt (T : List (List Nat × List Nat)) (l : List Bool) (i : Nat) : Bool := !l.getD i true && match T[i]? with
 | some r => r.1.all (fun j => l.getD j false)
 | none => false
def readyT (T : List (List Nat × List Nat)) (l : List Bool) : List Nat := (List.range T.length).filter (readyAt T l)
def freeT (T : List (List Nat × List Nat)) (l : List Bool) (i : Nat) : Bool := match T[i]? with
 | some r => r.2.all (fun j => l.getD j true)
 | none => false
def closedT (T : List (List Nat × List Nat)) (l : List Bool) : Bool := (List.range T.length).all fun j => !l.getD j false || match T[j]? with
 | some r => r.1.all (fun k => l.getD k false)
 | none => true
def reachT (T : List (List Nat × List Nat)) (i : Nat) : Nat → Nat → Bool
 | 0,_ => false
 | fuel + 1,d => match T[d]? with
  | some r => r.1.any fun j => j == i || reachT T i fuel j
  | none => false
def lastT (T : List (List Nat × List Nat)) (l : List Bool) (ds : List Nat) (i : Nat) : Bool := ds.all fun d => l.getD d true || reachT T i T.length d
section
variable {md : Region.Mode} {ops : Array Oper} {T : Bool × List (List Nat × List Nat)} {l l' li lj lk : Array Bool} {ds : List Nat} {i j k : Nat}
theorem gd (l : Array Bool) (j : Nat) (b : Bool) : l.getD j b = l.toList.getD j b := by simp [Array.getD_eq_getD_getElem?,List.getD_eq_getElem?_getD]
theorem needs_all (o : Oper) (p : Nat → Bool) : o.after.all (fun e => !Region.binds md e || p e.on) = (needsOf md o).all p := by
 unfold needsOf
 rw [← Array.all_toList]
 induction o.after.toList with
 | nil => rfl
 | cons e r ih =>
  rw [List.all_cons,ih,List.filter_cons]
  cases h : Region.binds md e <;> simp
theorem needs_any (o : Oper) (p : Nat → Bool) : o.after.any (fun e => Region.binds md e && p e.on) = (needsOf md o).any p := by
 unfold needsOf
 rw [← Array.any_toList]
 induction o.after.toList with
 | nil => rfl
 | cons e r ih =>
  rw [List.any_cons,ih,List.filter_cons]
  cases h : Region.binds md e <;> simp
theorem rtab_length : (rtab md ops).2.length = ops.size := by simp [rtab]
theorem rtab_some {o : Oper} (h : ops[i]? = some o) : (rtab md ops).2[i]? = some (needsOf md o,clashOf md ops i o) := by
 have hi := (Array.getElem?_eq_some_iff.1 h).1
 unfold rtab
 rw [List.getElem?_map,List.getElem?_range hi,Option.map_some,h]
theorem rtab_none (h : ops[i]? = none) : (rtab md ops).2[i]? = none := by
 have hi : ops.size ≤ i := Array.getElem?_eq_none_iff.1 h
 exact List.getElem?_eq_none (by rw [rtab_length];exact hi)
theorem readyAt_eq : readyAt (rtab md ops).2 l.toList i = (!l.getD i true && ((ops[i]?).map (·.after.all fun e => !Region.binds md e || l.getD e.on false)).getD false) := by
 unfold readyAt
 rw [gd]
 cases h : ops[i]? with
 | none => rw [rtab_none h];rfl
 | some o =>
  rw [rtab_some h]
  simp only [Option.map_some,Option.getD_some]
  rw [← needs_all]
  simp only [gd]
theorem ready_eq : Region.ready md ops l = readyT (rtab md ops).2 l.toList := by
 unfold Region.ready readyT
 rw [rtab_length]
 refine List.filter_congr (fun i _ => ?_)
 rw [readyAt_eq]
theorem free_eq : Region.free md ops l i = freeT (rtab md ops).2 l.toList i := by
 unfold Region.free freeT
 cases h : ops[i]? with
 | none => rw [rtab_none h]
 | some oi =>
  rw [rtab_some h]
  simp only [clashOf]
  rw [List.all_filter]
  congr 1
  funext j
  rw [gd]
  cases hj : ops[j]? with
  | none => cases (j == i) <;> cases (l.toList.getD j true) <;> simp
  | some oj =>
   cases (j == i) <;> cases (l.toList.getD j true) <;> cases (oj.after.any (fun e => Region.binds md e && e.on == i) || oi.apart ops oj) <;> simp_all
theorem closed_eq : Region.closedB md ops l = closedT (rtab md ops).2 l.toList := by
 unfold Region.closedB closedT
 rw [rtab_length]
 congr 1
 funext j
 rw [gd]
 cases h : ops[j]? with
 | none => rw [rtab_none h]
 | some o =>
  rw [rtab_some h]
  simp only
  rw [← needs_all]
  simp only [gd]
theorem reach_eq : ∀ (fuel d : Nat),Region.reachB md ops i fuel d = reachT (rtab md ops).2 i fuel d
 | 0,_ => rfl
 | fuel + 1,d => by
  unfold Region.reachB reachT
  cases h : ops[d]? with
  | none => rw [rtab_none h]
  | some o =>
   rw [rtab_some h]
   simp only
   rw [← needs_any]
   congr 1
   funext e
   rw [reach_eq fuel]
theorem last_eq : Region.lastB md ops l ds i = lastT (rtab md ops).2 l.toList ds i := by
 unfold Region.lastB lastT
 rw [rtab_length]
 congr 1
 funext d
 rw [gd,reach_eq]
theorem readyAt_mem (h : readyAt T.2 l.toList i = true) (hT : rtab md ops = T) : (Region.ready md ops l).contains i = true := by
 subst hT
 rw [ready_eq]
 unfold readyT
 rw [List.contains_iff_mem,List.mem_filter,List.mem_range]
 refine ⟨?_,h⟩
 unfold readyAt at h
 rw [Bool.and_eq_true] at h
 cases hq : (rtab md ops).2[i]? with
 | none => rw [hq] at h;simp at h
 | some r => exact (List.getElem?_eq_some_iff.1 hq).1
theorem set_of (h : (l.toList.set i true == l'.toList) = true) : (l.setIfInBounds i true == l') = true := by
 rw [beq_iff_eq] at h ⊢
 apply Array.ext'
 rw [Array.toList_setIfInBounds]
 exact h
def anyT (T : Bool × List (List Nat × List Nat)) (l l' : List Bool) (i : Nat) : Bool := T.1 && freeT T.2 l i && readyAt T.2 l i && (l.set i true == l')
/-- pure_'s condition out of the table. -/
theorem any_of (hT : rtab md ops = T) (h : anyT T l.toList l'.toList i = true) : anyB md ops l l' i = true := by
 simp only [anyT,Bool.and_eq_true] at h
 obtain ⟨⟨⟨h1,h2⟩,h3⟩,h4⟩ := h
 have h5 := readyAt_mem h3 hT
 have h6 := set_of h4
 subst hT
 simp only [anyB,Bool.and_eq_true]
 exact ⟨⟨⟨h1,by rw [free_eq];exact h2⟩,h5⟩,h6⟩
def takeT (T : Bool × List (List Nat × List Nat)) (ds : List Nat) (l l' : List Bool) (i : Nat) : Bool := T.1 && freeT T.2 l i && readyAt T.2 l i && closedT T.2 l && lastT T.2 l ds i && (l.set i true == l')
/-- take_'s. -/
theorem take_of (hT : rtab md ops = T) (h : takeT T ds l.toList l'.toList i = true) : takeB md ops ds l l' i = true := by
 simp only [takeT,Bool.and_eq_true] at h
 obtain ⟨⟨⟨⟨⟨h1,h2⟩,h3⟩,h4⟩,h5⟩,h6⟩ := h
 have h7 := readyAt_mem h3 hT
 have h8 := set_of h6
 subst hT
 simp only [takeB,Bool.and_eq_true]
 exact ⟨⟨⟨⟨⟨h1,by rw [free_eq];exact h2⟩,h7⟩,by rw [closed_eq];exact h4⟩,by rw [last_eq];exact h5⟩,h8⟩
/-- one_'s and last_'s. -/
theorem one_of (hT : rtab md ops = T) (h : (readyT T.2 l.toList == [i] && l.toList.set i true == l'.toList) = true) : readyB md ops l l' i = true := by
 simp only [Bool.and_eq_true] at h
 obtain ⟨h1,h2⟩ := h
 subst hT
 simp only [readyB,Bool.and_eq_true]
 exact ⟨by rw [ready_eq];exact h1,set_of h2⟩
/-- done_'s. -/
theorem done_of (hT : rtab md ops = T) (h : (readyT T.2 l.toList == []) = true) : (Region.ready md ops l == []) = true := by
 subst hT
 rw [ready_eq]
 exact h
/-- What d waits for, as_ bits: told in the table (B), checked in one pass: each bit is a need of d, or a bit of an earlier need's. -/
def upM (B : List Nat) (d : Nat) : List Nat → Nat
 | [] => 0
 | n :: r => (2 ^ n ||| (if n < d then B.getD n 0 else 0)) ||| upM B d r
def waitsOk (T : List (List Nat × List Nat)) (B : List Nat) : Bool := (List.range T.length).all fun d => match T[d]? with
 | some r => (B.getD d 0 ||| upM B d r.1) == upM B d r.1
 | none => false
theorem upM_bit {B : List Nat} {d i : Nat} : ∀ {ns : List Nat},(upM B d ns).testBit i = true → ∃ n ∈ ns,n = i ∨ (n < d ∧ (B.getD n 0).testBit i = true)
 | [],h => by simp [upM] at h
 | n :: r,h => by
  unfold upM at h
  rw [Nat.testBit_or,Nat.testBit_or,Bool.or_eq_true,Bool.or_eq_true] at h
  rcases h with (h | h) | h
  ·rw [Nat.testBit_two_pow] at h
   exact ⟨n,List.mem_cons_self,.inl (by simpa using h)⟩
  ·by_cases hn : n < d
   ·rw [if_pos hn] at h
    exact ⟨n,List.mem_cons_self,.inr ⟨hn,h⟩⟩
   ·rw [if_neg hn] at h
    simp at h
  ·obtain ⟨m,hm,h2⟩ := upM_bit h
   exact ⟨m,List.mem_cons_of_mem _ hm,h2⟩
theorem reach_bit {T : List (List Nat × List Nat)} {B : List Nat} (hB : waitsOk T B = true) : ∀ (fuel d : Nat),d < fuel → d < T.length → (B.getD d 0).testBit i = true → reachT T i fuel d = true
 | 0,d,h,_,_ => by omega
 | fuel + 1,d,h,hd,hb => by
  have h1 := List.all_eq_true.1 hB d (List.mem_range.2 hd)
  cases hr : T[d]? with
  | none => rw [hr] at h1;simp at h1
  | some r =>
   rw [hr] at h1
   simp only [beq_iff_eq] at h1
   have h2 : (upM B d r.1).testBit i = true := by rw [← h1,Nat.testBit_or,hb,Bool.true_or]
   obtain ⟨n,hn,h3⟩ := upM_bit h2
   unfold reachT
   rw [hr]
   simp only
   rw [List.any_eq_true]
   refine ⟨n,hn,?_⟩
   rcases h3 with rfl | ⟨h4,h5⟩
   ·simp
   ·rw [reach_bit hB fuel n (by omega) (by omega) h5,Bool.or_true]
def lastW (T : List (List Nat × List Nat)) (B : List Nat) (l : List Bool) (ds : List Nat) (i : Nat) : Bool := ds.all fun d => l.getD d true || (decide (d < T.length) && (B.getD d 0).testBit i)
def takeW (T : Bool × List (List Nat × List Nat)) (B : List Nat) (ds : List Nat) (l l' : List Bool) (i : Nat) : Bool := T.1 && freeT T.2 l i && readyAt T.2 l i && closedT T.2 l && lastW T.2 B l ds i && (l.set i true == l')
/-- take_'s, by the bits. -/
theorem take_ofW {B : List Nat} (hT : rtab md ops = T) (hB : waitsOk T.2 B = true) (h : takeW T B ds l.toList l'.toList i = true) : takeB md ops ds l l' i = true := by
 refine take_of hT ?_
 simp only [takeW,takeT,Bool.and_eq_true] at h ⊢
 obtain ⟨⟨⟨⟨⟨h1,h2⟩,h3⟩,h4⟩,h5⟩,h6⟩ := h
 refine ⟨⟨⟨⟨⟨h1,h2⟩,h3⟩,h4⟩,?_⟩,h6⟩
 unfold lastW at h5
 unfold lastT
 rw [List.all_eq_true] at h5 ⊢
 intro d hd
 have h7 := h5 d hd
 rw [Bool.or_eq_true,Bool.and_eq_true,decide_eq_true_eq] at h7
 rcases h7 with h7 | ⟨h8,h9⟩
 ·rw [h7,Bool.true_or]
 ·rw [reach_bit hB _ d h8 h8 h9,Bool.or_true]
theorem with_tabW {P : Program} {Q : Exit → Act → World → Prop} {S : World → Prop} {n : Nat} {a : Act} {w : World} {B : List Nat} (hT : rtab md ops = T) (hB : waitsOk T.2 B = true) (h : Aside0 (rtab md ops = T) → Aside0 (waitsOk T.2 B = true) → wpAnyLast P md ops Q S ds n l a w) : wpAnyLast P md ops Q S ds n l a w := h ⟨hT⟩ ⟨hB⟩
end
/-- The operations of a region, by its number. -/
def opsIn : Code → Nat → Option (Array Oper)
 | .region id ops _,k => if id == k then some ops else none
 | .seq a b,k => match opsIn a k with
  | some o => some o
  | none => opsIn b k
 | .cond _ a b,k => match opsIn a k with
  | some o => some o
  | none => opsIn b k
 | .block _ c,k => opsIn c k
 | .loop c,k => opsIn c k
 | .scope c,k => opsIn c k
 | .rangeFunc _ _ a b,k => match opsIn a k with
  | some o => some o
  | none => opsIn b k
 | _,_ => none
def opsOf (f : Func) (k : Nat) : Array Oper := ((f.body.bind fun c => opsIn c k)).getD #[]
end Go.Proofs.YtfcghajnnllmhaaW.PrintLast

namespace Go.Proofs.Ytfcghajnnllmhaa.QP
open Go.RowKit Go.Proofs.YtfcghajnnllmhaaW.PrintWords Go.Proofs.YtfcghajnnllmhaaW.PrintLast Go.Proofs.YtfcghajnnllmhaaW.PrintMore
attribute [local go_sem] max2_int min2_int max_two min_two max_three min_three max_four min_four   -- for this text's walks alone
set_option linter.unusedVariables false
set_option linter.unusedSimpArgs false

def errW : Option Int → Value
 | none => .nilIface
 | some c => .iface 0 (.int .i64 c)
theorem errW_none : errW none = .nilIface := rfl
theorem errW_some (c : Int) : errW (some c) = .iface 0 (.int .i64 c) := rfl

-- the values' own types
/-! #### struct type 27, nested in itself -/
structure S27 where
 f0 : Int
 f1 : Int
 f2 : Int
 f3 : Int
 f4 : Int
 f5 : (List S27)
def z27 : S27 := ⟨(0 : Int),(0 : Int),(0 : Int),(0 : Int),(0 : Int),([] : List S27)⟩
def F27 (d : Kd S27) : Kd S27 := Kd.iso (Kd.pair (Kd.int .i64) (Kd.pair (Kd.int .i64) (Kd.pair (Kd.int .i64) (Kd.pair (Kd.int .i64) (Kd.pair (Kd.int .i64) (Kd.slice 27 d)))))) (fun x : S27 => (x.f0,x.f1,x.f2,x.f3,x.f4,x.f5))
theorem mono27 : Kd.Mono F27 := Kd.mono_iso _ (Kd.mono_pair (Kd.mono_const _) (Kd.mono_pair (Kd.mono_const _) (Kd.mono_pair (Kd.mono_const _) (Kd.mono_pair (Kd.mono_const _) (Kd.mono_pair (Kd.mono_const _) (Kd.mono_slice 27 Kd.mono_id))))))
theorem sub27 : Kd.Sub F27 [27] := Kd.sub_iso _ (Kd.sub_pair (Kd.sub_const _ (by decide)) (Kd.sub_pair (Kd.sub_const _ (by decide)) (Kd.sub_pair (Kd.sub_const _ (by decide)) (Kd.sub_pair (Kd.sub_const _ (by decide)) (Kd.sub_pair (Kd.sub_const _ (by decide)) (Kd.sub_slice 27 (by decide) Kd.sub_id))))))
theorem sz27 : ∀ n,(Kd.upto F27 6 [27] n).sz = 6 := Kd.upto_sz (fun _ => rfl)
def k27 : Kd S27 := Kd.fix F27 6 [27] sz27 (Kd.upto_E sub27)
theorem k27_heap : Kd.Heap k27 := Kd.heap_fix (fun _ h_ => Kd.heap_iso _ (Kd.heap_pair (Kd.heap_int .i64) (Kd.heap_pair (Kd.heap_int .i64) (Kd.heap_pair (Kd.heap_int .i64) (Kd.heap_pair (Kd.heap_int .i64) (Kd.heap_pair (Kd.heap_int .i64) (Kd.heap_slice 27 h_)))))))
theorem k27_open {w : World} {x : S27} {cs : List Value} (h : k27.K w x cs) : ∃ A5 c5,cs = [.int .i64 x.f0,.int .i64 x.f1,.int .i64 x.f2,.int .i64 x.f3,.int .i64 x.f4,.slice A5 x.f5.length c5] ∧ x.f5.length ≤ c5 ∧ k27.C w A5 x.f5.length x.f5 := by
 obtain ⟨n,h⟩ := h
 cases n with
 | zero => exact h.elim
 | succ n =>
  obtain ⟨_,_,rfl,rfl,⟨_,_,rfl,rfl,⟨_,_,rfl,rfl,⟨_,_,rfl,rfl,⟨_,_,rfl,rfl,⟨A5,c5,rfl,l5,g5⟩⟩⟩⟩⟩⟩ := h
  exact ⟨A5,c5,rfl,l5,Kd.fix_C g5⟩
theorem k27_mk (w : World) (x : S27) {A5 : Option Addr} {c5 : Nat} (l5 : x.f5.length ≤ c5) (g5 : k27.C w A5 x.f5.length x.f5) : k27.K w x [.int .i64 x.f0,.int .i64 x.f1,.int .i64 x.f2,.int .i64 x.f3,.int .i64 x.f4,.slice A5 x.f5.length c5] := by
 obtain ⟨n5,q5⟩ := Kd.fix_C_back mono27 g5
 have r5 := Kd.upto_C_le mono27 sz27 (show n5 ≤ n5 by omega) q5
 exact ⟨n5 + 1,⟨[.int .i64 x.f0],[.int .i64 x.f1,.int .i64 x.f2,.int .i64 x.f3,.int .i64 x.f4,.slice A5 x.f5.length c5],rfl,rfl,⟨[.int .i64 x.f1],[.int .i64 x.f2,.int .i64 x.f3,.int .i64 x.f4,.slice A5 x.f5.length c5],rfl,rfl,⟨[.int .i64 x.f2],[.int .i64 x.f3,.int .i64 x.f4,.slice A5 x.f5.length c5],rfl,rfl,⟨[.int .i64 x.f3],[.int .i64 x.f4,.slice A5 x.f5.length c5],rfl,rfl,⟨[.int .i64 x.f4],[.slice A5 x.f5.length c5],rfl,rfl,⟨A5,c5,rfl,l5,r5⟩⟩⟩⟩⟩⟩⟩
theorem k27_openF {W : World} {ok : Nat → Prop} {x : S27} {cs : List Value} (h : Kd.FK k27 W ok x cs) : ∃ A5 c5,cs = [.int .i64 x.f0,.int .i64 x.f1,.int .i64 x.f2,.int .i64 x.f3,.int .i64 x.f4,.slice A5 x.f5.length c5] ∧ x.f5.length ≤ c5 ∧ Kd.F k27 W ok A5 x.f5.length x.f5 := by
 obtain ⟨A5,c5,rfl,l5,_⟩ := k27_open (Kd.FK_now h)
 exact ⟨A5,c5,rfl,l5,(fun W' hW => by obtain ⟨A5_,c5_,he,l5_,g5_⟩ := k27_open (h W' hW);injection (Option.some.inj (show some (Value.slice A5 x.f5.length c5) = some (Value.slice A5_ x.f5.length c5_) from congrArg (fun l => l[5]?) he)) with ha_ _ _;rw [ha_];exact g5_)⟩
def rd_T27 (xs : List S27) (i : Int) : S27 := xs.getD i.toNat z27
theorem at_T27 {w : World} {A : Option Addr} {n : Nat} {xs : List S27} (h : Kd.C k27 w A n xs) (i : Int) (h0 : 0 ≤ i) (h1 : i < n) : ∃ ad A5 c5,A = some ad ∧ w.cell? (ad.add (i.toNat * 6)) = some (.int .i64 (rd_T27 xs i).f0) ∧ w.cell? ⟨(ad.add (i.toNat * 6)).block,(ad.add (i.toNat * 6)).off + 1,none⟩ = some (.int .i64 (rd_T27 xs i).f1) ∧ w.cell? ⟨(ad.add (i.toNat * 6)).block,(ad.add (i.toNat * 6)).off + 2,none⟩ = some (.int .i64 (rd_T27 xs i).f2) ∧ w.cell? ⟨(ad.add (i.toNat * 6)).block,(ad.add (i.toNat * 6)).off + 3,none⟩ = some (.int .i64 (rd_T27 xs i).f3) ∧ w.cell? ⟨(ad.add (i.toNat * 6)).block,(ad.add (i.toNat * 6)).off + 4,none⟩ = some (.int .i64 (rd_T27 xs i).f4) ∧ w.cell? ⟨(ad.add (i.toNat * 6)).block,(ad.add (i.toNat * 6)).off + 5,none⟩ = some (.slice A5 (rd_T27 xs i).f5.length c5) ∧ (rd_T27 xs i).f5.length ≤ c5 ∧ k27.C w A5 (rd_T27 xs i).f5.length (rd_T27 xs i).f5 := by
 obtain ⟨ad,c,e,_,hK,hc0⟩ := Kd.C_get h z27 i h0 h1
 have hc : ∀ j u,c[j]? = some u → w.cell? (ad.add (i.toNat * 6 + j)) = some u := hc0
 obtain ⟨A5,c5,rfl,l5,g5⟩ := k27_open hK
 exact ⟨ad,A5,c5,e,hc 0 _ rfl,by rw [← add_field _ _ 1 (by omega)];exact hc 1 _ rfl,by rw [← add_field _ _ 2 (by omega)];exact hc 2 _ rfl,by rw [← add_field _ _ 3 (by omega)];exact hc 3 _ rfl,by rw [← add_field _ _ 4 (by omega)];exact hc 4 _ rfl,by rw [← add_field _ _ 5 (by omega)];exact hc 5 _ rfl,l5,g5⟩

def rd_L3 (xs : List (List S27)) (i : Int) : (List S27) := xs.getD i.toNat ([] : List S27)
def rd_L6 (xs : List (List Int)) (i : Int) : (List Int) := xs.getD i.toNat ([] : List Int)
/-! #### struct type 46, nested in itself -/
structure S46 where
 f0 : Int
 f1 : (List Int)
 f2 : (List S46)
def z46 : S46 := ⟨(0 : Int),([] : List Int),([] : List S46)⟩
def F46 (d : Kd S46) : Kd S46 := Kd.iso (Kd.pair (Kd.int .u64) (Kd.pair (Kd.slice 5 (Kd.int .u8)) (Kd.slice 46 d))) (fun x : S46 => (x.f0,x.f1,x.f2))
theorem mono46 : Kd.Mono F46 := Kd.mono_iso _ (Kd.mono_pair (Kd.mono_const _) (Kd.mono_pair (Kd.mono_const _) (Kd.mono_slice 46 Kd.mono_id)))
theorem sub46 : Kd.Sub F46 [5,46] := Kd.sub_iso _ (Kd.sub_pair (Kd.sub_const _ (by decide)) (Kd.sub_pair (Kd.sub_const _ (by decide)) (Kd.sub_slice 46 (by decide) Kd.sub_id)))
theorem sz46 : ∀ n,(Kd.upto F46 3 [5,46] n).sz = 3 := Kd.upto_sz (fun _ => rfl)
def k46 : Kd S46 := Kd.fix F46 3 [5,46] sz46 (Kd.upto_E sub46)
theorem k46_open {w : World} {x : S46} {cs : List Value} (h : k46.K w x cs) : ∃ A1 c1 A2 c2,cs = [.int .u64 x.f0,.slice A1 x.f1.length c1,.slice A2 x.f2.length c2] ∧ x.f1.length ≤ c1 ∧ (Kd.int .u8).C w A1 x.f1.length x.f1 ∧ x.f2.length ≤ c2 ∧ k46.C w A2 x.f2.length x.f2 := by
 obtain ⟨n,h⟩ := h
 cases n with
 | zero => exact h.elim
 | succ n =>
  obtain ⟨_,_,rfl,rfl,⟨_,_,rfl,⟨A1,c1,rfl,l1,g1⟩,⟨A2,c2,rfl,l2,g2⟩⟩⟩ := h
  exact ⟨A1,c1,A2,c2,rfl,l1,g1,l2,Kd.fix_C g2⟩
theorem k46_mk (w : World) (x : S46) {A1 : Option Addr} {c1 : Nat} (l1 : x.f1.length ≤ c1) (g1 : (Kd.int .u8).C w A1 x.f1.length x.f1) {A2 : Option Addr} {c2 : Nat} (l2 : x.f2.length ≤ c2) (g2 : k46.C w A2 x.f2.length x.f2) : k46.K w x [.int .u64 x.f0,.slice A1 x.f1.length c1,.slice A2 x.f2.length c2] := by
 obtain ⟨n2,q2⟩ := Kd.fix_C_back mono46 g2
 have r2 := Kd.upto_C_le mono46 sz46 (show n2 ≤ n2 by omega) q2
 exact ⟨n2 + 1,⟨[.int .u64 x.f0],[.slice A1 x.f1.length c1,.slice A2 x.f2.length c2],rfl,rfl,⟨[.slice A1 x.f1.length c1],[.slice A2 x.f2.length c2],rfl,⟨A1,c1,rfl,l1,g1⟩,⟨A2,c2,rfl,l2,r2⟩⟩⟩⟩
def rd_T46 (xs : List S46) (i : Int) : S46 := xs.getD i.toNat z46
theorem at_T46 {w : World} {A : Option Addr} {n : Nat} {xs : List S46} (h : Kd.C k46 w A n xs) (i : Int) (h0 : 0 ≤ i) (h1 : i < n) : ∃ ad A1 c1 A2 c2,A = some ad ∧ w.cell? (ad.add (i.toNat * 3)) = some (.int .u64 (rd_T46 xs i).f0) ∧ w.cell? ⟨(ad.add (i.toNat * 3)).block,(ad.add (i.toNat * 3)).off + 1,none⟩ = some (.slice A1 (rd_T46 xs i).f1.length c1) ∧ w.cell? ⟨(ad.add (i.toNat * 3)).block,(ad.add (i.toNat * 3)).off + 2,none⟩ = some (.slice A2 (rd_T46 xs i).f2.length c2) ∧ (rd_T46 xs i).f1.length ≤ c1 ∧ (Kd.int .u8).C w A1 (rd_T46 xs i).f1.length (rd_T46 xs i).f1 ∧ (rd_T46 xs i).f2.length ≤ c2 ∧ k46.C w A2 (rd_T46 xs i).f2.length (rd_T46 xs i).f2 := by
 obtain ⟨ad,c,e,_,hK,hc0⟩ := Kd.C_get h z46 i h0 h1
 have hc : ∀ j u,c[j]? = some u → w.cell? (ad.add (i.toNat * 3 + j)) = some u := hc0
 obtain ⟨A1,c1,A2,c2,rfl,l1,g1,l2,g2⟩ := k46_open hK
 exact ⟨ad,A1,c1,A2,c2,e,hc 0 _ rfl,by rw [← add_field _ _ 1 (by omega)];exact hc 1 _ rfl,by rw [← add_field _ _ 2 (by omega)];exact hc 2 _ rfl,l1,g1,l2,g2⟩

def rd_L8 (xs : List (List S46)) (i : Int) : (List S46) := xs.getD i.toNat ([] : List S46)
end Go.Proofs.Ytfcghajnnllmhaa.QP

namespace Go.Proofs.Ytfcghajnnllmhaa
open Go.RowKit

inductive RT (α : Type) where
 | mk (a : α) (l : List (RT α))
namespace RT
variable {α : Type}
def a : RT α → α
 | .mk a _ => a
def l : RT α → List (RT α)
 | .mk _ l => l
end RT

/-- How a struct's fields ahead of the slice read. -/
abbrev Head (α : Type) := World → (Nat → Prop) → α → List Value → Prop

section
variable {α : Type}
mutual
/-- A struct's cells read as a tree: its last field is the slice. -/
def TR (H : Head α) (n : Nat) (w : World) (ok : Nat → Prop) : RT α → List Value → Prop
 | .mk a l,cs => ∃ hd A c,cs = hd ++ [.slice A l.length c] ∧ hd.length + 1 = n ∧ H w ok a hd ∧ l.length ≤ c ∧ l.length ≤ 140737488355328 ∧ (0 < l.length → ∃ b off,A = some ⟨b,off,none⟩ ∧ ok b ∧ TRs H n w ok l b off)
def TRs (H : Head α) (n : Nat) (w : World) (ok : Nat → Prop) : List (RT α) → Nat → Nat → Prop
 | [],_,_ => True
 | t :: l,b,off => (∃ cs,TR H n w ok t cs ∧ ∀ j u,cs[j]? = some u → w.cell? ⟨b,off + j,none⟩ = some u) ∧ TRs H n w ok l b (off + n)
end
/-- A slice's address reads as a list of trees. -/
def TL (H : Head α) (n : Nat) (w : World) (ok : Nat → Prop) (l : List (RT α)) (A : Option Addr) : Prop :=
 0 < l.length → ∃ b off,A = some ⟨b,off,none⟩ ∧ ok b ∧ TRs H n w ok l b off
theorem TR_def (H : Head α) (n : Nat) (w : World) (ok : Nat → Prop) (t : RT α) (cs : List Value) :
  TR H n w ok t cs ↔ ∃ hd A c,cs = hd ++ [.slice A t.l.length c] ∧ hd.length + 1 = n ∧ H w ok t.a hd ∧ t.l.length ≤ c ∧ t.l.length ≤ 140737488355328 ∧ TL H n w ok t.l A := by
 cases t
 rw [TR]
 rfl
theorem TRs.at_ {H : Head α} {n : Nat} {w : World} {ok : Nat → Prop} {l : List (RT α)} {b off : Nat} (h : TRs H n w ok l b off) {i : Nat} (hi : i < l.length) :
  ∃ cs,TR H n w ok (l[i]'hi) cs ∧ ∀ j u,cs[j]? = some u → w.cell? ⟨b,off + i * n + j,none⟩ = some u := by
 induction l generalizing off i with
 | nil => simp at hi
 | cons t l ih =>
  rw [TRs] at h
  cases i with
  | zero => simpa using h.1
  | succ i =>
   obtain ⟨cs,h1,h2⟩ := ih h.2 (i := i) (by simpa using hi)
   refine ⟨cs,by simpa using h1,fun j u hu => ?_⟩
   rw [Nat.succ_mul,show off + (i * n + n) + j = off + n + i * n + j from by omega]
   exact h2 j u hu
theorem TRs.of {H : Head α} {n : Nat} {w : World} {ok : Nat → Prop} {l : List (RT α)} {b off : Nat}
  (h : ∀ i (hi : i < l.length),∃ cs,TR H n w ok (l[i]'hi) cs ∧ ∀ j u,cs[j]? = some u → w.cell? ⟨b,off + i * n + j,none⟩ = some u) : TRs H n w ok l b off := by
 induction l generalizing off with
 | nil => rw [TRs];trivial
 | cons t l ih =>
  rw [TRs]
  obtain ⟨c0,g1,g2⟩ := h 0 (by simp)
  refine ⟨⟨c0,g1,fun j u hu => by simpa using g2 j u hu⟩,ih (fun i hi => ?_)⟩
  obtain ⟨cs,h1,h2⟩ := h (i + 1) (by simpa using hi)
  refine ⟨cs,by simpa using h1,fun j u hu => ?_⟩
  have := h2 j u hu
  rw [Nat.succ_mul,show off + (i * n + n) + j = off + n + i * n + j from by omega] at this
  exact this
theorem TL.at_ {H : Head α} {n : Nat} {w : World} {ok : Nat → Prop} {l : List (RT α)} {A : Option Addr} (h : TL H n w ok l A) {i : Nat} (hi : i < l.length) :
  ∃ b off cs,A = some ⟨b,off,none⟩ ∧ ok b ∧ TR H n w ok (l[i]'hi) cs ∧ ∀ j u,cs[j]? = some u → w.cell? ⟨b,off + i * n + j,none⟩ = some u := by
 obtain ⟨b,off,e,hb,ht⟩ := h (by omega)
 obtain ⟨cs,h1,h2⟩ := ht.at_ hi
 exact ⟨b,off,cs,e,hb,h1,h2⟩

/-- A head that reads out of memory reads there as before, if its blocks are as before. -/
structure HeadKp (H : Head α) : Prop where
 kp : ∀ {w w' : World} {ok S : Nat → Prop} {a : α} {hd : List Value},H w ok a hd → Kp S w w' → (∀ i,ok i → ¬ S i) → H w' ok a hd
 mono : ∀ {w : World} {ok ok' : Nat → Prop} {a : α} {hd : List Value},H w ok a hd → (∀ i,ok i → ok' i) → H w ok' a hd

mutual
theorem TR.kp_ {H : Head α} (hH : HeadKp H) {n : Nat} {w w' : World} {ok ok' S : Nat → Prop} (hk : Kp S w w') (hd : ∀ i,ok i → ¬ S i) (hm : ∀ i,ok i → ok' i) : ∀ (t : RT α) (cs : List Value),TR H n w ok t cs → TR H n w' ok' t cs
 | .mk a l,cs,h => by
  rw [TR] at h ⊢
  obtain ⟨hds,A,c,e,hl,hh,hc,hc2,ht⟩ := h
  refine ⟨hds,A,c,e,hl,hH.mono (hH.kp hh hk hd) hm,hc,hc2,fun h0 => ?_⟩
  obtain ⟨b,off,e1,hb,hs⟩ := ht h0
  exact ⟨b,off,e1,hm b hb,TRs.kp_ hH hk hd hm l b off hb hs⟩
theorem TRs.kp_ {H : Head α} (hH : HeadKp H) {n : Nat} {w w' : World} {ok ok' S : Nat → Prop} (hk : Kp S w w') (hd : ∀ i,ok i → ¬ S i) (hm : ∀ i,ok i → ok' i) : ∀ (l : List (RT α)) (b off : Nat),ok b → TRs H n w ok l b off → TRs H n w' ok' l b off
 | [],_,_,_,_ => by rw [TRs];trivial
 | t :: l,b,off,hb,h => by
  rw [TRs] at h ⊢
  obtain ⟨⟨cs,h1,h2⟩,h3⟩ := h
  exact ⟨⟨cs,TR.kp_ hH hk hd hm t cs h1,fun j u hu => hk.cell (h2 j u hu) (hd b hb)⟩,TRs.kp_ hH hk hd hm l b _ hb h3⟩
end
theorem TL.kp_ {H : Head α} (hH : HeadKp H) {n : Nat} {w w' : World} {ok ok' S : Nat → Prop} {l : List (RT α)} {A : Option Addr} (h : TL H n w ok l A) (hk : Kp S w w') (hd : ∀ i,ok i → ¬ S i) (hm : ∀ i,ok i → ok' i) : TL H n w' ok' l A := by
 intro h0
 obtain ⟨b,off,e1,hb,hs⟩ := h h0
 exact ⟨b,off,e1,hm b hb,TRs.kp_ hH hk hd hm l b off hb hs⟩
/-- The rest of a list. -/
theorem TL.drop {H : Head α} {n : Nat} {w : World} {ok : Nat → Prop} {l : List (RT α)} {b off : Nat} (h : TL H n w ok l (some ⟨b,off,none⟩)) (k : Nat) : TL H n w ok (l.drop k) (some ⟨b,off + k * n,none⟩) := by
 intro h0
 rw [List.length_drop] at h0
 obtain ⟨b',off',e,hb,hs⟩ := h (by omega)
 injection e with e
 injection e with e1 e2
 subst e1 e2
 refine ⟨b,_,rfl,hb,TRs.of (fun i hi => ?_)⟩
 rw [List.length_drop] at hi
 obtain ⟨cs,h1,h2⟩ := hs.at_ (i := k + i) (by omega)
 refine ⟨cs,by simpa using h1,fun j u hu => ?_⟩
 have := h2 j u hu
 rw [Nat.add_mul,show off + (k * n + i * n) + j = off + k * n + i * n + j from by omega] at this
 exact this
theorem TL.take {H : Head α} {n : Nat} {w : World} {ok : Nat → Prop} {l : List (RT α)} {A : Option Addr} (h : TL H n w ok l A) (k : Nat) : TL H n w ok (l.take k) A := by
 intro h0
 rw [List.length_take] at h0
 obtain ⟨b,off,e,hb,hs⟩ := h (by omega)
 refine ⟨b,off,e,hb,TRs.of (fun i hi => ?_)⟩
 rw [List.length_take] at hi
 obtain ⟨cs,h1,h2⟩ := hs.at_ (i := i) (by omega)
 exact ⟨cs,by simpa using h1,h2⟩
end

/-! ### Folds over trees. -/
theorem RT.induct {α : Type} {p : RT α → Prop} (h : ∀ a l,(∀ t ∈ l,p t) → p (.mk a l)) : ∀ t,p t := by
 intro t
 exact RT.rec (motive_1 := p) (motive_2 := fun l => ∀ t ∈ l,p t) (fun a l ih => h a l ih) (fun _ h => by simp at h)
  (fun t l h1 h2 x hx => by
   rcases List.mem_cons.1 hx with rfl | hx
   ·exact h1
   ·exact h2 x hx) t
end Go.Proofs.Ytfcghajnnllmhaa

namespace Go.Proofs.Ytfcghajnnllmhaa
open Go.ChangeShapes Go.WideShapes Go.ChangeAt Go.RowKit Go.Deep

section
variable {H : Type} {enc : TypeId × Value → H} {P : Program} {w : World} {sp : Nat → Bool} {held : Bool}

/-- What a tree's type must be. -/
structure TreeType (P : Program) (t ts : TypeId) (fs : Array Field) (n : Nat) : Prop where
 ht : P.underlying t = some (.struct fs)
 hone : oneCellFields P fs = true
 hC : P.cellsOf t = n + 1
 hn : fs.size = n + 1
 hlast : (fs[n]?).map (·.type) = some ts
 hts : P.underlying ts = some (.slice t)
 hB : 1 ≤ P.bytesOf t

/-- How the fields ahead of the slice are opened. -/
def HeadOpen {α : Type} (enc : TypeId × Value → H) (P : Program) (w : World) (sp : Nat → Bool) (held : Bool) (fs : Array Field) (n : Nat) (Hd : Head α) : Prop :=
 ∀ (vs : List Value) (ds : List (DataW H)),vs.length = n → (∀ i,i < n → ∃ f v d ps fuel,fs[i]? = some f ∧ vs[i]? = some v ∧ ds[i]? = some d ∧ DataW.trod enc P w 0 sp held fuel f.type [v] = some (d,ps) ∧ (d.weights P f.type).all (· ≤ reachBytes) = true) →
  ∃ a,Hd w (· < w.heap.size) a vs

end
end Go.Proofs.Ytfcghajnnllmhaa

namespace Go.Proofs.Ytfcghajnnllmhaa
open Go.RowKit

/-- A form's numbers. -/
structure FH where
 (k s lo hi st : Int)
deriving DecidableEq
def i64B (x : Int) : Prop := -9223372036854775808 ≤ x ∧ x < 9223372036854775808
structure FH.ok (a : FH) : Prop where
 (k : i64B a.k)
 (s : i64B a.s)
 (lo : i64B a.lo)
 (hi : i64B a.hi)
 (st : i64B a.st)
def FHd : Head FH := fun _ _ a hd => hd = [.int .i64 a.k,.int .i64 a.s,.int .i64 a.lo,.int .i64 a.hi,.int .i64 a.st] ∧ a.ok
theorem FHd_kp : HeadKp FHd := ⟨fun h _ _ => h,fun h _ => h⟩
abbrev Fm := RT FH
/-- A slice value that reads as these forms. -/
def FsR (w : World) (ok : Nat → Prop) (v : Value) (l : List Fm) : Prop := ∃ A c,v = .slice A l.length c ∧ l.length ≤ c ∧ l.length ≤ 140737488355328 ∧ TL FHd 6 w ok l A
/-- A value that reads as a form. -/
def FmR (w : World) (ok : Nat → Prop) (v : Value) (f : Fm) : Prop :=
 ∃ sv,v = .agg #[.int .i64 f.a.k,.int .i64 f.a.s,.int .i64 f.a.lo,.int .i64 f.a.hi,.int .i64 f.a.st,sv] ∧ f.a.ok ∧ FsR w ok sv f.l
section
variable {w w' : World} {ok ok' S : Nat → Prop} {v : Value} {l : List Fm} {f : Fm}
theorem FsR.kp (h : FsR w ok v l) (hk : Kp S w w') (hd : ∀ i,ok i → ¬ S i) : FsR w' ok v l := by
 obtain ⟨A,c,e,h1,h2,h3⟩ := h
 exact ⟨A,c,e,h1,h2,h3.kp_ FHd_kp hk hd (fun _ h => h)⟩
theorem FsR.mono (h : FsR w ok v l) (hm : ∀ i,ok i → ok' i) : FsR w ok' v l := by
 obtain ⟨A,c,e,h1,h2,h3⟩ := h
 exact ⟨A,c,e,h1,h2,h3.kp_ FHd_kp (Kp.refl (fun _ => False) w) (fun _ _ h => h) hm⟩
theorem FmR.kp (h : FmR w ok v f) (hk : Kp S w w') (hd : ∀ i,ok i → ¬ S i) : FmR w' ok v f := by
 obtain ⟨sv,e,h1,h2⟩ := h
 exact ⟨sv,e,h1,h2.kp hk hd⟩
theorem FmR.mono (h : FmR w ok v f) (hm : ∀ i,ok i → ok' i) : FmR w ok' v f := by
 obtain ⟨sv,e,h1,h2⟩ := h
 exact ⟨sv,e,h1,h2.mono hm⟩
theorem FsR.nil : FsR w ok (.slice none 0 0) [] := ⟨none,0,rfl,Nat.le_refl _,by simp,fun h => by simp at h⟩
theorem FmR.of_tr {cs : List Value} (h : TR FHd 6 w ok f cs) : FmR w ok (.agg cs.toArray) f ∧ cs.length = 6 := by
 obtain ⟨hd,A,c,e,hl,⟨hh,ho⟩,h1,h2,h3⟩ := (TR_def _ _ _ _ _ _).1 h
 subst hh
 subst e
 exact ⟨⟨_,rfl,ho,A,c,rfl,h1,h2,h3⟩,by simp⟩
theorem FmR.tr (h : FmR w ok v f) : ∃ sv,v = .agg #[.int .i64 f.a.k,.int .i64 f.a.s,.int .i64 f.a.lo,.int .i64 f.a.hi,.int .i64 f.a.st,sv] ∧ TR FHd 6 w ok f [.int .i64 f.a.k,.int .i64 f.a.s,.int .i64 f.a.lo,.int .i64 f.a.hi,.int .i64 f.a.st,sv] := by
 obtain ⟨sv,e,h1,A,c,e2,h2,h3,h4⟩ := h
 subst e2
 exact ⟨_,e,(TR_def _ _ _ _ _ _).2 ⟨[.int .i64 f.a.k,.int .i64 f.a.s,.int .i64 f.a.lo,.int .i64 f.a.hi,.int .i64 f.a.st],A,c,rfl,rfl,⟨rfl,h1⟩,h2,h3,h4⟩⟩
/-- An element: its value, and its cells. -/
theorem FsR.at_ {A : Option Addr} {n c : Nat} (h : FsR w ok (.slice A n c) l) {i : Nat} (hi : i < l.length) :
  ∃ b off A2 c2,A = some ⟨b,off,none⟩ ∧ ok b ∧ FmR w ok (.agg #[.int .i64 (l[i]'hi).a.k,.int .i64 (l[i]'hi).a.s,.int .i64 (l[i]'hi).a.lo,.int .i64 (l[i]'hi).a.hi,.int .i64 (l[i]'hi).a.st,.slice A2 (l[i]'hi).l.length c2]) (l[i]'hi) ∧
   w.cell? ⟨b,off + i * 6,none⟩ = some (.int .i64 (l[i]'hi).a.k) ∧ w.cell? ⟨b,off + i * 6 + 1,none⟩ = some (.int .i64 (l[i]'hi).a.s) ∧ w.cell? ⟨b,off + i * 6 + 2,none⟩ = some (.int .i64 (l[i]'hi).a.lo) ∧
   w.cell? ⟨b,off + i * 6 + 3,none⟩ = some (.int .i64 (l[i]'hi).a.hi) ∧ w.cell? ⟨b,off + i * 6 + 4,none⟩ = some (.int .i64 (l[i]'hi).a.st) ∧ w.cell? ⟨b,off + i * 6 + 5,none⟩ = some (.slice A2 (l[i]'hi).l.length c2) := by
 obtain ⟨A',c',e,_,_,h3⟩ := h
 injection e with e1 e2 e3
 subst e1
 obtain ⟨b,off,cs,hA,hb,ht,hc⟩ := h3.at_ hi
 have h1 := (FmR.of_tr ht).1
 obtain ⟨hd,A2,c2,e,hl,⟨hh,ho⟩,_,_,_⟩ := (TR_def _ _ _ _ _ _).1 ht
 subst hh
 subst e
 exact ⟨b,off,_,_,hA,hb,h1,hc 0 _ rfl,hc 1 _ rfl,hc 2 _ rfl,hc 3 _ rfl,hc 4 _ rfl,hc 5 _ rfl⟩
end

/-- Those that play a part. -/
def partsF (f : Fm) : List Fm := if f.a.k = 2 ∨ f.a.k = 3 then f.l else []
/-- Is a form deeper than so much? -/
def deepB : Nat → Fm → Bool
 | 0,_ => true
 | n + 1,f => (partsF f).any (deepB n)
def boundsR (lo hi most : Int) : Int := if lo < 0 ∨ hi < lo ∨ most < hi then 5 else 0
/-- What is wrong with a form itself. -/
def ownN (k s lo hi st : Int) (n : Nat) : Int :=
 if k = 0 then (if s < 1 ∨ (4 < s ∧ s ≠ 8) then 3 else 0)
 else if k = 2 ∨ k = 1 then
  (if s < 1 ∨ 3 < s then 3 else if boundsR lo hi (256 ^ s.toNat - 1) ≠ 0 ∨ st < 1 ∨ 65536 < st then 5 else if k = 2 ∧ n ≠ 1 then 15 else 0)
 else if k = 3 then (if 32 < n then 15 else 0)
 else if k = 4 then boundsR lo hi 16777215
 else if k = 5 then boundsR lo lo 16777215
 else 2
def ownR (f : Fm) : Int := ownN f.a.k f.a.s f.a.lo f.a.hi f.a.st f.l.length
end Go.Proofs.Ytfcghajnnllmhaa

namespace Go.Proofs.Ytfcghajnnllmhaa
open Go.RowKit

section
variable {α : Type}
theorem TRs.flat {H : Head α} (hH : HeadKp H) (hone : ∀ {w : World} {ok : Nat → Prop} {a : α} {hd : List Value},H w ok a hd → ∀ u ∈ hd,u.oneCell' = true) {n : Nat} {w : World} {ok : Nat → Prop} :
  ∀ {l : List (RT α)} {b off : Nat},TRs H n w ok l b off → ∃ xs : List Value,xs.length = l.length * n ∧ (∀ u ∈ xs,u.oneCell' = true) ∧ (∀ j u,xs[j]? = some u → w.cell? ⟨b,off + j,none⟩ = some u) ∧
   ∀ (S ok' : Nat → Prop) (W : World) (b' off' : Nat),Kp S w W → (∀ i,ok i → ¬ S i) → (∀ i,ok i → ok' i) → (∀ j u,xs[j]? = some u → W.cell? ⟨b',off' + j,none⟩ = some u) → TRs H n W ok' l b' off' := by
 intro l
 induction l with
 | nil => exact fun {b off} _ => ⟨[],by simp,by simp,by simp,fun _ _ _ _ _ _ _ _ _ => by rw [TRs];trivial⟩
 | cons t l ih =>
  intro b off h
  rw [TRs] at h
  obtain ⟨⟨cs,h1,h2⟩,h3⟩ := h
  obtain ⟨xs,g1,g2,g3,g4⟩ := ih h3
  obtain ⟨hd,A,c,e,hl,hh,_⟩ := (TR_def _ _ _ _ _ _).1 h1
  have hcn : cs.length = n := by rw [e];simpa using hl
  refine ⟨cs ++ xs,by rw [List.length_append,g1,hcn,List.length_cons,Nat.succ_mul];omega,?_,?_,?_⟩
  ·intro u hu
   rcases List.mem_append.1 hu with hu | hu
   ·rw [e] at hu
    rcases List.mem_append.1 hu with hu | hu
    ·exact hone hh u hu
    ·obtain rfl : u = _ := by simpa using hu
     rfl
   ·exact g2 u hu
  ·intro j u hu
   by_cases hj : j < cs.length
   ·rw [List.getElem?_append_left hj] at hu
    exact h2 j u hu
   ·rw [List.getElem?_append_right (by omega)] at hu
    have := g3 _ u hu
    rw [show off + n + (j - cs.length) = off + j from by omega] at this
    exact this
  ·intro S ok' W b' off' hk hd' hm hc
   rw [TRs]
   refine ⟨⟨cs,TR.kp_ hH hk hd' hm t cs h1,fun j u hu => hc j u ?_⟩,g4 S ok' W b' (off' + n) hk hd' hm (fun j u hu => ?_)⟩
   ·rw [List.getElem?_append_left (List.getElem?_eq_some_iff.1 hu).1]
    exact hu
   ·have := hc (n + j) u (by rw [List.getElem?_append_right (by omega),← hu,hcn];congr 1;omega)
    rw [show off' + (n + j) = off' + n + j from by omega] at this
    exact this
theorem TRs.here {H : Head α} {n : Nat} {w : World} {ok : Nat → Prop} {l : List (RT α)} {b off : Nat} (h0 : 0 < l.length) (h : TRs H n w ok l b off) : b < w.heap.size := by
 cases l with
 | nil => simp at h0
 | cons t l =>
  rw [TRs] at h
  obtain ⟨⟨cs,h1,h2⟩,_⟩ := h
  obtain ⟨hd,A,c,e,hl,_⟩ := (TR_def _ _ _ _ _ _).1 h1
  have h3 : 0 < cs.length := by rw [e];simp
  exact cell_lt (h2 0 _ (List.getElem?_eq_getElem h3))
theorem add_spot (b off j : Nat) : (⟨b,off,none⟩ : Addr).add j = ⟨b,off + j,none⟩ := by
 unfold Addr.add
 split
 ·rename_i h
  first | (subst h;rfl) | simp_all
 ·rfl
theorem TL.flat {H : Head α} (hH : HeadKp H) (hone : ∀ {w : World} {ok : Nat → Prop} {a : α} {hd : List Value},H w ok a hd → ∀ u ∈ hd,u.oneCell' = true) {n : Nat} {w : World} {ok : Nat → Prop} {l : List (RT α)} {A : Option Addr} (h : TL H n w ok l A) :
  ∃ xs : List Value,Rd w ok n A l.length xs ∧ (∀ u ∈ xs,u.oneCell' = true) ∧
   ∀ (S ok' : Nat → Prop) (W : World) (A' : Option Addr),Kp S w W → (∀ i,ok i → ¬ S i) → (∀ i,ok i → ok' i) → Rd W ok' n A' l.length xs → TL H n W ok' l A' := by
 by_cases h0 : 0 < l.length
 ·obtain ⟨b,off,rfl,hb,ht⟩ := h h0
  obtain ⟨xs,g1,g2,g3,g4⟩ := ht.flat hH hone
  refine ⟨xs,⟨g1,fun _ => ⟨_,rfl,rfl,hb,fun j u hu => by rw [add_spot];exact g3 j u hu⟩⟩,g2,fun S ok' W A' hk hd hm hr _ => ?_⟩
  obtain ⟨⟨b',off',sp⟩,rfl,hsp,hb',hc⟩ := hr.2 h0
  obtain rfl : sp = none := hsp
  exact ⟨b',off',rfl,hb',g4 S ok' W b' off' hk hd hm (fun j u hu => by rw [← add_spot];exact hc j u hu)⟩
 ·obtain rfl : l = [] := List.eq_nil_of_length_eq_zero (by omega)
  exact ⟨[],⟨by simp,fun h => by simp at h⟩,by simp,fun _ _ _ _ _ _ _ _ h => by simp at h⟩
end

/-- The blocks of a tree are there. -/
structure HeadLt {α : Type} (H : Head α) : Prop where
 lt : ∀ {w : World} {ok : Nat → Prop} {a : α} {hd : List Value},H w ok a hd → H w (fun i => ok i ∧ i < w.heap.size) a hd
section
variable {α : Type}
mutual
theorem TR.lt_ {H : Head α} (hH : HeadLt H) {n : Nat} {w : World} {ok : Nat → Prop} : ∀ (t : RT α) (cs : List Value),TR H n w ok t cs → TR H n w (fun i => ok i ∧ i < w.heap.size) t cs
 | .mk a l,cs,h => by
  rw [TR] at h ⊢
  obtain ⟨hds,A,c,e,hl,hh,hc,hc2,ht⟩ := h
  refine ⟨hds,A,c,e,hl,hH.lt hh,hc,hc2,fun h0 => ?_⟩
  obtain ⟨b,off,e1,hb,hs⟩ := ht h0
  exact ⟨b,off,e1,⟨hb,TRs.here h0 hs⟩,TRs.lt_ hH l b off hs⟩
theorem TRs.lt_ {H : Head α} (hH : HeadLt H) {n : Nat} {w : World} {ok : Nat → Prop} : ∀ (l : List (RT α)) (b off : Nat),TRs H n w ok l b off → TRs H n w (fun i => ok i ∧ i < w.heap.size) l b off
 | [],_,_,_ => by rw [TRs];trivial
 | t :: l,b,off,h => by
  rw [TRs] at h ⊢
  obtain ⟨⟨cs,h1,h2⟩,h3⟩ := h
  exact ⟨⟨cs,TR.lt_ hH t cs h1,h2⟩,TRs.lt_ hH l b _ h3⟩
end
theorem TL.lt_ {H : Head α} (hH : HeadLt H) {n : Nat} {w : World} {ok : Nat → Prop} {l : List (RT α)} {A : Option Addr} (h : TL H n w ok l A) : TL H n w (fun i => ok i ∧ i < w.heap.size) l A := by
 intro h0
 obtain ⟨b,off,e1,hb,hs⟩ := h h0
 exact ⟨b,off,e1,⟨hb,TRs.here h0 hs⟩,TRs.lt_ hH l b off hs⟩
end
theorem Kp.at_ {S : Nat → Prop} {a w : World} (h : Kp S a w) (g : Nat) (hg : S g ∨ a.heap.size ≤ g) (i : Nat) (u : Value) : Kp S a (w.setCell ⟨g,i,none⟩ u) := h.setCell (p := ⟨g,i,none⟩) hg u

/-- Rows of any type: laid as a literal. -/
theorem Own.lit_ (w : World) (e size : Nat) (xs : List Value) (cs : Array Value) (n B : Nat) (hn : xs.length = n * size) (hcs : cs = xs.toArray) (hB : B ≤ w.heap.size) (hm : n ≤ maxLen) :
  Own (w.alloc (.cells cs e)) (B ≤ ·) e size (.slice (some ⟨w.heap.size,0,none⟩) n n) n xs := by
 subst hcs
 refine ⟨⟨hn,.inr ⟨w.heap.size,n,_,rfl,Nat.zero_le _,heap_alloc_new w _,Nat.le_refl _,hm,by simp [hn],?_⟩⟩,fun k hk => ?_⟩
 ·exact List.take_of_length_le (by simp [hn])
 ·have : w.heap.size = k := by simpa [Value.ownBlock] using hk
  omega
end Go.Proofs.Ytfcghajnnllmhaa

namespace Go.Proofs.Ytfcghajnnllmhaa
open Go.RowKit

abbrev SF := QP.S27
abbrev kF : YtfcghajnnllmhaaW.PrintWords.Kd SF := QP.k27
mutual
def toF : SF → Fm
 | ⟨a,b,c,d,e,l⟩ => .mk ⟨a,b,c,d,e⟩ (toFs l)
def toFs : List SF → List Fm
 | [] => []
 | x :: l => toF x :: toFs l
end
mutual
def ofF : Fm → SF
 | .mk a l => ⟨a.k,a.s,a.lo,a.hi,a.st,ofFs l⟩
def ofFs : List Fm → List SF
 | [] => []
 | x :: l => ofF x :: ofFs l
end
theorem toFs_map (l : List SF) : toFs l = l.map toF := by
 induction l with
 | nil => rw [toFs];rfl
 | cons x l ih => rw [toFs,ih];rfl
theorem ofFs_map (l : List Fm) : ofFs l = l.map ofF := by
 induction l with
 | nil => rw [ofFs];rfl
 | cons x l ih => rw [ofFs,ih];rfl
theorem toF_mk (a b c d e : Int) (l : List SF) : toF ⟨a,b,c,d,e,l⟩ = .mk ⟨a,b,c,d,e⟩ (l.map toF) := by rw [toF,toFs_map]
theorem ofF_mk (a : FH) (l : List Fm) : ofF (.mk a l) = ⟨a.k,a.s,a.lo,a.hi,a.st,l.map ofF⟩ := by rw [ofF,ofFs_map]
theorem to_ofF (x : Fm) : toF (ofF x) = x := by
 induction x using RT.induct with
 | h a l ih =>
 rw [ofF_mk,toF_mk]
 congr 1
 rw [List.map_map]
 conv => rhs;rw [← List.map_id l]
 exact List.map_congr_left ih
theorem map_to_ofF (l : List Fm) : (l.map ofF).map toF = l := by
 rw [List.map_map]
 conv => rhs;rw [← List.map_id l]
 exact List.map_congr_left (fun x _ => to_ofF x)
/-- An element, as the printed texts read it. -/
theorem rd_ofF (l : List Fm) (j : Nat) (h : j < l.length) : QP.rd_T27 (l.map ofF) (j : Int) = ofF l[j] := by
 simp [QP.rd_T27,h]
def okI (x : Int) : Bool := decide (-9223372036854775808 ≤ x) && decide (x < 9223372036854775808)
theorem okI_iff (x : Int) : okI x = true ↔ i64B x := by simp [okI,i64B]
theorem okI_wf {x : Int} (h : okI x = true) : (Lit.int .i64 x).wf = true := by
 obtain ⟨h1,h2⟩ := (okI_iff x).1 h
 simp only [Lit.wf,decide_eq_true_eq,Bool.and_eq_true]
 have e1 : IntKind.i64.min = -9223372036854775808 := by decide
 have e2 : IntKind.i64.max = 9223372036854775807 := by decide
 omega
def okFH (a : FH) : Bool := okI a.k && (okI a.s && (okI a.lo && (okI a.hi && okI a.st)))
theorem okFH_iff (a : FH) : okFH a = true ↔ a.ok := by
 simp only [okFH,Bool.and_eq_true,okI_iff]
 exact ⟨fun ⟨h1,h2,h3,h4,h5⟩ => ⟨h1,h2,h3,h4,h5⟩,fun h => ⟨h.k,h.s,h.lo,h.hi,h.st⟩⟩
mutual
/-- Numbers of 64 bits, and lengths that there may be. -/
def wfF : Fm → Bool
 | .mk a l => okFH a && (decide (l.length ≤ 140737488355328) && wfFs l)
def wfFs : List Fm → Bool
 | [] => true
 | x :: l => wfF x && wfFs l
end
theorem wfFs_iff (l : List Fm) : wfFs l = true ↔ ∀ x ∈ l,wfF x = true := by
 induction l with
 | nil => rw [wfFs];simp
 | cons x l ih => rw [wfFs];simp [ih]
theorem wfF_mk (a : FH) (l : List Fm) : wfF (.mk a l) = true ↔ a.ok ∧ l.length ≤ 140737488355328 ∧ ∀ x ∈ l,wfF x = true := by
 rw [wfF]
 simp only [Bool.and_eq_true,okFH_iff,decide_eq_true_eq,wfFs_iff]
section
open YtfcghajnnllmhaaW.PrintWords
theorem tr_wfF {w : World} {ok : Nat → Prop} (x : Fm) : ∀ cs,TR FHd 6 w ok x cs → wfF x = true := by
 induction x using RT.induct with
 | h a l ih =>
 intro cs h
 obtain ⟨hd,A,c,_,_,⟨_,ho⟩,_,h2,h3⟩ := (TR_def _ _ _ _ _ _).1 h
 refine (wfF_mk _ _).2 ⟨ho,h2,fun x hx => ?_⟩
 obtain ⟨i,hi,rfl⟩ := List.mem_iff_getElem.1 hx
 obtain ⟨b,off,cs',_,_,ht,_⟩ := h3.at_ hi
 exact ih _ hx cs' ht
theorem tl_c {w : World} {ok : Nat → Prop} {l : List Fm} {A : Option Addr} (hl : l.length ≤ 140737488355328) (h : TL FHd 6 w ok l A) (hk : ∀ x ∈ l,∀ cs,TR FHd 6 w ok x cs → kF.K w (ofF x) cs) : kF.C w A (l.map ofF).length (l.map ofF) := by
 refine ⟨rfl,by rw [List.length_map];omega,fun h0 => ?_⟩
 rw [List.length_map] at h0
 obtain ⟨b,off,e,_,ht⟩ := h h0
 refine ⟨_,e,fun j p hj => ?_⟩
 rw [List.getElem?_map] at hj
 obtain ⟨x,hx,rfl⟩ := Option.map_eq_some_iff.1 hj
 obtain ⟨hjl,rfl⟩ := List.getElem?_eq_some_iff.1 hx
 obtain ⟨cs,h1,h2⟩ := ht.at_ hjl
 refine ⟨cs,?_,hk _ (List.getElem_mem hjl) cs h1,fun i u hu => ?_⟩
 ·obtain ⟨hd,A',c',e',hl',_⟩ := (TR_def _ _ _ _ _ _).1 h1
  rw [e',List.length_append]
  exact hl'
 ·rw [add_spot]
  have := h2 i u hu
  rwa [Nat.add_assoc] at this
theorem tr_k {w : World} {ok : Nat → Prop} (x : Fm) : ∀ cs,TR FHd 6 w ok x cs → kF.K w (ofF x) cs := by
 induction x using RT.induct with
 | h a l ih =>
 intro cs h
 obtain ⟨hd,A,c,e,_,⟨hh,_⟩,h1,h2,h3⟩ := (TR_def _ _ _ _ _ _).1 h
 subst hh
 subst e
 rw [ofF_mk]
 have hc := tl_c h2 h3 ih
 have := QP.k27_mk w ⟨a.k,a.s,a.lo,a.hi,a.st,l.map ofF⟩ (A5 := A) (c5 := c) (by simpa using (show l.length ≤ c from h1)) hc
 rw [List.length_map] at this
 exact this
/-- Forms in a slice, for the printed texts. -/
theorem FsR.c {w : World} {ok : Nat → Prop} {A : Option Addr} {n c : Nat} {l : List Fm} (h : FsR w ok (.slice A n c) l) : n = (l.map ofF).length ∧ (l.map ofF).length ≤ c ∧ kF.C w A (l.map ofF).length (l.map ofF) := by
 obtain ⟨A',c',e,h1,h2,h3⟩ := h
 injection e with e1 e2 e3
 subst e1 e2 e3
 exact ⟨by simp,by simpa using h1,tl_c h2 h3 (fun x _ => tr_k x)⟩
theorem FsR.wf {w : World} {ok : Nat → Prop} {v : Value} {l : List Fm} (h : FsR w ok v l) : l.length ≤ 140737488355328 ∧ ∀ x ∈ l,wfF x = true := by
 obtain ⟨A',c',e,h1,h2,h3⟩ := h
 refine ⟨h2,fun x hx => ?_⟩
 obtain ⟨i,hi,rfl⟩ := List.mem_iff_getElem.1 hx
 obtain ⟨b,off,cs',_,_,ht,_⟩ := h3.at_ hi
 exact tr_wfF _ cs' ht
/-- The other way. -/
theorem c_tl {w : World} {l : List SF} {A : Option Addr} {n : Nat} (h : kF.C w A n l) (hk : ∀ x ∈ l,∀ cs,kF.K w x cs → TR FHd 6 w (· < w.heap.size) (toF x) cs) : TL FHd 6 w (· < w.heap.size) (l.map toF) A := by
 intro h0
 rw [List.length_map] at h0
 obtain ⟨hl,_,hc⟩ := h
 obtain ⟨ad,e,hcell⟩ := hc (by omega)
 have each : ∀ i (hi : i < l.length),∃ cs,TR FHd 6 w (· < w.heap.size) (toF l[i]) cs ∧ ∀ j u,cs[j]? = some u → w.cell? (ad.add (i * 6 + j)) = some u := by
  intro i hi
  obtain ⟨cs,_,h2,h3⟩ := hcell i _ (List.getElem?_eq_getElem hi)
  exact ⟨cs,hk _ (List.getElem_mem hi) cs h2,h3⟩
 obtain ⟨cs0,t0,c0⟩ := each 0 h0
 obtain ⟨hd,A',c',e',hl',_⟩ := (TR_def _ _ _ _ _ _).1 t0
 have hlen : 0 < cs0.length := by rw [e'];simp
 have hc0 := c0 0 _ (List.getElem?_eq_getElem hlen)
 have hsp := World.cell?_spot hc0
 have hbk := cell_lt hc0
 rw [block_add] at hbk
 obtain ⟨b,off,spot⟩ := ad
 obtain rfl : spot = none := by simpa [Addr.add] using hsp
 refine ⟨b,off,e,hbk,TRs.of (fun i hi => ?_)⟩
 rw [List.length_map] at hi
 obtain ⟨cs,h1,h2⟩ := each i hi
 refine ⟨cs,by simpa using h1,fun j u hu => ?_⟩
 have := h2 j u hu
 rw [add_spot] at this
 rwa [Nat.add_assoc]
theorem k_tr {w : World} : ∀ (f : Fm) (x : SF),toF x = f → wfF f = true → ∀ cs,kF.K w x cs → TR FHd 6 w (· < w.heap.size) f cs := by
 intro f
 induction f using RT.induct with
 | h a l ih =>
 intro x hx hw cs hk
 obtain ⟨x0,x1,x2,x3,x4,xl⟩ := x
 rw [toF_mk] at hx
 injection hx with ha hl
 subst ha hl
 obtain ⟨ho,hl,hws⟩ := (wfF_mk _ _).1 hw
 obtain ⟨A,c,rfl,h1,h2⟩ := QP.k27_open hk
 have ht := c_tl h2 (fun y hy cs' hk' => ih _ (List.mem_map_of_mem hy) y rfl (hws _ (List.mem_map_of_mem hy)) cs' hk')
 rw [List.length_map] at hl
 refine (TR_def _ _ _ _ _ _).2 ⟨[.int .i64 x0,.int .i64 x1,.int .i64 x2,.int .i64 x3,.int .i64 x4],A,c,?_,rfl,⟨rfl,ho⟩,?_,?_,ht⟩
 ·simp [RT.l]
 ·simpa [RT.l] using h1
 ·simpa [RT.l] using hl
theorem c_FsR {w : World} {l : List SF} {A : Option Addr} {c : Nat} (h : kF.C w A l.length l) (hc : l.length ≤ c) (hw : ∀ x ∈ l.map toF,wfF x = true) (hl : l.length ≤ 140737488355328) : FsR w (· < w.heap.size) (.slice A l.length c) (l.map toF) :=
 ⟨A,c,by simp,by simpa using hc,by simpa using hl,c_tl h (fun x hx cs hk => k_tr _ x rfl (hw _ (List.mem_map_of_mem hx)) cs hk)⟩
/-- A form that is handed over. -/
theorem c_FmR {w : World} {a0 a1 a2 a3 a4 : Int} {l : List SF} {A : Option Addr} {c : Nat} (h : kF.C w A l.length l) (hc : l.length ≤ c) (hw : wfF (toF ⟨a0,a1,a2,a3,a4,l⟩) = true) :
  FmR w (· < w.heap.size) (.agg #[.int .i64 a0,.int .i64 a1,.int .i64 a2,.int .i64 a3,.int .i64 a4,.slice A l.length c]) (toF ⟨a0,a1,a2,a3,a4,l⟩) := by
 rw [toF_mk] at hw ⊢
 obtain ⟨ho,hl,hws⟩ := (wfF_mk _ _).1 hw
 rw [List.length_map] at hl
 exact ⟨_,rfl,ho,c_FsR h hc hws hl⟩
end
end Go.Proofs.Ytfcghajnnllmhaa

namespace Go.Proofs.Ytfcghajnnllmhaa
open Go.RowKit YtfcghajnnllmhaaW.PrintWords

set_option linter.unusedVariables false
theorem Ev.ip {α : Type} {c : Prop} [Decidable c] {a b : Nat → Option α} {r : α} (h : c) (k : Ev a r) : Ev (fun n => if c then a n else b n) r := Ev.congr (fun n => if_pos h) k
theorem Ev.in_ {α : Type} {c : Prop} [Decidable c] {a b : Nat → Option α} {r : α} (h : ¬ c) (k : Ev b r) : Ev (fun n => if c then a n else b n) r := Ev.congr (fun n => if_neg h) k
theorem Ev.is {α : Type} {x : Option α} {r : α} (h : x = some r) : Ev (fun _ => x) r := ⟨0,fun _ _ => h⟩
theorem Ev.eq_ {α : Type} {g : Nat → Option α} {r r' : α} (k : Ev g r) (h : r = r') : Ev g r' := h ▸ k
/-- A call that counts no rounds. -/
theorem Ev.cb {α β : Type} {x : Option α} {f : Nat → α → Option β} {a : α} {r : β} (h : x = some a) (k : Ev (fun n => f n a) r) : Ev (fun n => x.bind (f n)) r := Ev.bind (Ev.is h) k
/-- The answer's own cases. -/
theorem Ev.rp {α : Type} {c : Prop} [Decidable c] {g : Nat → Option α} {a b : α} (h : c) (k : Ev g a) : Ev g (if c then a else b) := Ev.eq_ k (if_pos h).symm
theorem Ev.rn {α : Type} {c : Prop} [Decidable c] {g : Nat → Option α} {a b : α} (h : ¬ c) (k : Ev g b) : Ev g (if c then a else b) := Ev.eq_ k (if_neg h).symm
/-- Either way. -/
theorem Ev.sp {α : Type} {c : Prop} [Decidable c] {a b : Nat → Option α} {r : α} (h1 : c → Ev a r) (h2 : ¬ c → Ev b r) : Ev (fun n => if c then a n else b n) r := by
 by_cases h : c
 ·exact Ev.ip h (h1 h)
 ·exact Ev.in_ h (h2 h)
theorem w64 {x : Int} (h1 : -9223372036854775808 ≤ x) (h2 : x < 9223372036854775808) : wrap64 x = x := by unfold wrap64;omega
end Go.Proofs.Ytfcghajnnllmhaa

namespace Go.Proofs.Ytfcghajnnllmhaa
open Go.RowKit

set_option maxRecDepth 100000 in
theorem parts_any (ok : Nat → Prop) (v : Value) (f : Fm) (w : World) (hv : FmR w ok v f) :
  Calls Try.prog 54 #[v] w fun e w' => ∃ A n c,e = .returned (.slice A n c) ∧ n = (partsF f).length ∧ FsR w' ok (.slice A n c) (partsF f) ∧ Kp (fun _ => False) w w' := by
 obtain ⟨sv,rfl,hok,hs⟩ := hv
 have hka : ∀ o,Kp (fun _ => False) w (w.alloc o) := fun o => (Kp.refl _ _).alloc o
 have HS := Lib.hid (fun o => hs.kp (hka o) (fun _ _ h => h))
 have HK := Lib.hid hka
 obtain ⟨A,c,rfl,h1,h2,_⟩ := id hs
 obtain ⟨P,hP⟩ : ∃ P,partsF f = P := ⟨_,rfl⟩
 have HP := Lib.hid hP
 rw [hP]
 have hk := hok.k
 by_cases h2' : f.a.k = 2
 ·have hP2 : P = f.l := by rw [← hP,partsF,if_pos (.inl h2')]
  have t : (f.a.k == 2) = true := by simpa using h2'
  subst hP2
  clear hka hs hP h2' HP hok hk
  go_enter Try.func54,Try.ntmps54
  go_wp2_with fail
  go_ret
  exact ⟨_,_,_,rfl,rfl,HS.out _,HK.out _⟩
 ·by_cases h3 : f.a.k = 3
  ·have hP2 : P = f.l := by rw [← hP,partsF,if_pos (.inr h3)]
   have t : (f.a.k == 2) = false := by simpa using h2'
   have t2 : (f.a.k == 3) = true := by simpa using h3
   subst hP2
   clear hka hs hP h2' h3 HP hok hk
   go_enter Try.func54,Try.ntmps54
   go_wp2_with fail
   go_ret
   exact ⟨_,_,_,rfl,rfl,HS.out _,HK.out _⟩
  ·have hP2 : P = [] := by rw [← hP,partsF,if_neg (by omega)]
   have t : (f.a.k == 2) = false := by simpa using h2'
   have t2 : (f.a.k == 3) = false := by simpa using h3
   subst hP2
   clear hka hs hP h2' h3 HP hok hk
   go_enter Try.func54,Try.ntmps54
   go_wp2_with fail
   go_ret
   exact ⟨_,_,_,rfl,rfl,FsR.nil,HK.out _⟩

set_option maxRecDepth 100000 in
theorem bounds_any (lo hi most : Int) (w : World) : Calls Try.prog 68 #[.int .i64 lo,.int .i64 hi,.int .i64 most] w fun e w' => e = .returned (.int .i64 (boundsR lo hi most)) ∧ w = w' := by
 by_cases h0 : lo < 0
 ·have e : boundsR lo hi most = 5 := by rw [boundsR,if_pos (.inl h0)]
  have t : decide (lo < 0) = true := decide_eq_true h0
  rw [e]
  clear e h0
  go_enter Try.func68,Try.ntmps68
  go_wp2_with fail
  go_ret
  exact ⟨rfl,rfl⟩
 have t : decide (lo < 0) = false := decide_eq_false h0
 by_cases h1 : hi < lo
 ·have e : boundsR lo hi most = 5 := by rw [boundsR,if_pos (.inr (.inl h1))]
  have t1 : decide (hi < lo) = true := decide_eq_true h1
  rw [e]
  clear e h0 h1
  go_enter Try.func68,Try.ntmps68
  go_wp2_with fail
  go_ret
  exact ⟨rfl,rfl⟩
 have t1 : decide (hi < lo) = false := decide_eq_false h1
 by_cases h2 : most < hi
 ·have e : boundsR lo hi most = 5 := by rw [boundsR,if_pos (.inr (.inr h2))]
  have t2 : decide (most < hi) = true := decide_eq_true h2
  rw [e]
  clear e h0 h1 h2
  go_enter Try.func68,Try.ntmps68
  go_wp2_with fail
  go_ret
  exact ⟨rfl,rfl⟩
 ·have e : boundsR lo hi most = 0 := by rw [boundsR,if_neg (by omega)]
  have t2 : decide (most < hi) = false := decide_eq_false h2
  rw [e]
  clear e h0 h1 h2
  go_enter Try.func68,Try.ntmps68
  go_wp2_with fail
  go_ret
  exact ⟨rfl,rfl⟩

/-- How an element is reached. -/
def Each (w : World) (ok : Nat → Prop) (F : Nat) (cv : Value) (p : Fm → Bool) (l : List Fm) : Prop :=
 ∀ f,f ∈ l → ∀ (v : Value) (W : World),FmR W ok v f → Kp (fun _ => False) w W → Calls Try.prog F #[v,cv] W fun e w' => e = .returned (.bool (p f)) ∧ Kp (fun _ => False) W w'

set_option maxRecDepth 100000 in
set_option maxHeartbeats 1600000 in
theorem index_any (ok : Nat → Prop) (v : Value) (l : List Fm) (p : Fm → Bool) (cv : Value) (w : World) (hv : FsR w ok v l) (hE : Each w ok 62 cv p l) :
  Calls Try.prog 67 #[v,.func (.func 62) #[] #[cv]] w fun e w' => ∃ n : Int,e = .returned (.int .i64 n) ∧ -1 ≤ n ∧ n ≤ 140737488355328 ∧ (0 ≤ n ↔ l.any p = true) ∧ Kp (fun _ => False) w w' := by
 obtain ⟨A,c,rfl,h1,h2,_⟩ := id hv
 have HV := Lib.hid hv
 have HE := Lib.hid hE
 clear hv hE
 go_enter Try.func67,Try.ntmps67
 go_wp2_with fail
 go_loopw [8] (fun i wr => ∃ k : Nat,k ≤ l.length ∧ i = .int .i64 k ∧ (l.take k).any p = false ∧ Kp (fun _ => False) w wr) (fun i _ => l.length - (intOf i).toNat)
 case atStart => exact ⟨0,Nat.zero_le _,rfl,rfl,Kp.refl _ _⟩
 case round =>
  obtain ⟨k,hk,rfl,hno,hkr⟩ := hrel
  have HNO := Lib.hid hno
  have HKR := Lib.hid hkr
  clear hno
  by_cases hlt : k < l.length
  ·obtain ⟨b,off,A2,c2,rfl,hb,hf,q0,q1,q2,q3,q4,q5⟩ := (HV.out.kp hkr (fun _ _ h => h)).at_ hlt
   have hmem : l[k] ∈ l := List.getElem_mem hlt
   have hts := Lib.hid (List.take_succ_eq_append_getElem hlt)
   obtain ⟨f,hfe⟩ : ∃ f,l[k] = f := ⟨_,rfl⟩
   rw [hfe] at hf q0 q1 q2 q3 q4 q5 hmem hts
   have HC := Lib.hid (HE.out f hmem _ wr hf hkr)
   have hi0 : (0 : Int) ≤ (k : Int) := by omega
   have hi1 : (k : Int) < (l.length : Int) := by omega
   cases hp : p f
   ·rw [hp] at HC
    have HN2 := Lib.hid (show (l.take (k + 1)).any p = false by rw [hts.out,List.any_append,HNO.out];simp [hp])
    clear hf hfe hmem hkr hp
    go_wp2_with fail
    refine HC.out.mono ?_
    rintro e w2 ⟨rfl,hk2⟩
    have HK2 := Lib.hid (HKR.out.then_ hk2 (fun _ h => h.elim))
    clear hk2
    go_wp2_with fail
    go_roundw
    case rel => exact ⟨k + 1,by omega,by go_num,HN2.out,HK2.out⟩
    case measure => simp [intOf];omega
   ·rw [hp] at HC
    have HY := Lib.hid (show l.any p = true from List.any_eq_true.2 ⟨f,hmem,hp⟩)
    clear hf hfe hmem hkr hp
    go_wp2_with fail
    refine HC.out.mono ?_
    rintro e w2 ⟨rfl,hk2⟩
    have HK2 := Lib.hid (HKR.out.then_ hk2 (fun _ h => h.elim))
    clear hk2
    go_wp2_with fail
    go_ret
    exact ⟨(k : Int),rfl,by omega,by omega,by rw [HY.out];simp,HK2.out⟩
  ·obtain rfl : k = l.length := by omega
   rw [List.take_of_length_le (Nat.le_refl _)] at HNO
   clear hkr
   go_wp2_with fail
   go_ret
   exact ⟨-1,rfl,by omega,by omega,by rw [HNO.out];simp,HKR.out⟩

set_option maxRecDepth 100000 in
theorem contains_any (ok : Nat → Prop) (v : Value) (l : List Fm) (p : Fm → Bool) (cv : Value) (w : World) (hv : FsR w ok v l) (hE : Each w ok 62 cv p l) :
  Calls Try.prog 61 #[v,.func (.func 62) #[] #[cv]] w fun e w' => e = .returned (.bool (l.any p)) ∧ Kp (fun _ => False) w w' := by
 have HI := Lib.hid (index_any ok v l p cv w hv hE)
 generalize l.any p = r at HI ⊢
 clear hE hv
 go_enter Try.func61,Try.ntmps61
 go_wp2_with fail
 refine HI.out.mono ?_
 rintro e w1 ⟨n,rfl,h1,h2,h3,hk1⟩
 have t : decide (0 ≤ n) = r := by
  rw [Bool.eq_iff_iff,← h3]
  simp
 clear h3
 go_wp2_with fail
 go_ret
 exact ⟨rfl,hk1⟩

set_option maxRecDepth 100000 in
/-- The closure: one level less. -/
theorem deep1_any (n : Nat) (hn : n ≤ 1000) (ok : Nat → Prop) (v : Value) (f : Fm) (B : Nat) (w : World) (hv : FmR w ok v f) (hc : w.cell? ⟨B,0,none⟩ = some (.int .i64 ((n : Int) + 1)))
  (hrec : ∀ W,Kp (fun _ => False) w W → Calls Try.prog 43 #[v,.int .i64 (n : Int)] W fun e w' => e = .returned (.bool (deepB n f)) ∧ Kp (fun _ => False) W w') :
  Calls Try.prog 62 #[v,.pointer (some ⟨B,0,none⟩)] w fun e w' => e = .returned (.bool (deepB n f)) ∧ Kp (fun _ => False) w w' := by
 obtain ⟨sv,rfl,hok,A,c,rfl,_,_,_⟩ := hv
 have hka : ∀ o,Kp (fun _ => False) w (w.alloc o) := fun o => (Kp.refl _ _).alloc o
 have hc2 : ∀ o,(w.alloc o).cell? ⟨B,0,none⟩ = some (.int .i64 ((n : Int) + 1)) := fun o => (hka o).cell hc (fun h => h)
 have HK := Lib.hid hka
 have HR := Lib.hid hrec
 have s1 : IntKind.i64.wrap ((n : Int) + 1 - 1) = (n : Int) := by
  rw [show (n : Int) + 1 - 1 = n by omega]
  exact IntWalk.i64_in _ (by omega)
 clear hka hrec hc hok
 go_enter Try.func62,Try.ntmps62
 go_wp2_with fail
 refine (HR.out _ (HK.out _)).mono ?_
 rintro e w1 ⟨rfl,hk1⟩
 have hk := (HK.out _).then_ hk1 (fun _ h => h.elim)
 go_wp2_with fail
 go_ret
 exact ⟨rfl,hk⟩

set_option maxRecDepth 100000 in
theorem deep_any (n : Nat) (hn : n ≤ 1000) : ∀ (ok : Nat → Prop) (v : Value) (f : Fm) (w : World),FmR w ok v f →
  Calls Try.prog 43 #[v,.int .i64 (n : Int)] w fun e w' => e = .returned (.bool (deepB n f)) ∧ Kp (fun _ => False) w w' := by
 induction n with
 | zero =>
  intro ok v f w hv
  obtain ⟨sv,rfl,hok,hs⟩ := hv
  have hka : ∀ o o2,Kp (fun _ => False) w ((w.alloc o).alloc o2) := fun o o2 => ((Kp.refl _ _).alloc o).alloc o2
  have HK := Lib.hid hka
  obtain ⟨A,c,rfl,h1,h2,_⟩ := hs
  have e : deepB 0 f = true := rfl
  rw [e]
  clear e hka hok
  go_enter Try.func43,Try.ntmps43
  go_wp2_with fail
  go_ret
  exact ⟨rfl,HK.out _ _⟩
 | succ n ih =>
  intro ok v f w hv
  have e : deepB (n + 1) f = (partsF f).any (deepB n) := rfl
  rw [e]
  have HKA := Lib.hid (show ∀ o o2,Kp (fun _ => False) w ((w.alloc o).alloc o2) from fun o o2 => ((Kp.refl _ _).alloc o).alloc o2)
  have HP := Lib.hid (fun o o2 => parts_any ok v f ((w.alloc o).alloc o2) (hv.kp (((Kp.refl (fun _ => False) w).alloc o).alloc o2) (fun _ _ h => h)))
  have HMC := Lib.hid (show ∀ o,((w.alloc o).alloc (.cells #[.int .i64 ((n : Int) + 1)] 3)).cell? ⟨w.heap.size + 1,0,none⟩ = some (.int .i64 ((n : Int) + 1)) from fun o => by
   have h := (Blk.new (w.alloc o) 3 #[.int .i64 ((n : Int) + 1)]).cell 0
   rw [World.size_alloc] at h
   exact h)
  have IH := Lib.hid (ih (by omega))
  obtain ⟨sv,rfl,hok,A,c,rfl,_,_,_⟩ := id hv
  have t0 : ((n : Int) + 1 == 0) = false := by simp;omega
  clear hv hok ih e
  go_enter Try.func43,Try.ntmps43
  go_wp2_with fail
  refine (HP.out _ _).mono ?_
  rintro e w1 ⟨A1,n1,c1,rfl,hn1,hs1,hk1⟩
  have HK1 := Lib.hid ((HKA.out _ _).then_ hk1 (fun _ h => h.elim))
  have HMC1 := Lib.hid (hk1.cell (HMC.out _) (fun h => h))
  have HC := Lib.hid (contains_any ok _ _ (deepB n) (.pointer (some ⟨w.heap.size + 1,0,none⟩)) w1 hs1 (fun f' _ v' W hv' hk' => deep1_any n (by omega) ok v' f' (w.heap.size + 1) W hv' (hk'.cell HMC1.out (fun h => h)) (fun W' hk'' => IH.out ok v' f' W' (hv'.kp hk'' (fun _ _ h => h)))))
  clear hn1 hs1 hk1
  go_wp2_with fail
  refine HC.out.mono ?_
  rintro e w2 ⟨rfl,hk2⟩
  have HK2 := Lib.hid (HK1.out.then_ hk2 (fun _ h => h.elim))
  clear hk2
  go_wp2_with fail
  go_ret
  exact ⟨rfl,HK2.out⟩
end Go.Proofs.Ytfcghajnnllmhaa

namespace Go.Proofs.Ytfcghajnnllmhaa
open Go.RowKit

theorem FmR.parts {w : World} {ok : Nat → Prop} {v : Value} {k s lo hi st : Int} {ps : List Fm} (h : FmR w ok v (.mk ⟨k,s,lo,hi,st⟩ ps)) :
  ∃ A c,v = .agg #[.int .i64 k,.int .i64 s,.int .i64 lo,.int .i64 hi,.int .i64 st,.slice A ps.length c] ∧ ps.length ≤ c ∧ ps.length ≤ 140737488355328 ∧ i64B k ∧ i64B s ∧ i64B lo ∧ i64B hi ∧ i64B st ∧ FsR w ok (.slice A ps.length c) ps := by
 obtain ⟨sv,rfl,⟨h1,h2,h3,h4,h5⟩,A,c,rfl,h6,h7,h8⟩ := h
 exact ⟨A,c,rfl,h6,h7,h1,h2,h3,h4,h5,A,c,rfl,h6,h7,h8⟩

set_option maxRecDepth 100000 in
set_option maxHeartbeats 6400000 in
theorem own_len (k : Int) (hk : k = 1 ∨ k = 2) (ok : Nat → Prop) (v : Value) (s lo hi st : Int) (ps : List Fm) (w : World) (hv : FmR w ok v (.mk ⟨k,s,lo,hi,st⟩ ps)) :
  Calls Try.prog 63 #[v] w fun e w' => e = .returned (.int .i64 (ownR (.mk ⟨k,s,lo,hi,st⟩ ps))) ∧ Kp (fun _ => False) w w' := by
 obtain ⟨r,hr⟩ : ∃ r,ownR (.mk ⟨k,s,lo,hi,st⟩ ps) = r := ⟨_,rfl⟩
 rw [hr]
 have hr' : (if s < 1 ∨ 3 < s then 3 else if boundsR lo hi (256 ^ s.toNat - 1) ≠ 0 ∨ st < 1 ∨ 65536 < st then 5 else if k = 2 ∧ ps.length ≠ 1 then 15 else 0) = r := by
  rw [← hr]
  show _ = ownN k s lo hi st ps.length
  rw [ownN,if_neg (show ¬ k = 0 by omega),if_pos (show k = 2 ∨ k = 1 by omega)]
 clear hr
 obtain ⟨A,c,rfl,h1,h2,_,hs,hlo,hhi,hst,_⟩ := hv.parts
 clear hv
 have hk1 := (Kp.refl (fun _ => False) w).alloc (.cells #[.int .i64 k,.int .i64 s,.int .i64 lo,.int .i64 hi,.int .i64 st,.slice A ps.length c] 27)
 have HK := Lib.hid (fun n => hk1.drewN n)
 have HK0 := Lib.hid hk1
 clear hk1
 obtain ⟨hlo1,hlo2⟩ := hlo
 obtain ⟨hhi1,hhi2⟩ := hhi
 obtain ⟨hst1,hst2⟩ := hst
 by_cases s1 : s < 1
 ·have t1 : decide (s < 1) = true := decide_eq_true s1
  rw [if_pos (.inl s1)] at hr'
  subst hr'
  clear s1
  rcases hk with rfl | rfl
  all_goals
   go_enter Try.func63,Try.ntmps63
   go_wp2_with fail
   go_ret
   exact ⟨rfl,HK0.out⟩
 have t1 : decide (s < 1) = false := decide_eq_false s1
 by_cases s3 : 3 < s
 ·have t2 : decide (3 < s) = true := decide_eq_true s3
  rw [if_pos (.inr s3)] at hr'
  subst hr'
  clear s1 s3
  rcases hk with rfl | rfl
  all_goals
   go_enter Try.func63,Try.ntmps63
   go_wp2_with fail
   go_ret
   exact ⟨rfl,HK0.out⟩
 rw [if_neg (by omega)] at hr'
 have hs3 : s = 1 ∨ s = 2 ∨ s = 3 := by omega
 clear t1 s1 s3 hs
 obtain ⟨M,hM⟩ : ∃ M : Int,(256 : Int) ^ s.toNat - 1 = M := ⟨_,rfl⟩
 rw [hM] at hr'
 have HB := Lib.hid (fun W => bounds_any lo hi M W)
 generalize hb : boundsR lo hi M = b at HB hr'
 have hb5 : b = 0 ∨ b = 5 := by rw [← hb,boundsR];split <;> simp
 clear hb
 have hlen : ((ps.length : Int) != 1) = decide (ps.length ≠ 1) := by rw [Bool.eq_iff_iff];simp;omega
 have hcase : (b = 5) ∨ (b = 0 ∧ decide (st < 1) = true) ∨ (b = 0 ∧ decide (st < 1) = false ∧ decide (65536 < st) = true) ∨ (b = 0 ∧ decide (st < 1) = false ∧ decide (65536 < st) = false) := by
  rcases hb5 with h | h
  ·by_cases p1 : st < 1
   ·exact .inr (.inl ⟨h,decide_eq_true p1⟩)
   ·by_cases p2 : 65536 < st
    ·exact .inr (.inr (.inl ⟨h,decide_eq_false p1,decide_eq_true p2⟩))
    ·exact .inr (.inr (.inr ⟨h,decide_eq_false p1,decide_eq_false p2⟩))
  ·exact .inl h
 rcases hcase with rfl | ⟨rfl,g1⟩ | ⟨rfl,g1,g2⟩ | ⟨rfl,g1,g2⟩
 ·rw [if_pos (.inl (by omega))] at hr'
  subst hr'
  clear hlen hb5
  rcases hk with rfl | rfl
  all_goals
   rcases hs3 with rfl | rfl | rfl
   all_goals
    have HB2 := Lib.hid (by rw [← hM] at HB;simpa using HB.out)
    clear HB hM
    go_enter Try.func63,Try.ntmps63
    go_wp2_with fail
    go_quiet ((go_at_call 68;exact quiet_left (HB2.out _)))
    go_wp2_with fail
    go_ret
    exact ⟨rfl,HK.out _⟩
 ·rw [if_pos (.inr (.inl (of_decide_eq_true g1)))] at hr'
  subst hr'
  clear hlen hb5
  rcases hk with rfl | rfl
  all_goals
   rcases hs3 with rfl | rfl | rfl
   all_goals
    have HB2 := Lib.hid (by rw [← hM] at HB;simpa using HB.out)
    clear HB hM
    go_enter Try.func63,Try.ntmps63
    go_wp2_with fail
    go_quiet ((go_at_call 68;exact quiet_left (HB2.out _)))
    go_wp2_with fail
    go_ret
    exact ⟨rfl,HK.out _⟩
 ·rw [if_pos (.inr (.inr (of_decide_eq_true g2)))] at hr'
  subst hr'
  clear hlen hb5
  rcases hk with rfl | rfl
  all_goals
   rcases hs3 with rfl | rfl | rfl
   all_goals
    have HB2 := Lib.hid (by rw [← hM] at HB;simpa using HB.out)
    clear HB hM
    go_enter Try.func63,Try.ntmps63
    go_wp2_with fail
    go_quiet ((go_at_call 68;exact quiet_left (HB2.out _)))
    go_wp2_with fail
    go_ret
    exact ⟨rfl,HK.out _⟩
 ·have g1' := of_decide_eq_false g1
  have g2' := of_decide_eq_false g2
  rw [if_neg (by omega)] at hr'
  clear hb5 g1' g2'
  rcases hk with rfl | rfl
  ·rw [if_neg (by omega)] at hr'
   subst hr'
   clear hlen
   rcases hs3 with rfl | rfl | rfl
   all_goals
    have HB2 := Lib.hid (by rw [← hM] at HB;simpa using HB.out)
    clear HB hM
    go_enter Try.func63,Try.ntmps63
    go_wp2_with fail
    go_quiet ((go_at_call 68;exact quiet_left (HB2.out _)))
    go_wp2_with fail
    go_ret
    exact ⟨rfl,HK.out _⟩
  ·by_cases hl : ps.length ≠ 1
   ·rw [if_pos ⟨rfl,hl⟩] at hr'
    rw [decide_eq_true hl] at hlen
    subst hr'
    clear hl
    rcases hs3 with rfl | rfl | rfl
    all_goals
     have HB2 := Lib.hid (by rw [← hM] at HB;simpa using HB.out)
     clear HB hM
     go_enter Try.func63,Try.ntmps63
     go_wp2_with fail
     go_quiet ((go_at_call 68;exact quiet_left (HB2.out _)))
     go_wp2_with fail
     go_ret
     exact ⟨rfl,HK.out _⟩
   ·rw [if_neg (fun x => hl x.2)] at hr'
    rw [decide_eq_false hl] at hlen
    subst hr'
    clear hl
    rcases hs3 with rfl | rfl | rfl
    all_goals
     have HB2 := Lib.hid (by rw [← hM] at HB;simpa using HB.out)
     clear HB hM
     go_enter Try.func63,Try.ntmps63
     go_wp2_with fail
     go_quiet ((go_at_call 68;exact quiet_left (HB2.out _)))
     go_wp2_with fail
     go_ret
     exact ⟨rfl,HK.out _⟩

set_option maxRecDepth 100000 in
set_option maxHeartbeats 6400000 in
theorem own_any (ok : Nat → Prop) (v : Value) (f : Fm) (w : World) (hv : FmR w ok v f) :
  Calls Try.prog 63 #[v] w fun e w' => e = .returned (.int .i64 (ownR f)) ∧ Kp (fun _ => False) w w' := by
 obtain ⟨⟨k,s,lo,hi,st⟩,ps⟩ := f
 by_cases h12 : k = 1 ∨ k = 2
 ·exact own_len k h12 ok v s lo hi st ps w hv
 obtain ⟨r,hr⟩ : ∃ r,ownR (.mk ⟨k,s,lo,hi,st⟩ ps) = r := ⟨_,rfl⟩
 rw [hr]
 have hr' : (if k = 0 then (if s < 1 ∨ (4 < s ∧ s ≠ 8) then 3 else 0) else if k = 3 then (if 32 < ps.length then 15 else 0) else if k = 4 then boundsR lo hi 16777215 else if k = 5 then boundsR lo lo 16777215 else (2 : Int)) = r := by
  rw [← hr]
  show _ = ownN k s lo hi st ps.length
  rw [ownN,if_neg (show ¬ (k = 2 ∨ k = 1) by omega)]
 clear hr
 obtain ⟨A,c,rfl,h1,h2,hk,hs,hlo,hhi,hst,_⟩ := hv.parts
 clear hv
 have hk1 := (Kp.refl (fun _ => False) w).alloc (.cells #[.int .i64 k,.int .i64 s,.int .i64 lo,.int .i64 hi,.int .i64 st,.slice A ps.length c] 27)
 have HK0 := Lib.hid hk1
 clear hk1
 have HB := Lib.hid (fun (a b : Int) W => bounds_any a b 16777215 W)
 by_cases k0 : k = 0
 ·subst k0
  rw [if_pos rfl] at hr'
  by_cases s1 : s < 1
  ·have t1 : decide (s < 1) = true := decide_eq_true s1
   rw [if_pos (.inl s1)] at hr'
   subst hr'
   clear s1
   go_enter Try.func63,Try.ntmps63
   go_wp2_with fail
   go_ret
   exact ⟨rfl,HK0.out⟩
  have t1 : decide (s < 1) = false := decide_eq_false s1
  by_cases s4 : 4 < s
  ·have t2 : decide (4 < s) = true := decide_eq_true s4
   by_cases s8 : s = 8
   ·subst s8
    rw [if_neg (by omega)] at hr'
    subst hr'
    clear s1 s4 t1 t2
    go_enter Try.func63,Try.ntmps63
    go_wp2_with fail
    go_ret
    exact ⟨rfl,HK0.out⟩
   ·have t3 : (s != 8) = true := by simpa using s8
    rw [if_pos (.inr ⟨s4,s8⟩)] at hr'
    subst hr'
    clear s1 s4 s8
    go_enter Try.func63,Try.ntmps63
    go_wp2_with fail
    go_ret
    exact ⟨rfl,HK0.out⟩
  ·have t2 : decide (4 < s) = false := decide_eq_false s4
   rw [if_neg (by omega)] at hr'
   subst hr'
   clear s1 s4
   go_enter Try.func63,Try.ntmps63
   go_wp2_with fail
   go_ret
   exact ⟨rfl,HK0.out⟩
 rw [if_neg k0] at hr'
 by_cases k3 : k = 3
 ·subst k3
  rw [if_pos rfl] at hr'
  by_cases l32 : 32 < ps.length
  ·have t1 : decide ((32 : Int) < (ps.length : Int)) = true := by simp;omega
   rw [if_pos l32] at hr'
   subst hr'
   clear l32
   go_enter Try.func63,Try.ntmps63
   go_wp2_with fail
   go_ret
   exact ⟨rfl,HK0.out⟩
  ·have t1 : decide ((32 : Int) < (ps.length : Int)) = false := by simp;omega
   rw [if_neg l32] at hr'
   subst hr'
   clear l32
   go_enter Try.func63,Try.ntmps63
   go_wp2_with fail
   go_ret
   exact ⟨rfl,HK0.out⟩
 rw [if_neg k3] at hr'
 by_cases k4 : k = 4
 ·subst k4
  rw [if_pos rfl] at hr'
  subst hr'
  go_enter Try.func63,Try.ntmps63
  go_wp2_with fail
  refine (HB.out _ _ _).mono ?_
  rintro e w1 ⟨rfl,rfl⟩
  go_wp2_with fail
  go_ret
  exact ⟨rfl,HK0.out⟩
 rw [if_neg k4] at hr'
 by_cases k5 : k = 5
 ·subst k5
  rw [if_pos rfl] at hr'
  subst hr'
  go_enter Try.func63,Try.ntmps63
  go_wp2_with fail
  refine (HB.out _ _ _).mono ?_
  rintro e w1 ⟨rfl,rfl⟩
  go_wp2_with fail
  go_ret
  exact ⟨rfl,HK0.out⟩
 rw [if_neg k5] at hr'
 subst hr'
 have n0 : (k == 0) = false := by simpa using k0
 have n1 : (k == 1) = false := by simp;omega
 have n2 : (k == 2) = false := by simp;omega
 have n3 : (k == 3) = false := by simpa using k3
 have n4 : (k == 4) = false := by simpa using k4
 have n5 : (k == 5) = false := by simpa using k5
 clear k0 k3 k4 k5 h12
 go_enter Try.func63,Try.ntmps63
 go_wp2_with fail
 go_ret
 exact ⟨rfl,HK0.out⟩
end Go.Proofs.Ytfcghajnnllmhaa

namespace Go.Proofs.Ytfcghajnnllmhaa
open Go.RowKit

theorem i64_wrap (x : Int) : IntKind.i64.wrap x = wrap64 x := by
 have h1 : IntKind.i64.signed = true := rfl
 have h2 : IntKind.i64.bits = 64 := rfl
 simp only [IntKind.wrap,wrap64,h1,h2]
 simp
 split <;> omega
mutual
/-- How many bytes there may be, by a length of each. -/
def spanR (sel : FH → Int) : Fm → Int
 | .mk a l => if a.k = 0 then a.s else if a.k = 1 ∨ a.k = 2 then wrap64 (a.s + sel a) else if a.k = 4 then sel a else if a.k = 5 then a.lo else spanL sel 0 l
def spanL (sel : FH → Int) : Int → List Fm → Int
 | n,[] => n
 | n,f :: t => spanL sel (wrap64 (n + spanR sel f)) t
end
theorem spanR_mk (sel : FH → Int) (a : FH) (l : List Fm) : spanR sel (.mk a l) = if a.k = 0 then a.s else if a.k = 1 ∨ a.k = 2 then wrap64 (a.s + sel a) else if a.k = 4 then sel a else if a.k = 5 then a.lo else spanL sel 0 l := by rw [spanR]
theorem spanL_snoc (sel : FH → Int) (l : List Fm) (f : Fm) (n : Int) : spanL sel n (l ++ [f]) = wrap64 (spanL sel n l + spanR sel f) := by
 induction l generalizing n with
 | nil => rw [List.nil_append,spanL,spanL,spanL]
 | cons g t ih => rw [List.cons_append,spanL,spanL,ih]
def leastR : Fm → Int := spanR FH.lo
def mostR : Fm → Int := spanR FH.hi

set_option maxRecDepth 100000 in
theorem lo1_any (ok : Nat → Prop) (v : Value) (f : Fm) (w : World) (hv : FmR w ok v f) : Calls Try.prog 49 #[v] w fun e w' => e = .returned (.int .i64 f.a.lo) ∧ Kp (fun _ => False) w w' := by
 obtain ⟨sv,rfl,hok,A,c,rfl,_,_,_⟩ := hv
 have hk1 : ∀ o,Kp (fun _ => False) w (w.alloc o) := fun o => (Kp.refl _ _).alloc o
 have HK := Lib.hid hk1
 clear hk1 hok
 go_enter Try.func49,Try.ntmps49
 go_wp2_with fail
 go_ret
 exact ⟨rfl,HK.out _⟩

set_option maxRecDepth 100000 in
set_option maxHeartbeats 3200000 in
theorem span_lo (ok : Nat → Prop) : ∀ (f : Fm) (v : Value) (w : World),FmR w ok v f →
  Calls Try.prog 48 #[v,.func (.func 49) #[] #[]] w fun e w' => e = .returned (.int .i64 (spanR FH.lo f)) ∧ Kp (fun _ => False) w w' := by
 intro f
 induction f using RT.induct with
 | h a l ih =>
 intro v w hv
 have hl1 := fun W hk => lo1_any ok v (.mk a l) W (hv.kp (S := fun _ => False) (w' := W) hk (fun _ _ h => h))
 obtain ⟨r,hr⟩ : ∃ r,spanR FH.lo (.mk a l) = r := ⟨_,rfl⟩
 rw [hr]
 rw [spanR_mk] at hr
 have HL1 := Lib.hid (show ∀ W,Kp (fun _ => False) w W → Calls Try.prog 49 #[v] W fun e w' => e = .returned (.int .i64 a.lo) ∧ Kp (fun _ => False) W w' from hl1)
 clear hl1
 obtain ⟨k,s,lo,hi,st⟩ := a
 obtain ⟨A,c,rfl,h1,h2,hk,hs,hlo,hhi,hst,hfs⟩ := hv.parts
 have hka : Kp (fun _ => False) w (w.alloc (.cells #[.int .i64 k,.int .i64 s,.int .i64 lo,.int .i64 hi,.int .i64 st,.slice A l.length c] 27)) := (Kp.refl _ _).alloc _
 have HK := Lib.hid hka
 have HFS := Lib.hid (hfs.kp hka (fun _ _ h => h))
 have IH := Lib.hid ih
 clear hv hk hs hlo hhi hst hfs hka ih
 by_cases k0 : k = 0
 ·subst k0
  rw [if_pos rfl] at hr
  subst hr
  go_enter Try.func48,Try.ntmps48
  go_wp2_with fail
  go_ret
  exact ⟨rfl,HK.out⟩
 rw [if_neg k0] at hr
 by_cases k12 : k = 1 ∨ k = 2
 ·rw [if_pos k12] at hr
  have HR := Lib.hid hr
  clear hr k0
  rcases k12 with hk' | hk'
  all_goals
   have HB := Lib.hid (Blk.new w 27 #[.int .i64 k,.int .i64 s,.int .i64 lo,.int .i64 hi,.int .i64 st,.slice A l.length c])
   have HKK := Lib.hid hk'
   have n0 : (k == 0) = false := by simp;omega
   have n12 : ((k == 1) = true) ∨ ((k == 1) = false ∧ (k == 2) = true) := by
    first
     | exact .inl (by simpa using hk')
     | exact .inr ⟨by simp;omega,by simpa using hk'⟩
   clear hk'
   rcases n12 with n1 | ⟨n1,n2⟩
   all_goals
    go_enter Try.func48,Try.ntmps48
    go_wp2_with fail
    obtain ⟨W1,hW1⟩ : ∃ W1,w.alloc (.cells #[.int .i64 k,.int .i64 s,.int .i64 lo,.int .i64 hi,.int .i64 st,.slice A l.length c] 27) = W1 := ⟨_,rfl⟩
    obtain ⟨g,hg⟩ : ∃ g,w.heap.size = g := ⟨_,rfl⟩
    rw [hW1] at HB HK ⊢
    rw [hg] at HB ⊢
    have HCE := Lib.hid (show ∀ W,Kp (fun _ => False) W1 W → W.cell? ⟨g,0,none⟩ = some (.int .i64 k) ∧ W.cell? ⟨g,1,none⟩ = some (.int .i64 s) ∧ W.cell? ⟨g,2,none⟩ = some (.int .i64 lo) ∧ W.cell? ⟨g,3,none⟩ = some (.int .i64 hi) ∧ W.cell? ⟨g,4,none⟩ = some (.int .i64 st) ∧ W.cell? ⟨g,5,none⟩ = some (.slice A l.length c) from fun W hk => by
     have hb := HB.out.kp hk (fun h => h)
     exact ⟨hb.cell 0,hb.cell 1,hb.cell 2,hb.cell 3,hb.cell 4,hb.cell 5⟩)
    have HKR := Lib.hid (Kp.refl (fun _ => False) W1)
    have hr2 : IntKind.i64.wrap (s + lo) = r := by
     rw [i64_wrap]
     exact HR.out
    clear hW1 hg
    go_region_held3 (fun w' => w'.cell? ⟨g,0,none⟩ = some (.int .i64 k) ∧ w'.cell? ⟨g,1,none⟩ = some (.int .i64 s) ∧ w'.cell? ⟨g,2,none⟩ = some (.int .i64 lo) ∧ w'.cell? ⟨g,3,none⟩ = some (.int .i64 hi) ∧ w'.cell? ⟨g,4,none⟩ = some (.int .i64 st) ∧ w'.cell? ⟨g,5,none⟩ = some (.slice A l.length c)) (first | exact HCE.out _ HKR.out | exact HCE.out _ HKR.out.drew) ((refine (HL1.out _ (HK.out.then_ (T := fun _ => False) (by first | exact HKR.out | exact HKR.out.drew) (fun _ h => h.elim))).mono ?_;rintro e w5 ⟨rfl,hk5⟩;have hq := Kp.then_ (a := W1) (S := fun _ => False) (by first | exact HKR.out | exact HKR.out.drew) hk5 (fun _ h => h.elim);clear HKR;have HKR := Lib.hid hq;clear hq hk5))
    go_wp2_with fail
    go_ret
    exact ⟨rfl,HK.out.then_ HKR.out (fun _ h => h.elim)⟩
 rw [if_neg k12] at hr
 by_cases k4 : k = 4
 ·subst k4
  rw [if_pos rfl] at hr
  subst hr
  clear k0 k12
  go_enter Try.func48,Try.ntmps48
  go_wp2_with fail
  refine (HL1.out _ HK.out).mono ?_
  rintro e w1 ⟨rfl,hk1⟩
  have hkk := HK.out.then_ hk1 (fun _ h => h.elim)
  go_wp2_with fail
  go_ret
  exact ⟨rfl,hkk⟩
 rw [if_neg k4] at hr
 by_cases k5 : k = 5
 ·subst k5
  rw [if_pos rfl] at hr
  subst hr
  clear k0 k12 k4
  go_enter Try.func48,Try.ntmps48
  go_wp2_with fail
  go_ret
  exact ⟨rfl,HK.out⟩
 rw [if_neg k5] at hr
 have n0 : (k == 0) = false := by simpa using k0
 have n1 : (k == 1) = false := by simp;omega
 have n2 : (k == 2) = false := by simp;omega
 have n4 : (k == 4) = false := by simpa using k4
 have n5 : (k == 5) = false := by simpa using k5
 have HR := Lib.hid hr
 clear hr k0 k12 k4 k5
 go_enter Try.func48,Try.ntmps48
 go_wp2_with fail
 go_loopw [35,5] (fun i nv wr => ∃ j : Nat,j ≤ l.length ∧ i = .int .i64 j ∧ nv = .int .i64 (spanL FH.lo 0 (l.take j)) ∧ Kp (fun _ => False) w wr ∧ FsR wr ok (.slice A l.length c) l) (fun i _ _ => l.length - (intOf i).toNat)
 case atStart => exact ⟨0,Nat.zero_le _,rfl,by simp [spanL],HK.out,HFS.out⟩
 case round =>
  obtain ⟨j,hj,rfl,rfl,hkr,hfr⟩ := hrel
  have HKR := Lib.hid hkr
  have HFR := Lib.hid hfr
  clear hkr
  by_cases hlt : j < l.length
  ·obtain ⟨b,off,A2,c2,rfl,hb,hf,q0,q1,q2,q3,q4,q5⟩ := hfr.at_ hlt
   have hmem : l[j] ∈ l := List.getElem_mem hlt
   have hts := List.take_succ_eq_append_getElem hlt
   obtain ⟨f,hfe⟩ : ∃ f,l[j] = f := ⟨_,rfl⟩
   rw [hfe] at hf q0 q1 q2 q3 q4 q5 hmem hts
   have hst := Lib.hid (show spanL FH.lo 0 (l.take (j + 1)) = wrap64 (spanL FH.lo 0 (l.take j) + spanR FH.lo f) by rw [hts,spanL_snoc])
   have hi0 : (0 : Int) ≤ (j : Int) := by omega
   have hi1 : (j : Int) < (l.length : Int) := by omega
   have hka : ∀ o,Kp (fun _ => False) wr (wr.alloc o) := fun o => (Kp.refl _ _).alloc o
   have HC := Lib.hid (fun o => IH.out f hmem _ _ (hf.kp (hka o) (fun _ _ h => h)))
   have HKA := Lib.hid hka
   generalize spanL FH.lo 0 (l.take j) = n at hst
   generalize spanR FH.lo f = x at hst HC
   clear hf hfe hmem hfr hts hka
   go_wp2_with fail
   refine (HC.out _).mono ?_
   rintro e w2 ⟨rfl,hk2⟩
   have HK2 := Lib.hid (HKR.out.then_ ((HKA.out _).then_ hk2 (fun _ h => h.elim)) (fun _ h => h.elim))
   have HF2 := Lib.hid (HFR.out.kp ((HKA.out _).then_ hk2 (fun _ h => h.elim)) (fun _ _ h => h))
   clear hk2
   go_wp2_with fail
   go_roundw
   case rel => exact ⟨j + 1,by omega,by go_num,by rw [hst.out],HK2.out,HF2.out⟩
   case measure => simp [intOf];omega
  ·obtain rfl : j = l.length := by omega
   rw [List.take_of_length_le (Nat.le_refl _)] at *
   clear hfr
   go_wp2_with fail
   go_ret
   exact ⟨by rw [HR.out];rfl,HKR.out⟩

set_option maxRecDepth 100000 in
theorem hi1_any (ok : Nat → Prop) (v : Value) (f : Fm) (w : World) (hv : FmR w ok v f) : Calls Try.prog 50 #[v] w fun e w' => e = .returned (.int .i64 f.a.hi) ∧ Kp (fun _ => False) w w' := by
 obtain ⟨sv,rfl,hok,A,c,rfl,_,_,_⟩ := hv
 have hk1 : ∀ o,Kp (fun _ => False) w (w.alloc o) := fun o => (Kp.refl _ _).alloc o
 have HK := Lib.hid hk1
 clear hk1 hok
 go_enter Try.func50,Try.ntmps50
 go_wp2_with fail
 go_ret
 exact ⟨rfl,HK.out _⟩

set_option maxRecDepth 100000 in
set_option maxHeartbeats 3200000 in
theorem span_hi (ok : Nat → Prop) : ∀ (f : Fm) (v : Value) (w : World),FmR w ok v f →
  Calls Try.prog 48 #[v,.func (.func 50) #[] #[]] w fun e w' => e = .returned (.int .i64 (spanR FH.hi f)) ∧ Kp (fun _ => False) w w' := by
 intro f
 induction f using RT.induct with
 | h a l ih =>
 intro v w hv
 have hl1 := fun W hk => hi1_any ok v (.mk a l) W (hv.kp (S := fun _ => False) (w' := W) hk (fun _ _ h => h))
 obtain ⟨r,hr⟩ : ∃ r,spanR FH.hi (.mk a l) = r := ⟨_,rfl⟩
 rw [hr]
 rw [spanR_mk] at hr
 have HL1 := Lib.hid (show ∀ W,Kp (fun _ => False) w W → Calls Try.prog 50 #[v] W fun e w' => e = .returned (.int .i64 a.hi) ∧ Kp (fun _ => False) W w' from hl1)
 clear hl1
 obtain ⟨k,s,lo,hi,st⟩ := a
 obtain ⟨A,c,rfl,h1,h2,hk,hs,hlo,hhi,hst,hfs⟩ := hv.parts
 have hka : Kp (fun _ => False) w (w.alloc (.cells #[.int .i64 k,.int .i64 s,.int .i64 lo,.int .i64 hi,.int .i64 st,.slice A l.length c] 27)) := (Kp.refl _ _).alloc _
 have HK := Lib.hid hka
 have HFS := Lib.hid (hfs.kp hka (fun _ _ h => h))
 have IH := Lib.hid ih
 clear hv hk hs hlo hhi hst hfs hka ih
 by_cases k0 : k = 0
 ·subst k0
  rw [if_pos rfl] at hr
  subst hr
  go_enter Try.func48,Try.ntmps48
  go_wp2_with fail
  go_ret
  exact ⟨rfl,HK.out⟩
 rw [if_neg k0] at hr
 by_cases k12 : k = 1 ∨ k = 2
 ·rw [if_pos k12] at hr
  have HR := Lib.hid hr
  clear hr k0
  rcases k12 with hk' | hk'
  all_goals
   have HB := Lib.hid (Blk.new w 27 #[.int .i64 k,.int .i64 s,.int .i64 lo,.int .i64 hi,.int .i64 st,.slice A l.length c])
   have HKK := Lib.hid hk'
   have n0 : (k == 0) = false := by simp;omega
   have n12 : ((k == 1) = true) ∨ ((k == 1) = false ∧ (k == 2) = true) := by
    first
     | exact .inl (by simpa using hk')
     | exact .inr ⟨by simp;omega,by simpa using hk'⟩
   clear hk'
   rcases n12 with n1 | ⟨n1,n2⟩
   all_goals
    go_enter Try.func48,Try.ntmps48
    go_wp2_with fail
    obtain ⟨W1,hW1⟩ : ∃ W1,w.alloc (.cells #[.int .i64 k,.int .i64 s,.int .i64 lo,.int .i64 hi,.int .i64 st,.slice A l.length c] 27) = W1 := ⟨_,rfl⟩
    obtain ⟨g,hg⟩ : ∃ g,w.heap.size = g := ⟨_,rfl⟩
    rw [hW1] at HB HK ⊢
    rw [hg] at HB ⊢
    have HCE := Lib.hid (show ∀ W,Kp (fun _ => False) W1 W → W.cell? ⟨g,0,none⟩ = some (.int .i64 k) ∧ W.cell? ⟨g,1,none⟩ = some (.int .i64 s) ∧ W.cell? ⟨g,2,none⟩ = some (.int .i64 lo) ∧ W.cell? ⟨g,3,none⟩ = some (.int .i64 hi) ∧ W.cell? ⟨g,4,none⟩ = some (.int .i64 st) ∧ W.cell? ⟨g,5,none⟩ = some (.slice A l.length c) from fun W hk => by
     have hb := HB.out.kp hk (fun h => h)
     exact ⟨hb.cell 0,hb.cell 1,hb.cell 2,hb.cell 3,hb.cell 4,hb.cell 5⟩)
    have HKR := Lib.hid (Kp.refl (fun _ => False) W1)
    have hr2 : IntKind.i64.wrap (s + hi) = r := by
     rw [i64_wrap]
     exact HR.out
    clear hW1 hg
    go_region_held3 (fun w' => w'.cell? ⟨g,0,none⟩ = some (.int .i64 k) ∧ w'.cell? ⟨g,1,none⟩ = some (.int .i64 s) ∧ w'.cell? ⟨g,2,none⟩ = some (.int .i64 lo) ∧ w'.cell? ⟨g,3,none⟩ = some (.int .i64 hi) ∧ w'.cell? ⟨g,4,none⟩ = some (.int .i64 st) ∧ w'.cell? ⟨g,5,none⟩ = some (.slice A l.length c)) (first | exact HCE.out _ HKR.out | exact HCE.out _ HKR.out.drew) ((refine (HL1.out _ (HK.out.then_ (T := fun _ => False) (by first | exact HKR.out | exact HKR.out.drew) (fun _ h => h.elim))).mono ?_;rintro e w5 ⟨rfl,hk5⟩;have hq := Kp.then_ (a := W1) (S := fun _ => False) (by first | exact HKR.out | exact HKR.out.drew) hk5 (fun _ h => h.elim);clear HKR;have HKR := Lib.hid hq;clear hq hk5))
    go_wp2_with fail
    go_ret
    exact ⟨rfl,HK.out.then_ HKR.out (fun _ h => h.elim)⟩
 rw [if_neg k12] at hr
 by_cases k4 : k = 4
 ·subst k4
  rw [if_pos rfl] at hr
  subst hr
  clear k0 k12
  go_enter Try.func48,Try.ntmps48
  go_wp2_with fail
  refine (HL1.out _ HK.out).mono ?_
  rintro e w1 ⟨rfl,hk1⟩
  have hkk := HK.out.then_ hk1 (fun _ h => h.elim)
  go_wp2_with fail
  go_ret
  exact ⟨rfl,hkk⟩
 rw [if_neg k4] at hr
 by_cases k5 : k = 5
 ·subst k5
  rw [if_pos rfl] at hr
  subst hr
  clear k0 k12 k4
  go_enter Try.func48,Try.ntmps48
  go_wp2_with fail
  go_ret
  exact ⟨rfl,HK.out⟩
 rw [if_neg k5] at hr
 have n0 : (k == 0) = false := by simpa using k0
 have n1 : (k == 1) = false := by simp;omega
 have n2 : (k == 2) = false := by simp;omega
 have n4 : (k == 4) = false := by simpa using k4
 have n5 : (k == 5) = false := by simpa using k5
 have HR := Lib.hid hr
 clear hr k0 k12 k4 k5
 go_enter Try.func48,Try.ntmps48
 go_wp2_with fail
 go_loopw [35,5] (fun i nv wr => ∃ j : Nat,j ≤ l.length ∧ i = .int .i64 j ∧ nv = .int .i64 (spanL FH.hi 0 (l.take j)) ∧ Kp (fun _ => False) w wr ∧ FsR wr ok (.slice A l.length c) l) (fun i _ _ => l.length - (intOf i).toNat)
 case atStart => exact ⟨0,Nat.zero_le _,rfl,by simp [spanL],HK.out,HFS.out⟩
 case round =>
  obtain ⟨j,hj,rfl,rfl,hkr,hfr⟩ := hrel
  have HKR := Lib.hid hkr
  have HFR := Lib.hid hfr
  clear hkr
  by_cases hlt : j < l.length
  ·obtain ⟨b,off,A2,c2,rfl,hb,hf,q0,q1,q2,q3,q4,q5⟩ := hfr.at_ hlt
   have hmem : l[j] ∈ l := List.getElem_mem hlt
   have hts := List.take_succ_eq_append_getElem hlt
   obtain ⟨f,hfe⟩ : ∃ f,l[j] = f := ⟨_,rfl⟩
   rw [hfe] at hf q0 q1 q2 q3 q4 q5 hmem hts
   have hst := Lib.hid (show spanL FH.hi 0 (l.take (j + 1)) = wrap64 (spanL FH.hi 0 (l.take j) + spanR FH.hi f) by rw [hts,spanL_snoc])
   have hi0 : (0 : Int) ≤ (j : Int) := by omega
   have hi1 : (j : Int) < (l.length : Int) := by omega
   have hka : ∀ o,Kp (fun _ => False) wr (wr.alloc o) := fun o => (Kp.refl _ _).alloc o
   have HC := Lib.hid (fun o => IH.out f hmem _ _ (hf.kp (hka o) (fun _ _ h => h)))
   have HKA := Lib.hid hka
   generalize spanL FH.hi 0 (l.take j) = n at hst
   generalize spanR FH.hi f = x at hst HC
   clear hf hfe hmem hfr hts hka
   go_wp2_with fail
   refine (HC.out _).mono ?_
   rintro e w2 ⟨rfl,hk2⟩
   have HK2 := Lib.hid (HKR.out.then_ ((HKA.out _).then_ hk2 (fun _ h => h.elim)) (fun _ h => h.elim))
   have HF2 := Lib.hid (HFR.out.kp ((HKA.out _).then_ hk2 (fun _ h => h.elim)) (fun _ _ h => h))
   clear hk2
   go_wp2_with fail
   go_roundw
   case rel => exact ⟨j + 1,by omega,by go_num,by rw [hst.out],HK2.out,HF2.out⟩
   case measure => simp [intOf];omega
  ·obtain rfl : j = l.length := by omega
   rw [List.take_of_length_le (Nat.le_refl _)] at *
   clear hfr
   go_wp2_with fail
   go_ret
   exact ⟨by rw [HR.out];rfl,HKR.out⟩

set_option maxRecDepth 100000 in
theorem least_any (ok : Nat → Prop) (v : Value) (f : Fm) (w : World) (hv : FmR w ok v f) : Calls Try.prog 24 #[v] w fun e w' => e = .returned (.int .i64 (leastR f)) ∧ Kp (fun _ => False) w w' := by
 have HC := Lib.hid (fun o => span_lo ok f v (w.alloc o) (hv.kp ((Kp.refl (fun _ => False) w).alloc o) (fun _ _ h => h)))
 obtain ⟨sv,rfl,hok,A,c,rfl,_,_,_⟩ := hv
 have HK := Lib.hid (show ∀ o,Kp (fun _ => False) w (w.alloc o) from fun o => (Kp.refl _ _).alloc o)
 have HR := Lib.hid (show leastR f = spanR FH.lo f from rfl)
 clear hok
 go_enter Try.func24,Try.ntmps24
 go_wp2_with fail
 refine (HC.out _).mono ?_
 rintro e w1 ⟨rfl,hk1⟩
 have hk := (HK.out _).then_ hk1 (fun _ h => h.elim)
 go_wp2_with fail
 go_ret
 exact ⟨by rw [HR.out];rfl,hk⟩
set_option maxRecDepth 100000 in
theorem most_any (ok : Nat → Prop) (v : Value) (f : Fm) (w : World) (hv : FmR w ok v f) : Calls Try.prog 25 #[v] w fun e w' => e = .returned (.int .i64 (mostR f)) ∧ Kp (fun _ => False) w w' := by
 have HC := Lib.hid (fun o => span_hi ok f v (w.alloc o) (hv.kp ((Kp.refl (fun _ => False) w).alloc o) (fun _ _ h => h)))
 obtain ⟨sv,rfl,hok,A,c,rfl,_,_,_⟩ := hv
 have HK := Lib.hid (show ∀ o,Kp (fun _ => False) w (w.alloc o) from fun o => (Kp.refl _ _).alloc o)
 have HR := Lib.hid (show mostR f = spanR FH.hi f from rfl)
 clear hok
 go_enter Try.func25,Try.ntmps25
 go_wp2_with fail
 refine (HC.out _).mono ?_
 rintro e w1 ⟨rfl,hk1⟩
 have hk := (HK.out _).then_ hk1 (fun _ h => h.elim)
 go_wp2_with fail
 go_ret
 exact ⟨by rw [HR.out];rfl,hk⟩
end Go.Proofs.Ytfcghajnnllmhaa

namespace Go.Proofs.Ytfcghajnnllmhaa
open Go.RowKit

mutual
/-- Have bytes of it no end of their own? -/
def openR : Fm → Bool
 | .mk a l => if a.k = 3 then openL l else decide (a.k = 4)
def openL : List Fm → Bool
 | [] => false
 | f :: t => match t with
  | [] => openR f
  | _ :: _ => openL t
end
theorem openR_mk (a : FH) (l : List Fm) : openR (.mk a l) = if a.k = 3 then openL l else decide (a.k = 4) := by rw [openR]
theorem openL_last (l : List Fm) (n : Nat) (h : l.length = n + 1) : openL l = openR (l[n]'(by omega)) := by
 induction l generalizing n with
 | nil => simp at h
 | cons f t ih =>
  cases t with
  | nil =>
   obtain rfl : n = 0 := by simpa using h
   rw [openL]
   rfl
  | cons g u =>
   rw [openL]
   obtain ⟨m,rfl⟩ : ∃ m,n = m + 1 := ⟨n - 1,by simp at h;omega⟩
   rw [ih m (by simpa using h)]
   rfl
theorem sizeOf_kid {a : FH} {l : List Fm} {f : Fm} (h : f ∈ l) : SizeOf.sizeOf f < SizeOf.sizeOf (RT.mk a l) := by
 have := List.sizeOf_lt_of_mem h
 rw [RT.mk.sizeOf_spec]
 omega

/-! ### Six cells stored. -/
theorem Blk.put6 {w : World} {B : Nat} {t : TypeId} {a0 a1 a2 a3 a4 a5 : Value} (h : Blk w B t #[a0,a1,a2,a3,a4,a5]) (b0 b1 b2 b3 b4 b5 : Value) :
  Blk ((((((w.setCell ⟨B,0,none⟩ b0).setCell ⟨B,1,none⟩ b1).setCell ⟨B,2,none⟩ b2).setCell ⟨B,3,none⟩ b3).setCell ⟨B,4,none⟩ b4).setCell ⟨B,5,none⟩ b5) B t #[b0,b1,b2,b3,b4,b5] :=
 (((((h.set_ 0 b0).set_ 1 b1).set_ 2 b2).set_ 3 b3).set_ 4 b4).set_ 5 b5
theorem Kp.put6 {S : Nat → Prop} {a w : World} {B : Nat} (h : Kp S a w) (hp : S B ∨ a.heap.size ≤ B) (b0 b1 b2 b3 b4 b5 : Value) :
  Kp S a ((((((w.setCell ⟨B,0,none⟩ b0).setCell ⟨B,1,none⟩ b1).setCell ⟨B,2,none⟩ b2).setCell ⟨B,3,none⟩ b3).setCell ⟨B,4,none⟩ b4).setCell ⟨B,5,none⟩ b5) :=
 (((((h.setCell (p := ⟨B,0,none⟩) hp b0).setCell (p := ⟨B,1,none⟩) hp b1).setCell (p := ⟨B,2,none⟩) hp b2).setCell (p := ⟨B,3,none⟩) hp b3).setCell (p := ⟨B,4,none⟩) hp b4).setCell (p := ⟨B,5,none⟩) hp b5

set_option maxRecDepth 100000 in
set_option maxHeartbeats 3200000 in
theorem open_any (ok : Nat → Prop) (v : Value) (f : Fm) (w : World) (hlt : ∀ i,ok i → i < w.heap.size) (hv : FmR w ok v f) :
  Calls Try.prog 23 #[v] w fun e w' => e = .returned (.bool (openR f)) ∧ Kp (fun _ => False) w w' := by
 obtain ⟨r,hr⟩ : ∃ r,openR f = r := ⟨_,rfl⟩
 rw [hr]
 have HR := Lib.hid hr
 clear hr
 obtain ⟨⟨k,s,lo,hi,st⟩,l⟩ := f
 obtain ⟨A,c,rfl,h1,h2,_,_,_,_,_,hfs⟩ := hv.parts
 have HB := Lib.hid (Blk.new w 27 #[.int .i64 k,.int .i64 s,.int .i64 lo,.int .i64 hi,.int .i64 st,.slice A l.length c])
 have hka : Kp (fun _ => False) w (w.alloc (.cells #[.int .i64 k,.int .i64 s,.int .i64 lo,.int .i64 hi,.int .i64 st,.slice A l.length c] 27)) := (Kp.refl _ _).alloc _
 have HK := Lib.hid hka
 have HFS := Lib.hid (hfs.kp hka (fun _ _ h => h))
 obtain ⟨B,hB⟩ : ∃ B,w.heap.size = B := ⟨_,rfl⟩
 have HLT := Lib.hid (show ∀ i,ok i → ¬ i = B from fun i hi => by have := hlt i hi;omega)
 have HBW := Lib.hid (show w.heap.size ≤ B by omega)
 clear hv hfs hka hlt
 go_enter Try.func23,Try.ntmps23
 go_wp2_with fail
 obtain ⟨W1,hW1⟩ : ∃ W1,w.alloc (.cells #[.int .i64 k,.int .i64 s,.int .i64 lo,.int .i64 hi,.int .i64 st,.slice A l.length c] 27) = W1 := ⟨_,rfl⟩
 rw [hW1] at HB HK HFS ⊢
 rw [hB] at HB
 clear hW1 hB
 go_loopg [] (SizeOf.sizeOf (RT.mk (FH.mk k s lo hi st) l)) (fun g wr => ∃ (cur : Fm) (A' : Option Addr) (c' : Nat),g = SizeOf.sizeOf cur ∧ Blk wr B 27 #[.int .i64 cur.a.k,.int .i64 cur.a.s,.int .i64 cur.a.lo,.int .i64 cur.a.hi,.int .i64 cur.a.st,.slice A' cur.l.length c'] ∧ FsR wr ok (.slice A' cur.l.length c') cur.l ∧ openR cur = r ∧ Kp (fun _ => False) w wr)
 case atStart => exact ⟨_,A,c,rfl,HB.out,HFS.out,HR.out,HK.out⟩
 case round =>
  obtain ⟨cur,A',c',rfl,hb,hf,ho,hkr⟩ := hrel
  obtain ⟨⟨k',s',lo',hi',st'⟩,l'⟩ := cur
  simp only [RT.a,RT.l] at hb hf
  rw [openR_mk] at ho
  have t0 := hb.cell 0
  have t1 := hb.cell 1
  have t2 := hb.cell 2
  have t3 := hb.cell 3
  have t4 := hb.cell 4
  have t5 := hb.cell 5
  have z0 := hb.frozen 0
  have z1 := hb.frozen 1
  have z2 := hb.frozen 2
  have z3 := hb.frozen 3
  have z4 := hb.frozen 4
  have z5 := hb.frozen 5
  simp at t0 t1 t2 t3 t4 t5
  have HKR := Lib.hid hkr
  have HBB := Lib.hid hb
  clear hkr hb
  by_cases k3 : k' = 3
  ·rw [if_pos k3] at ho
   have n3 : (k' == 3) = true := by simpa using k3
   by_cases h0 : l'.length = 0
   ·have hl0 : l' = [] := List.eq_nil_of_length_eq_zero h0
    subst hl0
    have hr1 : r = false := by rw [← ho,openL]
    subst hr1
    have n4 : (k' == 4) = false := by simp;omega
    clear ho h0 hf k3
    go_wp2_with fail
    go_ret
    exact ⟨rfl,HKR.out⟩
   ·obtain ⟨n,hn⟩ : ∃ n,l'.length = n + 1 := ⟨l'.length - 1,by omega⟩
    rw [openL_last l' n hn] at ho
    obtain ⟨b,off,A2,c2,rfl,hb2,hf2,q0,q1,q2,q3,q4,q5⟩ := hf.at_ (i := n) (by omega)
    have hmem : l'[n]'(by omega) ∈ l' := List.getElem_mem _
    have hsz := Lib.hid (sizeOf_kid (a := FH.mk k' s' lo' hi' st') hmem)
    obtain ⟨f2,hf2e⟩ : ∃ f2,l'[n]'(by omega) = f2 := ⟨_,rfl⟩
    rw [hf2e] at ho hf2 q0 q1 q2 q3 q4 q5 hsz
    have HO := Lib.hid ho
    have hFs2 : FsR wr ok (.slice A2 f2.l.length c2) f2.l := by
     obtain ⟨sv,e,_,h⟩ := hf2
     simp only [Value.agg.injEq,Array.mk.injEq,List.cons.injEq,and_true,true_and] at e
     rw [e]
     exact h
    have HF2 := Lib.hid hFs2
    have hlen : l'.length ≤ 140737488355328 := by obtain ⟨_,_,_,_,h,_⟩ := hf;exact h
    obtain ⟨m,hm⟩ : ∃ m,l'.length = m := ⟨_,rfl⟩
    have g1 : decide ((0 : Int) < (m : Int)) = true := by simp;omega
    have g2 : (0 : Int) < (m : Int) := by omega
    have hmn : (m : Int) - 1 = (n : Int) := by omega
    have hnm : n < m := by omega
    rw [hm] at t5 HBB hlen
    clear ho hmem hf2e hFs2 hf hf2 h0 hn k3 hm
    go_wp2_with fail
    go_roundg (SizeOf.sizeOf f2)
    case measure => exact hsz.out
    case rel =>
     exact ⟨f2,A2,c2,rfl,HBB.out.put6 _ _ _ _ _ _,HF2.out.kp ((Kp.refl (fun j => j = B) wr).put6 (B := B) (.inl rfl) _ _ _ _ _ _) (fun i hi => HLT.out i hi),HO.out,HKR.out.put6 (B := B) (.inr HBW.out) _ _ _ _ _ _⟩
  ·rw [if_neg k3] at ho
   have n3 : (k' == 3) = false := by simpa using k3
   have n4 : (k' == 4) = r := by rw [← ho];rfl
   clear ho hf k3
   go_wp2_with fail
   go_ret
   exact ⟨rfl,HKR.out⟩
end Go.Proofs.Ytfcghajnnllmhaa

namespace Go.Proofs.Ytfcghajnnllmhaa
open Go.RowKit

/-- Does a part not fit there? -/
def badI (k : Int) (n i : Nat) (f : Fm) : Bool := (openR f && (decide (k = 2) || decide (i + 1 < n))) || (decide (k = 2) && decide (leastR f = 0))
def badF (k : Int) (n : Nat) : Nat → List Fm → Bool
  | _, [] => false
  | i, f :: t => badI k n i f || badF k n (i + 1) t
mutual
/-- What is wrong with a form and its parts. -/
def checkR : Fm → Int
  | .mk a l => if ownN a.k a.s a.lo a.hi a.st l.length ≠ 0 then ownN a.k a.s a.lo a.hi a.st l.length else if a.k = 2 ∨ a.k = 3 then (if checkL l ≠ 0 then checkL l else if badF a.k l.length 0 l then 15 else 0) else 0
def checkL : List Fm → Int
  | [] => 0
  | f :: t => if checkR f ≠ 0 then checkR f else checkL t
end
theorem checkR_mk (a : FH) (l : List Fm) : checkR (.mk a l) = if ownN a.k a.s a.lo a.hi a.st l.length ≠ 0 then ownN a.k a.s a.lo a.hi a.st l.length else if a.k = 2 ∨ a.k = 3 then (if checkL l ≠ 0 then checkL l else if badF a.k l.length 0 l then 15 else 0) else 0 := by rw [checkR]
/-- The rest, behind a form's own numbers. -/
def restR (k : Int) (P : List Fm) : Int := if checkL P ≠ 0 then checkL P else if badF k P.length 0 P then 15 else 0
theorem checkR_parts (a : FH) (l : List Fm) : checkR (.mk a l) = if ownR (.mk a l) ≠ 0 then ownR (.mk a l) else restR a.k (partsF (.mk a l)) := by
  rw [checkR_mk]
  show _ = if ownN a.k a.s a.lo a.hi a.st l.length ≠ 0 then ownN a.k a.s a.lo a.hi a.st l.length else restR a.k (if a.k = 2 ∨ a.k = 3 then l else [])
  by_cases h : a.k = 2 ∨ a.k = 3
  · rw [if_pos h, if_pos h]
    rfl
  · rw [if_neg h, if_neg h]
    have e : restR a.k [] = 0 := by rw [restR, checkL]; simp [badF]
    rw [e]
theorem partsF_mem {a : FH} {l : List Fm} {f : Fm} (h : f ∈ partsF (.mk a l)) : f ∈ l := by
  have e : partsF (.mk a l) = if a.k = 2 ∨ a.k = 3 then l else [] := rfl
  rw [e] at h
  split at h
  · exact h
  · simp at h
theorem checkL_drop {l : List Fm} {k : Nat} (hk : k < l.length) : checkL (l.drop k) = if checkR l[k] ≠ 0 then checkR l[k] else checkL (l.drop (k + 1)) := by
  rw [List.drop_eq_getElem_cons hk, checkL]
theorem badF_drop {l : List Fm} {k n i : Nat} (c : Int) (hk : k < l.length) : badF c n i (l.drop k) = (badI c n i l[k] || badF c n (i + 1) (l.drop (k + 1))) := by
  rw [List.drop_eq_getElem_cons hk, badF]

set_option maxRecDepth 100000 in
set_option maxHeartbeats 12800000 in
theorem chk_any (ok : Nat → Prop) : ∀ (f : Fm) (v : Value) (w : World), (∀ i, ok i → i < w.heap.size) → FmR w ok v f →
    Calls Try.prog 44 #[v] w fun e w' => e = .returned (.int .i64 (checkR f)) ∧ Kp (fun _ => False) w w' := by
  intro f
  induction f using RT.induct with
  | h a l ih =>
  intro v w hlt hv
  obtain ⟨r, hr⟩ : ∃ r, checkR (.mk a l) = r := ⟨_, rfl⟩
  rw [hr]
  rw [checkR_parts] at hr
  have HOW := Lib.hid (fun o => own_any ok v (.mk a l) (w.alloc o) (hv.kp ((Kp.refl (fun _ => False) w).alloc o) (fun _ _ h => h)))
  have HPA := Lib.hid (fun W hk => parts_any ok v (.mk a l) W (hv.kp (S := fun _ => False) (w := w) (w' := W) hk (fun _ _ h => h)))
  have IH := Lib.hid (fun f (hm : f ∈ partsF (.mk a l)) => ih f (partsF_mem hm))
  generalize partsF (.mk a l) = P at hr HPA IH
  generalize ownR (.mk a l) = o at hr HOW
  obtain ⟨k, s, lo, hi, st⟩ := a
  obtain ⟨A, c, rfl, h1, h2, _, _, _, _, _, _⟩ := hv.parts
  have hka : Kp (fun _ => False) w (w.alloc (.cells #[.int .i64 k, .int .i64 s, .int .i64 lo, .int .i64 hi, .int .i64 st, .slice A l.length c] 27)) := (Kp.refl _ _).alloc _
  have hbk := Blk.new w 27 #[.int .i64 k, .int .i64 s, .int .i64 lo, .int .i64 hi, .int .i64 st, .slice A l.length c]
  have HK := Lib.hid hka
  have HB := Lib.hid hbk
  have HLT := Lib.hid hlt
  have hr' : (if o ≠ 0 then o else restR k P) = r := hr
  clear hv ih hr hlt hka hbk
  by_cases ho : o ≠ 0
  · rw [if_pos ho] at hr'
    subst hr'
    have t0 : (o != 0) = true := by simpa using ho
    clear ho
    go_enter Try.func44, Try.ntmps44
    go_wp2_with fail
    refine (HOW.out _).mono ?_
    rintro e w1 ⟨rfl, hk1⟩
    have hk := HK.out.then_ hk1 (fun _ h => h.elim)
    go_wp2_with fail
    go_ret
    exact ⟨rfl, hk⟩
  have ho' : o = 0 := by omega
  subst ho'
  rw [if_neg ho] at hr'
  rw [restR] at hr'
  have HR := Lib.hid hr'
  clear ho hr'
  go_enter Try.func44, Try.ntmps44
  go_wp2_with fail
  refine (HOW.out _).mono ?_
  rintro e w1 ⟨rfl, hk1⟩
  have hk01 := HK.out.then_ hk1 (fun _ h => h.elim)
  have hb1 := HB.out.kp hk1 (fun h => h)
  have c0 := hb1.cell 0
  have c1 := hb1.cell 1
  have c2 := hb1.cell 2
  have c3 := hb1.cell 3
  have c4 := hb1.cell 4
  have c5 := hb1.cell 5
  simp at c0 c1 c2 c3 c4 c5
  have HK1 := Lib.hid hk01
  have HB1 := Lib.hid hb1
  clear hk1 hk01 hb1
  go_wp2_with fail
  refine (HPA.out _ HK1.out).mono ?_
  rintro e w2 ⟨A2, n, cp, rfl, hn, hs2, hk2⟩
  have HK2 := Lib.hid (HK1.out.then_ hk2 (fun _ h => h.elim))
  have HB2 := Lib.hid (HB1.out.kp hk2 (fun h => h))
  have HS2 := Lib.hid hs2
  have hnc : n ≤ cp ∧ n ≤ 140737488355328 := by
    obtain ⟨A', c', e, q1, q2, _⟩ := hs2
    injection e with _ e2 e3
    omega
  obtain ⟨hn1, hn2⟩ := hnc
  have HN := Lib.hid hn
  clear hk2 hs2 c0 c1 c2 c3 c4 c5 hn
  go_wp2_with fail
  go_loopw [19] (fun i wr => ∃ j : Nat, j ≤ n ∧ i = .int .i64 j ∧ checkL P = checkL (P.drop j) ∧ Kp (fun _ => False) w2 wr) (fun i _ => n - (intOf i).toNat)
  case atStart => exact ⟨0, Nat.zero_le _, rfl, rfl, Kp.refl _ _⟩
  case round =>
    obtain ⟨j, hj, rfl, he, hkr⟩ := hrel
    have HKR := Lib.hid hkr
    have HE := Lib.hid he
    clear he
    by_cases hlt : j < n
    · have hjP : j < P.length := by have := HN.out; omega
      obtain ⟨b, off, A3, c3, rfl, hb, hf, q0, q1, q2, q3, q4, q5⟩ := (HS2.out.kp hkr (fun _ _ h => h)).at_ hjP
      have hmem : P[j] ∈ P := List.getElem_mem hjP
      have hdr := checkL_drop hjP
      obtain ⟨f, hfe⟩ : ∃ f, P[j] = f := ⟨_, rfl⟩
      rw [hfe] at hf q0 q1 q2 q3 q4 q5 hmem hdr
      have hi0 : (0 : Int) ≤ (j : Int) := by omega
      have hi1 : (j : Int) < (n : Int) := by omega
      have hkx : ∀ o, Kp (fun _ => False) wr (wr.alloc o) := fun o => (Kp.refl _ _).alloc o
      have hltw : ∀ o i, ok i → i < (wr.alloc o).heap.size := fun o i hi => Nat.lt_of_lt_of_le (HLT.out i hi) (Nat.le_trans HK2.out.size (Nat.le_trans hkr.size (hkx o).size))
      have HC := Lib.hid (fun o => IH.out f hmem _ _ (hltw o) (hf.kp (hkx o) (fun _ _ h => h)))
      have HKX := Lib.hid hkx
      generalize checkR f = x at hdr HC
      by_cases hx : x ≠ 0
      · have t0 : (x != 0) = true := by simpa using hx
        have HX := Lib.hid (show x = r by
          have := HR.out
          rw [HE.out, hdr, if_pos hx, if_pos hx] at this
          exact this)
        clear hx hdr hf hfe hmem hkr hkx hltw
        go_wp2_with fail
        refine (HC.out _).mono ?_
        rintro e w3 ⟨rfl, hk3⟩
        have hk := HK2.out.then_ (HKR.out.then_ ((HKX.out _).then_ hk3 (fun _ h => h.elim)) (fun _ h => h.elim)) (fun _ h => h.elim)
        go_wp2_with fail
        go_ret
        exact ⟨by rw [← HX.out]; rfl, hk⟩
      · have hx0 : x = 0 := by omega
        subst hx0
        have HD := Lib.hid (show checkL P = checkL (P.drop (j + 1)) by rw [HE.out, hdr, if_neg hx])
        clear hx hdr hf hfe hmem hkr hkx hltw
        go_wp2_with fail
        refine (HC.out _).mono ?_
        rintro e w3 ⟨rfl, hk3⟩
        have HK3 := Lib.hid (HKR.out.then_ ((HKX.out _).then_ hk3 (fun _ h => h.elim)) (fun _ h => h.elim))
        clear hk3
        go_wp2_with fail
        go_roundw
        case rel => exact ⟨j + 1, by omega, by go_num, HD.out, HK3.out⟩
        case measure => simp [intOf]; omega
    · obtain rfl : j = n := by omega
      have hz : checkL P = 0 := by
        rw [HE.out, List.drop_of_length_le (by have := HN.out; omega), checkL]
      have HR2 := Lib.hid (show (if badF k j 0 P then (15 : Int) else 0) = r by
        have := HR.out
        rw [hz, if_neg (by omega)] at this
        rw [HN.out]
        exact this)
      have HKS := Lib.hid (HK2.out.then_ hkr (fun _ h => h.elim))
      have HSS := Lib.hid (HS2.out.kp hkr (fun _ _ h => h))
      have HBS := Lib.hid (HB2.out.kp hkr (fun h => h))
      obtain ⟨wx, hwx⟩ : ∃ wx : World, wr = wx := ⟨_, rfl⟩
      rw [hwx] at HKS HSS HBS ⊢
      clear hkr HKR hz hwx HE hlt
      go_wp2_with fail
      go_loopw [31] (fun i wr => ∃ m : Nat, m ≤ j ∧ i = .int .i64 m ∧ badF k j 0 P = badF k j m (P.drop m) ∧ Kp (fun _ => False) wx wr) (fun i _ => j - (intOf i).toNat)
      case atStart => exact ⟨0, Nat.zero_le _, rfl, rfl, Kp.refl _ _⟩
      case round =>
        obtain ⟨m, hm, rfl, he, hkr⟩ := hrel
        have HKR := Lib.hid hkr
        have HE := Lib.hid he
        clear he
        by_cases hlt : m < j
        · have hmP : m < P.length := by have := HN.out; omega
          obtain ⟨b, off, A3, c3, rfl, hb, hf, q0, q1, q2, q3, q4, q5⟩ := (HSS.out.kp hkr (fun _ _ h => h)).at_ hmP
          have hdr := badF_drop (n := j) (i := m) k hmP
          obtain ⟨f, hfe⟩ : ∃ f, P[m] = f := ⟨_, rfl⟩
          rw [hfe] at hf q0 q1 q2 q3 q4 q5 hdr
          have hi0 : (0 : Int) ≤ (m : Int) := by omega
          have hi1 : (m : Int) < (j : Int) := by omega
          have hkx : ∀ o, Kp (fun _ => False) wr (wr.alloc o) := fun o => (Kp.refl _ _).alloc o
          have hltw : ∀ o i, ok i → i < (wr.alloc o).heap.size := fun o i hi => Nat.lt_of_lt_of_le (HLT.out i hi) (Nat.le_trans HKS.out.size (Nat.le_trans hkr.size (hkx o).size))
          have HOP := Lib.hid (fun o => open_any ok _ f _ (hltw o) (hf.kp (hkx o) (fun _ _ h => h)))
          have HLE := Lib.hid (fun W (hk : Kp (fun _ => False) wr W) => least_any ok _ f W (hf.kp hk (fun _ _ h => h)))
          have HKX := Lib.hid hkx
          have HCK := Lib.hid (show ∀ W, Kp (fun _ => False) wr W → W.cell? ⟨w.heap.size, 0, none⟩ = some (.int .i64 k) from fun W hk => (HBS.out.kp (hkr.then_ hk (fun _ h => h.elim)) (fun h => h)).cell 0)
          have HNB := Lib.hid (HBS.out.kp hkr (fun h => h))
          rw [badI] at hdr
          generalize openR f = op at hdr HOP
          generalize leastR f = ls at hdr HLE
          have hk2 : (k == 2) = decide (k = 2) := by rw [Bool.eq_iff_iff]; simp
          have hls : (ls == 0) = decide (ls = 0) := by rw [Bool.eq_iff_iff]; simp
          have hmj : decide ((m : Int) < (j : Int) - 1) = decide (m + 1 < j) := by rw [Bool.eq_iff_iff]; simp; omega
          have HDR := Lib.hid hdr
          clear hf hfe hkx hltw hdr hkr
          generalize decide (k = 2) = pk at hk2 HDR
          generalize decide (ls = 0) = pl at hls HDR
          generalize decide (m + 1 < j) = pm at hmj HDR
          cases op <;> cases pk <;> cases pl <;> cases pm
          all_goals
            first
              | (have HD := Lib.hid (show badF k j 0 P = badF k j (m + 1) (P.drop (m + 1)) by rw [HE.out, HDR.out]; rfl)
                 clear HDR
                 go_wp2_with fail
                 refine (HOP.out _).mono ?_
                 rintro e w3 ⟨rfl, hk3⟩
                 have hk3' := (HKX.out _).then_ hk3 (fun _ h => h.elim)
                 have HK3 := Lib.hid hk3'
                 have ck := HCK.out w3 hk3'
                 have hbe := (Blk.new wr 27 #[.int .i64 f.a.k, .int .i64 f.a.s, .int .i64 f.a.lo, .int .i64 f.a.hi, .int .i64 f.a.st, .slice A3 f.l.length c3]).kp hk3 (fun h => h)
                 have d0 := hbe.cell 0
                 have d1 := hbe.cell 1
                 have d2 := hbe.cell 2
                 have d3 := hbe.cell 3
                 have d4 := hbe.cell 4
                 have d5 := hbe.cell 5
                 simp at d0 d1 d2 d3 d4 d5
                 clear hbe
                 clear hk3 hk3'
                 go_wp2_with (go_at_call 24; (refine (HLE.out _ HK3.out).mono ?_); rintro e w4 ⟨rfl, hk4⟩; have HK4 := Lib.hid (HK3.out.then_ hk4 (fun _ h => h.elim)); clear hk4)
                 go_roundw
                 case rel => exact ⟨m + 1, by omega, by go_num, HD.out, by first | exact HKR.out.then_ HK4.out (fun _ h => h.elim) | exact HKR.out.then_ HK3.out (fun _ h => h.elim)⟩
                 case measure => simp [intOf]; omega)
              | (have HR3 := Lib.hid (show r = 15 by rw [← HR2.out, HE.out, HDR.out]; rfl)
                 clear HDR
                 go_wp2_with fail
                 refine (HOP.out _).mono ?_
                 rintro e w3 ⟨rfl, hk3⟩
                 have hk3' := (HKX.out _).then_ hk3 (fun _ h => h.elim)
                 have HK3 := Lib.hid hk3'
                 have ck := HCK.out w3 hk3'
                 have hbe := (Blk.new wr 27 #[.int .i64 f.a.k, .int .i64 f.a.s, .int .i64 f.a.lo, .int .i64 f.a.hi, .int .i64 f.a.st, .slice A3 f.l.length c3]).kp hk3 (fun h => h)
                 have d0 := hbe.cell 0
                 have d1 := hbe.cell 1
                 have d2 := hbe.cell 2
                 have d3 := hbe.cell 3
                 have d4 := hbe.cell 4
                 have d5 := hbe.cell 5
                 simp at d0 d1 d2 d3 d4 d5
                 clear hbe
                 clear hk3 hk3'
                 go_wp2_with (go_at_call 24; (refine (HLE.out _ HK3.out).mono ?_); rintro e w4 ⟨rfl, hk4⟩; have HK4 := Lib.hid (HK3.out.then_ hk4 (fun _ h => h.elim)); clear hk4)
                 go_ret
                 first
                   | exact ⟨by rw [HR3.out]; rfl, HKS.out.then_ (HKR.out.then_ HK4.out (fun _ h => h.elim)) (fun _ h => h.elim)⟩
                   | exact ⟨by rw [HR3.out]; rfl, HKS.out.then_ (HKR.out.then_ HK3.out (fun _ h => h.elim)) (fun _ h => h.elim)⟩)
        · obtain rfl : m = j := by omega
          have hbf : badF k m 0 P = false := by
            rw [HE.out, List.drop_of_length_le (by have := HN.out; omega), badF]
          have HR3 := Lib.hid (show r = 0 by rw [← HR2.out, hbf]; rfl)
          clear hbf hkr
          go_wp2_with fail
          go_ret
          exact ⟨by rw [HR3.out]; rfl, HKS.out.then_ HKR.out (fun _ h => h.elim)⟩

set_option maxRecDepth 100000 in
theorem check_any (ok : Nat → Prop) (f : Fm) (v : Value) (w : World) (hlt : ∀ i, ok i → i < w.heap.size) (hv : FmR w ok v f) :
    Calls Try.prog 14 #[v] w fun e w' => e = .returned (.int .i64 (if deepB 8 f then 14 else checkR f)) ∧ Kp (fun _ => False) w w' := by
  have HD := Lib.hid (fun o => deep_any 8 (by omega) ok v f (w.alloc o) (hv.kp ((Kp.refl (fun _ => False) w).alloc o) (fun _ _ h => h)))
  have HC := Lib.hid (fun W (hk : Kp (fun _ => False) w W) => chk_any ok f v W (fun i hi => Nat.lt_of_lt_of_le (hlt i hi) hk.size) (hv.kp hk (fun _ _ h => h)))
  obtain ⟨sv, rfl, hok, A, c, rfl, _, _, _⟩ := hv
  have HK := Lib.hid (show ∀ o, Kp (fun _ => False) w (w.alloc o) from fun o => (Kp.refl _ _).alloc o)
  have HB := Lib.hid (Blk.new w 27 #[.int .i64 f.a.k, .int .i64 f.a.s, .int .i64 f.a.lo, .int .i64 f.a.hi, .int .i64 f.a.st, .slice A f.l.length c])
  generalize deepB 8 f = d at HD ⊢
  generalize checkR f = r at HC ⊢
  have hdd : (if d = true then (14 : Int) else r) = if d then 14 else r := rfl
  clear hok hlt
  cases d
  · show Calls Try.prog 14 _ w fun e w' => e = .returned (.int .i64 r) ∧ Kp (fun _ => False) w w'
    clear hdd
    go_enter Try.func14, Try.ntmps14
    go_wp2_with fail
    refine (HD.out _).mono ?_
    rintro e w1 ⟨rfl, hk1⟩
    have HK1 := Lib.hid ((HK.out _).then_ hk1 (fun _ h => h.elim))
    have hb1 := HB.out.kp hk1 (fun h => h)
    have c0 := hb1.cell 0
    have c1 := hb1.cell 1
    have c2 := hb1.cell 2
    have c3 := hb1.cell 3
    have c4 := hb1.cell 4
    have c5 := hb1.cell 5
    simp at c0 c1 c2 c3 c4 c5
    clear hk1 hb1
    go_wp2_with fail
    refine (HC.out _ HK1.out).mono ?_
    rintro e w2 ⟨rfl, hk2⟩
    have hk := HK1.out.then_ hk2 (fun _ h => h.elim)
    go_wp2_with fail
    go_ret
    exact ⟨rfl, hk⟩
  · show Calls Try.prog 14 _ w fun e w' => e = .returned (.int .i64 14) ∧ Kp (fun _ => False) w w'
    clear hdd
    go_enter Try.func14, Try.ntmps14
    go_wp2_with fail
    refine (HD.out _).mono ?_
    rintro e w1 ⟨rfl, hk1⟩
    have hk := (HK.out _).then_ hk1 (fun _ h => h.elim)
    go_wp2_with fail
    go_ret
    exact ⟨rfl, hk⟩
end Go.Proofs.Ytfcghajnnllmhaa

namespace Go.Proofs.Ytfcghajnnllmhaa
open Go.RowKit

/-- A value that reads as a form, of blocks that there are. -/
def FmW (w : World) (v : Value) (f : Fm) : Prop := FmR w (· < w.heap.size) v f
theorem FmW.kp {w w' : World} {v : Value} {f : Fm} (h : FmW w v f) (hk : Kp (fun _ => False) w w') : FmW w' v f :=
 (FmR.kp h hk (fun _ _ h => h)).mono (fun _ hi => Nat.lt_of_lt_of_le hi hk.size)
theorem FmW.check {w : World} {v : Value} {f : Fm} (h : FmW w v f) : Calls Try.prog 14 #[v] w fun e w' => e = .returned (.int .i64 (if deepB 8 f then 14 else checkR f)) ∧ Kp (fun _ => False) w w' :=
 check_any _ f v w (fun _ h => h) h
theorem FmW.least {w : World} {v : Value} {f : Fm} (h : FmW w v f) : Calls Try.prog 24 #[v] w fun e w' => e = .returned (.int .i64 (leastR f)) ∧ Kp (fun _ => False) w w' := least_any _ v f w h
theorem FmW.most {w : World} {v : Value} {f : Fm} (h : FmW w v f) : Calls Try.prog 25 #[v] w fun e w' => e = .returned (.int .i64 (mostR f)) ∧ Kp (fun _ => False) w w' := most_any _ v f w h
/-- A form without parts. -/
def flat (k s lo hi st : Int) : Value := .agg #[.int .i64 k,.int .i64 s,.int .i64 lo,.int .i64 hi,.int .i64 st,.slice none 0 0]
theorem FmW.flat (w : World) (k s lo hi st : Int) (hk : i64B k) (hs : i64B s) (hlo : i64B lo) (hhi : i64B hi) (hst : i64B st) : FmW w (.agg #[.int .i64 k,.int .i64 s,.int .i64 lo,.int .i64 hi,.int .i64 st,.slice none 0 0]) (.mk ⟨k,s,lo,hi,st⟩ []) :=
 ⟨_,rfl,⟨hk,hs,hlo,hhi,hst⟩,FsR.nil⟩
theorem b0 : i64B 0 := by unfold i64B;omega
theorem b1 : i64B 1 := by unfold i64B;omega
theorem b2 : i64B 2 := by unfold i64B;omega

/-- One form, laid as a slice. -/
theorem FsR.one {w : World} {f : Fm} {A : Option Addr} {c : Nat} (h : FmW w (.agg #[.int .i64 f.a.k,.int .i64 f.a.s,.int .i64 f.a.lo,.int .i64 f.a.hi,.int .i64 f.a.st,.slice A f.l.length c]) f) {W : World} {B : Nat}
  (hk : Kp (fun _ => False) w W) (hB : Blk W B 27 #[.int .i64 f.a.k,.int .i64 f.a.s,.int .i64 f.a.lo,.int .i64 f.a.hi,.int .i64 f.a.st,.slice A f.l.length c]) :
  FsR W (· < W.heap.size) (.slice (some ⟨B,0,none⟩) 1 1) [f] := by
 refine ⟨_,_,rfl,Nat.le_refl _,by simp,fun _ => ⟨B,0,rfl,hB.lt,?_⟩⟩
 rw [TRs]
 obtain ⟨sv,e,ht⟩ := FmR.tr (h.kp hk)
 simp only [Value.agg.injEq,Array.mk.injEq,List.cons.injEq,and_true,true_and] at e
 subst e
 refine ⟨⟨_,ht,fun j u hu => ?_⟩,by rw [TRs];trivial⟩
 rw [Nat.zero_add,hB.cell]
 simpa using hu

end Go.Proofs.Ytfcghajnnllmhaa

namespace Go.Proofs.Ytfcghajnnllmhaa
open Go.RowKit

mutual
/-- How many forms there are; no more than so many (and one) are told. -/
def cntR : Nat → Fm → Nat
 | m,.mk a l => if a.k = 2 ∨ a.k = 3 then cntL m 1 l else 1
def cntL : Nat → Nat → List Fm → Nat
 | _,n,[] => n
 | m,n,f :: t => if n ≤ m then cntL m (n + cntR (m - n) f) t else n
end
end Go.Proofs.Ytfcghajnnllmhaa

namespace Go.Proofs.Ytfcghajnnllmhaa.QP
open Go.RowKit Go.Proofs.YtfcghajnnllmhaaW.PrintWords Go.Proofs.YtfcghajnnllmhaaW.PrintLast Go.Proofs.YtfcghajnnllmhaaW.PrintMore
attribute [local go_sem] max2_int min2_int max_two min_two max_three min_three max_four min_four   -- for this text's walks alone
set_option linter.unusedVariables false
set_option linter.unusedSimpArgs false

/-! ### passepartoutref04_parts: function 47 -/
def passepartoutref04_parts.f (a0_0 : Int) (a0_1 : Int) (a0_2 : Int) (a0_3 : Int) (a0_4 : Int) (l0_5 : List (S27)) : Option ((List (S27))) := if a0_0 = 2 then (some l0_5) else (if a0_0 = 3 then (some l0_5) else (some ([] : List (S27))))
set_option maxHeartbeats 8000000 in
set_option maxRecDepth 100000 in
theorem passepartoutref04_parts.calls (a0_0 : Int) (a0_1 : Int) (a0_2 : Int) (a0_3 : Int) (a0_4 : Int) (P0_5_ : Nat → Prop) (A0_5 : Option Addr) (c0_5 : Nat) (l0_5 : List (S27)) (r : List (S27)) (w : World) (hs0_5 : Kd.V k27 27 w w.heap.size (fun k_ => P0_5_ k_) (.slice A0_5 l0_5.length c0_5) l0_5) (h : passepartoutref04_parts.f a0_0 a0_1 a0_2 a0_3 a0_4 l0_5 = some r) :
  Calls Try.prog 47 #[.agg #[.int .i64 a0_0,.int .i64 a0_1,.int .i64 a0_2,.int .i64 a0_3,.int .i64 a0_4,.slice A0_5 l0_5.length c0_5]] w fun e w' => ∃ v0_ : Value,e = .returned (v0_) ∧ Kd.V k27 27 w' w.heap.size (fun k_ => (P0_5_ k_ ∨ w.heap.size ≤ k_)) v0_ r ∧ Below w.heap.size w w' := by
 have hu27 := Try.underlying27
 have HO0_5 := Aside0.mk (show Kd.V k27 27 w w.heap.size (fun k_ => (P0_5_ k_ ∨ w.heap.size ≤ k_)) (.slice A0_5 l0_5.length c0_5) l0_5 from Kd.V_mono hs0_5 (fun k_ hk => .inl hk))
 have HB := Aside0.mk (Below.refl w.heap.size w)
 have H : (if a0_0 = 2 then (some l0_5) else (if a0_0 = 3 then (some l0_5) else (some ([] : List (S27))))) = some r := h
 clear h
 by_cases c2 : a0_0 = 2
 ·rw [if_pos c2] at H
  have c2b0 : (a0_0 == 2) = true := beq_iff_eq.mpr c2
  have c2b1 : (a0_0 != 2) = false := bne_eq_false_iff_eq.mpr c2
  clear c2
  obtain rfl := Option.some.inj H
  go_enter Try.func47,Try.ntmps47
  go_wp2_with (first | ((with_reducible refine gate_dst (N := 1) rfl ?_);refine box_event ?hg (N := 1) ?hd (cs := #[.int .i64 a0_0,.int .i64 a0_1,.int .i64 a0_2,.int .i64 a0_3,.int .i64 a0_4,.slice A0_5 l0_5.length c0_5]) (t := 27) ?hr ?_;(case hd => rfl);(case hg => rfl);(case hr => first | (go_simp;done) | (go_simp;rfl));intro gb126 hg w3 hbox hb;have n0_ := Aside0.mk (Kd.V_below (Kd.V_elderB (by (with_reducible repeat (first | apply Kd.V_alloc | apply Kd.V_drewN | apply Kd.V_drew));exact HO0_5.out) gb126 (Nat.le_of_eq hg.symm)) hb);have n1_ := Aside0.mk (below_step (by repeat (first | (with_reducible first | exact HB.out | apply below_alloc | apply pw_below_drewN | apply below_drew1) | exact HB.out)) hb);have n2_ := Aside0.mk (hbox);have n3_ := Aside0.mk ((by rw [hg];exact (below_size (by repeat (first | (with_reducible first | exact HB.out | apply below_alloc | apply pw_below_drewN | apply below_drew1) | exact HB.out))) : w.heap.size ≤ gb126));have n4_ := Aside0.mk ((by rw [hg];exact (below_size (by repeat (first | (with_reducible first | exact HB.out | apply below_alloc | apply pw_below_drewN | apply below_drew1) | exact HB.out))) : w.heap.size ≤ gb126));clear HO0_5;clear HB;have HO0_5 := n0_;have HB := n1_;have BK126 := n2_;have GW126 := n3_;have GE126 := n4_;clear n0_ n1_ n2_ n3_ n4_;clear hb hbox hg;have hcz4_0 : w3.cell? ⟨gb126,0,none⟩ = some (.int .i64 a0_0) := (blk_cell BK126.out 0).trans rfl;have hcz4_1 : w3.cell? ⟨gb126,1,none⟩ = some (.int .i64 a0_1) := (blk_cell BK126.out 1).trans rfl;have hcz4_2 : w3.cell? ⟨gb126,2,none⟩ = some (.int .i64 a0_2) := (blk_cell BK126.out 2).trans rfl;have hcz4_3 : w3.cell? ⟨gb126,3,none⟩ = some (.int .i64 a0_3) := (blk_cell BK126.out 3).trans rfl;have hcz4_4 : w3.cell? ⟨gb126,4,none⟩ = some (.int .i64 a0_4) := (blk_cell BK126.out 4).trans rfl;have hcz4_5 : w3.cell? ⟨gb126,5,none⟩ = some (.slice A0_5 l0_5.length c0_5) := (blk_cell BK126.out 5).trans rfl;have hfz4_0 := blk_frozen BK126.out 0;have hfz4_1 := blk_frozen BK126.out 1;have hfz4_2 := blk_frozen BK126.out 2;have hfz4_3 := blk_frozen BK126.out 3;have hfz4_4 := blk_frozen BK126.out 4;have hfz4_5 := blk_frozen BK126.out 5))
  go_ret
  exact ⟨_,by first | rfl | (simp [errW_none,errW_some] <;> rfl) | (simp [*,errW_none,errW_some] <;> rfl),by (with_reducible repeat (first | apply Kd.V_alloc | apply Kd.V_drewN | apply Kd.V_drew));exact Kd.V_mono HO0_5.out (fun _ hk => hk.1),by repeat (first | (with_reducible first | exact HB.out | apply below_alloc | apply pw_below_drewN | apply below_drew1 | refine below_set ?_ GE126.out) | exact HB.out)⟩
 ·rw [if_neg c2] at H
  have c2b0 : (a0_0 == 2) = false := beq_eq_false_iff_ne.mpr c2
  have c2b1 : (a0_0 != 2) = true := bne_iff_ne.mpr c2
  by_cases c5 : a0_0 = 3
  ·rw [if_pos c5] at H
   have c5b0 : (a0_0 == 3) = true := beq_iff_eq.mpr c5
   have c5b1 : (a0_0 != 3) = false := bne_eq_false_iff_eq.mpr c5
   clear c5
   obtain rfl := Option.some.inj H
   go_enter Try.func47,Try.ntmps47
   go_wp2_with (first | ((with_reducible refine gate_dst (N := 1) rfl ?_);refine box_event ?hg (N := 1) ?hd (cs := #[.int .i64 a0_0,.int .i64 a0_1,.int .i64 a0_2,.int .i64 a0_3,.int .i64 a0_4,.slice A0_5 l0_5.length c0_5]) (t := 27) ?hr ?_;(case hd => rfl);(case hg => rfl);(case hr => first | (go_simp;done) | (go_simp;rfl));intro gb126 hg w6 hbox hb;have n0_ := Aside0.mk (Kd.V_below (Kd.V_elderB (by (with_reducible repeat (first | apply Kd.V_alloc | apply Kd.V_drewN | apply Kd.V_drew));exact HO0_5.out) gb126 (Nat.le_of_eq hg.symm)) hb);have n1_ := Aside0.mk (below_step (by repeat (first | (with_reducible first | exact HB.out | apply below_alloc | apply pw_below_drewN | apply below_drew1) | exact HB.out)) hb);have n2_ := Aside0.mk (hbox);have n3_ := Aside0.mk ((by rw [hg];exact (below_size (by repeat (first | (with_reducible first | exact HB.out | apply below_alloc | apply pw_below_drewN | apply below_drew1) | exact HB.out))) : w.heap.size ≤ gb126));have n4_ := Aside0.mk ((by rw [hg];exact (below_size (by repeat (first | (with_reducible first | exact HB.out | apply below_alloc | apply pw_below_drewN | apply below_drew1) | exact HB.out))) : w.heap.size ≤ gb126));clear HO0_5;clear HB;have HO0_5 := n0_;have HB := n1_;have BK126 := n2_;have GW126 := n3_;have GE126 := n4_;clear n0_ n1_ n2_ n3_ n4_;clear hb hbox hg;have hcz7_0 : w6.cell? ⟨gb126,0,none⟩ = some (.int .i64 a0_0) := (blk_cell BK126.out 0).trans rfl;have hcz7_1 : w6.cell? ⟨gb126,1,none⟩ = some (.int .i64 a0_1) := (blk_cell BK126.out 1).trans rfl;have hcz7_2 : w6.cell? ⟨gb126,2,none⟩ = some (.int .i64 a0_2) := (blk_cell BK126.out 2).trans rfl;have hcz7_3 : w6.cell? ⟨gb126,3,none⟩ = some (.int .i64 a0_3) := (blk_cell BK126.out 3).trans rfl;have hcz7_4 : w6.cell? ⟨gb126,4,none⟩ = some (.int .i64 a0_4) := (blk_cell BK126.out 4).trans rfl;have hcz7_5 : w6.cell? ⟨gb126,5,none⟩ = some (.slice A0_5 l0_5.length c0_5) := (blk_cell BK126.out 5).trans rfl;have hfz7_0 := blk_frozen BK126.out 0;have hfz7_1 := blk_frozen BK126.out 1;have hfz7_2 := blk_frozen BK126.out 2;have hfz7_3 := blk_frozen BK126.out 3;have hfz7_4 := blk_frozen BK126.out 4;have hfz7_5 := blk_frozen BK126.out 5))
   go_ret
   exact ⟨_,by first | rfl | (simp [errW_none,errW_some] <;> rfl) | (simp [*,errW_none,errW_some] <;> rfl),by (with_reducible repeat (first | apply Kd.V_alloc | apply Kd.V_drewN | apply Kd.V_drew));exact Kd.V_mono HO0_5.out (fun _ hk => hk.1),by repeat (first | (with_reducible first | exact HB.out | apply below_alloc | apply pw_below_drewN | apply below_drew1 | refine below_set ?_ GE126.out) | exact HB.out)⟩
  ·rw [if_neg c5] at H
   have c5b0 : (a0_0 == 3) = false := beq_eq_false_iff_ne.mpr c5
   have c5b1 : (a0_0 != 3) = true := bne_iff_ne.mpr c5
   obtain rfl := Option.some.inj H
   go_enter Try.func47,Try.ntmps47
   go_wp2_with (first | ((with_reducible refine gate_dst (N := 1) rfl ?_);refine box_event ?hg (N := 1) ?hd (cs := #[.int .i64 a0_0,.int .i64 a0_1,.int .i64 a0_2,.int .i64 a0_3,.int .i64 a0_4,.slice A0_5 l0_5.length c0_5]) (t := 27) ?hr ?_;(case hd => rfl);(case hg => rfl);(case hr => first | (go_simp;done) | (go_simp;rfl));intro gb126 hg w8 hbox hb;have n0_ := Aside0.mk (Kd.V_below (Kd.V_elderB (by (with_reducible repeat (first | apply Kd.V_alloc | apply Kd.V_drewN | apply Kd.V_drew));exact HO0_5.out) gb126 (Nat.le_of_eq hg.symm)) hb);have n1_ := Aside0.mk (below_step (by repeat (first | (with_reducible first | exact HB.out | apply below_alloc | apply pw_below_drewN | apply below_drew1) | exact HB.out)) hb);have n2_ := Aside0.mk (hbox);have n3_ := Aside0.mk ((by rw [hg];exact (below_size (by repeat (first | (with_reducible first | exact HB.out | apply below_alloc | apply pw_below_drewN | apply below_drew1) | exact HB.out))) : w.heap.size ≤ gb126));have n4_ := Aside0.mk ((by rw [hg];exact (below_size (by repeat (first | (with_reducible first | exact HB.out | apply below_alloc | apply pw_below_drewN | apply below_drew1) | exact HB.out))) : w.heap.size ≤ gb126));clear HO0_5;clear HB;have HO0_5 := n0_;have HB := n1_;have BK126 := n2_;have GW126 := n3_;have GE126 := n4_;clear n0_ n1_ n2_ n3_ n4_;clear hb hbox hg;have hcz9_0 : w8.cell? ⟨gb126,0,none⟩ = some (.int .i64 a0_0) := (blk_cell BK126.out 0).trans rfl;have hcz9_1 : w8.cell? ⟨gb126,1,none⟩ = some (.int .i64 a0_1) := (blk_cell BK126.out 1).trans rfl;have hcz9_2 : w8.cell? ⟨gb126,2,none⟩ = some (.int .i64 a0_2) := (blk_cell BK126.out 2).trans rfl;have hcz9_3 : w8.cell? ⟨gb126,3,none⟩ = some (.int .i64 a0_3) := (blk_cell BK126.out 3).trans rfl;have hcz9_4 : w8.cell? ⟨gb126,4,none⟩ = some (.int .i64 a0_4) := (blk_cell BK126.out 4).trans rfl;have hcz9_5 : w8.cell? ⟨gb126,5,none⟩ = some (.slice A0_5 l0_5.length c0_5) := (blk_cell BK126.out 5).trans rfl;have hfz9_0 := blk_frozen BK126.out 0;have hfz9_1 := blk_frozen BK126.out 1;have hfz9_2 := blk_frozen BK126.out 2;have hfz9_3 := blk_frozen BK126.out 3;have hfz9_4 := blk_frozen BK126.out 4;have hfz9_5 := blk_frozen BK126.out 5))
   go_ret
   exact ⟨_,by first | rfl | (simp [errW_none,errW_some] <;> rfl) | (simp [*,errW_none,errW_some] <;> rfl),Kd.V_mono (Kd.V_nil _ _ _ _ (fun _ => False)) (fun k_ hk => by first | exact ⟨(.inr (hk.1)),hk.2⟩ | exact (.inr (hk)) | exact (show False from hk).elim),by repeat (first | (with_reducible first | exact HB.out | apply below_alloc | apply pw_below_drewN | apply below_drew1 | refine below_set ?_ GE126.out) | exact HB.out)⟩

end Go.Proofs.Ytfcghajnnllmhaa.QP
