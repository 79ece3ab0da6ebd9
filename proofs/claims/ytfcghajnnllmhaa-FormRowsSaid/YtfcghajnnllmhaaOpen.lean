/-
  Arguments that came in, as the walks are told of them: bytes, integers; the size that each may have.
-/
import Derived.Test.YtfcghajnnllmhaaLib
import Derived.ProofKit
import Derived.OpenShut
import Derived.ShutString
import Derived.SizedLaws
import Derived.Deep.Slices
import Derived.Deep.Fields
namespace Go.Proofs.Ytfcghajnnllmhaa
open Go.ChangeShapes Go.WideShapes Go.ChangeAt Go.RowKit Go.Deep

/-- Integers of a kind, as cells. -/
def ic (k : IntKind) (l : List Int) : List Value := l.map fun n => Value.int k n
/-- A slice value that reads as these integers. -/
def IR (k : IntKind) (w : World) (ok : Nat → Prop) (v : Value) (l : List Int) : Prop := ∃ A c, v = .slice A l.length c ∧ l.length ≤ c ∧ Rd w ok 1 A l.length (ic k l)

theorem Rd.int {k : IntKind} {w : World} {ok : Nat → Prop} {A : Option Addr} {l : List Int} {i : Nat} (h : Rd w ok 1 A l.length (ic k l)) (hi : i < l.length) :
    ∃ b off, A = some ⟨b, off, none⟩ ∧ ok b ∧ w.cell? ⟨b, off + i, none⟩ = some (.int k (l[i]'hi)) := by
  obtain ⟨b, off, u, hA, hb, hu, hc⟩ := h.at_ hi
  refine ⟨b, off, hA, hb, ?_⟩
  rw [hc]
  simp [ic, hi] at hu
  rw [hu]
theorem ic_length (k : IntKind) (l : List Int) : (ic k l).length = l.length := by simp [ic]
theorem ic_take (k : IntKind) (l : List Int) (n : Nat) : (ic k l).take n = ic k (l.take n) := by simp [ic]

section
variable {H : Type} {enc : TypeId × Value → H} {P : Program} {w : World} {base : Nat} {spare sp : Nat → Bool} {held : Bool} {r : Reach} {b0 : Nat}

/-- How long a slice's datum is. -/
def lenD : DataW H → Nat
  | .slice es _ => es.length
  | _ => 0

theorem open_ir {t e : TypeId} {k : IntKind} {v : Value} {d : DataW H} {ps : List MemPlace} (ht : P.underlying t = some (.slice e)) (he : P.underlying e = some (.int k)) (hC : P.cellsOf e = 1)
    (hv : Value.okWide P w r b0 t v) (h : DataW.Trod enc P w 0 sp held t v d ps) :
    ∃ l : List Int, IR k w (· < w.heap.size) v l ∧ (∀ n ∈ l, (Lit.int k n).wf = true) ∧ lenD d = l.length := by
  obtain ⟨a, len, cap, rfl⟩ := okWide_slice ht hv
  obtain ⟨fuel, hf⟩ := h
  rcases open_ints ht he hC hf with ⟨hcs, hx⟩ | ⟨x, l, c, zs, hcs, _, hl, hm, hz, hx, hcell, hwz⟩
  · simp [Value.cells] at hcs
    obtain ⟨rfl, rfl, rfl⟩ := hcs
    simp only [Prod.mk.injEq] at hx
    obtain ⟨rfl, rfl⟩ := hx
    exact ⟨[], ⟨none, 0, rfl, Nat.le_refl _, Rd.none_⟩, fun n hn => by simp at hn, rfl⟩
  · simp [Value.cells] at hcs
    obtain ⟨rfl, rfl, rfl⟩ := hcs
    simp only [Prod.mk.injEq] at hx
    obtain ⟨rfl, rfl⟩ := hx
    have hlz : len ≤ zs.length := by rw [hz]; split <;> omega
    have hlt : (zs.take len).length = len := by simp; omega
    refine ⟨zs.take len, ⟨some x, cap, ?_, ?_, ?_, fun hn => ?_⟩, fun n hn => hwz n (List.mem_of_mem_take hn), ?_⟩
    · rw [hlt]
    · rw [hlt]; exact hl
    · simp [ic]
    · have h0 := hcell 0 (by rw [hlt] at hn; omega)
      have hsp : x.spot = none := by simpa [Addr.add] using World.cell?_spot h0
      have hb := cell_lt h0
      rw [block_add] at hb
      refine ⟨x, rfl, hsp, hb, fun j u hu => ?_⟩
      simp only [ic, List.getElem?_map, List.getElem?_take] at hu
      split at hu
      · rename_i hj
        have hj' : j < zs.length := by omega
        rw [List.getElem?_eq_getElem hj'] at hu
        simp at hu
        subst hu
        have h1 := hcell j hj'
        rw [h1]
        simp [List.getElem?_eq_getElem hj']
      · simp at hu
    · simp [lenD, lits]

theorem open_slice_fields {t e : TypeId} {fs : Array Field} {fuel : Nat} {cs : List Value} {x : DataW H × List MemPlace} (ht : P.underlying t = some (.slice e)) (he : P.underlying e = some (.struct fs))
    (hone : oneCellFields P fs = true) (hC : P.cellsOf e = fs.size) (h : DataW.trod enc P w base spare held fuel t cs = some x) :
    (cs = [.slice none 0 0] ∧ x = (.nil, [])) ∨
    ∃ (a : Addr) (len cap m : Nat) (D : Nat → DataW H) (Pl : Nat → List MemPlace), cs = [.slice (some a) len cap] ∧ base ≤ a.block ∧ len ≤ cap ∧ cap ≤ maxLen ∧ m = (if spare a.block then cap else len) ∧
      x = (.slice ((List.range len).map D) ((List.range (m - len)).map fun j => D (len + j)), MemPlace.row a (m * fs.size) ++ (List.range m).flatMap Pl) ∧
      ∀ i, i < m → ∃ (ys : List (DataW H × List MemPlace)) (n : Nat), D i = .agg (ys.map (·.1)) ∧ Pl i = ys.flatMap (·.2) ∧ ys.length = fs.size ∧
        ∀ (j : Nat) (f : Field), fs[j]? = some f → ∃ (v : Value) (y : DataW H × List MemPlace), w.cell? (a.add (i * fs.size + j)) = some v ∧ ys[j]? = some y ∧ DataW.trod enc P w base spare held n f.type [v] = some y := by
  rcases open_slice ht h with h0 | ⟨a, len, cap, m, n, D, Pl, hcs, hb, hl, hm, hmm, hx, hi⟩
  · exact .inl h0
  · refine .inr ⟨a, len, cap, m, D, Pl, hcs, hb, hl, hm, hmm, by rw [hC] at hx; exact hx, fun i him => ?_⟩
    obtain ⟨cs', hc, ht'⟩ := hi i him
    rw [hC] at hc
    obtain ⟨ys, n', hn', hy, hlen, hyl, hf⟩ := DataW.trod_struct he ht'
    obtain ⟨_, hcl, hat⟩ := World.cells?_some hc
    simp only [Prod.mk.injEq] at hy
    refine ⟨ys, n', hy.1, hy.2, hyl, fun j f hj => ?_⟩
    obtain ⟨ho, hk⟩ := hone_of hone j f hj
    have hjl : j < fs.size := (Array.getElem?_eq_some_iff.1 hj).1
    have hcell := hat j hjl
    have hv : cs'[j]? = some (cs'[j]'(by omega)) := List.getElem?_eq_getElem (by omega)
    have h1 := hf j f hj
    rw [ho, hk] at h1
    have hone' : (cs'.drop j).take 1 = [cs'[j]'(by omega)] := by
      rw [List.drop_eq_getElem_cons (by omega)]
      rfl
    rw [hone'] at h1
    have hys : ys[j]? = some (ys[j]'(by omega)) := List.getElem?_eq_getElem (by omega)
    refine ⟨_, _, ?_, hys, h1.trans hys⟩
    rw [← Go.Deep.add_add, hcell, hv]

theorem list_of {α : Type} {n : Nat} {p : Nat → α → Prop} (h : ∀ i, i < n → ∃ x, p i x) : ∃ l : List α, l.length = n ∧ ∀ i (hi : i < l.length), p i l[i] := by
  induction n with
  | zero => exact ⟨[], rfl, fun i hi => by simp at hi⟩
  | succ n ih =>
    obtain ⟨l, hl, hp⟩ := ih (fun i hi => h i (by omega))
    obtain ⟨x, hx⟩ := h n (by omega)
    refine ⟨l ++ [x], by simp [hl], fun i hi => ?_⟩
    rw [List.length_append, List.length_singleton] at hi
    rcases Nat.lt_or_ge i l.length with h1 | h1
    · rw [List.getElem_append_left h1]
      exact hp i h1
    · obtain rfl : i = n := by omega
      subst hl
      simpa using hx
/-- Rows that lie one behind the other, out of their cells. -/
theorem Rd.of_rows {α : Type} {w : World} {ok : Nat → Prop} {size : Nat} {ad : Addr} {l : List α} {rw_ : α → List Value} (hs : 0 < size) (hsp : ad.spot = none) (hok : ok ad.block) (he : ∀ x, (rw_ x).length = size)
    (hc : ∀ i (hi : i < l.length) j u, (rw_ l[i])[j]? = some u → w.cell? (ad.add (i * size + j)) = some u) : Rd w ok size (some ad) l.length (l.flatMap rw_) := by
  have hlen : ∀ m : List α, (m.flatMap rw_).length = m.length * size := by
    intro m
    induction m with
    | nil => simp
    | cons x m ih => rw [List.flatMap_cons, List.length_append, ih, he, List.length_cons, Nat.succ_mul]; omega
  refine ⟨hlen l, fun _ => ⟨ad, rfl, hsp, hok, fun j u hj => ?_⟩⟩
  have hjl : j < l.length * size := by rw [← hlen l]; exact (List.getElem?_eq_some_iff.1 hj).1
  have hq : j / size < l.length := Nat.div_lt_of_lt_mul (by rw [Nat.mul_comm]; exact hjl)
  have hdm : j / size * size + j % size = j := by rw [Nat.mul_comm]; exact Nat.div_add_mod j size
  have := hc (j / size) hq (j % size) u ?_
  · rw [hdm] at this
    exact this
  · have key : ∀ (m : List α) (i r : Nat) (hi : i < m.length), r < size → (m.flatMap rw_)[i * size + r]? = (rw_ m[i])[r]? := by
      intro m
      induction m with
      | nil => intro i r hi; simp at hi
      | cons x m ih =>
        intro i r hi hr
        rw [List.flatMap_cons]
        cases i with
        | zero => rw [List.getElem?_append_left (by rw [he]; omega)]; simp
        | succ i =>
          rw [List.getElem?_append_right (by rw [he, Nat.succ_mul]; omega), he]
          rw [show (i + 1) * size + r - size = i * size + r from by rw [Nat.succ_mul]; omega]
          rw [ih i r (by simpa using hi) hr]
          simp
    rw [← key l _ _ hq (Nat.mod_lt _ hs), hdm]
    exact hj

theorem bytes_of {l : List Int} (h : ∀ n ∈ l, (Lit.int .u8 n).wf = true) : ∃ m : List UInt8, ic .u8 l = bc m ∧ m.length = l.length := by
  induction l with
  | nil => exact ⟨[], rfl, rfl⟩
  | cons a l ih =>
    obtain ⟨m, hm, hl⟩ := ih (fun n hn => h n (List.mem_cons_of_mem _ hn))
    obtain ⟨h0, h1⟩ := bounds_u8 (h a List.mem_cons_self)
    refine ⟨UInt8.ofNat a.toNat :: m, ?_, by simp [hl]⟩
    have e : ((UInt8.ofNat a.toNat).toNat : Int) = a := by
      rw [UInt8.toNat_ofNat']
      omega
    simp only [ic, bc, List.map_cons] at hm ⊢
    rw [hm, e]

theorem open_br {t e : TypeId} {v : Value} {d : DataW H} {ps : List MemPlace} (ht : P.underlying t = some (.slice e)) (he : P.underlying e = some (.int .u8)) (hC : P.cellsOf e = 1)
    (hv : Value.okWide P w r b0 t v) (h : DataW.Trod enc P w 0 sp held t v d ps) :
    ∃ l : List UInt8, BR w (· < w.heap.size) v l ∧ lenD d = l.length := by
  obtain ⟨l, ⟨A, c, rfl, hc, hr⟩, hw, hd⟩ := open_ir ht he hC hv h
  obtain ⟨m, hm, hl⟩ := bytes_of hw
  refine ⟨m, ⟨A, c, by rw [hl], by omega, ?_⟩, by omega⟩
  rw [← hm, hl]
  exact hr

/-- A slice of structs of two ints. -/
theorem open_pairs {t e ti : TypeId} {n0 n1 : Field} {v : Value} {d : DataW H} {ps : List MemPlace} (ht : P.underlying t = some (.slice e)) (he : P.underlying e = some (.struct #[n0, n1])) (hi0 : n0.type = ti) (hi1 : n1.type = ti) (hti : P.underlying ti = some (.int .i64))
    (hone : oneCellFields P #[n0, n1] = true) (hC : P.cellsOf e = 2) (hv : Value.okWide P w r b0 t v) (h : DataW.Trod enc P w 0 sp held t v d ps) :
    ∃ l : List (Int × Int), (∃ A c, v = .slice A l.length c ∧ l.length ≤ c ∧ Rd w (· < w.heap.size) 2 A l.length (l.flatMap fun x => [.int .i64 x.1, .int .i64 x.2])) ∧ (∀ x ∈ l, (Lit.int .i64 x.1).wf = true ∧ (Lit.int .i64 x.2).wf = true) := by
  subst hi0
  obtain ⟨a, len, cap, rfl⟩ := okWide_slice ht hv
  obtain ⟨fuel, hf⟩ := h
  rcases open_slice_fields ht he hone hC hf with ⟨hcs, hx⟩ | ⟨x, l, c, m, D, Pl, hcs, _, hl, hm, hmm, hx, hi⟩
  · simp [Value.cells] at hcs
    obtain ⟨rfl, rfl, rfl⟩ := hcs
    exact ⟨[], ⟨none, 0, rfl, Nat.le_refl _, Rd.none_⟩, fun x hx => by simp at hx⟩
  · simp [Value.cells] at hcs
    obtain ⟨rfl, rfl, rfl⟩ := hcs
    have hlm : len ≤ m := by rw [hmm]; split <;> omega
    have each : ∀ i, i < len → ∃ y : Int × Int, (w.cell? (x.add (i * 2)) = some (.int .i64 y.1) ∧ (Lit.int .i64 y.1).wf = true) ∧ (w.cell? (x.add (i * 2 + 1)) = some (.int .i64 y.2) ∧ (Lit.int .i64 y.2).wf = true) := by
      intro i hil
      obtain ⟨ys, n, _, _, _, hf⟩ := hi i (by omega)
      obtain ⟨v0, y0, hc0, _, ht0⟩ := hf 0 n0 rfl
      obtain ⟨v1, y1, hc1, _, ht1⟩ := hf 1 n1 rfl
      rw [hi1] at ht1
      obtain ⟨k0, e0, _, hw0⟩ := DataW.trod_int hti ht0
      obtain ⟨k1, e1, _, hw1⟩ := DataW.trod_int hti ht1
      simp only [List.cons.injEq, and_true] at e0 e1
      subst e0 e1
      exact ⟨(k0, k1), ⟨hc0, hw0⟩, hc1, hw1⟩
    obtain ⟨ll, hll, hlp⟩ := list_of each
    refine ⟨ll, ⟨some x, cap, by rw [hll], by omega, ?_⟩, fun y hy => ?_⟩
    · rcases Nat.eq_zero_or_pos len with h0 | h0
      · have : ll = [] := List.eq_nil_of_length_eq_zero (by omega)
        subst this
        exact ⟨rfl, fun h => absurd h (by simp)⟩
      · have h0' := (hlp 0 (by omega)).2.1
        have hsp : x.spot = none := by
          have := (hlp 0 (by omega)).1.1
          simpa [Addr.add] using World.cell?_spot this
        have hb := cell_lt h0'
        rw [block_add] at hb
        refine Rd.of_rows (by omega) hsp hb (fun _ => rfl) (fun i hi j u hj => ?_)
        have h1 := hlp i hi
        rcases j with _ | _ | j
        · simp at hj
          subst hj
          exact h1.1.1
        · simp at hj
          subst hj
          exact h1.2.1
        · simp at hj
    · obtain ⟨i, hi, rfl⟩ := List.mem_iff_getElem.1 hy
      exact ⟨(hlp i hi).1.2, (hlp i hi).2.2⟩

theorem sized_len {ts : List TypeId} {ds : List (DataW H)} (h : (DataW.weightsEach P ts ds).all (· ≤ reachBytes) = true) {j : Nat} {t e : TypeId} {d : DataW H} (ht : ts[j]? = some t) (hd : ds[j]? = some d) (hu : P.underlying t = some (.slice e)) {n : Nat} (hn : lenD d = n) :
    n * P.bytesOf e ≤ 140737488351232 := by
  subst hn
  cases d with
  | slice es rest =>
    have := sized_slice h ht hd hu
    simp only [lenD]
    have h2 := Nat.mul_le_mul_right (P.bytesOf e) (Nat.le_add_right es.length rest.length)
    have h3 : reachBytes = 140737488351232 := by decide
    omega
  | _ => simp [lenD]
end
end Go.Proofs.Ytfcghajnnllmhaa
