/-
  Trees that came in.
-/
import Derived.Test.YtfcghajnnllmhaaTree
import Derived.Test.YtfcghajnnllmhaaOpen
namespace Go.Proofs.Ytfcghajnnllmhaa
open Go.ChangeShapes Go.WideShapes Go.ChangeAt Go.RowKit Go.Deep

section
variable {H : Type} {enc : TypeId × Value → H} {P : Program} {w : World} {sp : Nat → Bool} {held : Bool}

theorem weights_agg {t : TypeId} {fs : Array Field} {ds : List (DataW H)} (ht : P.underlying t = some (.struct fs)) (h : ((DataW.agg ds).weights P t).all (· ≤ reachBytes) = true) {i : Nat} {f : Field} {d : DataW H} (hf : fs[i]? = some f) (hd : ds[i]? = some d) :
    (d.weights P f.type).all (· ≤ reachBytes) = true := by
  rw [DataW.weights, ht] at h
  refine List.all_eq_true.2 fun n hn => List.all_eq_true.1 h n ?_
  exact DataW.weights_mem_each (ts := fs.toList.map (·.type)) (j := i) (t := f.type) (by simp [hf]) hd n hn
theorem weights_mem_all {e : TypeId} : ∀ {ds : List (DataW H)} {i : Nat} {d : DataW H}, ds[i]? = some d → ∀ n ∈ d.weights P e, n ∈ DataW.weightsAll P e ds
  | d0 :: ds, 0, d, hd, n, hn => by
    simp only [List.getElem?_cons_zero, Option.some.injEq] at hd
    subst hd
    simp only [DataW.weightsAll, List.mem_append]
    exact .inl hn
  | d0 :: ds, i + 1, d, hd, n, hn => by
    simp only [List.getElem?_cons_succ] at hd
    simp only [DataW.weightsAll, List.mem_append]
    exact .inr (weights_mem_all hd n hn)
  | [], _, _, hd, _, _ => by simp at hd
theorem weights_elem {t e : TypeId} {es rest : List (DataW H)} (ht : P.underlying t = some (.slice e)) (h : ((DataW.slice es rest).weights P t).all (· ≤ reachBytes) = true) {i : Nat} {d : DataW H} (hd : es[i]? = some d) :
    (d.weights P e).all (· ≤ reachBytes) = true := by
  rw [DataW.weights, ht] at h
  refine List.all_eq_true.2 fun n hn => List.all_eq_true.1 h n ?_
  simp only [List.mem_cons, List.mem_append]
  exact .inr (.inl (weights_mem_all hd n hn))
theorem weights_len {t e : TypeId} {es rest : List (DataW H)} (ht : P.underlying t = some (.slice e)) (h : ((DataW.slice es rest).weights P t).all (· ≤ reachBytes) = true) : es.length * P.bytesOf e ≤ 140737488351232 := by
  have h1 := List.all_eq_true.1 h ((es.length + rest.length) * P.bytesOf e) (by rw [DataW.weights, ht]; simp)
  have h2 := Nat.mul_le_mul_right (P.bytesOf e) (Nat.le_add_right es.length rest.length)
  have h3 : reachBytes = 140737488351232 := by decide
  simp only [decide_eq_true_eq] at h1
  omega

/-- What a tree's type must be. -/
structure TreeType (P : Program) (t ts : TypeId) (fs : Array Field) (n : Nat) : Prop where
  ht : P.underlying t = some (.struct fs)
  hone : oneCellFields P fs = true
  hC : P.cellsOf t = n + 1
  hn : fs.size = n + 1
  hlast : (fs[n]?).map (·.type) = some ts
  hts : P.underlying ts = some (.slice t)
  hB : 1 ≤ P.bytesOf t

/-- How the fields ahead of the slice are opened. -/
def HeadOpen {α : Type} (enc : TypeId × Value → H) (P : Program) (w : World) (sp : Nat → Bool) (held : Bool) (fs : Array Field) (n : Nat) (Hd : Head α) : Prop :=
  ∀ (vs : List Value) (ds : List (DataW H)), vs.length = n → (∀ i, i < n → ∃ f v d ps fuel, fs[i]? = some f ∧ vs[i]? = some v ∧ ds[i]? = some d ∧ DataW.trod enc P w 0 sp held fuel f.type [v] = some (d, ps) ∧ (d.weights P f.type).all (· ≤ reachBytes) = true) →
    ∃ a, Hd w (· < w.heap.size) a vs

theorem open_tree_ {α : Type} {Hd : Head α} {t ts : TypeId} {fs : Array Field} {n : Nat} (T : TreeType P t ts fs n) (hH : HeadOpen enc P w sp held fs n Hd) :
    ∀ (fuel : Nat),
      (∀ (cs : List Value) (d : DataW H) (ps : List MemPlace), DataW.trod enc P w 0 sp held fuel t cs = some (d, ps) → (d.weights P t).all (· ≤ reachBytes) = true → ∃ x : RT α, TR Hd (n + 1) w (· < w.heap.size) x cs) ∧
      (∀ (cs : List Value) (d : DataW H) (ps : List MemPlace), DataW.trod enc P w 0 sp held fuel ts cs = some (d, ps) → (d.weights P ts).all (· ≤ reachBytes) = true →
        ∃ (l : List (RT α)) (A : Option Addr) (c : Nat), cs = [.slice A l.length c] ∧ l.length ≤ c ∧ l.length ≤ 140737488355328 ∧ TL Hd (n + 1) w (· < w.heap.size) l A) := by
  intro fuel
  induction fuel with
  | zero =>
    constructor <;> intro cs d ps h <;> simp [DataW.trod] at h
  | succ fuel ih =>
    constructor
    · intro cs d ps h hw
      obtain ⟨ys, m, hm, hx, hlen, hyl, hf⟩ := DataW.trod_struct T.ht h
      obtain rfl : m = fuel := by omega
      simp only [Prod.mk.injEq] at hx
      obtain ⟨rfl, _⟩ := hx
      rw [T.hC] at hlen
      have field : ∀ i (hi : i < n + 1), ∃ f v y, fs[i]? = some f ∧ cs[i]? = some v ∧ ys[i]? = some y ∧ DataW.trod enc P w 0 sp held m f.type [v] = some y := by
        intro i hi
        have hfi : fs[i]? = some (fs[i]'(by rw [T.hn]; omega)) := Array.getElem?_eq_getElem _
        obtain ⟨ho, hk⟩ := hone_of T.hone i _ hfi
        have h1 := hf i _ hfi
        rw [ho, hk] at h1
        have hone' : (cs.drop i).take 1 = [cs[i]'(by omega)] := by
          rw [List.drop_eq_getElem_cons (by omega)]
          rfl
        rw [hone'] at h1
        have hys : ys[i]? = some (ys[i]'(by rw [hyl, T.hn]; omega)) := List.getElem?_eq_getElem _
        exact ⟨_, _, _, hfi, List.getElem?_eq_getElem (by omega), hys, h1.trans hys⟩
      obtain ⟨fl, vl, yl, hfl, hvl, hyl', htl⟩ := field n (by omega)
      have htt : fl.type = ts := by
        have := T.hlast
        rw [hfl] at this
        simpa using this
      rw [htt] at htl
      have hwl := weights_agg T.ht hw hfl (d := yl.1) (by simp [hyl'])
      rw [htt] at hwl
      obtain ⟨l, A, c, e1, e2, e3, e4⟩ := ih.2 [vl] yl.1 yl.2 (by rw [htl]) hwl
      simp only [List.cons.injEq, and_true] at e1
      subst e1
      obtain ⟨a, ha⟩ := hH (cs.take n) (ys.map (·.1)) (by rw [List.length_take]; omega) (fun i hi => by
        obtain ⟨f, v, y, h1, h2, h3, h4⟩ := field i (by omega)
        exact ⟨f, v, y.1, y.2, m, h1, by rw [List.getElem?_take, if_pos hi, h2], by simp [h3], by rw [h4], weights_agg T.ht hw h1 (by simp [h3])⟩)
      refine ⟨.mk a l, (TR_def _ _ _ _ _ _).2 ⟨cs.take n, A, c, ?_, by rw [List.length_take]; omega, ha, e2, e3, e4⟩⟩
      have hcl : cs = cs.take n ++ cs.drop n := (List.take_append_drop n cs).symm
      have hdr : cs.drop n = [.slice A l.length c] := by
        have hlt : n < cs.length := by omega
        rw [List.drop_eq_getElem_cons hlt, List.drop_of_length_le (by omega)]
        rw [List.getElem?_eq_getElem hlt] at hvl
        injection hvl with hvl
        rw [hvl]
      rw [hdr] at hcl
      exact hcl
    · intro cs d ps h hw
      rcases DataW.trod_slice T.hts h with ⟨rfl, hx⟩ | ⟨x, len, cap, es, rest, m, hm, rfl, hx, _, hlc, hcm, hel, hat, _, _⟩
      · exact ⟨[], none, 0, rfl, by simp, by simp, fun h => by simp at h⟩
      · obtain rfl : m = fuel := by omega
        simp only [Prod.mk.injEq] at hx
        obtain ⟨rfl, _⟩ := hx
        have hw2 := weights_len T.hts hw
        rw [List.length_map, hel] at hw2
        have hlen2 : len ≤ 140737488355328 := by
          have := Nat.mul_le_mul_left len T.hB
          omega
        have each : ∀ i, i < len → ∃ y : RT α, (i = 0 → x.spot = none) ∧ x.block < w.heap.size ∧ ∃ cs', TR Hd (n + 1) w (· < w.heap.size) y cs' ∧ ∀ j u, cs'[j]? = some u → w.cell? (x.add (i * (n + 1) + j)) = some u := by
          intro i hi
          have hb := hat i hi
          rw [T.hC, List.getElem?_eq_getElem (by omega)] at hb
          simp only [Option.bind_eq_some_iff] at hb
          obtain ⟨cs', hc, ht'⟩ := hb
          obtain ⟨_, hcl, hcat⟩ := World.cells?_some hc
          obtain ⟨y, hy⟩ := ih.1 cs' _ _ (show _ = some ((es[i]'(by omega)).1, (es[i]'(by omega)).2) from ht') (weights_elem T.hts hw (i := i) (by simp [List.getElem?_eq_getElem (show i < es.length by omega)]))
          have hj : ∀ j u, cs'[j]? = some u → w.cell? (x.add (i * (n + 1) + j)) = some u := by
            intro j u hu
            have hjl : j < n + 1 := by rw [← hcl]; exact (List.getElem?_eq_some_iff.1 hu).1
            have := hcat j hjl
            rw [Go.Deep.add_add, hu] at this
            exact this
          have h0 : cs'[0]? = some (cs'[0]'(by omega)) := List.getElem?_eq_getElem (by omega)
          have hc0 := hj 0 _ h0
          have hsp : i = 0 → x.spot = none := by
            rintro rfl
            have := World.cell?_spot hc0
            simpa [Addr.add] using this
          have hbk := cell_lt hc0
          rw [block_add] at hbk
          exact ⟨y, hsp, hbk, cs', hy, hj⟩
        obtain ⟨l, hll, hlp⟩ := list_of each
        refine ⟨l, some x, cap, by rw [hll], by omega, by omega, fun h0 => ?_⟩
        obtain ⟨hsp, hbk, _⟩ := hlp 0 h0
        obtain ⟨b, off, spot⟩ := x
        obtain rfl : spot = none := hsp rfl
        refine ⟨b, off, rfl, hbk, TRs.of (fun i hi => ?_)⟩
        obtain ⟨_, _, cs', h1, h2⟩ := hlp i hi
        refine ⟨cs', h1, fun j u hu => ?_⟩
        have := h2 j u hu
        rw [show (⟨b, off, none⟩ : Addr).add (i * (n + 1) + j) = ⟨b, off + i * (n + 1) + j, none⟩ from by
          unfold Addr.add
          split
          · next h0 => rw [Nat.add_assoc, h0, Nat.add_zero]
          · rw [Nat.add_assoc]] at this
        exact this
end
end Go.Proofs.Ytfcghajnnllmhaa
