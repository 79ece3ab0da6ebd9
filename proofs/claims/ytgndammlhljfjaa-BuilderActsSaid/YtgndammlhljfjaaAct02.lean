/-
  Acts that came in (law02.Act): opened; 'great' asks whether they are too many.
-/
import Derived.Test.YtgndammlhljfjaaL02
import Derived.Test.YtgndammlhljfjaaOpen2
namespace Go.Proofs.Ytgndammlhljfjaa
open Go.ChangeShapes Go.WideShapes Go.ChangeAt Go.RowKit Go.Deep

/-- An act: its kind, size, n, number, and its bytes with their slice value. -/
structure AV where
  k : Int
  s : Int
  n : Int
  x : Nat
  v : Value
  b : List UInt8
def AV.c (a : AV) : List Value := [.int .i64 a.k, .int .i64 a.s, .int .i64 a.n, .int .u64 a.x, a.v]
def AV.Ok (w : World) (ok : Nat → Prop) (a : AV) : Prop := BR w ok a.v a.b ∧ a.x < 18446744073709551616 ∧ (Lit.int .i64 a.n).wf = true
def ARow (w : World) (ok : Nat → Prop) (v : Value) (l : List AV) : Prop :=
  (∃ A c, v = .slice A l.length c ∧ l.length ≤ c ∧ Rd w ok 5 A l.length (l.flatMap AV.c)) ∧ ∀ a ∈ l, a.Ok w ok

section
variable {w w' : World} {ok ok' S : Nat → Prop} {v : Value} {l : List AV}
theorem AV.Ok.kp {a : AV} (h : a.Ok w ok) (hk : Kp S w w') (hd : ∀ i, ok i → ¬ S i) : a.Ok w' ok := ⟨h.1.kp hk hd, h.2⟩
theorem AV.Ok.mono {a : AV} (h : a.Ok w ok) (hd : ∀ i, ok i → ok' i) : a.Ok w ok' := ⟨h.1.mono hd, h.2⟩
theorem ARow.kp (h : ARow w ok v l) (hk : Kp S w w') (hd : ∀ i, ok i → ¬ S i) : ARow w' ok v l := by
  obtain ⟨⟨A, c, e, hc, hr⟩, h2⟩ := h
  exact ⟨⟨A, c, e, hc, hr.kp hk hd⟩, fun a ha => (h2 a ha).kp hk hd⟩
end

section
variable {H : Type} {enc : TypeId × Value → H} {w : World} {sp : Nat → Bool} {held : Bool} {r : Reach} {b0 : Nat}
theorem open_acts02 {v : Value} {d : DataW H} {ps : List MemPlace} {ts : List TypeId} {ds : List (DataW H)} (hv : Value.okWide Try.prog w r b0 62 v) (h : DataW.Trod enc Try.prog w 0 sp held 62 v d ps)
    (_hsz : (DataW.weightsEach Try.prog ts ds).all (· ≤ reachBytes) = true) {j : Nat} (_ht : ts[j]? = some 62) (_hd : ds[j]? = some d) : ∃ l : List AV, ARow w (· < w.heap.size) v l := by
  obtain ⟨a, len, cap, rfl⟩ := okWide_slice Try.underlying62 hv
  obtain ⟨fuel, hf⟩ := h
  rcases open_slice_fields Try.underlying62 Try.underlying67 (by kernel_rfl) (by kernel_rfl) hf with ⟨hcs, hx⟩ | ⟨x, l, c, m, D, Pl, hcs, _, hl, hm, hmm, hx, hi⟩
  · simp [Value.cells] at hcs
    obtain ⟨rfl, rfl, rfl⟩ := hcs
    exact ⟨[], ⟨none, 0, rfl, Nat.le_refl _, Rd.none_⟩, fun x hx => by simp at hx⟩
  · simp [Value.cells] at hcs
    obtain ⟨rfl, rfl, rfl⟩ := hcs
    have hlm : len ≤ m := by rw [hmm]; split <;> omega
    have each : ∀ i, i < len → ∃ y : AV, (∀ j u, y.c[j]? = some u → w.cell? (x.add (i * 5 + j)) = some u) ∧ y.Ok w (· < w.heap.size) := by
      intro i hil
      obtain ⟨ys, n, _, _, _, hf⟩ := hi i (by omega)
      obtain ⟨v0, y0, hc0, _, ht0⟩ := hf 0 _ rfl
      obtain ⟨v1, y1, hc1, _, ht1⟩ := hf 1 _ rfl
      obtain ⟨v2, y2, hc2, _, ht2⟩ := hf 2 _ rfl
      obtain ⟨v3, y3, hc3, _, ht3⟩ := hf 3 _ rfl
      obtain ⟨v4, y4, hc4, _, ht4⟩ := hf 4 _ rfl
      obtain ⟨k0, e0, _, hw0⟩ := DataW.trod_int Try.underlying3 ht0
      obtain ⟨k1, e1, _, hw1⟩ := DataW.trod_int Try.underlying3 ht1
      obtain ⟨k2, e2, _, hw2⟩ := DataW.trod_int Try.underlying3 ht2
      obtain ⟨k3, e3, _, hw3⟩ := DataW.trod_int Try.underlying26 ht3
      simp only [List.cons.injEq, and_true] at e0 e1 e2 e3
      subst e0 e1 e2 e3
      obtain ⟨b, hb, _, _⟩ := cells_br Try.underlying22 Try.underlying5 (by kernel_rfl) ht4
      obtain ⟨q0, q1⟩ := bounds_u64 hw3
      obtain ⟨X, rfl⟩ := Int.eq_ofNat_of_zero_le q0
      refine ⟨⟨k0, k1, k2, X, v4, b⟩, fun j u hj => ?_, hb, (by omega : X < 18446744073709551616), hw2⟩
      rcases j with _ | _ | _ | _ | _ | j
      all_goals simp [AV.c] at hj
      all_goals subst hj
      · exact hc0
      · exact hc1
      · exact hc2
      · exact hc3
      · exact hc4
    obtain ⟨ll, hll, hlp⟩ := list_of each
    refine ⟨ll, ⟨some x, cap, by rw [hll], by omega, ?_⟩, fun y hy => ?_⟩
    · rcases Nat.eq_zero_or_pos len with h0 | h0
      · have : ll = [] := List.eq_nil_of_length_eq_zero (by omega)
        subst this
        exact ⟨rfl, fun h => absurd h (by simp)⟩
      · have h0' := (hlp 0 (by omega)).1 0 _ rfl
        have hsp : x.spot = none := by simpa [Addr.add] using World.cell?_spot h0'
        have hb := cell_lt h0'
        rw [block_add] at hb
        exact Rd.of_rows (by omega) hsp hb (fun _ => rfl) (fun i hi j u hj => (hlp i hi).1 j u hj)
    · obtain ⟨i, hi, rfl⟩ := List.mem_iff_getElem.1 hy
      exact (hlp i hi).2
end

/-- Are acts more than are looked at? -/
def greatB (l : List AV) : Bool := decide (60 < l.length) || l.any fun a => decide (300 < a.b.length)
theorem great_no {l : List AV} (h : greatB l = false) : l.length ≤ 60 ∧ ∀ a ∈ l, a.b.length ≤ 300 := by
  simp only [greatB, Bool.or_eq_false_iff, decide_eq_false_iff_not, List.any_eq_false, decide_eq_true_eq] at h
  exact ⟨by omega, fun a ha => by have := h.2 a ha; omega⟩

set_option maxRecDepth 100000 in
set_option maxHeartbeats 1600000 in
theorem great02 (ok : Nat → Prop) (w : World) (v : Value) (l : List AV) (ha : ARow w ok v l) : Calls Try.prog 33 #[v] w fun e w' => e = .returned (.bool (greatB l)) ∧ Kp (fun _ => False) w w' := by
  obtain ⟨⟨A, c, rfl, hlc, hr⟩, hall⟩ := id ha
  obtain ⟨r, hR⟩ : ∃ r, greatB l = r := ⟨_, rfl⟩
  rw [hR]
  have hyes : 60 < l.length → r = true := by intro h; rw [← hR, greatB, decide_eq_true h]; rfl
  have hany : ∀ k (hk : k < l.length), 300 < (l[k]).b.length → r = true := by
    intro k hk h
    rw [← hR, greatB]
    simp only [Bool.or_eq_true, List.any_eq_true, decide_eq_true_eq]
    exact .inr ⟨_, List.getElem_mem hk, h⟩
  have hno : l.length ≤ 60 → (∀ k (hk : k < l.length), ¬ 300 < (l[k]).b.length) → r = false := by
    intro h1 h2
    rw [← hR, greatB, decide_eq_false (by omega)]
    simp only [Bool.false_or, List.any_eq_false, decide_eq_true_eq]
    intro a ha
    obtain ⟨i, hi, rfl⟩ := List.mem_iff_getElem.1 ha
    exact h2 i hi
  clear hR
  by_cases hlong : 60 < l.length
  · obtain rfl := hyes hlong
    clear hyes hany hno
    go_enter Try.func33, Try.ntmps33
    go_wp2_with fail
    go_ret
    exact ⟨rfl, Kp.refl _ _⟩
  · have HA := Lib.hid hany
    have HN := Lib.hid hno
    have HALL := Lib.hid hall
    clear hyes hany hno hall
    go_enter Try.func33, Try.ntmps33
    go_wp2_with fail
    go_loopw [10] (fun i wr => ∃ k : Nat, k ≤ l.length ∧ i = .int .i64 k ∧ (∀ j (hj : j < l.length), j < k → ¬ 300 < (l[j]).b.length) ∧ Kp (fun _ => False) w wr) (fun i _ => l.length - (intOf i).toNat)
    case atStart => exact ⟨0, Nat.zero_le _, rfl, fun j _ hj => absurd hj (by omega), Kp.refl _ _⟩
    case round =>
      obtain ⟨k, hk, rfl, hsm, hkr⟩ := hrel
      have HS := Lib.hid hsm
      clear hsm
      by_cases hlt : k < l.length
      · have hr' := hr.kp hkr (fun _ _ h => h)
        obtain ⟨b, off, rfl, hb, hcell⟩ := hr'.row (fun _ => rfl) hlt
        obtain ⟨⟨Ab, cb, hvb, hlcb, _⟩, _⟩ := HALL.out _ (List.getElem_mem hlt)
        have hc0 : wr.cell? ⟨b, off + k * 5, none⟩ = some (.int .i64 l[k].k) := hcell 0 _ rfl
        have hc1 : wr.cell? ⟨b, off + k * 5 + 1, none⟩ = some (.int .i64 l[k].s) := hcell 1 _ rfl
        have hc2 : wr.cell? ⟨b, off + k * 5 + 2, none⟩ = some (.int .i64 l[k].n) := hcell 2 _ rfl
        have hc3 : wr.cell? ⟨b, off + k * 5 + 3, none⟩ = some (.int .u64 l[k].x) := hcell 3 _ rfl
        have hc4 : wr.cell? ⟨b, off + k * 5 + 4, none⟩ = some l[k].v := hcell 4 _ rfl
        rw [hvb] at hc4
        have hkra := hkr.alloc (.cells #[.int .i64 l[k].k, .int .i64 l[k].s, .int .i64 l[k].n, .int .u64 l[k].x, .slice Ab l[k].b.length cb] 67)
        have HK := Lib.hid hkra
        clear hcell hkra hvb
        by_cases hbig : 300 < l[k].b.length
        · have hr0 := HA.out k hlt hbig
          subst hr0
          clear HA HN
          go_wp2_with fail
          go_ret
          exact ⟨rfl, HK.out⟩
        · go_wp2_with fail
          go_roundw
          case rel => exact ⟨k + 1, by omega, by go_num, fun j hj hjk => by rcases Nat.lt_or_ge j k with h | h; · exact HS.out j hj h
                                                                            · obtain rfl : j = k := by omega
                                                                              omega, HK.out⟩
          case measure => simp [intOf]; omega
      · obtain rfl : k = l.length := by omega
        have hr0 := HN.out (by omega) (fun j hj => HS.out j hj hj)
        subst hr0
        clear HA HN
        go_wp2_with fail
        go_ret
        exact ⟨rfl, hkr⟩
end Go.Proofs.Ytgndammlhljfjaa
