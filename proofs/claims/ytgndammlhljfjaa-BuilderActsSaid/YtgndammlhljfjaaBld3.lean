/-
  The builder: a part opened behind its length.
-/
import Derived.Test.YtgndammlhljfjaaBld
import Derived.Test.YtgndammlhljfjaaLib2
import Derived.Deep.RegionLaw
namespace Go.Proofs.Ytgndammlhljfjaa
open Go.RowKit

/-! ### Parts. -/
theorem bopen_nil (n : Int) (w : World) : Calls Try.prog 30 #[.pointer none, .int .i64 n] w fun e w' => e = .returned (.int .i64 1) ∧ w = w' := by
  go_enter Try.func30, Try.ntmps30
  go_wp2_with fail
  go_ret
  exact ⟨rfl, rfl⟩
theorem bopen_size (g : Nat) (n : Int) (hn : n < 1 ∨ 3 < n) (w : World) : Calls Try.prog 30 #[.pointer (some ⟨g, 0, none⟩), .int .i64 n] w fun e w' => e = .returned (.int .i64 2) ∧ w = w' := by
  rcases hn with hn | hn
  all_goals
    go_enter Try.func30, Try.ntmps30
    go_wp2_with fail
    go_ret
    exact ⟨rfl, rfl⟩

theorem bc_zeros : (bc [0, 0, 0]) = [.int .u8 0, .int .u8 0, .int .u8 0] := rfl

theorem bopen_full (ok : Nat → Prop) (g : Nat) (bs : List UInt8) (most : Nat) (ps : List (Nat × Nat)) (n : Nat) (h1 : 1 ≤ n) (h3 : n ≤ 3) (w : World) (hb : Bld w ok g bs most ps) (hlen : most < bs.length + n) :
    Calls Try.prog 30 #[.pointer (some ⟨g, 0, none⟩), .int .i64 n] w (BSame ok g bs most ps 5 w) := by
  have hn : n = 1 ∨ n = 2 ∨ n = 3 := by omega
  have hbr : ∀ m, m ≤ 3 → BR (w.alloc (.cells #[.int .u8 0, .int .u8 0, .int .u8 0] 85)) (· = w.heap.size) (.slice (some ⟨w.heap.size, 0, none⟩) m 3) (List.replicate m 0) := by
    intro m hm
    have := BR.blk (k := 0) (n := m) (l := [0, 0, 0]) (Blk.new w 85 (bc [0, 0, 0]).toArray) (by simp; omega) 3 hm
    rwa [List.drop_zero, show ([0, 0, 0] : List UInt8) = List.replicate 3 0 from rfl, List.take_replicate, Nat.min_eq_left hm] at this
  have hk1 : Kp (fun _ => False) w (w.alloc (.cells #[.int .u8 0, .int .u8 0, .int .u8 0] 85)) := (Kp.refl _ _).alloc _
  have HB := Lib.hid hbr
  clear hbr h1 h3
  rcases hn with rfl | rfl | rfl
  all_goals
    go_enter Try.func30, Try.ntmps30
    go_wp2_with fail
    refine (bbytes_full ok _ g bs _ most ps _ _ (hb.kp hk1 (fun _ _ h => h)) (HB.out _ (by omega)) (by simpa using hlen)).mono ?_
    rintro e w2 ⟨rfl, hb2, hk2⟩
    go_wp2_with fail
    go_ret
    exact ⟨rfl, hb2, hk1.then_ hk2 (fun _ h => h.elim)⟩

theorem bopen_done {ok ok0 : Nat → Prop} {g most n : Nat} {bs : List UInt8} {ps : List (Nat × Nat)} {vb vo v2 : Value} {w w2 w0 w3 : World} {m L : Nat} {x y : Int} (h0 : ok g) (hlen : bs.length ≤ most) (h2 : most ≤ 1073741824)
    (h3 : Own w2 ok 5 1 vb bs.length (bc bs)) (h4 : Own w2 ok 87 2 vo ps.length (pc ps)) (h5 : Blk w2 g 82 #[vb, .int .i64 most, vo])
    (hk0 : Kp ok0 w w2) (hok : ∀ i, ok i → ok0 i ∨ w.heap.size ≤ i) (hw0 : Kp (fun _ => False) w2 w0)
    (hown : w3.ownsRow 0 87 2 v2 m (pc ps ++ [.int .i64 x, .int .i64 y])) (hx : x = L) (hy : y = n) (hgrow : w0.grownBy w3 vo.ownBlock) (hat : v2.ownBlock = vo.ownBlock ∨ v2.ownBlock = some w0.heap.size) :
    BStep ok0 g bs most (ps ++ [(L, n)]) w (.returned (.int .i64 0)) (w3.setCell ⟨g, 2, none⟩ v2) := by
  have hk2 : Kp (fun i => vo.ownBlock = some i) w2 w3 := (hw0.mono (fun _ _ h => h.elim)).then_ ((Kp.refl (fun i => vo.ownBlock = some i) w0).grown hgrow (fun k hk => .inl hk)) (fun i hi => .inl hi)
  have hgv : vo.ownBlock ≠ some g := h4.block h5 (by decide)
  have hov := fun k hk => h3.apart h4 (by decide) (g := k) hk
  have hsz2 := hk2.size
  have hszw := hk0.size
  have hv2 : ∀ k, v2.ownBlock = some k → (ok0 k ∨ w.heap.size ≤ k) ∧ k ≠ g := by
    intro k hk
    rcases hat with e | e
    · rw [e] at hk
      exact ⟨hok k (h4.2 k hk), fun e2 => hgv (e2 ▸ hk)⟩
    · rw [e] at hk
      injection hk with hk
      have := h5.lt
      have := hw0.size
      exact ⟨.inr (by omega), by omega⟩
  have hl2 : m = (ps ++ [(L, n)]).length := by
    have h6 := hown.1
    have h7 := h4.1.1
    rw [List.length_append, h7] at h6
    simp at h6 ⊢
    omega
  have hkS : Kp (fun i => i = g) w3 (w3.setCell ⟨g, 2, none⟩ v2) := (Kp.refl (fun i => i = g) w3).setCell (p := ⟨g, 2, none⟩) (.inl rfl) _
  have hpc : pc (ps ++ [(L, n)]) = pc ps ++ [.int .i64 x, .int .i64 y] := by
    rw [hx, hy]
    simp [pc]
  refine ⟨rfl, ⟨hok g h0, hlen, h2, vb, v2, ?_, ?_, ?_⟩, ?_⟩
  · have h6 : Own w2 (fun i => ok i ∧ i ≠ g ∧ vo.ownBlock ≠ some i) 5 1 vb bs.length (bc bs) := by
      refine ⟨h3.1, fun k hk => ⟨h3.2 k hk, fun e => h3.block h5 (by decide) (e ▸ hk), fun e => hov k e hk⟩⟩
    exact ((h6.kp hk2 (fun i hi => hi.2.2)).kp hkS (fun i hi => hi.2.1)).mono (fun i _ hi => hok i hi.1)
  · refine (Own.kp (ok := fun i => (ok0 i ∨ w.heap.size ≤ i) ∧ i ≠ g) ⟨?_, hv2⟩ hkS (fun i hi => hi.2)).mono (fun i _ hi => hi.1)
    rw [← hl2, hpc]
    exact hown
  · exact (h5.kp hk2 hgv).set_ 2 v2
  · refine (hk0.then_ hk2 (fun i hi => hok i (h4.2 i hi))).then_ hkS (fun i hi => hok i (hi ▸ h0))

theorem one_two (x y : Int) : ∀ u ∈ [Value.int .i64 x, Value.int .i64 y], u.oneCell' = true := by
  intro u hu
  simp at hu
  rcases hu with rfl | rfl <;> rfl
theorem rd_new (w : World) (t : TypeId) (xs : List Value) (size n : Nat) (h : xs.length = n * size) : Rd ((w.alloc (.cells xs.toArray t)).drew) (· = w.heap.size) size (some ⟨w.heap.size, 0, none⟩) n xs := by
  refine ⟨h, fun _ => ⟨_, rfl, rfl, rfl, fun j u hu => ?_⟩⟩
  have h1 := ((Blk.new w t xs.toArray).drew).cell j
  have e : (⟨w.heap.size, 0, none⟩ : Addr).add j = ⟨w.heap.size, j, none⟩ := by
    unfold Addr.add
    split
    · next h0 => subst h0; rfl
    · simp
  rw [e, h1]
  simpa using hu

set_option maxHeartbeats 1600000 in
theorem bopen_ok (ok : Nat → Prop) (g : Nat) (bs : List UInt8) (most : Nat) (ps : List (Nat × Nat)) (n : Nat) (h1 : 1 ≤ n) (h3 : n ≤ 3) (w : World) (hb : Bld w ok g bs most ps) (hlen : bs.length + n ≤ most) (hps : ps.length ≤ 1073741824) :
    Calls Try.prog 30 #[.pointer (some ⟨g, 0, none⟩), .int .i64 n] w (BStep ok g (bs ++ List.replicate n 0) most (ps ++ [(bs.length + n, n)]) w) := by
  have hn : n = 1 ∨ n = 2 ∨ n = 3 := by omega
  have hbr : ∀ m, m ≤ 3 → BR (w.alloc (.cells #[.int .u8 0, .int .u8 0, .int .u8 0] 85)) (· = w.heap.size) (.slice (some ⟨w.heap.size, 0, none⟩) m 3) (List.replicate m 0) := by
    intro m hm
    have := BR.blk (k := 0) (n := m) (l := [0, 0, 0]) (Blk.new w 85 (bc [0, 0, 0]).toArray) (by simp; omega) 3 hm
    rwa [List.drop_zero, show ([0, 0, 0] : List UInt8) = List.replicate 3 0 from rfl, List.take_replicate, Nat.min_eq_left hm] at this
  have hk1 : Kp (fun _ => False) w (w.alloc (.cells #[.int .u8 0, .int .u8 0, .int .u8 0] 85)) := (Kp.refl _ _).alloc _
  have HB := Lib.hid hbr
  clear hbr h1 h3
  obtain ⟨i0, hi0, hz0, hz1, hz2⟩ := info_parts part_info
  rcases hn with rfl | rfl | rfl
  all_goals
    go_enter Try.func30, Try.ntmps30
    go_wp2_with fail
    refine (bbytes_ok ok _ g bs _ most ps _ _ (hb.kp hk1 (fun _ _ h => h)) (HB.out _ (by omega)) (by simpa using hlen)).mono ?_
    rintro e w2 ⟨rfl, hb2, hk2⟩
    obtain ⟨j0, j1, j2, vb, vo, j3, j4, j5⟩ := id hb2
    obtain ⟨Ab, cb, rfl, hcb⟩ := j3.shape
    obtain ⟨Ao, co, rfl, hco⟩ := j4.shape
    have hc0 : w2.cell? ⟨g, 0, none⟩ = some (.slice Ab _ cb) := j5.cell 0
    have hc2 : w2.cell? ⟨g, 2, none⟩ = some (.slice Ao ps.length co) := j5.cell 2
    have hf2 : w2.frozen? ⟨g, 2, none⟩ = false := j5.frozen 2
    have hgv := j4.block j5 (by decide)
    have q0 : ∀ x y, Kp (fun _ => False) w2 (w2.alloc (.cells #[.int .i64 x, .int .i64 y] 87)).drew := fun x y => ((Kp.refl _ _).alloc _).drew
    have q1 : ∀ x y, ((w2.alloc (.cells #[.int .i64 x, .int .i64 y] 87)).drew).ownsRow 0 87 2 (.slice Ao ps.length co) ps.length (pc ps) := fun x y => (j4.kp (q0 x y) (fun _ _ h => h)).1
    have q2 : ∀ x y, Rd ((w2.alloc (.cells #[.int .i64 x, .int .i64 y] 87)).drew) (· = w2.heap.size) 2 (some ⟨w2.heap.size, 0, none⟩) 1 [.int .i64 x, .int .i64 y] := fun x y => rd_new w2 _ _ 2 1 rfl
    have q3 : ∀ x y, ((w2.alloc (.cells #[.int .i64 x, .int .i64 y] 87)).drew).cell? ⟨g, 2, none⟩ = some (.slice Ao ps.length co) := fun x y => (j5.kp (q0 x y) (fun h => h)).cell 2
    have q4 : ∀ x y, ((w2.alloc (.cells #[.int .i64 x, .int .i64 y] 87)).drew).frozen? ⟨g, 2, none⟩ = false := fun x y => (j5.kp (q0 x y) (fun h => h)).frozen 2
    have HF := Lib.hid (fun m L n x y v2 w3 => bopen_done (L := L) (n := n) (x := x) (y := y) (m := m) (v2 := v2) (w3 := w3) (w0 := (w2.alloc (.cells #[.int .i64 x, .int .i64 y] 87)).drew) j0 j1 j2 j3 j4 j5 ((hk1.mono (fun _ _ h => h.elim)).then_ hk2 (fun i hi => .inl hi)) (fun i hi => hi.elim .inl (fun h => .inr (by have := hk1.size; omega))) (q0 x y))
    have Q3 := Lib.hid q3
    have Q4 := Lib.hid q4
    have Q1 := Lib.hid q1
    have Q2 := Lib.hid q2
    have e2 : ∀ o, (w2.alloc o).cell? ⟨g, 2, none⟩ = some (.slice Ao ps.length co) := fun o => (j5.alloc o).cell 2
    have e0 : ∀ o, (w2.alloc o).cell? ⟨g, 0, none⟩ = w2.cell? ⟨g, 0, none⟩ := fun o => ((j5.alloc o).cell 0).trans (j5.cell 0).symm
    clear q0 q1 q2 q3 q4
    go_wp2_with fail
    go_region_law ((refine step_append_any _ rfl (.tmp 27) (.tmp 35) _ rfl 0 87 i0 _ 2 16 Try.underlying80 hi0 hz0 hz1 hz2 rfl (by omega) (.slice Ao ps.length co) ps.length (pc ps) (by simp [Act.eval]) (Q1.out _ _) (· = w2.heap.size) (some ⟨w2.heap.size, 0, none⟩) 1 1 _ (by simp [Act.eval]) (Q2.out _ _) (one_two _ _) (by simp only [maxLen]; omega) (by omega) (Nat.zero_le _) ?_; intro v2 w3 hown hgrow hat; obtain ⟨A2, co2, hv2, hcn⟩ := own_slice hown; subst hv2; have hc3 := grown_cell hgrow (p := ⟨g, 2, none⟩) (v := .slice Ao ps.length co) (Q3.out _ _) hgv; have hf3 := grown_frozen hgrow (p := ⟨g, 2, none⟩) (v := .slice Ao ps.length co) (Q3.out _ _) (Q4.out _ _) hgv))
    all_goals
      go_wp2_with fail
      go_ret
      exact HF.out _ _ _ _ _ _ _ hown (by simp) rfl hgrow hat

end Go.Proofs.Ytgndammlhljfjaa
