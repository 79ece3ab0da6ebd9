/-
  The builder: what each of its methods answers, and what it leaves.
-/
import Derived.Test.YtgndammlhljfjaaProg
import Derived.Test.YtgndammlhljfjaaLib
import Derived.Test.YtgndammlhljfjaaNum
namespace Go.Proofs.Ytgndammlhljfjaa
open Go.RowKit

/-- The eight bytes of a number, the highest first, as cells. -/
def c8 (x : Int) : Array Value :=
  #[.int .u8 (x / 72057594037927936), .int .u8 (x / 281474976710656 % 256), .int .u8 (x / 1099511627776 % 256), .int .u8 (x / 4294967296 % 256),
    .int .u8 (x / 16777216 % 256), .int .u8 (x / 65536 % 256), .int .u8 (x / 256 % 256), .int .u8 (x % 256)]

set_option maxRecDepth 100000 in
theorem lay_any (x : Int) (h0 : 0 ≤ x) (hx : x < 18446744073709551616) (w : World) : Calls Try.prog 43 #[.int .u64 x] w fun e w' => e = .returned (.agg (c8 x)) ∧ Kp (fun _ => False) w w' := by
  go_enter Try.func43, Try.ntmps43
  go_wp2_with fail
  refine wp_loop_rounds 9 ?_
  iterate 9 (rw [rounds_succ]; go_wp2_with fail)
  refine bodyPost_ret (v := .agg (c8 x)) (by simp [results, Try.results43, go_sem, c8]) rfl ⟨rfl, ?_⟩
  repeat (first | exact Kp.refl _ _ | apply Kp.alloc | apply Kp.drew)

theorem own_slice {w : World} {base e size n : Nat} {v : Value} {xs : List Value} (h : w.ownsRow base e size v n xs) : ∃ A c, v = .slice A n c ∧ n ≤ c := by
  rcases h.2 with ⟨rfl, rfl⟩ | ⟨g, cap, cur, rfl, _, _, hn, _⟩
  · exact ⟨none, 0, rfl, Nat.le_refl _⟩
  · exact ⟨_, cap, rfl, hn⟩
theorem grown_cell {w w' : World} {row : Option Nat} (h : w.grownBy w' row) {p : Addr} {v : Value} (hc : w.cell? p = some v) (hne : row ≠ some p.block) : w'.cell? p = some v :=
  (World.cell?_of_block (h.block p.block (cell_lt hc) (fun e => hne e.symm))).trans hc
theorem grown_frozen {w w' : World} {row : Option Nat} (h : w.grownBy w' row) {p : Addr} {v : Value} (hc : w.cell? p = some v) (hf : w.frozen? p = false) (hne : row ≠ some p.block) : w'.frozen? p = false :=
  (World.frozen?_of_block (h.block p.block (cell_lt hc) (fun e => hne e.symm))).trans hf

/-! ### The builder's state. -/
/-- Open parts, as cells: where the bytes begin, how many the length has. -/
def pc (ps : List (Nat × Nat)) : List Value := ps.flatMap fun p => [.int .i64 p.1, .int .i64 p.2]

def Bld (w : World) (ok : Nat → Prop) (g : Nat) (bs : List UInt8) (most : Nat) (ps : List (Nat × Nat)) : Prop :=
  ok g ∧ bs.length ≤ most ∧ most ≤ 1073741824 ∧ ∃ vb vo, Own w ok 5 1 vb bs.length (bc bs) ∧ Own w ok 87 2 vo ps.length (pc ps) ∧ Blk w g 82 #[vb, .int .i64 most, vo]

section
variable {w w' : World} {ok ok' S : Nat → Prop} {g most : Nat} {bs : List UInt8} {ps : List (Nat × Nat)}
theorem Bld.kp (h : Bld w ok g bs most ps) (hk : Kp S w w') (hd : ∀ i, ok i → ¬ S i) : Bld w' ok g bs most ps := by
  obtain ⟨h0, h1, h2, vb, vo, h3, h4, h5⟩ := h
  exact ⟨h0, h1, h2, vb, vo, h3.kp hk hd, h4.kp hk hd, h5.kp hk (hd g h0)⟩
theorem Bld.mono (h : Bld w ok g bs most ps) (hd : ∀ i, i < w.heap.size → ok i → ok' i) : Bld w ok' g bs most ps := by
  obtain ⟨h0, h1, h2, vb, vo, h3, h4, h5⟩ := h
  exact ⟨hd g h5.lt h0, h1, h2, vb, vo, h3.mono hd, h4.mono hd, h5⟩
theorem Bld.lt (h : Bld w ok g bs most ps) : g < w.heap.size := by
  obtain ⟨h0, h1, h2, vb, vo, h3, h4, h5⟩ := h
  exact h5.lt
end

theorem part_info : (Try.prog.info? 87).map (fun i => (i.zero, i.size, i.bytes)) = some (some (.agg #[.int .i64 0, .int .i64 0]), 2, 16) := by kernel_rfl
theorem u8_info' : (Try.prog.info? 5).map (fun i => (i.zero, i.size, i.bytes)) = some (some (.int .u8 0), 1, 1) := by kernel_rfl

theorem bnew_ok (most : Nat) (hm : most ≤ 1073741824) (w : World) : Calls Try.prog 26 #[.int .i64 most] w fun e w' => ∃ g, e = .returned (.tuple #[.pointer (some ⟨g, 0, none⟩), .int .i64 0]) ∧ w.heap.size ≤ g ∧ Bld w' (· = g) g [] most [] ∧ Kp (fun _ => False) w w' := by
  have hP : Bld (w.alloc (.cells #[.slice none 0 0, .int .i64 most, .slice none 0 0] 82)) (· = w.heap.size) w.heap.size [] most [] :=
    ⟨rfl, Nat.zero_le _, hm, _, _, Own.nil, Own.nil, Blk.new _ _ _⟩
  go_enter Try.func26, Try.ntmps26
  go_wp2_with fail
  go_ret2
  exact ⟨_, rfl, Nat.le_refl _, hP, (Kp.refl _ _).alloc _⟩
theorem bnew_bad (most : Int) (hm : most < 0 ∨ 1073741824 < most) (w : World) : Calls Try.prog 26 #[.int .i64 most] w fun e w' => e = .returned (.tuple #[.pointer none, .int .i64 3]) ∧ w = w' := by
  rcases hm with h | h
  all_goals
    go_enter Try.func26, Try.ntmps26
    go_wp2_with fail
    go_ret2
    exact ⟨rfl, rfl⟩

/-- Nothing turned but what is drawn or new. -/
def BSame (ok : Nat → Prop) (g : Nat) (bs : List UInt8) (most : Nat) (ps : List (Nat × Nat)) (r : Int) (w : World) (e : Ending) (w' : World) : Prop :=
  e = .returned (.int .i64 r) ∧ Bld w' ok g bs most ps ∧ Kp (fun _ => False) w w'
def BStep (ok : Nat → Prop) (g : Nat) (bs : List UInt8) (most : Nat) (ps : List (Nat × Nat)) (w : World) (e : Ending) (w' : World) : Prop :=
  e = .returned (.int .i64 0) ∧ Bld w' (fun i => ok i ∨ w.heap.size ≤ i) g bs most ps ∧ Kp ok w w'

theorem bbytes_nil (vx : Value) (w : World) : Calls Try.prog 28 #[.pointer none, vx] w fun e w' => e = .returned (.int .i64 1) ∧ w = w' := by
  go_enter Try.func28, Try.ntmps28
  go_wp2_with fail
  go_ret
  exact ⟨rfl, rfl⟩

theorem bbytes_full (ok okx : Nat → Prop) (g : Nat) (bs x : List UInt8) (most : Nat) (ps : List (Nat × Nat)) (vx : Value) (w : World) (hb : Bld w ok g bs most ps) (hx : BR w okx vx x) (hlen : most < bs.length + x.length) :
    Calls Try.prog 28 #[.pointer (some ⟨g, 0, none⟩), vx] w (BSame ok g bs most ps 5 w) := by
  have hP : ∀ q, BSame ok g bs most ps 5 w (.returned (.int .i64 5)) (w.drewN q) := fun q => ⟨rfl, hb.kp ((Kp.refl (fun _ => False) w).drewN q) (fun _ _ h => h), (Kp.refl _ _).drewN q⟩
  obtain ⟨h0, h1, h2, vb, vo, h3, h4, h5⟩ := hb
  obtain ⟨Ab, cb, rfl, hcb⟩ := h3.shape
  obtain ⟨A, c, rfl, hlc, hr⟩ := hx
  have hc0 : w.cell? ⟨g, 0, none⟩ = some (.slice Ab bs.length cb) := h5.cell 0
  have hc1 : w.cell? ⟨g, 1, none⟩ = some (.int .i64 most) := h5.cell 1
  have hlt : (most : Int) - (bs.length : Int) < (x.length : Int) := by omega
  have HP := Lib.hid hP
  clear hP
  go_enter Try.func28, Try.ntmps28
  go_wp2_with fail
  go_quiet (fail)
  go_wp2_with fail
  go_ret
  exact HP.out _

theorem bbytes_done {ok : Nat → Prop} {g most : Nat} {bs x : List UInt8} {ps : List (Nat × Nat)} {vb vo v2 : Value} {w w0 w2 : World} {n : Nat} (h0 : ok g) (hlen : bs.length + x.length ≤ most) (h2 : most ≤ 1073741824)
    (h3 : Own w ok 5 1 vb bs.length (bc bs)) (h4 : Own w ok 87 2 vo ps.length (pc ps)) (h5 : Blk w g 82 #[vb, .int .i64 most, vo]) (hw0 : Kp (fun _ => False) w w0) (hsz : w0.heap.size = w.heap.size)
    (hown : w2.ownsRow 0 5 1 v2 n (bc bs ++ bc x)) (hgrow : w0.grownBy w2 vb.ownBlock) (hat : v2.ownBlock = vb.ownBlock ∨ v2.ownBlock = some w0.heap.size) :
    BStep ok g (bs ++ x) most ps w (.returned (.int .i64 0)) (w2.setCell ⟨g, 0, none⟩ v2) := by
  have hk2 : Kp (fun i => vb.ownBlock = some i) w w2 := (hw0.mono (fun _ _ h => h.elim)).then_ ((Kp.refl (fun i => vb.ownBlock = some i) w0).grown hgrow (fun k hk => .inl hk)) (fun i hi => .inl hi)
  have hgv : vb.ownBlock ≠ some g := h3.block h5 (by decide)
  have hov := fun k hk => h4.apart h3 (by decide) (g := k) hk
  have hsz2 := hk2.size
  have hv2 : ∀ k, v2.ownBlock = some k → (ok k ∨ w.heap.size ≤ k) ∧ k ≠ g := by
    intro k hk
    rcases hat with e | e
    · rw [e] at hk
      exact ⟨.inl (h3.2 k hk), fun e2 => hgv (e2 ▸ hk)⟩
    · rw [e] at hk
      injection hk with hk
      have := h5.lt
      exact ⟨.inr (by omega), by omega⟩
  have hl2 : n = (bs ++ x).length := by have := hown.1; rw [List.length_append, bc_length, bc_length] at this; rw [List.length_append]; omega
  have hkS : Kp (fun i => i = g) w2 (w2.setCell ⟨g, 0, none⟩ v2) := (Kp.refl (fun i => i = g) w2).setCell (p := ⟨g, 0, none⟩) (.inl rfl) _
  refine ⟨rfl, ⟨.inl h0, by rw [List.length_append]; exact hlen, h2, v2, vo, ?_, ?_, ?_⟩, ?_⟩
  · refine (Own.kp (ok := fun i => (ok i ∨ w.heap.size ≤ i) ∧ i ≠ g) ⟨?_, hv2⟩ hkS (fun i hi => hi.2)).mono (fun i _ hi => hi.1)
    rw [← hl2, bc_append]
    exact hown
  · have h6 : Own w (fun i => ok i ∧ i ≠ g ∧ vb.ownBlock ≠ some i) 87 2 vo ps.length (pc ps) := by
      refine ⟨h4.1, fun k hk => ⟨h4.2 k hk, fun e => h4.block h5 (by decide) (e ▸ hk), fun e => hov k e hk⟩⟩
    exact ((h6.kp hk2 (fun i hi => hi.2.2)).kp hkS (fun i hi => hi.2.1)).mono (fun i _ hi => .inl hi.1)
  · exact (h5.kp hk2 hgv).set_ 0 v2
  · exact (hk2.mono (fun i _ hi => h3.2 i hi)).then_ hkS (fun i hi => .inl (hi ▸ h0))

theorem bbytes_ok (ok okx : Nat → Prop) (g : Nat) (bs x : List UInt8) (most : Nat) (ps : List (Nat × Nat)) (vx : Value) (w : World) (hb : Bld w ok g bs most ps) (hx : BR w okx vx x) (hlen : bs.length + x.length ≤ most) :
    Calls Try.prog 28 #[.pointer (some ⟨g, 0, none⟩), vx] w (BStep ok g (bs ++ x) most ps w) := by
  obtain ⟨h0, h1, h2, vb, vo, h3, h4, h5⟩ := hb
  obtain ⟨Ab, cb, rfl, hcb⟩ := h3.shape
  obtain ⟨A, c, rfl, hlc, hr⟩ := hx
  have hc0 : w.cell? ⟨g, 0, none⟩ = some (.slice Ab bs.length cb) := h5.cell 0
  have hc1 : w.cell? ⟨g, 1, none⟩ = some (.int .i64 most) := h5.cell 1
  have hf0 : w.frozen? ⟨g, 0, none⟩ = false := h5.frozen 0
  have hgv := h3.block h5 (by decide)
  have hlt : ¬ (most : Int) - (bs.length : Int) < (x.length : Int) := by omega
  obtain ⟨i0, hi0, hz0, hz1, hz2⟩ := info_parts u8_info'
  have HP := Lib.hid (fun n v2 w2 q => bbytes_done (n := n) (v2 := v2) (w2 := w2) (w0 := w.drewN q) h0 hlen h2 h3 h4 h5 ((Kp.refl _ _).drewN q) rfl)
  go_enter Try.func28, Try.ntmps28
  go_wp2_with fail
  go_quiet (fail)
  go_wp2_with (at_builtin; refine wpList_append_any (w.drewN nq) rfl (.tmp 26) (.tmp 27) _ rfl 0 5 i0 _ 1 1 Try.underlying22 hi0 hz0 hz1 hz2 rfl (by omega) (.slice Ab bs.length cb) bs.length (bc bs) rfl (h3.kp ((Kp.refl (fun _ => False) w).drewN _) (fun _ _ h => h)).1 okx A x.length c (bc x) rfl (hr.kp ((Kp.refl (fun _ => False) w).drewN _) (fun _ _ h => h)) (bc_one _) (by simp only [maxLen]; omega) (by omega) (Nat.zero_le _) ?_; intro v2 w2 hown hgrow hat; obtain ⟨A2, c2, hv2, _⟩ := own_slice hown; subst hv2; have hc2 := (grown_cell hgrow (p := ⟨g, 0, none⟩) hc0 hgv); have hf2 := (grown_frozen hgrow (p := ⟨g, 0, none⟩) hc0 hf0 hgv))
  go_ret
  exact HP.out _ _ _ nq hown hgrow hat
end Go.Proofs.Ytgndammlhljfjaa
