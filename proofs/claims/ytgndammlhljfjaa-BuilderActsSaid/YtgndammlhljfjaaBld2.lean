/-
  The builder: numbers, parts, and the end.
-/
import Derived.Test.YtgndammlhljfjaaBld
import Derived.Test.YtgndammlhljfjaaLib2
namespace Go.Proofs.Ytgndammlhljfjaa
open Go.RowKit

theorem c8_eq (x : Nat) (hx : x < 18446744073709551616) : c8 (x : Int) = (bc (beB 8 x)).toArray := by
  have h : ∀ y : Nat, ((UInt8.ofNat y).toNat : Int) = (y : Int) % 256 := by intro y; rw [UInt8.toNat_ofNat']; omega
  simp only [c8, beB, bc, List.nil_append, List.cons_append, List.map_cons, List.map_nil, h]
  have e7 : (x : Int) / 72057594037927936 = ((x / 256 / 256 / 256 / 256 / 256 / 256 / 256 : Nat) : Int) % 256 := by omega
  have e6 : (x : Int) / 281474976710656 % 256 = ((x / 256 / 256 / 256 / 256 / 256 / 256 : Nat) : Int) % 256 := by omega
  have e5 : (x : Int) / 1099511627776 % 256 = ((x / 256 / 256 / 256 / 256 / 256 : Nat) : Int) % 256 := by omega
  have e4 : (x : Int) / 4294967296 % 256 = ((x / 256 / 256 / 256 / 256 : Nat) : Int) % 256 := by omega
  have e3 : (x : Int) / 16777216 % 256 = ((x / 256 / 256 / 256 : Nat) : Int) % 256 := by omega
  have e2 : (x : Int) / 65536 % 256 = ((x / 256 / 256 : Nat) : Int) % 256 := by omega
  have e1 : (x : Int) / 256 % 256 = ((x / 256 : Nat) : Int) % 256 := by omega
  rw [e7, e6, e5, e4, e3, e2, e1]

theorem bnumber_nil (n : Int) (x : Int) (w : World) : Calls Try.prog 29 #[.pointer none, .int .i64 n, .int .u64 x] w fun e w' => e = .returned (.int .i64 1) ∧ w = w' := by
  go_enter Try.func29, Try.ntmps29
  go_wp2_with fail
  go_ret
  exact ⟨rfl, rfl⟩

theorem bnumber_size (g : Nat) (n : Int) (x : Int) (w : World) (hs : szB n = false) : Calls Try.prog 29 #[.pointer (some ⟨g, 0, none⟩), .int .i64 n, .int .u64 x] w fun e w' => e = .returned (.int .i64 2) ∧ w = w' := by
  have h := szB_false hs
  clear hs
  go_enter Try.func29, Try.ntmps29
  rcases h with h | ⟨h, h'⟩
  · go_wp2_with fail
    go_ret
    exact ⟨rfl, rfl⟩
  · have hb : (n != 8) = true := by simpa using h'
    go_wp2_with fail
    go_ret
    exact ⟨rfl, rfl⟩

theorem szB_cases' {n : Int} (h : szB n = true) : n = 1 ∨ n = 2 ∨ n = 3 ∨ n = 4 ∨ n = 8 := by
  have := szB_true h
  omega

theorem bnumber_range (g : Nat) (n : Int) (x : Nat) (hx : x < 18446744073709551616) (w : World) (hs : szB n = true) (hbig : 256 ^ n.toNat ≤ x) : Calls Try.prog 29 #[.pointer (some ⟨g, 0, none⟩), .int .i64 n, .int .u64 x] w fun e w' => e = .returned (.int .i64 3) ∧ w = w' := by
  rcases szB_cases' hs with rfl | rfl | rfl | rfl | rfl
  all_goals simp at hbig
  all_goals first | omega | skip
  all_goals
    clear hs
    go_enter Try.func29, Try.ntmps29
    go_wp2_with fail
    go_ret
    exact ⟨rfl, rfl⟩

theorem bnumber_ok (ok : Nat → Prop) (g : Nat) (bs : List UInt8) (most : Nat) (ps : List (Nat × Nat)) (n : Nat) (x : Nat) (hx : x < 18446744073709551616) (w : World) (hb : Bld w ok g bs most ps) (hs : szB n = true) (hfit : x < 256 ^ n) (hlen : bs.length + n ≤ most) :
    Calls Try.prog 29 #[.pointer (some ⟨g, 0, none⟩), .int .i64 n, .int .u64 x] w (BStep ok g (bs ++ beB n x) most ps w) := by
  have hs' := szB_cases' hs
  have hs2 : n = 1 ∨ n = 2 ∨ n = 3 ∨ n = 4 ∨ n = 8 := by omega
  clear hs hs'
  obtain ⟨y0, y1, y2, y3, y4, y5, y6, y7, hy⟩ : ∃ y0 y1 y2 y3 y4 y5 y6 y7 : Int, c8 (x : Int) = #[.int .u8 y0, .int .u8 y1, .int .u8 y2, .int .u8 y3, .int .u8 y4, .int .u8 y5, .int .u8 y6, .int .u8 y7] := ⟨_, _, _, _, _, _, _, _, rfl⟩
  have hbr : ∀ w1 : World, n ≤ 8 → BR (w1.alloc (.cells #[.int .u8 y0, .int .u8 y1, .int .u8 y2, .int .u8 y3, .int .u8 y4, .int .u8 y5, .int .u8 y6, .int .u8 y7] 83)) (· = w1.heap.size) (.slice (some ⟨w1.heap.size, 8 - n, none⟩) n n) (beB n x) := by
    intro w1 hn8
    have h1 := BR.blk_drop (k := 8 - n) (n := n) (l := beB 8 x) (Blk.new w1 83 (bc (beB 8 x)).toArray) (by rw [beB_length]; omega)
    rw [show beB 8 x = beB (8 - n + n) x from by congr 1; omega, beB_drop, ← show beB 8 x = beB (8 - n + n) x from by congr 1; omega, ← c8_eq x hx, hy] at h1
    exact h1
  have hlay : ∀ w : World, Calls Try.prog 43 #[.int .u64 x] w fun e w' => e = .returned (.agg #[.int .u8 y0, .int .u8 y1, .int .u8 y2, .int .u8 y3, .int .u8 y4, .int .u8 y5, .int .u8 y6, .int .u8 y7]) ∧ Kp (fun _ => False) w w' := by
    intro w
    have := lay_any x (by omega) (by omega) w
    rwa [hy] at this
  have HB := Lib.hid hbr
  have HL := Lib.hid hlay
  clear hbr hlay hy
  rcases hs2 with rfl | rfl | rfl | rfl | rfl
  all_goals simp at hfit
  all_goals
    go_enter Try.func29, Try.ntmps29
    go_wp2_with (go_at_call 43; ((with_reducible refine (HL.out _).mono ?_); rintro e w1 ⟨rfl, hk1⟩))
    have hk1' := hk1.alloc (.cells #[.int .u8 y0, .int .u8 y1, .int .u8 y2, .int .u8 y3, .int .u8 y4, .int .u8 y5, .int .u8 y6, .int .u8 y7] 83)
    refine (bbytes_ok ok _ g bs _ most ps _ _ (hb.kp hk1' (fun _ _ h => h)) (HB.out w1 (by omega)) (by rw [beB_length]; exact hlen)).mono ?_
    rintro e w2 ⟨rfl, hb2, hk2⟩
    go_wp2_with fail
    go_ret
    refine ⟨rfl, hb2.mono (fun i _ hi => ?_), ?_⟩
    · rcases hi with hi | hi
      · exact .inl hi
      · right; have := hk1'.size; omega
    · exact (hk1'.mono (fun _ _ h => h.elim)).then_ hk2 (fun i hi => .inl hi)

theorem bnumber_full (ok : Nat → Prop) (g : Nat) (bs : List UInt8) (most : Nat) (ps : List (Nat × Nat)) (n : Nat) (x : Nat) (hx : x < 18446744073709551616) (w : World) (hb : Bld w ok g bs most ps) (hs : szB n = true) (hfit : x < 256 ^ n) (hlen : most < bs.length + n) :
    Calls Try.prog 29 #[.pointer (some ⟨g, 0, none⟩), .int .i64 n, .int .u64 x] w (BSame ok g bs most ps 5 w) := by
  have hs' := szB_cases' hs
  have hs2 : n = 1 ∨ n = 2 ∨ n = 3 ∨ n = 4 ∨ n = 8 := by omega
  clear hs hs'
  obtain ⟨y0, y1, y2, y3, y4, y5, y6, y7, hy⟩ : ∃ y0 y1 y2 y3 y4 y5 y6 y7 : Int, c8 (x : Int) = #[.int .u8 y0, .int .u8 y1, .int .u8 y2, .int .u8 y3, .int .u8 y4, .int .u8 y5, .int .u8 y6, .int .u8 y7] := ⟨_, _, _, _, _, _, _, _, rfl⟩
  have hbr : ∀ w1 : World, n ≤ 8 → BR (w1.alloc (.cells #[.int .u8 y0, .int .u8 y1, .int .u8 y2, .int .u8 y3, .int .u8 y4, .int .u8 y5, .int .u8 y6, .int .u8 y7] 83)) (· = w1.heap.size) (.slice (some ⟨w1.heap.size, 8 - n, none⟩) n n) (beB n x) := by
    intro w1 hn8
    have h1 := BR.blk_drop (k := 8 - n) (n := n) (l := beB 8 x) (Blk.new w1 83 (bc (beB 8 x)).toArray) (by rw [beB_length]; omega)
    rw [show beB 8 x = beB (8 - n + n) x from by congr 1; omega, beB_drop, ← show beB 8 x = beB (8 - n + n) x from by congr 1; omega, ← c8_eq x hx, hy] at h1
    exact h1
  have hlay : ∀ w : World, Calls Try.prog 43 #[.int .u64 x] w fun e w' => e = .returned (.agg #[.int .u8 y0, .int .u8 y1, .int .u8 y2, .int .u8 y3, .int .u8 y4, .int .u8 y5, .int .u8 y6, .int .u8 y7]) ∧ Kp (fun _ => False) w w' := by
    intro w
    have := lay_any x (by omega) (by omega) w
    rwa [hy] at this
  have HB := Lib.hid hbr
  have HL := Lib.hid hlay
  clear hbr hlay hy
  rcases hs2 with rfl | rfl | rfl | rfl | rfl
  all_goals simp at hfit
  all_goals
    go_enter Try.func29, Try.ntmps29
    go_wp2_with (go_at_call 43; ((with_reducible refine (HL.out _).mono ?_); rintro e w1 ⟨rfl, hk1⟩))
    have hk1' := hk1.alloc (.cells #[.int .u8 y0, .int .u8 y1, .int .u8 y2, .int .u8 y3, .int .u8 y4, .int .u8 y5, .int .u8 y6, .int .u8 y7] 83)
    refine (bbytes_full ok _ g bs _ most ps _ _ (hb.kp hk1' (fun _ _ h => h)) (HB.out w1 (by omega)) (by rw [beB_length]; exact hlen)).mono ?_
    rintro e w2 ⟨rfl, hb2, hk2⟩
    go_wp2_with fail
    go_ret
    exact ⟨rfl, hb2, hk1'.then_ hk2 (fun _ h => h.elim)⟩

end Go.Proofs.Ytgndammlhljfjaa
