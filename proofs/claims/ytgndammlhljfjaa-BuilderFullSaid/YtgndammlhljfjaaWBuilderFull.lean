/-
  BuilderFull: the walk.
-/
import Derived.Test.YtgndammlhljfjaaL02
namespace Go.Proofs.Ytgndammlhljfjaa
open Go.RowKit

theorem zeros_bc (n : Nat) : (madeCells (Value.int .u8 0).cells (n * 1)).toList = bc (List.replicate n 0) := by
  have h : ∀ x : Nat, [Value.int .u8 0][x % 1]?.getD default = Value.int .u8 0 := fun x => by rw [Nat.mod_one]; rfl
  have h2 : ∀ (a : Value) (n : Nat), List.map (fun _ => a) (List.range n) = List.replicate n a := fun a n => by
    apply List.eq_replicate_iff.2
    simp
  simp [madeCells, bc, Value.cells, h, h2]

/-- 'b[:min(len(b), 300)]'. -/
theorem cut300 {w : World} {A : Option Addr} {c : Nat} {l : List UInt8} (hr : Rd w (· < w.heap.size) 1 A l.length (bc l)) (hlc : l.length ≤ c) (h : 300 < l.length) : BR w (· < w.heap.size) (.slice A 300 c) (l.take 300) := by
  have := hr.take (k := 300) (by omega)
  rw [Nat.mul_one, bc_take] at this
  have hlen : (l.take 300).length = 300 := by simp; omega
  exact ⟨A, c, by rw [hlen], by omega, by rw [hlen]; exact this⟩

set_option maxRecDepth 100000 in
set_option maxHeartbeats 3200000 in
theorem bfull_walk (w : World) (most : Int) (_h0 : (Lit.int .i64 most).wf = true) (v : Value) (l : List UInt8) (hv : BR w (· < w.heap.size) v l) (hl : l.length ≤ 140737488351232) :
    Calls Try.prog 9 #[.int .i64 most, v] w fun e w' => e = .returned (.bool true) ∧ Below w.heap.size w w' := by
  obtain ⟨A, c, rfl, hlc, hr⟩ := id hv
  obtain ⟨i0, hi0, hz0, hz1, hz2⟩ := info_parts u8_info'
  by_cases hm : 0 < most
  · obtain ⟨n, hn⟩ : ∃ n : Nat, most % 200 = n := ⟨(most % 200).toNat, by omega⟩
    have hn200 : n < 200 := by omega
    by_cases h300 : 300 < l.length
    · have hx := cut300 hr hlc h300
      have hxl : (l.take 300).length = 300 := by simp; omega
      go_enter Try.func9, Try.ntmps9
      go_wp2_with fail
      refine (bnew_ok n (by omega) _).mono ?_
      rintro e w1 ⟨g, rfl, hg, hb1, hk1⟩
      have hb1 := hb1.base hg
      go_wp2_with fail
      refine (alive02 _).mono ?_
      rintro e w2 ⟨rfl, hk2⟩
      have hb2 := hb1.kp_new hk2
      have hh2 := hk1.then_ hk2 (fun _ h => h.elim)
      have hx2 := hx.kp hh2 (fun _ _ h => h)
      have hz2' := hh2.size
      go_wp2_with fail
      refine (bbytes_full _ _ g [] (l.take 300) n [] _ _ hb2 hx2 (by (try simp); (try omega))).mono ?_
      rintro e w3 ⟨rfl, hb3, hk3⟩
      have hh3 := hh2.then_ hk3 (fun _ h => h.elim)
      have hz3 := hh3.size
      have hb4' : ∀ v4 w4, w4.ownsRow w3.heap.size 5 1 (.slice (some ⟨w3.heap.size, 0, none⟩) n n) n (madeCells (Value.int .u8 0).cells (n * 1)).toList → w3.grownBy w4 none → v4 = Value.slice (some ⟨w3.heap.size, 0, none⟩) n n → BR w4 (· = w3.heap.size) v4 (List.replicate n 0) ∧ Kp (fun _ => False) w3 w4 := by
        rintro v4 w4 h1 h2 rfl
        rw [zeros_bc] at h1
        exact ⟨BR.of_own h1 (fun k hk => by simpa [Value.ownBlock] using hk.symm), (Kp.refl _ _).grown h2 (fun k hk => by cases hk)⟩
      have HB4 := Lib.hid hb4'
      clear hb4'
      go_wp2_with (at_make; refine wpList_make_full w3 rfl _ _ _ rfl w3.heap.size 5 i0 _ 1 Try.underlying22 hi0 hz0 hz1 .i64 .i64 _ _ n rfl rfl (by omega) (by omega) (by rw [hz2]; omega) (by simp only [maxLen]; omega) (Nat.le_refl _) ?_; intro w4 hown hgrow; have hown' := Lib.hid hown; clear hown)
      obtain ⟨hbr4, hk4⟩ := HB4.out _ _ hown'.out hgrow rfl
      have hb4 := hb3.kp_new hk4
      have hh4 := hh3.then_ hk4 (fun _ h => h.elim)
      have hz4 := hh4.size
      refine (bbytes_ok _ _ g [] (List.replicate n 0) n [] _ _ hb4 hbr4 (by (try simp); (try omega))).mono ?_
      intro e w5 hst
      obtain ⟨rfl, hb5, hk5⟩ := hst.base hz4
      have hh5 := kp_base hh4 hk5
      have hz5 := hh5.size
      obtain ⟨bs5, hbs5⟩ : ∃ bs5 : List UInt8, [] ++ (List.replicate n 0) = bs5 := ⟨_, rfl⟩
      have hlen5 : bs5.length = n := by rw [← hbs5]; (try simp); (try omega)
      rw [hbs5] at hb5
      clear hbs5
      have hone : BR (w5.alloc (.cells #[.int .u8 1] 5)) (· = w5.heap.size) (.slice (some ⟨w5.heap.size, 0, none⟩) 1 1) [1] := BR.lit w5 _ [1] _ 1 rfl rfl
      have hka : Kp (fun _ => False) w5 (w5.alloc (.cells #[.int .u8 1] 5)) := (Kp.refl _ _).alloc _
      have hb5a := hb5.kp_new hka
      have HL5 := Lib.hid hlen5
      clear hlen5
      go_wp2_with fail
      refine (bbytes_full _ _ g bs5 [1] n [] _ _ hb5a hone (by rw [HL5.out]; simp)).mono ?_
      rintro e w6 ⟨rfl, hb6, hk6⟩
      have hh6 := (hh5.then_ hka (fun _ h => h.elim)).then_ hk6 (fun _ h => h.elim)
      go_wp2_with fail
      refine (bnumber_full _ g bs5 n [] 1 0 (by omega) _ hb6 (by decide) (by decide) (by rw [HL5.out]; omega)).mono ?_
      rintro e w7 ⟨rfl, hb7, hk7⟩
      have hh7 := hh6.then_ hk7 (fun _ h => h.elim)
      go_wp2_with fail
      refine (bopen_full _ g bs5 n [] 1 (by omega) (by omega) _ hb7 (by rw [HL5.out]; omega)).mono ?_
      rintro e w8 ⟨rfl, hb8, hk8⟩
      have hh8 := hh7.then_ hk8 (fun _ h => h.elim)
      go_wp2_with fail
      refine (bbytes_ok _ (fun _ => False) g bs5 [] n [] _ _ hb8 BR.nil (by rw [HL5.out]; simp)).mono ?_
      intro e w9 hst
      obtain ⟨rfl, hb9, hk9⟩ := hst.base hh8.size
      have hh9 := kp_base hh8 hk9
      rw [List.append_nil] at hb9
      go_wp2_with fail
      refine (bdone_at _ g bs5 n n _ hb9 HL5.out).mono ?_
      rintro e w10 ⟨A1, c1, rfl, hl1, hy1, hb10, hk10⟩
      have hh10 := hh9.then_ hk10 (fun _ h => h.elim)
      go_wp2_with fail
      go_ret
      exact ⟨by simp, hh10.below⟩
    · have hx := hv
      by_cases hfit : l.length ≤ n
      · go_enter Try.func9, Try.ntmps9
        go_wp2_with fail
        refine (bnew_ok n (by omega) _).mono ?_
        rintro e w1 ⟨g, rfl, hg, hb1, hk1⟩
        have hb1 := hb1.base hg
        go_wp2_with fail
        refine (alive02 _).mono ?_
        rintro e w2 ⟨rfl, hk2⟩
        have hb2 := hb1.kp_new hk2
        have hh2 := hk1.then_ hk2 (fun _ h => h.elim)
        have hx2 := hx.kp hh2 (fun _ _ h => h)
        have hz2' := hh2.size
        go_wp2_with fail
        refine (bbytes_ok _ _ g [] l n [] _ _ hb2 hx2 (by (try simp); (try omega))).mono ?_
        intro e w3 hst
        obtain ⟨rfl, hb3, hk3⟩ := hst.base hz2'
        have hh3 := kp_base hh2 hk3
        have hz3 := hh3.size
        have hb4' : ∀ v4 w4, w4.ownsRow w3.heap.size 5 1 (.slice (some ⟨w3.heap.size, 0, none⟩) (n - l.length) (n - l.length)) (n - l.length) (madeCells (Value.int .u8 0).cells ((n - l.length) * 1)).toList → w3.grownBy w4 none → v4 = Value.slice (some ⟨w3.heap.size, 0, none⟩) (n - l.length) (n - l.length) → BR w4 (· = w3.heap.size) v4 (List.replicate (n - l.length) 0) ∧ Kp (fun _ => False) w3 w4 := by
          rintro v4 w4 h1 h2 rfl
          rw [zeros_bc] at h1
          exact ⟨BR.of_own h1 (fun k hk => by simpa [Value.ownBlock] using hk.symm), (Kp.refl _ _).grown h2 (fun k hk => by cases hk)⟩
        have HB4 := Lib.hid hb4'
        clear hb4'
        go_wp2_with (at_make; refine wpList_make_full w3 rfl _ _ _ rfl w3.heap.size 5 i0 _ 1 Try.underlying22 hi0 hz0 hz1 .i64 .i64 _ _ (n - l.length) rfl rfl (by omega) (by omega) (by rw [hz2]; omega) (by simp only [maxLen]; omega) (Nat.le_refl _) ?_; intro w4 hown hgrow; have hown' := Lib.hid hown; clear hown)
        obtain ⟨hbr4, hk4⟩ := HB4.out _ _ hown'.out hgrow rfl
        have hb4 := hb3.kp_new hk4
        have hh4 := hh3.then_ hk4 (fun _ h => h.elim)
        have hz4 := hh4.size
        refine (bbytes_ok _ _ g ([] ++ l) (List.replicate (n - l.length) 0) n [] _ _ hb4 hbr4 (by (try simp); (try omega))).mono ?_
        intro e w5 hst
        obtain ⟨rfl, hb5, hk5⟩ := hst.base hz4
        have hh5 := kp_base hh4 hk5
        have hz5 := hh5.size
        obtain ⟨bs5, hbs5⟩ : ∃ bs5 : List UInt8, ([] ++ l) ++ (List.replicate (n - l.length) 0) = bs5 := ⟨_, rfl⟩
        have hlen5 : bs5.length = n := by rw [← hbs5]; (try simp); (try omega)
        rw [hbs5] at hb5
        clear hbs5
        have hone : BR (w5.alloc (.cells #[.int .u8 1] 5)) (· = w5.heap.size) (.slice (some ⟨w5.heap.size, 0, none⟩) 1 1) [1] := BR.lit w5 _ [1] _ 1 rfl rfl
        have hka : Kp (fun _ => False) w5 (w5.alloc (.cells #[.int .u8 1] 5)) := (Kp.refl _ _).alloc _
        have hb5a := hb5.kp_new hka
        have HL5 := Lib.hid hlen5
        clear hlen5
        go_wp2_with fail
        refine (bbytes_full _ _ g bs5 [1] n [] _ _ hb5a hone (by rw [HL5.out]; simp)).mono ?_
        rintro e w6 ⟨rfl, hb6, hk6⟩
        have hh6 := (hh5.then_ hka (fun _ h => h.elim)).then_ hk6 (fun _ h => h.elim)
        go_wp2_with fail
        refine (bnumber_full _ g bs5 n [] 1 0 (by omega) _ hb6 (by decide) (by decide) (by rw [HL5.out]; omega)).mono ?_
        rintro e w7 ⟨rfl, hb7, hk7⟩
        have hh7 := hh6.then_ hk7 (fun _ h => h.elim)
        go_wp2_with fail
        refine (bopen_full _ g bs5 n [] 1 (by omega) (by omega) _ hb7 (by rw [HL5.out]; omega)).mono ?_
        rintro e w8 ⟨rfl, hb8, hk8⟩
        have hh8 := hh7.then_ hk8 (fun _ h => h.elim)
        go_wp2_with fail
        refine (bbytes_ok _ (fun _ => False) g bs5 [] n [] _ _ hb8 BR.nil (by rw [HL5.out]; simp)).mono ?_
        intro e w9 hst
        obtain ⟨rfl, hb9, hk9⟩ := hst.base hh8.size
        have hh9 := kp_base hh8 hk9
        rw [List.append_nil] at hb9
        go_wp2_with fail
        refine (bdone_at _ g bs5 n n _ hb9 HL5.out).mono ?_
        rintro e w10 ⟨A1, c1, rfl, hl1, hy1, hb10, hk10⟩
        have hh10 := hh9.then_ hk10 (fun _ h => h.elim)
        go_wp2_with fail
        go_ret
        exact ⟨by simp, hh10.below⟩
      · go_enter Try.func9, Try.ntmps9
        go_wp2_with fail
        refine (bnew_ok n (by omega) _).mono ?_
        rintro e w1 ⟨g, rfl, hg, hb1, hk1⟩
        have hb1 := hb1.base hg
        go_wp2_with fail
        refine (alive02 _).mono ?_
        rintro e w2 ⟨rfl, hk2⟩
        have hb2 := hb1.kp_new hk2
        have hh2 := hk1.then_ hk2 (fun _ h => h.elim)
        have hx2 := hx.kp hh2 (fun _ _ h => h)
        have hz2' := hh2.size
        go_wp2_with fail
        refine (bbytes_full _ _ g [] l n [] _ _ hb2 hx2 (by (try simp); (try omega))).mono ?_
        rintro e w3 ⟨rfl, hb3, hk3⟩
        have hh3 := hh2.then_ hk3 (fun _ h => h.elim)
        have hz3 := hh3.size
        have hb4' : ∀ v4 w4, w4.ownsRow w3.heap.size 5 1 (.slice (some ⟨w3.heap.size, 0, none⟩) n n) n (madeCells (Value.int .u8 0).cells (n * 1)).toList → w3.grownBy w4 none → v4 = Value.slice (some ⟨w3.heap.size, 0, none⟩) n n → BR w4 (· = w3.heap.size) v4 (List.replicate n 0) ∧ Kp (fun _ => False) w3 w4 := by
          rintro v4 w4 h1 h2 rfl
          rw [zeros_bc] at h1
          exact ⟨BR.of_own h1 (fun k hk => by simpa [Value.ownBlock] using hk.symm), (Kp.refl _ _).grown h2 (fun k hk => by cases hk)⟩
        have HB4 := Lib.hid hb4'
        clear hb4'
        go_wp2_with (at_make; refine wpList_make_full w3 rfl _ _ _ rfl w3.heap.size 5 i0 _ 1 Try.underlying22 hi0 hz0 hz1 .i64 .i64 _ _ n rfl rfl (by omega) (by omega) (by rw [hz2]; omega) (by simp only [maxLen]; omega) (Nat.le_refl _) ?_; intro w4 hown hgrow; have hown' := Lib.hid hown; clear hown)
        obtain ⟨hbr4, hk4⟩ := HB4.out _ _ hown'.out hgrow rfl
        have hb4 := hb3.kp_new hk4
        have hh4 := hh3.then_ hk4 (fun _ h => h.elim)
        have hz4 := hh4.size
        refine (bbytes_ok _ _ g [] (List.replicate n 0) n [] _ _ hb4 hbr4 (by (try simp); (try omega))).mono ?_
        intro e w5 hst
        obtain ⟨rfl, hb5, hk5⟩ := hst.base hz4
        have hh5 := kp_base hh4 hk5
        have hz5 := hh5.size
        obtain ⟨bs5, hbs5⟩ : ∃ bs5 : List UInt8, [] ++ (List.replicate n 0) = bs5 := ⟨_, rfl⟩
        have hlen5 : bs5.length = n := by rw [← hbs5]; (try simp); (try omega)
        rw [hbs5] at hb5
        clear hbs5
        have hone : BR (w5.alloc (.cells #[.int .u8 1] 5)) (· = w5.heap.size) (.slice (some ⟨w5.heap.size, 0, none⟩) 1 1) [1] := BR.lit w5 _ [1] _ 1 rfl rfl
        have hka : Kp (fun _ => False) w5 (w5.alloc (.cells #[.int .u8 1] 5)) := (Kp.refl _ _).alloc _
        have hb5a := hb5.kp_new hka
        have HL5 := Lib.hid hlen5
        clear hlen5
        go_wp2_with fail
        refine (bbytes_full _ _ g bs5 [1] n [] _ _ hb5a hone (by rw [HL5.out]; simp)).mono ?_
        rintro e w6 ⟨rfl, hb6, hk6⟩
        have hh6 := (hh5.then_ hka (fun _ h => h.elim)).then_ hk6 (fun _ h => h.elim)
        go_wp2_with fail
        refine (bnumber_full _ g bs5 n [] 1 0 (by omega) _ hb6 (by decide) (by decide) (by rw [HL5.out]; omega)).mono ?_
        rintro e w7 ⟨rfl, hb7, hk7⟩
        have hh7 := hh6.then_ hk7 (fun _ h => h.elim)
        go_wp2_with fail
        refine (bopen_full _ g bs5 n [] 1 (by omega) (by omega) _ hb7 (by rw [HL5.out]; omega)).mono ?_
        rintro e w8 ⟨rfl, hb8, hk8⟩
        have hh8 := hh7.then_ hk8 (fun _ h => h.elim)
        go_wp2_with fail
        refine (bbytes_ok _ (fun _ => False) g bs5 [] n [] _ _ hb8 BR.nil (by rw [HL5.out]; simp)).mono ?_
        intro e w9 hst
        obtain ⟨rfl, hb9, hk9⟩ := hst.base hh8.size
        have hh9 := kp_base hh8 hk9
        rw [List.append_nil] at hb9
        go_wp2_with fail
        refine (bdone_at _ g bs5 n n _ hb9 HL5.out).mono ?_
        rintro e w10 ⟨A1, c1, rfl, hl1, hy1, hb10, hk10⟩
        have hh10 := hh9.then_ hk10 (fun _ h => h.elim)
        go_wp2_with fail
        go_ret
        exact ⟨by simp, hh10.below⟩
  · have hneg : most ≤ 0 := by omega
    by_cases h300 : 300 < l.length
    · have hx := cut300 hr hlc h300
      have hxl : (l.take 300).length = 300 := by simp; omega
      go_enter Try.func9, Try.ntmps9
      go_wp2_with fail
      refine (bnew_ok 0 (by omega) _).mono ?_
      rintro e w1 ⟨g, rfl, hg, hb1, hk1⟩
      have hb1 := hb1.base hg
      go_wp2_with fail
      refine (alive02 _).mono ?_
      rintro e w2 ⟨rfl, hk2⟩
      have hb2 := hb1.kp_new hk2
      have hh2 := hk1.then_ hk2 (fun _ h => h.elim)
      have hx2 := hx.kp hh2 (fun _ _ h => h)
      have hz2' := hh2.size
      go_wp2_with fail
      refine (bbytes_full _ _ g [] (l.take 300) 0 [] _ _ hb2 hx2 (by (try simp); (try omega))).mono ?_
      rintro e w3 ⟨rfl, hb3, hk3⟩
      have hh3 := hh2.then_ hk3 (fun _ h => h.elim)
      have hz3 := hh3.size
      have hb4' : ∀ v4 w4, w4.ownsRow w3.heap.size 5 1 (.slice (some ⟨w3.heap.size, 0, none⟩) 0 0) 0 (madeCells (Value.int .u8 0).cells (0 * 1)).toList → w3.grownBy w4 none → v4 = Value.slice (some ⟨w3.heap.size, 0, none⟩) 0 0 → BR w4 (· = w3.heap.size) v4 (List.replicate 0 0) ∧ Kp (fun _ => False) w3 w4 := by
        rintro v4 w4 h1 h2 rfl
        rw [zeros_bc] at h1
        exact ⟨BR.of_own h1 (fun k hk => by simpa [Value.ownBlock] using hk.symm), (Kp.refl _ _).grown h2 (fun k hk => by cases hk)⟩
      have HB4 := Lib.hid hb4'
      clear hb4'
      go_wp2_with (at_make; refine wpList_make_full w3 rfl _ _ _ rfl w3.heap.size 5 i0 _ 1 Try.underlying22 hi0 hz0 hz1 .i64 .i64 _ _ 0 rfl rfl (by omega) (by omega) (by rw [hz2]; omega) (by simp only [maxLen]; omega) (Nat.le_refl _) ?_; intro w4 hown hgrow; have hown' := Lib.hid hown; clear hown)
      obtain ⟨hbr4, hk4⟩ := HB4.out _ _ hown'.out hgrow rfl
      have hb4 := hb3.kp_new hk4
      have hh4 := hh3.then_ hk4 (fun _ h => h.elim)
      have hz4 := hh4.size
      refine (bbytes_ok _ _ g [] (List.replicate 0 0) 0 [] _ _ hb4 hbr4 (by (try simp); (try omega))).mono ?_
      intro e w5 hst
      obtain ⟨rfl, hb5, hk5⟩ := hst.base hz4
      have hh5 := kp_base hh4 hk5
      have hz5 := hh5.size
      obtain ⟨bs5, hbs5⟩ : ∃ bs5 : List UInt8, [] ++ (List.replicate 0 0) = bs5 := ⟨_, rfl⟩
      have hlen5 : bs5.length = 0 := by rw [← hbs5]; (try simp); (try omega)
      rw [hbs5] at hb5
      clear hbs5
      have hone : BR (w5.alloc (.cells #[.int .u8 1] 5)) (· = w5.heap.size) (.slice (some ⟨w5.heap.size, 0, none⟩) 1 1) [1] := BR.lit w5 _ [1] _ 1 rfl rfl
      have hka : Kp (fun _ => False) w5 (w5.alloc (.cells #[.int .u8 1] 5)) := (Kp.refl _ _).alloc _
      have hb5a := hb5.kp_new hka
      have HL5 := Lib.hid hlen5
      clear hlen5
      go_wp2_with fail
      refine (bbytes_full _ _ g bs5 [1] 0 [] _ _ hb5a hone (by rw [HL5.out]; simp)).mono ?_
      rintro e w6 ⟨rfl, hb6, hk6⟩
      have hh6 := (hh5.then_ hka (fun _ h => h.elim)).then_ hk6 (fun _ h => h.elim)
      go_wp2_with fail
      refine (bnumber_full _ g bs5 0 [] 1 0 (by omega) _ hb6 (by decide) (by decide) (by rw [HL5.out]; omega)).mono ?_
      rintro e w7 ⟨rfl, hb7, hk7⟩
      have hh7 := hh6.then_ hk7 (fun _ h => h.elim)
      go_wp2_with fail
      refine (bopen_full _ g bs5 0 [] 1 (by omega) (by omega) _ hb7 (by rw [HL5.out]; omega)).mono ?_
      rintro e w8 ⟨rfl, hb8, hk8⟩
      have hh8 := hh7.then_ hk8 (fun _ h => h.elim)
      go_wp2_with fail
      refine (bbytes_ok _ (fun _ => False) g bs5 [] 0 [] _ _ hb8 BR.nil (by rw [HL5.out]; simp)).mono ?_
      intro e w9 hst
      obtain ⟨rfl, hb9, hk9⟩ := hst.base hh8.size
      have hh9 := kp_base hh8 hk9
      rw [List.append_nil] at hb9
      go_wp2_with fail
      refine (bdone_at _ g bs5 0 0 _ hb9 HL5.out).mono ?_
      rintro e w10 ⟨A1, c1, rfl, hl1, hy1, hb10, hk10⟩
      have hh10 := hh9.then_ hk10 (fun _ h => h.elim)
      go_wp2_with fail
      go_ret
      exact ⟨by simp, hh10.below⟩
    · have hx := hv
      by_cases hfit : l.length ≤ 0
      · obtain rfl : l = [] := List.eq_nil_of_length_eq_zero (by omega)
        go_enter Try.func9, Try.ntmps9
        go_wp2_with fail
        refine (bnew_ok 0 (by omega) _).mono ?_
        rintro e w1 ⟨g, rfl, hg, hb1, hk1⟩
        have hb1 := hb1.base hg
        go_wp2_with fail
        refine (alive02 _).mono ?_
        rintro e w2 ⟨rfl, hk2⟩
        have hb2 := hb1.kp_new hk2
        have hh2 := hk1.then_ hk2 (fun _ h => h.elim)
        have hx2 := hx.kp hh2 (fun _ _ h => h)
        have hz2' := hh2.size
        go_wp2_with fail
        refine (bbytes_ok _ _ g [] [] 0 [] _ _ hb2 hx2 (by (try simp); (try omega))).mono ?_
        intro e w3 hst
        obtain ⟨rfl, hb3, hk3⟩ := hst.base hz2'
        have hh3 := kp_base hh2 hk3
        have hz3 := hh3.size
        have hb4' : ∀ v4 w4, w4.ownsRow w3.heap.size 5 1 (.slice (some ⟨w3.heap.size, 0, none⟩) 0 0) 0 (madeCells (Value.int .u8 0).cells (0 * 1)).toList → w3.grownBy w4 none → v4 = Value.slice (some ⟨w3.heap.size, 0, none⟩) 0 0 → BR w4 (· = w3.heap.size) v4 (List.replicate 0 0) ∧ Kp (fun _ => False) w3 w4 := by
          rintro v4 w4 h1 h2 rfl
          rw [zeros_bc] at h1
          exact ⟨BR.of_own h1 (fun k hk => by simpa [Value.ownBlock] using hk.symm), (Kp.refl _ _).grown h2 (fun k hk => by cases hk)⟩
        have HB4 := Lib.hid hb4'
        clear hb4'
        go_wp2_with (at_make; refine wpList_make_full w3 rfl _ _ _ rfl w3.heap.size 5 i0 _ 1 Try.underlying22 hi0 hz0 hz1 .i64 .i64 _ _ 0 rfl rfl (by omega) (by omega) (by rw [hz2]; omega) (by simp only [maxLen]; omega) (Nat.le_refl _) ?_; intro w4 hown hgrow; have hown' := Lib.hid hown; clear hown)
        obtain ⟨hbr4, hk4⟩ := HB4.out _ _ hown'.out hgrow rfl
        have hb4 := hb3.kp_new hk4
        have hh4 := hh3.then_ hk4 (fun _ h => h.elim)
        have hz4 := hh4.size
        refine (bbytes_ok _ _ g ([] ++ []) (List.replicate 0 0) 0 [] _ _ hb4 hbr4 (by (try simp); (try omega))).mono ?_
        intro e w5 hst
        obtain ⟨rfl, hb5, hk5⟩ := hst.base hz4
        have hh5 := kp_base hh4 hk5
        have hz5 := hh5.size
        obtain ⟨bs5, hbs5⟩ : ∃ bs5 : List UInt8, ([] ++ []) ++ (List.replicate 0 0) = bs5 := ⟨_, rfl⟩
        have hlen5 : bs5.length = 0 := by rw [← hbs5]; (try simp); (try omega)
        rw [hbs5] at hb5
        clear hbs5
        have hone : BR (w5.alloc (.cells #[.int .u8 1] 5)) (· = w5.heap.size) (.slice (some ⟨w5.heap.size, 0, none⟩) 1 1) [1] := BR.lit w5 _ [1] _ 1 rfl rfl
        have hka : Kp (fun _ => False) w5 (w5.alloc (.cells #[.int .u8 1] 5)) := (Kp.refl _ _).alloc _
        have hb5a := hb5.kp_new hka
        have HL5 := Lib.hid hlen5
        clear hlen5
        go_wp2_with fail
        refine (bbytes_full _ _ g bs5 [1] 0 [] _ _ hb5a hone (by rw [HL5.out]; simp)).mono ?_
        rintro e w6 ⟨rfl, hb6, hk6⟩
        have hh6 := (hh5.then_ hka (fun _ h => h.elim)).then_ hk6 (fun _ h => h.elim)
        go_wp2_with fail
        refine (bnumber_full _ g bs5 0 [] 1 0 (by omega) _ hb6 (by decide) (by decide) (by rw [HL5.out]; omega)).mono ?_
        rintro e w7 ⟨rfl, hb7, hk7⟩
        have hh7 := hh6.then_ hk7 (fun _ h => h.elim)
        go_wp2_with fail
        refine (bopen_full _ g bs5 0 [] 1 (by omega) (by omega) _ hb7 (by rw [HL5.out]; omega)).mono ?_
        rintro e w8 ⟨rfl, hb8, hk8⟩
        have hh8 := hh7.then_ hk8 (fun _ h => h.elim)
        go_wp2_with fail
        refine (bbytes_ok _ (fun _ => False) g bs5 [] 0 [] _ _ hb8 BR.nil (by rw [HL5.out]; simp)).mono ?_
        intro e w9 hst
        obtain ⟨rfl, hb9, hk9⟩ := hst.base hh8.size
        have hh9 := kp_base hh8 hk9
        rw [List.append_nil] at hb9
        go_wp2_with fail
        refine (bdone_at _ g bs5 0 0 _ hb9 HL5.out).mono ?_
        rintro e w10 ⟨A1, c1, rfl, hl1, hy1, hb10, hk10⟩
        have hh10 := hh9.then_ hk10 (fun _ h => h.elim)
        go_wp2_with fail
        go_ret
        exact ⟨by simp, hh10.below⟩
      · have hne : l.length ≠ 0 := by omega
        have hq1 : decide ((l.length : Int) ≤ 0) = false := decide_eq_false (by omega)
        have hq2 : (l.length == 0) = false := beq_false_of_ne hne
        go_enter Try.func9, Try.ntmps9
        go_wp2_with fail
        refine (bnew_ok 0 (by omega) _).mono ?_
        rintro e w1 ⟨g, rfl, hg, hb1, hk1⟩
        have hb1 := hb1.base hg
        go_wp2_with fail
        refine (alive02 _).mono ?_
        rintro e w2 ⟨rfl, hk2⟩
        have hb2 := hb1.kp_new hk2
        have hh2 := hk1.then_ hk2 (fun _ h => h.elim)
        have hx2 := hx.kp hh2 (fun _ _ h => h)
        have hz2' := hh2.size
        go_wp2_with fail
        refine (bbytes_full _ _ g [] l 0 [] _ _ hb2 hx2 (by (try simp); (try omega))).mono ?_
        rintro e w3 ⟨rfl, hb3, hk3⟩
        have hh3 := hh2.then_ hk3 (fun _ h => h.elim)
        have hz3 := hh3.size
        have hb4' : ∀ v4 w4, w4.ownsRow w3.heap.size 5 1 (.slice (some ⟨w3.heap.size, 0, none⟩) 0 0) 0 (madeCells (Value.int .u8 0).cells (0 * 1)).toList → w3.grownBy w4 none → v4 = Value.slice (some ⟨w3.heap.size, 0, none⟩) 0 0 → BR w4 (· = w3.heap.size) v4 (List.replicate 0 0) ∧ Kp (fun _ => False) w3 w4 := by
          rintro v4 w4 h1 h2 rfl
          rw [zeros_bc] at h1
          exact ⟨BR.of_own h1 (fun k hk => by simpa [Value.ownBlock] using hk.symm), (Kp.refl _ _).grown h2 (fun k hk => by cases hk)⟩
        have HB4 := Lib.hid hb4'
        clear hb4'
        go_wp2_with (at_make; refine wpList_make_full w3 rfl _ _ _ rfl w3.heap.size 5 i0 _ 1 Try.underlying22 hi0 hz0 hz1 .i64 .i64 _ _ 0 rfl rfl (by omega) (by omega) (by rw [hz2]; omega) (by simp only [maxLen]; omega) (Nat.le_refl _) ?_; intro w4 hown hgrow; have hown' := Lib.hid hown; clear hown)
        obtain ⟨hbr4, hk4⟩ := HB4.out _ _ hown'.out hgrow rfl
        have hb4 := hb3.kp_new hk4
        have hh4 := hh3.then_ hk4 (fun _ h => h.elim)
        have hz4 := hh4.size
        refine (bbytes_ok _ _ g [] (List.replicate 0 0) 0 [] _ _ hb4 hbr4 (by (try simp); (try omega))).mono ?_
        intro e w5 hst
        obtain ⟨rfl, hb5, hk5⟩ := hst.base hz4
        have hh5 := kp_base hh4 hk5
        have hz5 := hh5.size
        obtain ⟨bs5, hbs5⟩ : ∃ bs5 : List UInt8, [] ++ (List.replicate 0 0) = bs5 := ⟨_, rfl⟩
        have hlen5 : bs5.length = 0 := by rw [← hbs5]; (try simp); (try omega)
        rw [hbs5] at hb5
        clear hbs5
        have hone : BR (w5.alloc (.cells #[.int .u8 1] 5)) (· = w5.heap.size) (.slice (some ⟨w5.heap.size, 0, none⟩) 1 1) [1] := BR.lit w5 _ [1] _ 1 rfl rfl
        have hka : Kp (fun _ => False) w5 (w5.alloc (.cells #[.int .u8 1] 5)) := (Kp.refl _ _).alloc _
        have hb5a := hb5.kp_new hka
        have HL5 := Lib.hid hlen5
        clear hlen5
        go_wp2_with fail
        refine (bbytes_full _ _ g bs5 [1] 0 [] _ _ hb5a hone (by rw [HL5.out]; simp)).mono ?_
        rintro e w6 ⟨rfl, hb6, hk6⟩
        have hh6 := (hh5.then_ hka (fun _ h => h.elim)).then_ hk6 (fun _ h => h.elim)
        go_wp2_with fail
        refine (bnumber_full _ g bs5 0 [] 1 0 (by omega) _ hb6 (by decide) (by decide) (by rw [HL5.out]; omega)).mono ?_
        rintro e w7 ⟨rfl, hb7, hk7⟩
        have hh7 := hh6.then_ hk7 (fun _ h => h.elim)
        go_wp2_with fail
        refine (bopen_full _ g bs5 0 [] 1 (by omega) (by omega) _ hb7 (by rw [HL5.out]; omega)).mono ?_
        rintro e w8 ⟨rfl, hb8, hk8⟩
        have hh8 := hh7.then_ hk8 (fun _ h => h.elim)
        go_wp2_with fail
        refine (bbytes_ok _ (fun _ => False) g bs5 [] 0 [] _ _ hb8 BR.nil (by rw [HL5.out]; simp)).mono ?_
        intro e w9 hst
        obtain ⟨rfl, hb9, hk9⟩ := hst.base hh8.size
        have hh9 := kp_base hh8 hk9
        rw [List.append_nil] at hb9
        go_wp2_with fail
        refine (bdone_at _ g bs5 0 0 _ hb9 HL5.out).mono ?_
        rintro e w10 ⟨A1, c1, rfl, hl1, hy1, hb10, hk10⟩
        have hh10 := hh9.then_ hk10 (fun _ h => h.elim)
        go_wp2_with fail
        go_ret
        exact ⟨by simp, hh10.below⟩

end Go.Proofs.Ytgndammlhljfjaa
