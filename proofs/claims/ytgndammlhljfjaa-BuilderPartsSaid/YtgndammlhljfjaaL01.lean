/-
  The laws of the cursor: the walks.
-/
import Derived.Test.YtgndammlhljfjaaCur
import Derived.Deep.RegionWith
namespace Go.Proofs.Ytgndammlhljfjaa
open Go.RowKit

/-- Number, of a number that is known. -/
theorem number_at (ok : Nat → Prop) (g : Nat) (l : List UInt8) (a n : Int) (w : World) (hc : Cur w ok g l a) (hok : ¬ ok g) (hl : l.length ≤ 140737488351232) (ha : 0 ≤ a) (hal : a + l.length ≤ 9223372036854775807)
    (got rest : List UInt8) (er x b : Int) (h1 : nn l n = (got, er)) (h2 : (be got : Int) = x) (h3 : l.drop got.length = rest) (h4 : a + got.length = b) :
    Calls Try.prog 17 #[.pointer (some ⟨g, 0, none⟩), .int .i64 n] w fun e w' => e = .returned (.tuple #[.int .u64 x, .int .i64 er]) ∧ Cur w' ok g rest b ∧ Kp (· = g) w w' := by
  refine (number_any ok g l a n w hc hok hl ha hal).mono ?_
  rintro e w' ⟨rfl, hcur, hk⟩
  rw [h1] at hcur ⊢
  exact ⟨by rw [h2], by simpa only [h3, h4] using hcur, hk⟩

theorem take_at (ok : Nat → Prop) (g : Nat) (l : List UInt8) (a n : Int) (w : World) (hc : Cur w ok g l a) (hok : ¬ ok g) (hl : l.length ≤ 140737488351232) (ha : 0 ≤ a) (hal : a + l.length ≤ 9223372036854775807)
    (got rest : List UInt8) (er b : Int) (k : Nat) (h1 : nx l n = (got, er)) (h2 : got.length = k) (h3 : l.drop k = rest) (h4 : a + k = b) :
    Calls Try.prog 21 #[.pointer (some ⟨g, 0, none⟩), .int .i64 n] w fun e w' => ∃ A c, e = .returned (.tuple #[.slice A k c, .int .i64 er]) ∧ k ≤ c ∧ BR w' (fun i => w.heap.size ≤ i) (.slice A k c) got ∧ Cur w' ok g rest b ∧ Kp (· = g) w w' := by
  refine (take_any ok g l a n w hc hok hl ha hal).mono ?_
  rintro e w' ⟨v, rfl, hb, hcur, hk⟩
  rw [h1] at hb hcur ⊢
  obtain ⟨A, c, rfl, h5, h6⟩ := id hb
  simp only at hb h5 h6 hcur ⊢
  rw [h2] at hb h5 hcur ⊢
  rw [h3, h4] at hcur
  exact ⟨A, c, rfl, h5, hb, hcur, hk⟩

theorem place_any (n : Int) (w : World) : Calls Try.prog 19 #[.int .i64 n] w fun e w' => ∃ p : Nat, e = .returned (.int .i64 p) ∧ p < 1099511627776 ∧ w = w' := by
  obtain ⟨j, hj, hlt⟩ := mod_base n
  go_enter Try.func19, Try.ntmps19
  go_wp2_with fail
  go_ret
  exact ⟨j, by rw [← hj]; rfl, hlt, rfl⟩

/-- An act: its kind, its number. -/
def actc (x : Int × Int) : List Value := [.int .i64 x.1, .int .i64 x.2]
def AR (w : World) (ok : Nat → Prop) (v : Value) (l : List (Int × Int)) : Prop := ∃ A c, v = .slice A l.length c ∧ l.length ≤ c ∧ Rd w ok 2 A l.length (l.flatMap actc)

theorem alive01 (w : World) : Calls Try.prog 16 #[] w fun e w' => e = .returned (.bool true) ∧ Kp (fun _ => False) w w' := by
  have hb : BR (w.alloc (.cells #[.int .u8 1, .int .u8 2, .int .u8 3, .int .u8 4] 5)) (· = w.heap.size) (.slice (some ⟨w.heap.size, 0, none⟩) 4 4) [1, 2, 3, 4] := BR.lit w _ [1, 2, 3, 4] _ 4 rfl rfl
  have hk0 : Kp (fun _ => False) w (w.alloc (.cells #[.int .u8 1, .int .u8 2, .int .u8 3, .int .u8 4] 5)) := (Kp.refl _ _).alloc _
  go_enter Try.func16, Try.ntmps16
  go_wp2_with fail
  refine (new_any _ _ _ 10 _ hb).mono ?_
  rintro e w1 ⟨g, rfl, hg, hc1, hk1⟩
  have hne : ¬ g = w.heap.size := by simp at hg; omega
  go_wp2_with fail
  refine (number_at _ _ _ _ 2 _ hc1 hne (by simp) (by omega) (by simp) [1, 2] [3, 4] 0 258 12 rfl rfl rfl rfl).mono ?_
  rintro e w2 ⟨rfl, hc2, hk2⟩
  go_wp2_with fail
  refine (sub_ok _ _ _ _ 1 _ hc2 hne (by simp) (by omega) (by simp) (by simp)).mono ?_
  rintro e w3 ⟨g', rfl, hg', hs3, hc3, hk3⟩
  go_wp2_with fail
  refine (number_at _ _ _ _ 2 _ hc3 hne (by simp) (by omega) (by simp) [] [4] 4 0 13 rfl rfl rfl rfl).mono ?_
  rintro e w4 ⟨rfl, hc4, hk4⟩
  have hP : Kp (fun _ => False) w w4 := (hk0.trans (hk1.mono (fun _ _ h => h.elim))).trans (((hk2.trans (hk3.mono fun _ _ h => .inl h)).trans (hk4.mono fun _ _ h => .inl h)).mono (fun i hi h => .inr (by subst h; simp at hg; omega)))
  have hs4 := hs3.kp hk4 (fun i hi => by rintro rfl; exact hne hi) (by have := hc2.lt; omega)
  go_wp2_with fail
  refine (at_any _ g' _ _ _ hs4).mono ?_; rintro e w' ⟨rfl, rfl⟩
  go_wp2_with fail
  refine (end_any _ g' _ _ _ hs4 (by omega) (by simp)).mono ?_; rintro e w' ⟨rfl, rfl⟩
  go_wp2_with fail
  refine (at_any _ g _ _ _ hc4).mono ?_; rintro e w' ⟨rfl, rfl⟩
  go_wp2_with fail
  go_ret
  exact ⟨rfl, hP⟩

theorem none_walk (w : World) (n : Int) (_hn : (Lit.int .i64 n).wf = true) : Calls Try.prog 5 #[.int .i64 n] w fun e w' => e = .returned (.bool true) ∧ Below w.heap.size w w' := by
  go_enter Try.func5, Try.ntmps5
  go_wp2_with (first
    | (go_at_call 17; ((with_reducible refine (number_nil _ _).mono ?_); rintro e w' ⟨rfl, rfl⟩))
    | (go_at_call 21; ((with_reducible refine (take_nil _ _).mono ?_); rintro e w' ⟨rfl, rfl⟩))
    | (go_at_call 23; ((with_reducible refine (sub_nil _ _).mono ?_); rintro e w' ⟨rfl, rfl⟩))
    | (go_at_call 18; ((with_reducible refine (at_nil _).mono ?_); rintro e w' ⟨rfl, rfl⟩))
    | (go_at_call 25; ((with_reducible refine (left_nil _).mono ?_); rintro e w' ⟨rfl, rfl⟩))
    | (go_at_call 24; ((with_reducible refine (end_nil _).mono ?_); rintro e w' ⟨rfl, rfl⟩))
    | (go_at_call 16; ((with_reducible refine (alive01 _).mono ?_); rintro e w' ⟨rfl, hk⟩)))
  go_ret
  exact ⟨rfl, hk.below⟩

/-! ### CursorNumbers -/
theorem nn_err {l : List UInt8} {n : Int} (h : (nn l n).2 ≠ 0) : (nn l n).1 = [] := by
  unfold nn at h ⊢
  split
  · rename_i hs
    rw [if_pos hs] at h
    unfold nx at h ⊢
    split
    · rfl
    · split
      · rfl
      · rename_i h1 h2
        rw [if_neg h1, if_neg h2] at h
        exact absurd rfl h
  · rfl
theorem nn_len (l : List UInt8) (n : Int) : (nn l n).1.length ≤ l.length := by
  unfold nn
  split
  · exact nx_len l n
  · simp
theorem nn_fine {l : List UInt8} {n : Int} (h : (nn l n).2 = 0) : szB n = true ∧ 1 ≤ n ∧ n ≤ 8 ∧ n ≤ l.length ∧ nn l n = (l.take n.toNat, 0) := by
  unfold nn at h ⊢
  by_cases hs : szB n = true
  · rw [if_pos hs] at h ⊢
    have := szB_true hs
    rcases Int.lt_or_le (l.length : Int) n with h1 | h1
    · rw [nx_short (by omega) h1] at h
      simp at h
    · exact ⟨hs, this.1, this.2.1, h1, nx_ok (by omega) h1⟩
  · rw [if_neg hs] at h
    simp at h
theorem nn_one (l : List UInt8) (k : Nat) (h : k < l.length) : nn (l.drop k) 1 = ([l[k]], 0) := by
  have h1 : szB 1 = true := by decide
  rw [nn, if_pos h1, nx_ok (by omega) (by simp; omega)]
  rw [List.drop_eq_getElem_cons h]
  rfl
theorem be_one (b : UInt8) : be [b] = b.toNat := by simp [be]

theorem numbers_walk (w : World) (v : Value) (l : List UInt8) (hv : BR w (· < w.heap.size) v l) (hl : l.length ≤ 140737488351232) (n : Int) (_hn : (Lit.int .i64 n).wf = true) :
    Calls Try.prog 3 #[v, .int .i64 n] w fun e w' => e = .returned (.bool true) ∧ Below w.heap.size w w' := by
  obtain ⟨A, c, rfl, hlc, hr⟩ := id hv
  by_cases he : (nn l n).2 = 0
  · obtain ⟨hs, h1, h8, hnl, hnn⟩ := nn_fine he
    obtain ⟨n, rfl⟩ := Int.eq_ofNat_of_zero_le (show 0 ≤ n by omega)
    have HE := Lib.hid hnn
    have HS := Lib.hid hs
    have hdec : decide (l.length < n) = false := by simp; omega
    clear he hnn hs
    go_enter Try.func3, Try.ntmps3
    go_wp2_with fail
    refine (new_any _ _ _ 0 _ hv).mono ?_
    rintro e w1 ⟨g, rfl, hg, hc1, hk1⟩
    go_wp2_with fail
    refine (new_any _ _ _ 0 _ (hv.kp hk1 (fun _ _ h => h))).mono ?_
    rintro e w2 ⟨d, rfl, hd, hd2, hk2⟩
    have hc2 := hc1.kp hk2 (fun _ _ h => h) (fun h => h)
    have hgd : g ≠ d := by have := hc1.lt; omega
    go_wp2_with fail
    refine (alive01 _).mono ?_
    rintro e w3 ⟨rfl, hk3⟩
    have hc3 := hc2.kp hk3 (fun _ _ h => h) (fun h => h)
    have hd3 := hd2.kp hk3 (fun _ _ h => h) (fun h => h)
    go_wp2_with fail
    refine (number_at _ _ _ _ n _ hc3 (by omega) hl (by omega) (by omega) (l.take n) (l.drop n) 0 (be (l.take n)) n HE.out rfl (by simp [Nat.min_eq_left (show n ≤ l.length by omega)]) (by simp; omega)).mono ?_
    rintro e w4 ⟨rfl, hc4, hk4⟩
    have hd4 := hd3.kp hk4 (fun i hi hj => by subst hj; omega) (fun h => hgd h.symm)
    have hkk : Kp (fun _ => False) w w4 := ((hk1.then_ hk2 (fun _ h => h.elim)).then_ hk3 (fun _ h => h.elim)).then_ hk4 (fun i hi => .inr (by omega))
    go_wp2_with fail
    have hwd : w.heap.size ≤ d := by have := hk1.size; omega
    clear hk1 hk2 hk3 hk4 hc1 hc2 hc3 hd2 hd3
    have hn63 : n ≤ 8 := by omega
    have hnl' : n ≤ l.length := by omega
    go_loopw [9, 46] (fun y i wr => ∃ k : Nat, k ≤ n ∧ i = .int .i64 k ∧ y = .int .u64 (be (l.take k)) ∧ Cur wr (· < w.heap.size) d (l.drop k) k ∧ Cur wr (· < w.heap.size) g (l.drop n) n ∧ Kp (fun _ => False) w wr) (fun _ i _ => n - (intOf i).toNat)
    case atStart => exact ⟨0, Nat.zero_le _, rfl, rfl, by simpa using hd4, by simpa using hc4, hkk⟩
    case round =>
      obtain ⟨k, hk, rfl, rfl, hdr, hcr, hkr⟩ := hrel
      by_cases hlt : k < n
      · have hlk : k < l.length := by omega
        have hb1 := (l[k]).toNat_lt
        have hb2 := be_small (l.take n) k (by simp; omega) (by simp; omega)
        have hb3 := be_take l k hlk
        rw [List.take_take, Nat.min_eq_left (by omega)] at hb2
        have HB := Lib.hid hb3
        clear hb3
        go_wp2_with fail
        refine (number_at _ _ _ _ 1 _ hdr (by omega) (by simp; omega) (by omega) (by simp; omega) [l[k]] (l.drop (k + 1)) 0 l[k].toNat (k + 1) (nn_one l k hlk) (by rw [be_one]) (by simp) (by simp)).mono ?_
        rintro e w5 ⟨rfl, hd5, hk5⟩
        have hc5 := hcr.kp hk5 (fun i hi hj => by subst hj; omega) hgd
        have hkk5 := hkr.then_ hk5 (fun i hi => .inr (by omega))
        go_wp2_with fail
        go_roundw
        case rel => exact ⟨k + 1, by omega, by go_num, by rw [HB.out]; go_num, hd5, hc5, hkk5⟩
        case measure => simp [intOf]; omega
      · obtain rfl : k = n := by omega
        go_wp2_with (first
          | (go_at_call_of 18 (Value.pointer (some ⟨g, 0, none⟩)); ((with_reducible refine (at_any _ g _ _ _ hcr).mono ?_); rintro e w' ⟨rfl, rfl⟩))
          | (go_at_call_of 18 (Value.pointer (some ⟨d, 0, none⟩)); ((with_reducible refine (at_any _ d _ _ _ hdr).mono ?_); rintro e w' ⟨rfl, rfl⟩)))
        go_ret
        exact ⟨rfl, hkr.below⟩
  · have hgot := nn_err he
    obtain ⟨er, her⟩ : ∃ er, nn l n = ([], er) := ⟨(nn l n).2, by rw [← hgot]⟩
    have hne : (er != 0) = true := by rw [her] at he; simpa using he
    have HE := Lib.hid her
    clear he hgot her
    go_enter Try.func3, Try.ntmps3
    go_wp2_with fail
    refine (new_any _ _ _ 0 _ hv).mono ?_
    rintro e w1 ⟨g, rfl, hg, hc1, hk1⟩
    go_wp2_with fail
    refine (new_any _ _ _ 0 _ (hv.kp hk1 (fun _ _ h => h))).mono ?_
    rintro e w2 ⟨d, rfl, hd, hd2, hk2⟩
    have hc2 := hc1.kp hk2 (fun _ _ h => h) (fun h => h)
    go_wp2_with fail
    refine (alive01 _).mono ?_
    rintro e w3 ⟨rfl, hk3⟩
    have hc3 := hc2.kp hk3 (fun _ _ h => h) (fun h => h)
    go_wp2_with fail
    refine (number_at _ _ _ _ n _ hc3 (by omega) hl (by omega) (by omega) [] l er 0 0 HE.out rfl rfl rfl).mono ?_
    rintro e w4 ⟨rfl, hc4, hk4⟩
    have hkk : Kp (fun _ => False) w w4 := ((hk1.then_ hk2 (fun _ h => h.elim)).then_ hk3 (fun _ h => h.elim)).then_ hk4 (fun i hi => .inr (by omega))
    go_wp2_with (go_at_call 18; ((with_reducible refine (at_any _ g _ _ _ hc4).mono ?_); rintro e w' ⟨rfl, rfl⟩))
    go_ret
    exact ⟨rfl, hkk.below⟩

end Go.Proofs.Ytgndammlhljfjaa
