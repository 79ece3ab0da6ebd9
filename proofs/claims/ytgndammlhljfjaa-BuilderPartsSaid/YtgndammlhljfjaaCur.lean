/-
  The cursor: what each of its methods answers, and what it leaves.
-/
import Derived.Test.YtgndammlhljfjaaProg
import Derived.Test.YtgndammlhljfjaaLib
import Derived.Deep.QuietTactic
import Derived.BigQuiet
import Derived.Test.YtgndammlhljfjaaNum
import Derived.Test.YtgndammlhljfjaaNx
namespace Go.Proofs.Ytgndammlhljfjaa
open Go.RowKit

/-- A cursor at block g: the bytes ahead, its place. -/
def Cur (w : World) (ok : Nat → Prop) (g : Nat) (l : List UInt8) (at_ : Int) : Prop :=
  ∃ v, BR w ok v l ∧ Blk w g 78 #[v, .int .i64 at_]

section
variable {w w' : World} {ok ok' S : Nat → Prop} {g : Nat} {l : List UInt8} {a : Int}
theorem Cur.kp (h : Cur w ok g l a) (hk : Kp S w w') (hd : ∀ i, ok i → ¬ S i) (hg : ¬ S g) : Cur w' ok g l a := by
  obtain ⟨v, h1, h2⟩ := h
  exact ⟨v, h1.kp hk hd, h2.kp hk hg⟩
theorem Cur.lt (h : Cur w ok g l a) : g < w.heap.size := by
  obtain ⟨v, h1, h2⟩ := h
  exact h2.lt
theorem Cur.mono (h : Cur w ok g l a) (hd : ∀ i, ok i → ok' i) : Cur w ok' g l a := by
  obtain ⟨v, h1, h2⟩ := h
  exact ⟨v, h1.mono hd, h2⟩
end

/-- What a call of next leaves. -/
def NextP (ok : Nat → Prop) (g : Nat) (l : List UInt8) (a n : Int) (w : World) (e : Ending) (w' : World) : Prop :=
  ∃ v, e = .returned (.tuple #[v, .int .i64 (nx l n).2]) ∧ BR w' ok v (nx l n).1 ∧ Cur w' ok g (l.drop (nx l n).1.length) (a + (nx l n).1.length) ∧ Kp (· = g) w w'

theorem next_done {w : World} {ok : Nat → Prop} {g : Nat} {l : List UInt8} {a : Int} {A A' : Option Addr} {n c : Nat} (hr : Rd w ok 1 A l.length (bc l)) (hb : Blk w g 78 #[.slice A l.length c, .int .i64 a])
    (hok : ¬ ok g) (hn : n ≤ l.length) (hlc : l.length ≤ c) (hA : A' = if c = n then A else A.map (·.add n)) :
    NextP ok g l a n w (.returned (.tuple #[.slice A n n, .int .i64 0])) ((w.setCell ⟨g, 0, none⟩ (.slice A' (l.length - n) (c - n))).setCell ⟨g, 1, none⟩ (.int .i64 (a + n))) := by
  have hk : Kp (· = g) w ((w.setCell ⟨g, 0, none⟩ (.slice A' (l.length - n) (c - n))).setCell ⟨g, 1, none⟩ (.int .i64 (a + n))) :=
    ((Kp.refl (· = g) w).setCell (p := ⟨g, 0, none⟩) (.inl rfl) _).setCell (p := ⟨g, 1, none⟩) (.inl rfl) _
  have hlt : (l.take (n : Int).toNat).length = n := by simp; omega
  have hB : BR ((w.setCell ⟨g, 0, none⟩ (.slice A' (l.length - n) (c - n))).setCell ⟨g, 1, none⟩ (.int .i64 (a + n))) ok (.slice A' (l.length - n) (c - n)) (l.drop n) := by
    refine ⟨A', c - n, by rw [List.length_drop], by rw [List.length_drop]; omega, ?_⟩
    have := (hr.cut hn hlc).kp hk (fun i hi hg => hok (hg ▸ hi))
    rw [Nat.mul_one, bc_drop] at this
    rw [List.length_drop]
    rw [← hA] at this
    exact this
  rw [NextP, nx_ok (by omega) (by omega)]
  refine ⟨_, rfl, ⟨A, n, ?_, ?_, ?_⟩, ?_, hk⟩
  · simp only [hlt]
  · simp only [hlt]; exact Nat.le_refl _
  · have := (hr.take hn).kp hk (fun i hi hg => hok (hg ▸ hi))
    rw [Nat.mul_one, bc_take] at this
    simp only [hlt]
    exact this
  · refine ⟨.slice A' (l.length - n) (c - n), ?_, ?_⟩
    · simp only [hlt]; exact hB
    · have := (hb.set_ 0 (.slice A' (l.length - n) (c - n))).set_ 1 (.int .i64 (a + n))
      simp only [hlt]
      exact this

theorem next_nil (n : Int) (w : World) :
    Calls Try.prog 40 #[.pointer none, .int .i64 n] w fun e w' => e = .returned (.tuple #[.slice none 0 0, .int .i64 1]) ∧ w = w' := by
  go_enter Try.func40, Try.ntmps40
  go_wp2_with fail
  go_ret2
  exact ⟨rfl, rfl⟩

theorem next_any (ok : Nat → Prop) (g : Nat) (l : List UInt8) (a : Int) (n : Int) (w : World) (hc : Cur w ok g l a) (hok : ¬ ok g) (_hl : l.length ≤ 140737488351232) (ha : 0 ≤ a) (hal : a + l.length ≤ 9223372036854775807) :
    Calls Try.prog 40 #[.pointer (some ⟨g, 0, none⟩), .int .i64 n] w (NextP ok g l a n w) := by
  by_cases hneg : n < 0
  · have hP : NextP ok g l a n w (.returned (.tuple #[.slice none 0 0, .int .i64 2])) w := by
      rw [NextP, nx_neg hneg]
      exact ⟨_, rfl, BR.nil, by simpa using hc, Kp.refl _ _⟩
    go_enter Try.func40, Try.ntmps40
    go_wp2_with fail
    go_ret2
    exact hP
  by_cases hlong : (l.length : Int) < n
  · have hP : NextP ok g l a n w (.returned (.tuple #[.slice none 0 0, .int .i64 4])) w := by
      rw [NextP, nx_short (by omega) hlong]
      exact ⟨_, rfl, BR.nil, by simpa using hc, Kp.refl _ _⟩
    obtain ⟨v, ⟨A, c, rfl, hlc, hr⟩, hb⟩ := hc
    have hc0 : w.cell? ⟨g, 0, none⟩ = some (.slice A l.length c) := hb.cell 0
    go_enter Try.func40, Try.ntmps40
    go_wp2_with fail
    go_ret2
    exact hP
  · obtain ⟨n, rfl⟩ := Int.eq_ofNat_of_zero_le (Int.not_lt.1 hneg)
    have hn : n ≤ l.length := by omega
    obtain ⟨v, ⟨A, c, rfl, hlc, hr⟩, hb⟩ := hc
    have hP : ∀ A' d, (A' = if c = n then A else A.map (·.add n)) → d = c - n → NextP ok g l a n w (.returned (.tuple #[.slice A n n, .int .i64 0])) ((w.setCell ⟨g, 0, none⟩ (.slice A' (l.length - n) d)).setCell ⟨g, 1, none⟩ (.int .i64 (a + n))) := by
      rintro A' d h rfl
      exact next_done hr hb hok hn hlc h
    have hc0 : w.cell? ⟨g, 0, none⟩ = some (.slice A l.length c) := hb.cell 0
    have hc1 : w.cell? ⟨g, 1, none⟩ = some (.int .i64 a) := hb.cell 1
    have hf0 : w.frozen? ⟨g, 0, none⟩ = false := hb.frozen 0
    have hf1 : w.frozen? ⟨g, 1, none⟩ = false := hb.frozen 1
    go_enter Try.func40, Try.ntmps40
    go_wp2_with fail
    all_goals go_ret2
    · exact hP _ _ (by simp [*]) (by omega)
    · exact hP _ _ (by simp [*]) (by omega)

/-! ### Places. -/
theorem new_any (ok : Nat → Prop) (v : Value) (l : List UInt8) (a : Int) (w : World) (hv : BR w ok v l) :
    Calls Try.prog 15 #[v, .int .i64 a] w fun e w' => ∃ g, e = .returned (.pointer (some ⟨g, 0, none⟩)) ∧ w.heap.size ≤ g ∧ Cur w' ok g l a ∧ Kp (fun _ => False) w w' := by
  have hP : Cur (w.alloc (.cells #[v, .int .i64 a] 78)) ok w.heap.size l a ∧ Kp (fun _ => False) w (w.alloc (.cells #[v, .int .i64 a] 78)) :=
    ⟨⟨v, hv.kp ((Kp.refl (fun _ => False) w).alloc _) (fun _ _ h => h), Blk.new _ _ _⟩, (Kp.refl _ w).alloc _⟩
  obtain ⟨A, c, rfl, _, _⟩ := hv
  go_enter Try.func15, Try.ntmps15
  go_wp2_with fail
  go_ret
  exact ⟨_, rfl, Nat.le_refl _, hP⟩

theorem at_any (ok : Nat → Prop) (g : Nat) (l : List UInt8) (a : Int) (w : World) (hc : Cur w ok g l a) :
    Calls Try.prog 18 #[.pointer (some ⟨g, 0, none⟩)] w fun e w' => e = .returned (.int .i64 a) ∧ w = w' := by
  obtain ⟨v, _, hb⟩ := hc
  have hc1 : w.cell? ⟨g, 1, none⟩ = some (.int .i64 a) := hb.cell 1
  go_enter Try.func18, Try.ntmps18
  go_wp2_with fail
  go_ret
  exact ⟨rfl, rfl⟩

theorem left_any (ok : Nat → Prop) (g : Nat) (l : List UInt8) (a : Int) (w : World) (hc : Cur w ok g l a) :
    Calls Try.prog 25 #[.pointer (some ⟨g, 0, none⟩)] w fun e w' => e = .returned (.int .i64 l.length) ∧ w = w' := by
  obtain ⟨v, ⟨A, c, rfl, _, _⟩, hb⟩ := hc
  have hc0 : w.cell? ⟨g, 0, none⟩ = some (.slice A l.length c) := hb.cell 0
  go_enter Try.func25, Try.ntmps25
  go_wp2_with fail
  go_ret
  exact ⟨rfl, rfl⟩

theorem end_any (ok : Nat → Prop) (g : Nat) (l : List UInt8) (a : Int) (w : World) (hc : Cur w ok g l a) (ha : 0 ≤ a) (hal : a + l.length ≤ 9223372036854775807) :
    Calls Try.prog 24 #[.pointer (some ⟨g, 0, none⟩)] w fun e w' => e = .returned (.int .i64 (a + l.length)) ∧ w = w' := by
  go_enter Try.func24, Try.ntmps24
  go_wp2_with (first | (go_at_call 18; refine (at_any ok g l a _ hc).mono ?_; rintro e w' ⟨rfl, rfl⟩) | (go_at_call 25; refine (left_any ok g l a _ hc).mono ?_; rintro e w' ⟨rfl, rfl⟩))
  go_ret
  exact ⟨rfl, rfl⟩

theorem at_nil (w : World) : Calls Try.prog 18 #[.pointer none] w fun e w' => e = .returned (.int .i64 0) ∧ w = w' := by
  go_enter Try.func18, Try.ntmps18
  go_wp2_with fail
  go_ret
  exact ⟨rfl, rfl⟩
theorem left_nil (w : World) : Calls Try.prog 25 #[.pointer none] w fun e w' => e = .returned (.int .i64 0) ∧ w = w' := by
  go_enter Try.func25, Try.ntmps25
  go_wp2_with fail
  go_ret
  exact ⟨rfl, rfl⟩
theorem end_nil (w : World) : Calls Try.prog 24 #[.pointer none] w fun e w' => e = .returned (.int .i64 0) ∧ w = w' := by
  go_enter Try.func24, Try.ntmps24
  go_wp2_with (first | (go_at_call 18; refine (at_nil _).mono ?_; rintro e w' ⟨rfl, rfl⟩) | (go_at_call 25; refine (left_nil _).mono ?_; rintro e w' ⟨rfl, rfl⟩))
  go_ret
  exact ⟨rfl, rfl⟩

/-! ### Numbers. -/
def NumP (ok : Nat → Prop) (g : Nat) (l : List UInt8) (a n : Int) (w : World) (e : Ending) (w' : World) : Prop :=
  e = .returned (.tuple #[.int .u64 (be (nn l n).1), .int .i64 (nn l n).2]) ∧ Cur w' ok g (l.drop (nn l n).1.length) (a + (nn l n).1.length) ∧ Kp (· = g) w w'

theorem number_nil (n : Int) (w : World) :
    Calls Try.prog 17 #[.pointer none, .int .i64 n] w fun e w' => e = .returned (.tuple #[.int .u64 0, .int .i64 1]) ∧ w = w' := by
  go_enter Try.func17, Try.ntmps17
  go_wp2_with (go_at_call 40; refine (next_nil _ _).mono ?_; rintro e w' ⟨rfl, rfl⟩)
  refine wp_loop_rounds 1 ?_; rw [rounds_succ]
  go_wp2_with fail
  go_ret2
  exact ⟨rfl, rfl⟩

theorem number_any (ok : Nat → Prop) (g : Nat) (l : List UInt8) (a : Int) (n : Int) (w : World) (hc : Cur w ok g l a) (hok : ¬ ok g) (hl : l.length ≤ 140737488351232) (ha : 0 ≤ a) (hal : a + l.length ≤ 9223372036854775807) :
    Calls Try.prog 17 #[.pointer (some ⟨g, 0, none⟩), .int .i64 n] w (NumP ok g l a n w) := by
  by_cases hs : szB n = true
  · obtain ⟨h1, h8, h48⟩ := szB_true hs
    have hnn : nn l n = nx l n := by rw [nn, if_pos hs]
    obtain ⟨got, er, hgot⟩ : ∃ got er, nx l n = (got, er) := ⟨_, _, rfl⟩
    have hlen : got.length ≤ 8 := by have := nx_le l n; rw [hgot] at this; simp only at this; omega
    have hnext : Calls Try.prog 40 #[.pointer (some ⟨g, 0, none⟩), .int .i64 n] w fun e w' => ∃ A c, e = .returned (.tuple #[.slice A got.length c, .int .i64 er]) ∧
        Rd w' ok 1 A got.length (bc got) ∧ Cur w' ok g (l.drop got.length) (a + got.length) ∧ Kp (· = g) w w' := by
      refine (next_any ok g l a n w hc hok hl ha hal).mono ?_
      rintro e w' ⟨v, rfl, ⟨A, c, rfl, hlc, hr⟩, hcur, hkp⟩
      rw [hgot] at hr hcur ⊢
      exact ⟨A, c, rfl, hr, hcur, hkp⟩
    have hfin : ∀ w', Cur w' ok g (l.drop got.length) (a + got.length) → Kp (· = g) w w' → NumP ok g l a n w (.returned (.tuple #[.int .u64 (be got), .int .i64 er])) w' := by
      intro w' h1 h2
      rw [NumP, hnn, hgot]
      exact ⟨rfl, h1, h2⟩
    have HN := Lib.hid hnext
    have HF := Lib.hid hfin
    have h48' : n ≤ 4 ∨ n = 8 := by omega
    clear hnext hfin h48 hnn hgot hs
    go_enter Try.func17, Try.ntmps17
    rcases h48' with h4 | rfl
    all_goals
      go_wp2_with (go_at_call 40; refine (HN.out).mono ?_; rintro e w' ⟨A, c, rfl, hr, hcur, hkp⟩)
      go_loop [8, 32] (fun x i => ∃ k : Nat, k ≤ got.length ∧ i = .int .i64 k ∧ x = .int .u64 (be (got.take k))) (fun _ i => got.length - (intOf i).toNat)
      case atStart => exact ⟨0, Nat.zero_le _, rfl, rfl⟩
      case round =>
        obtain ⟨k, hk, rfl, rfl⟩ := hrel
        by_cases hlt : k < got.length
        · obtain ⟨b, off, rfl, hbok, hcell⟩ := hr.byte hlt
          have hbt := (got[k]).toNat_lt
          go_wp2_with fail
          go_round
          case rel => exact ⟨k + 1, by omega, by go_num, by rw [be_take _ _ hlt, or_byte _ _ (by omega) (be_small _ _ hlt hlen)]⟩
          case measure => simp [intOf]; omega
        · obtain rfl : k = got.length := by omega
          go_wp2_with fail
          go_ret2
          have := HF.out _ hcur hkp
          simpa using this
  · have hP : NumP ok g l a n w (.returned (.tuple #[.int .u64 0, .int .i64 2])) w := by
      rw [NumP, nn, if_neg hs]
      exact ⟨rfl, by simpa using hc, Kp.refl _ _⟩
    have h := szB_false (by simpa using hs)
    go_enter Try.func17, Try.ntmps17
    rcases h with h | ⟨h, h'⟩
    · go_wp2_with fail
      go_ret2
      exact hP
    · have hb : (n != 8) = true := by simpa using h'
      go_wp2_with fail
      go_ret2
      exact hP

/-! ### Bytes taken. -/
theorem u8_info : (Try.prog.info? 5).map (fun i => (i.zero, i.size, i.bytes)) = some (some (.int .u8 0), 1, 1) := by kernel_rfl

def TakeP (ok : Nat → Prop) (g : Nat) (l : List UInt8) (a n : Int) (w : World) (e : Ending) (w' : World) : Prop :=
  ∃ v, e = .returned (.tuple #[v, .int .i64 (nx l n).2]) ∧ BR w' (fun k => w.heap.size ≤ k) v (nx l n).1 ∧ Cur w' ok g (l.drop (nx l n).1.length) (a + (nx l n).1.length) ∧ Kp (· = g) w w'

theorem take_nil (n : Int) (w : World) :
    Calls Try.prog 21 #[.pointer none, .int .i64 n] w fun e w' => e = .returned (.tuple #[.slice none 0 0, .int .i64 1]) ∧ w = w' := by
  go_enter Try.func21, Try.ntmps21
  go_wp2_with (go_at_call 40; refine (next_nil _ _).mono ?_; rintro e w' ⟨rfl, rfl⟩)
  go_ret2
  exact ⟨rfl, rfl⟩

theorem take_any (ok : Nat → Prop) (g : Nat) (l : List UInt8) (a : Int) (n : Int) (w : World) (hc : Cur w ok g l a) (hok : ¬ ok g) (hl : l.length ≤ 140737488351232) (ha : 0 ≤ a) (hal : a + l.length ≤ 9223372036854775807) :
    Calls Try.prog 21 #[.pointer (some ⟨g, 0, none⟩), .int .i64 n] w (TakeP ok g l a n w) := by
  obtain ⟨got, er, hgot⟩ : ∃ got er, nx l n = (got, er) := ⟨_, _, rfl⟩
  have hlen : got.length ≤ 140737488351232 := by have := nx_len l n; rw [hgot] at this; simp only at this; omega
  have hg := hc.lt
  have hnext : Calls Try.prog 40 #[.pointer (some ⟨g, 0, none⟩), .int .i64 n] w fun e w' => ∃ A c, e = .returned (.tuple #[.slice A got.length c, .int .i64 er]) ∧
      Rd w' ok 1 A got.length (bc got) ∧ Cur w' ok g (l.drop got.length) (a + got.length) ∧ Kp (· = g) w w' := by
    refine (next_any ok g l a n w hc hok hl ha hal).mono ?_
    rintro e w' ⟨v, rfl, ⟨A, c, rfl, hlc, hr⟩, hcur, hkp⟩
    rw [hgot] at hr hcur ⊢
    exact ⟨A, c, rfl, hr, hcur, hkp⟩
  have hfin : ∀ v w1 w2, Cur w1 ok g (l.drop got.length) (a + got.length) → Kp (· = g) w w1 → w2.ownsRow w1.heap.size 5 1 v (0 + got.length) ([] ++ bc got) → w1.grownBy w2 none →
      TakeP ok g l a n w (.returned (.tuple #[v, .int .i64 er])) w2 := by
    intro v w1 w2 h1 h2 h3 h4
    have hk : Kp (fun _ => False) w1 w2 := (Kp.refl _ _).grown h4 (fun k hk => by cases hk)
    rw [TakeP, hgot]
    simp only [List.nil_append] at h3
    refine ⟨v, rfl, BR.of_own h3 (fun k hk => ?_), h1.kp hk (fun _ _ h => h) (fun h => h), h2.trans (hk.mono (fun _ _ h => h.elim))⟩
    have := h3.lt k hk
    have := h2.size
    omega
  have HN := Lib.hid hnext
  have HF := Lib.hid hfin
  clear hnext hfin hgot
  obtain ⟨i0, hi0, hz0, hz1, hz2⟩ := info_parts u8_info
  go_enter Try.func21, Try.ntmps21
  go_wp2_with (first
    | (go_at_call 40; refine (HN.out).mono ?_; rintro e w1 ⟨A, c, rfl, hr, hcur, hkp⟩)
    | (at_builtin; refine wpList_append_any _ rfl (.const (.slice none 0 0)) (.tmp 14) _ rfl w1.heap.size 5 i0 _ 1 1 Try.underlying22 hi0 hz0 hz1 hz2 rfl (by omega) (.slice none 0 0) 0 [] rfl ⟨by simp, .inl ⟨rfl, rfl⟩⟩ ok A got.length c (bc got) rfl hr (bc_one _) (by simp only [maxLen]; omega) (by omega) (Nat.le_refl _) ?_; intro v2 w2 hown hgrow hat))
  go_ret2
  exact HF.out _ _ _ hcur hkp hown hgrow

/-! ### A cursor of its own over the next bytes. -/
theorem sub_nil (n : Int) (w : World) :
    Calls Try.prog 23 #[.pointer none, .int .i64 n] w fun e w' => e = .returned (.tuple #[.pointer none, .int .i64 1]) ∧ w = w' := by
  go_enter Try.func23, Try.ntmps23
  go_wp2_with (first
    | (go_at_call 40; refine (next_nil _ _).mono ?_; rintro e w' ⟨rfl, rfl⟩)
    | (go_at_call 18; refine (at_nil _).mono ?_; rintro e w' ⟨rfl, rfl⟩))
  go_ret2
  exact ⟨rfl, rfl⟩

/-- The error alone, and nothing turned but for what is read. -/
def SubE (ok : Nat → Prop) (g : Nat) (l : List UInt8) (a n : Int) (w : World) (e : Ending) (w' : World) : Prop :=
  e = .returned (.tuple #[.pointer none, .int .i64 (nx l n).2]) ∧ Cur w' ok g l a ∧ Kp (· = g) w w'
def SubP (ok : Nat → Prop) (g : Nat) (l : List UInt8) (a : Int) (n : Nat) (w : World) (e : Ending) (w' : World) : Prop :=
  ∃ g', e = .returned (.tuple #[.pointer (some ⟨g', 0, none⟩), .int .i64 0]) ∧ w.heap.size ≤ g' ∧ Cur w' ok g' (l.take n) a ∧ Cur w' ok g (l.drop n) (a + n) ∧ Kp (· = g) w w'

theorem sub_err (ok : Nat → Prop) (g : Nat) (l : List UInt8) (a : Int) (n : Int) (w : World) (hc : Cur w ok g l a) (hok : ¬ ok g) (hl : l.length ≤ 140737488351232) (ha : 0 ≤ a) (hal : a + l.length ≤ 9223372036854775807)
    (hn : n < 0 ∨ (l.length : Int) < n) :
    Calls Try.prog 23 #[.pointer (some ⟨g, 0, none⟩), .int .i64 n] w (SubE ok g l a n w) := by
  obtain ⟨er, hgot, hne⟩ : ∃ er, nx l n = ([], er) ∧ (er != 0) = true := by
    rcases hn with h | h
    · exact ⟨2, nx_neg h, rfl⟩
    · exact ⟨4, nx_short (by omega) h, rfl⟩
  have hnext : Calls Try.prog 40 #[.pointer (some ⟨g, 0, none⟩), .int .i64 n] w fun e w' => ∃ A c, e = .returned (.tuple #[.slice A 0 c, .int .i64 er]) ∧
      Cur w' ok g l a ∧ Kp (· = g) w w' := by
    refine (next_any ok g l a n w hc hok hl ha hal).mono ?_
    rintro e w' ⟨v, rfl, ⟨A, c, rfl, hlc, hr⟩, hcur, hkp⟩
    rw [hgot] at hr hcur ⊢
    exact ⟨A, c, rfl, by simpa using hcur, hkp⟩
  have hfin : ∀ w1, Cur w1 ok g l a → Kp (· = g) w w1 → SubE ok g l a n w (.returned (.tuple #[.pointer none, .int .i64 er])) w1 := by
    intro w1 h1 h2
    rw [SubE, hgot]
    exact ⟨rfl, h1, h2⟩
  have HN := Lib.hid hnext
  have HF := Lib.hid hfin
  clear hnext hfin hgot hn
  go_enter Try.func23, Try.ntmps23
  go_wp2_with (first
    | (go_at_call 40; refine (HN.out).mono ?_; rintro e w1 ⟨A, c, rfl, hcur, hkp⟩)
    | (go_at_call 18; refine (at_any ok g l a _ hc).mono ?_; rintro e w' ⟨rfl, rfl⟩))
  go_ret2
  exact HF.out _ hcur hkp

theorem sub_ok (ok : Nat → Prop) (g : Nat) (l : List UInt8) (a : Int) (n : Nat) (w : World) (hc : Cur w ok g l a) (hok : ¬ ok g) (hl : l.length ≤ 140737488351232) (ha : 0 ≤ a) (hal : a + l.length ≤ 9223372036854775807)
    (hn : n ≤ l.length) :
    Calls Try.prog 23 #[.pointer (some ⟨g, 0, none⟩), .int .i64 n] w (SubP ok g l a n w) := by
  have hlt := hc.lt
  have hnext : Calls Try.prog 40 #[.pointer (some ⟨g, 0, none⟩), .int .i64 n] w fun e w' => ∃ A c, e = .returned (.tuple #[.slice A n c, .int .i64 0]) ∧
      BR w' ok (.slice A n c) (l.take n) ∧ Cur w' ok g (l.drop n) (a + n) ∧ Kp (· = g) w w' := by
    refine (next_any ok g l a n w hc hok hl ha hal).mono ?_
    rintro e w' ⟨v, rfl, hv, hcur, hkp⟩
    rw [nx_ok (by omega) (by omega)] at hv hcur ⊢
    have hlen : (l.take (n : Int).toNat).length = n := by simp; omega
    simp only [hlen] at hcur
    obtain ⟨A, c, rfl, h⟩ := id hv
    rw [hlen] at hv ⊢
    exact ⟨A, c, rfl, hv, hcur, hkp⟩
  have hfin : ∀ A c w1, BR w1 ok (.slice A n c) (l.take n) → Cur w1 ok g (l.drop n) (a + n) → Kp (· = g) w w1 →
      SubP ok g l a n w (.returned (.tuple #[.pointer (some ⟨w1.heap.size, 0, none⟩), .int .i64 0])) (w1.alloc (.cells #[.slice A n c, .int .i64 a] 78)) := by
    intro A c w1 h0 h1 h2
    have hk : Kp (fun _ => False) w1 (w1.alloc (.cells #[.slice A n c, .int .i64 a] 78)) := (Kp.refl _ _).alloc _
    exact ⟨_, rfl, h2.size, ⟨_, h0.kp hk (fun _ _ h => h), Blk.new _ _ _⟩, h1.kp hk (fun _ _ h => h) (fun h => h), h2.alloc _⟩
  have HN := Lib.hid hnext
  have HF := Lib.hid hfin
  clear hnext hfin hn
  go_enter Try.func23, Try.ntmps23
  go_wp2_with (first
    | (go_at_call 40; refine (HN.out).mono ?_; rintro e w1 ⟨A, c, rfl, hb, hcur, hkp⟩)
    | (go_at_call 18; refine (at_any ok g l a _ hc).mono ?_; rintro e w' ⟨rfl, rfl⟩))
  go_ret2
  exact HF.out _ _ _ hb hcur hkp

end Go.Proofs.Ytgndammlhljfjaa
