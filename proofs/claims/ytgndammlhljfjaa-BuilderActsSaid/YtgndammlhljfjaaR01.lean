/-
  The document's answer of layer 1: what each of its functions returns.
-/
import Derived.Test.YtgndammlhljfjaaProg
import Derived.Test.YtgndammlhljfjaaLib
import Derived.Test.YtgndammlhljfjaaNum
import Derived.Test.YtgndammlhljfjaaNx
namespace Go.Proofs.Ytgndammlhljfjaa
open Go.RowKit

theorem szB_cases {n : Int} (h : szB n = true) : n = 1 ∨ n = 2 ∨ n = 3 ∨ n = 4 ∨ n = 8 := by
  have := szB_true h
  omega

theorem rsize_any (n : Int) (w : World) : Calls Try.prog 41 #[.int .i64 n] w fun e w' => e = .returned (.bool (szB n)) ∧ w = w' := by
  cases hs : szB n
  · have h := szB_false hs
    have h1 : (n == 1) = false := by simp; omega
    have h2 : (n == 2) = false := by simp; omega
    have h3 : (n == 3) = false := by simp; omega
    have h4 : (n == 4) = false := by simp; omega
    have h8 : (n == 8) = false := by simp; omega
    clear h hs
    go_enter Try.func41, Try.ntmps41
    go_wp2_with fail
    go_ret
    exact ⟨rfl, rfl⟩
  · rcases szB_cases hs with rfl | rfl | rfl | rfl | rfl
    all_goals
      clear hs
      go_enter Try.func41, Try.ntmps41
      go_wp2_with fail
      go_ret
      exact ⟨rfl, rfl⟩

theorem rnum_any (ok : Nat → Prop) (v : Value) (l : List UInt8) (w : World) (hv : BR w ok v l) (h8 : l.length ≤ 8) :
    Calls Try.prog 42 #[v] w fun e w' => e = .returned (.int .u64 (be l)) ∧ w = w' := by
  obtain ⟨A, c, rfl, hc, hr⟩ := hv
  go_enter Try.func42, Try.ntmps42
  go_wp2_with fail
  go_loop [3, 4] (fun x i => ∃ k : Nat, k ≤ l.length ∧ i = .int .i64 k ∧ x = .int .u64 (be (l.take k))) (fun _ i => l.length - (intOf i).toNat)
  case atStart => exact ⟨0, Nat.zero_le _, rfl, rfl⟩
  case round =>
    obtain ⟨k, hk, rfl, rfl⟩ := hrel
    by_cases hlt : k < l.length
    · obtain ⟨b, off, rfl, hbok, hcell⟩ := hr.byte hlt
      have hbt := (l[k]).toNat_lt
      have hbs := be_small l k hlt h8
      have HB := Lib.hid (be_take l k hlt)
      go_wp2_with fail
      go_round
      case rel => exact ⟨k + 1, by omega, by go_num, by rw [HB.out]; go_num⟩
      case measure => simp [intOf]; omega
    · obtain rfl : k = l.length := by omega
      go_wp2_with fail
      go_ret
      exact ⟨by simp, rfl⟩

/-- The document's cursor at block g: all bytes, the base, how many are behind. -/
def RCur (w : World) (ok : Nat → Prop) (g : Nat) (l : List UInt8) (b : Int) (i : Nat) : Prop :=
  ∃ v, BR w ok v l ∧ Blk w g 37 #[v, .int .i64 b, .int .i64 i]
theorem RCur.kp {w w' : World} {ok S : Nat → Prop} {g : Nat} {l : List UInt8} {b : Int} {i : Nat} (h : RCur w ok g l b i) (hk : Kp S w w') (hd : ∀ i, ok i → ¬ S i) (hg : ¬ S g) : RCur w' ok g l b i := by
  obtain ⟨v, h1, h2⟩ := h
  exact ⟨v, h1.kp hk hd, h2.kp hk hg⟩
theorem RCur.lt {w : World} {ok : Nat → Prop} {g : Nat} {l : List UInt8} {b : Int} {i : Nat} (h : RCur w ok g l b i) : g < w.heap.size := by
  obtain ⟨v, h1, h2⟩ := h
  exact h2.lt

def RTakeP (ok : Nat → Prop) (g : Nat) (l : List UInt8) (b : Int) (i : Nat) (n : Int) (w : World) (e : Ending) (w' : World) : Prop :=
  ∃ v, e = .returned (.tuple #[v, .int .i64 (nx (l.drop i) n).2]) ∧ BR w' ok v (nx (l.drop i) n).1 ∧ RCur w' ok g l b (i + (nx (l.drop i) n).1.length) ∧ Kp (· = g) w w'

theorem rtake_any (ok : Nat → Prop) (g : Nat) (l : List UInt8) (b : Int) (i : Nat) (n : Int) (w : World) (hc : RCur w ok g l b i) (hok : ¬ ok g) (hi : i ≤ l.length) (hl : l.length ≤ 140737488351232) :
    Calls Try.prog 22 #[.pointer (some ⟨g, 0, none⟩), .int .i64 n] w (RTakeP ok g l b i n w) := by
  have hdl : (l.drop i).length = l.length - i := by simp
  by_cases hneg : n < 0
  · have hP : RTakeP ok g l b i n w (.returned (.tuple #[.slice none 0 0, .int .i64 2])) w := by
      rw [RTakeP, nx_neg hneg]
      exact ⟨_, rfl, BR.nil, by simpa using hc, Kp.refl _ _⟩
    clear hdl
    go_enter Try.func22, Try.ntmps22
    go_wp2_with fail
    go_ret2
    exact hP
  by_cases hlong : ((l.drop i).length : Int) < n
  · have hP : ∀ q, RTakeP ok g l b i n w (.returned (.tuple #[.slice none 0 0, .int .i64 4])) (w.drewN q) := by
      intro q
      rw [RTakeP, nx_short (by omega) hlong]
      exact ⟨_, rfl, BR.nil, by simpa using hc.kp ((Kp.refl (fun _ => False) w).drewN q) (fun _ _ h => h) (fun h => h), (Kp.refl _ _).drewN q⟩
    obtain ⟨v, ⟨A, c, rfl, hlc, hr⟩, hb⟩ := hc
    have hc0 : w.cell? ⟨g, 0, none⟩ = some (.slice A l.length c) := hb.cell 0
    have hc2 : w.cell? ⟨g, 2, none⟩ = some (.int .i64 i) := hb.cell 2
    have hlt : (l.length : Int) - (i : Int) < n := by omega
    clear hdl hlong
    go_enter Try.func22, Try.ntmps22
    go_wp2_with fail
    go_quiet (fail)
    go_wp2_with fail
    go_ret2
    exact hP _
  · obtain ⟨n, rfl⟩ := Int.eq_ofNat_of_zero_le (Int.not_lt.1 hneg)
    have hn : i + n ≤ l.length := by omega
    obtain ⟨v, ⟨A, c, rfl, hlc, hr⟩, hb⟩ := hc
    have hP : ∀ q r A' x y, A' = (if c = i then A else A.map (·.add i)) → x = i + n - i → y = c - i →
        RTakeP ok g l b i n w (.returned (.tuple #[.slice A' x y, .int .i64 0])) (((w.drewN q).setCell ⟨g, 2, none⟩ (.int .i64 ((i : Int) + (n : Int)))).drewN r) := by
      rintro q r A' x y rfl rfl rfl
      rw [show ((i : Int) + (n : Int)) = ((i + n : Nat) : Int) from by omega]
      have hk : Kp (· = g) w (((w.drewN q).setCell ⟨g, 2, none⟩ (.int .i64 (i + n : Nat))).drewN r) := ((((Kp.refl (· = g) w).drewN q).setCell (p := ⟨g, 2, none⟩) (.inl rfl) _).drewN r)
      have hv := (BR.sub hr hlc (show i ≤ i + n by omega) hn).kp hk (fun j hj e => hok (e ▸ hj))
      have hlen : ((l.drop i).take n).length = n := by simp; omega
      rw [RTakeP, nx_ok (by omega) (by omega)]
      have e1 : i + n - i = n := by omega
      rw [e1] at hv ⊢
      refine ⟨_, rfl, hv, ⟨.slice A l.length c, ?_, ?_⟩, hk⟩
      · exact BR.kp ⟨A, c, rfl, hlc, hr⟩ hk (fun j hj e => hok (e ▸ hj))
      · simp only [Int.toNat_natCast, hlen]
        exact ((hb.drewN q).set_ 2 (.int .i64 (i + n : Nat))).drewN r
    have hc0 : w.cell? ⟨g, 0, none⟩ = some (.slice A l.length c) := hb.cell 0
    have hc2 : w.cell? ⟨g, 2, none⟩ = some (.int .i64 i) := hb.cell 2
    have hf2 : w.frozen? ⟨g, 2, none⟩ = false := hb.frozen 2
    have hlt : ¬ (l.length : Int) - (i : Int) < (n : Int) := by omega
    have HP := Lib.hid hP
    clear hdl hlong hP
    go_enter Try.func22, Try.ntmps22
    go_wp2_with fail
    go_quiet (fail)
    go_wp2_with fail
    go_quiet (fail)
    go_wp2_with fail
    all_goals go_ret2
    · exact HP.out _ _ _ _ _ (by simp [*]) (by omega) (by omega)
    · exact HP.out _ _ _ _ _ (by simp [*]) (by omega) (by omega)

def RNumP (ok : Nat → Prop) (g : Nat) (l : List UInt8) (b : Int) (i : Nat) (n : Int) (w : World) (e : Ending) (w' : World) : Prop :=
  e = .returned (.tuple #[.int .u64 (be (nn (l.drop i) n).1), .int .i64 (nn (l.drop i) n).2]) ∧ RCur w' ok g l b (i + (nn (l.drop i) n).1.length) ∧ Kp (· = g) w w'

theorem rnumber_any (ok : Nat → Prop) (g : Nat) (l : List UInt8) (b : Int) (i : Nat) (n : Int) (w : World) (hc : RCur w ok g l b i) (hok : ¬ ok g) (hi : i ≤ l.length) (hl : l.length ≤ 140737488351232) :
    Calls Try.prog 20 #[.pointer (some ⟨g, 0, none⟩), .int .i64 n] w (RNumP ok g l b i n w) := by
  by_cases hs : szB n = true
  · have h8 := (szB_true hs).2.1
    have hlen : (nx (l.drop i) n).1.length ≤ 8 := by have := nx_le (l.drop i) n; omega
    have hP : ∀ w', RCur w' ok g l b (i + (nx (l.drop i) n).1.length) → Kp (· = g) w w' → RNumP ok g l b i n w (.returned (.tuple #[.int .u64 (be (nx (l.drop i) n).1), .int .i64 (nx (l.drop i) n).2])) w' := by
      intro w' h1 h2
      rw [RNumP, nn, if_pos hs]
      exact ⟨rfl, h1, h2⟩
    have HT := Lib.hid (rtake_any ok g l b i n w hc hok hi hl)
    unfold RTakeP at HT
    generalize nx (l.drop i) n = r at hlen hP HT
    obtain ⟨got, er⟩ := r
    simp only at hlen
    have HP := Lib.hid hP
    clear hP
    go_enter Try.func20, Try.ntmps20
    go_wp2_with (first
      | (go_at_call 41; ((with_reducible refine (rsize_any _ _).mono ?_); rintro e w' ⟨rfl, rfl⟩))
      | (go_at_call 22; ((with_reducible refine (HT.out).mono ?_); rintro e w1 ⟨v, rfl, hv, hcur, hk⟩))
      | (go_at_call 42; ((with_reducible refine (rnum_any ok v got _ hv hlen).mono ?_); rintro e w' ⟨rfl, rfl⟩)))
    go_ret2
    exact HP.out _ hcur hk
  · have hP : RNumP ok g l b i n w (.returned (.tuple #[.int .u64 0, .int .i64 2])) w := by
      rw [RNumP, nn, if_neg hs]
      exact ⟨rfl, by simpa using hc, Kp.refl _ _⟩
    have hs' : szB n = false := by simpa using hs
    clear hs
    go_enter Try.func20, Try.ntmps20
    go_wp2_with (go_at_call 41; ((with_reducible refine (rsize_any _ _).mono ?_); rintro e w' ⟨rfl, rfl⟩))
    go_ret2
    exact hP
theorem rtake_at (ok : Nat → Prop) (g : Nat) (l : List UInt8) (b : Int) (i : Nat) (n : Int) (w : World) (hc : RCur w ok g l b i) (hok : ¬ ok g) (hi : i ≤ l.length) (hl : l.length ≤ 140737488351232)
    (got : List UInt8) (er : Int) (k j : Nat) (h1 : nx (l.drop i) n = (got, er)) (h2 : got.length = k) (h3 : i + k = j) :
    Calls Try.prog 22 #[.pointer (some ⟨g, 0, none⟩), .int .i64 n] w fun e w' => ∃ A c, e = .returned (.tuple #[.slice A k c, .int .i64 er]) ∧ BR w' ok (.slice A k c) got ∧ RCur w' ok g l b j ∧ Kp (· = g) w w' := by
  refine (rtake_any ok g l b i n w hc hok hi hl).mono ?_
  rintro e w' ⟨v, rfl, hb, hcur, hk⟩
  rw [h1] at hb hcur ⊢
  obtain ⟨A, c, rfl, h5, h6⟩ := id hb
  simp only at hb h5 h6 hcur ⊢
  rw [h2] at hb h5 hcur ⊢
  rw [h3] at hcur
  exact ⟨A, c, rfl, hb, hcur, hk⟩
theorem rnumber_at (ok : Nat → Prop) (g : Nat) (l : List UInt8) (b : Int) (i : Nat) (n : Int) (w : World) (hc : RCur w ok g l b i) (hok : ¬ ok g) (hi : i ≤ l.length) (hl : l.length ≤ 140737488351232)
    (got : List UInt8) (er x : Int) (j : Nat) (h1 : nn (l.drop i) n = (got, er)) (h2 : (be got : Int) = x) (h3 : i + got.length = j) :
    Calls Try.prog 20 #[.pointer (some ⟨g, 0, none⟩), .int .i64 n] w fun e w' => e = .returned (.tuple #[.int .u64 x, .int .i64 er]) ∧ RCur w' ok g l b j ∧ Kp (· = g) w w' := by
  refine (rnumber_any ok g l b i n w hc hok hi hl).mono ?_
  rintro e w' ⟨rfl, hcur, hk⟩
  rw [h1] at hcur ⊢
  exact ⟨by rw [h2], by simpa only [h3] using hcur, hk⟩
end Go.Proofs.Ytgndammlhljfjaa
