/-
  dertype.integer, dertype.Number: a small integer's bytes.
-/
import Derived.Test.YtjdfgjlbmbiihaaDoorTy3
namespace Go.Proofs.YtjdfgjlbmbiihaaDoor
open Go.RowKit

theorem i64_or_nat2 (a b : Nat) (ha : a < 9223372036854775808) (hb : b < 9223372036854775808) : bits .or .i64 (a : Int) (b : Int) = ((a ||| b : Nat) : Int) := by
  have hx : a ||| b < 2 ^ 63 := Nat.or_lt_two_pow (by omega) (by omega)
  show IntKind.i64.wrap ((BitVec.ofInt 64 (a : Int) ||| BitVec.ofInt 64 (b : Int)).toNat : Int) = _
  rw [BitVec.toNat_or, ofInt_u64 a (by omega), ofInt_u64 b (by omega)]
  exact IntWalk.i64_in _ (by omega)
theorem i64_or_top (x q : Nat) (hq : q < 2) (hx : x < 256) : bits .or .i64 ((x : Int) * 2) (q : Int) = ((x * 2 + q : Nat) : Int) := by
  rw [show (x : Int) * 2 = ((x * 2 : Nat) : Int) from by omega, i64_or_nat2 _ _ (by omega) (by omega)]
  have := Nat.two_pow_add_eq_or_of_lt (i := 1) (b := q) (by omega) x
  rw [show x * 2 = 2 ^ 1 * x from by omega, this]

/-- May bytes be an integer's? -/
def intB : List UInt8 → Bool
  | [] => false
  | [_] => true
  | b :: c :: _ => !decide (b.toNat * 2 + c.toNat / 128 = 0) && !decide (b.toNat * 2 + c.toNat / 128 = 511)

set_option maxRecDepth 100000 in
theorem integer_any (ok : Nat → Prop) (v : Value) (l : List UInt8) (w : World) (hv : BR w ok v l) (hl : l.length ≤ 140737488355328) :
    Calls Tryd.prog 35 #[v] w fun e w' => e = .returned (.bool (intB l)) ∧ Kp (fun _ => False) w w' := by
  obtain ⟨A, c, rfl, hc, hr⟩ := id hv
  match l, hr, hc, hl with
  | [], hr, hc, hl =>
    go_enter Tryd.func35, Tryd.ntmps35
    go_wp2_with fail
    go_ret
    exact ⟨rfl, Kp.refl _ _⟩
  | [b], hr, hc, hl =>
    go_enter Tryd.func35, Tryd.ntmps35
    go_wp2_with fail
    go_ret
    exact ⟨rfl, Kp.refl _ _⟩
  | b :: d :: u, hr, hc, hl =>
    obtain ⟨g, off, rfl, _, h0⟩ := Rd.byte hr (k := 0) (by simp)
    obtain ⟨g', off', ee, _, h1⟩ := Rd.byte hr (k := 1) (by simp)
    simp only [Option.some.injEq, Addr.mk.injEq, and_true] at ee
    obtain ⟨rfl, rfl⟩ := ee
    simp only [List.getElem_cons_succ, List.getElem_cons_zero, Nat.add_zero] at h0 h1
    obtain ⟨r, hr0⟩ : ∃ r, intB (b :: d :: u) = r := ⟨_, rfl⟩
    rw [hr0]
    rw [intB] at hr0
    have hb := b.toNat_lt
    have hd := d.toNat_lt
    generalize b.toNat = x at hr0 h0 hb
    generalize d.toNat = y at hr0 h1 hd
    have hlen : (b :: d :: u).length = u.length + 2 := rfl
    rw [hlen] at hc hl ⊢
    obtain ⟨q, hq⟩ : ∃ q, y / 128 = q := ⟨_, rfl⟩
    have e1 := i64_or_top x q (by omega) (by omega)
    have e0 : (y : Int) / 128 = (q : Int) := by omega
    obtain ⟨t, ht⟩ : ∃ t, x * 2 + q = t := ⟨_, rfl⟩
    rw [ht] at e1
    rw [hq, ht] at hr0
    have hn1 : (0 : Int) < (u.length : Int) + 2 := by omega
    have hn2 : (1 : Int) < (u.length : Int) + 2 := by omega
    have hn3 : decide ((u.length : Int) + 2 < 2) = false := by simp; omega
    have hq2 : q < 2 := by omega
    clear hq ht hlen hv hr
    by_cases ht0 : t = 0
    · subst ht0
      have hr1 : r = false := by rw [← hr0]; rfl
      subst hr1
      clear hr0
      go_enter Tryd.func35, Tryd.ntmps35
      go_wp2_with fail
      go_quiet (fail)
      go_wp2_with fail
      go_ret
      exact ⟨rfl, (Kp.refl _ _).drewN _⟩
    · by_cases ht1 : t = 511
      · subst ht1
        have hr1 : r = false := by rw [← hr0]; rfl
        subst hr1
        clear hr0 ht0
        go_enter Tryd.func35, Tryd.ntmps35
        go_wp2_with fail
        go_quiet (fail)
        go_wp2_with fail
        go_ret
        exact ⟨rfl, (Kp.refl _ _).drewN _⟩
      · have hr1 : r = true := by rw [← hr0, decide_eq_false ht0, decide_eq_false ht1]; rfl
        subst hr1
        have g0 : ((t : Int) != 0) = true := by simp; omega
        have g1 : ((t : Int) != 511) = true := by simp; omega
        clear hr0 ht0 ht1
        go_enter Tryd.func35, Tryd.ntmps35
        go_wp2_with fail
        go_quiet (fail)
        go_wp2_with fail
        go_ret
        exact ⟨rfl, (Kp.refl _ _).drewN _⟩

/-- The number that bytes are, with its sign. -/
def sgn (n x : Nat) : Int := if 2 * x < 256 ^ n then (x : Int) else (x : Int) - ((256 ^ n : Nat) : Int)
def numR (l : List UInt8) : Int × Int := if intB l = false then (0, 13) else if 8 < l.length then (0, 5) else (sgn l.length (be l), 0)

set_option maxRecDepth 100000 in
set_option maxHeartbeats 3200000 in
theorem dnumber_any (ok : Nat → Prop) (v : Value) (l : List UInt8) (w : World) (hv : BR w ok v l) (hl : l.length ≤ 140737488355328) :
    Calls Tryd.prog 21 #[v] w fun e w' => e = .returned (.tuple #[.int .i64 (numR l).1, .int .i64 (numR l).2]) ∧ Kp (fun _ => False) w w' := by
  obtain ⟨A, c, rfl, hc, hr⟩ := id hv
  have HI := Lib.hid (integer_any ok _ l w hv hl)
  cases hi : intB l
  · have e : numR l = (0, 13) := by rw [numR, if_pos hi]
    rw [e]
    rw [hi] at HI
    clear hi e hv hr
    go_enter Tryd.func21, Tryd.ntmps21
    go_wp2_with fail
    refine HI.out.mono ?_
    rintro e w1 ⟨rfl, hk1⟩
    go_wp2_with fail
    go_ret2
    exact ⟨rfl, hk1⟩
  rw [hi] at HI
  by_cases h8 : 8 < l.length
  · have e : numR l = (0, 5) := by rw [numR, if_neg (by simp [hi]), if_pos h8]
    rw [e]
    clear hi e hv hr
    go_enter Tryd.func21, Tryd.ntmps21
    go_wp2_with fail
    refine HI.out.mono ?_
    rintro e w1 ⟨rfl, hk1⟩
    go_wp2_with fail
    go_ret2
    exact ⟨rfl, hk1⟩
  · have e : numR l = (sgn l.length (be l), 0) := by rw [numR, if_neg (by simp [hi]), if_neg h8]
    have hpos : 1 ≤ l.length := by
      rcases l with _ | _
      · simp [intB] at hi
      · simp
    rw [e]
    have hlt := be_lt l
    have HE := Lib.hid e
    clear hi e hv
    go_enter Tryd.func21, Tryd.ntmps21
    go_wp2_with fail
    refine HI.out.mono ?_
    rintro e w1 ⟨rfl, hk1⟩
    have hr1 := hr.kp hk1 (fun _ _ h => h)
    have HLT := Lib.hid hlt
    clear hlt
    go_wp2_with fail
    go_loop [4, 18] (fun x i => ∃ k : Nat, k ≤ l.length ∧ i = .int .i64 k ∧ x = .int .u64 (be (l.take k) : Int)) (fun _ i => l.length - (intOf i).toNat)
    case atStart => exact ⟨0, Nat.zero_le _, rfl, rfl⟩
    case round =>
      obtain ⟨k, hk, rfl, rfl⟩ := hrel
      by_cases hlt : k < l.length
      · obtain ⟨g, off, rfl, _, hcell⟩ := hr1.byte hlt
        have hbk := be_take l k hlt
        have hbs := be_small l k hlt (by omega)
        have hy := (l[k]).toNat_lt
        generalize (l[k]).toNat = y at hcell hbk hy
        generalize hx : be (l.take k) = x at hbk hbs
        have e2 := or_byte x y (by omega) hbs
        obtain ⟨z, hz⟩ : ∃ z, x * 256 + y = z := ⟨_, rfl⟩
        rw [hz] at e2 hbk
        have e3 : bits .or .u64 ((x : Int) * 256) (y : Int) = (z : Int) := by
          have : IntKind.u64.wrap ((x : Int) * 256) = (x : Int) * 256 := by rw [IntKind.wrap_u64]; omega
          rwa [this] at e2
        have HB := Lib.hid hbk
        clear hbk hz hx
        go_wp2_with fail
        go_round
        case rel => exact ⟨k + 1, by omega, by go_num, by rw [HB.out]⟩
        case measure => simp [intOf]; omega
      · obtain rfl : k = l.length := by omega
        rw [List.take_of_length_le (Nat.le_refl _)]
        have hb := HLT.out
        have hn : l.length = 1 ∨ l.length = 2 ∨ l.length = 3 ∨ l.length = 4 ∨ l.length = 5 ∨ l.length = 6 ∨ l.length = 7 ∨ l.length = 8 := by omega
        obtain ⟨x, hx⟩ : ∃ x, be l = x := ⟨_, rfl⟩
        obtain ⟨n, hn0⟩ : ∃ n, l.length = n := ⟨_, rfl⟩
        obtain ⟨S, hS⟩ : ∃ S, sgn l.length (be l) = S := ⟨_, rfl⟩
        have hS2 : sgn n x = S := by rw [← hn0, ← hx]; exact hS
        have HS := Lib.hid hS
        rw [hx]
        rw [hx, hn0] at hb
        rw [hn0] at hn ⊢
        clear hr hr1 HLT HE HI hpos h8 hc hl hS hx hn0
        rcases hn with rfl | rfl | rfl | rfl | rfl | rfl | rfl | rfl
        · simp at hb
          have hs : wrap64 ((x : Int) * 72057594037927936) / 72057594037927936 = S := by
            rw [← hS2, sgn]
            unfold wrap64
            split <;> simp at * <;> omega
          clear hS2
          go_wp2_with fail
          go_ret2
          exact ⟨by rw [HS.out]; rfl, hk1⟩
        · simp at hb
          have hs : wrap64 ((x : Int) * 281474976710656) / 281474976710656 = S := by
            rw [← hS2, sgn]
            unfold wrap64
            split <;> simp at * <;> omega
          clear hS2
          go_wp2_with fail
          go_ret2
          exact ⟨by rw [HS.out]; rfl, hk1⟩
        · simp at hb
          have hs : wrap64 ((x : Int) * 1099511627776) / 1099511627776 = S := by
            rw [← hS2, sgn]
            unfold wrap64
            split <;> simp at * <;> omega
          clear hS2
          go_wp2_with fail
          go_ret2
          exact ⟨by rw [HS.out]; rfl, hk1⟩
        · simp at hb
          have hs : wrap64 ((x : Int) * 4294967296) / 4294967296 = S := by
            rw [← hS2, sgn]
            unfold wrap64
            split <;> simp at * <;> omega
          clear hS2
          go_wp2_with fail
          go_ret2
          exact ⟨by rw [HS.out]; rfl, hk1⟩
        · simp at hb
          have hs : wrap64 ((x : Int) * 16777216) / 16777216 = S := by
            rw [← hS2, sgn]
            unfold wrap64
            split <;> simp at * <;> omega
          clear hS2
          go_wp2_with fail
          go_ret2
          exact ⟨by rw [HS.out]; rfl, hk1⟩
        · simp at hb
          have hs : wrap64 ((x : Int) * 65536) / 65536 = S := by
            rw [← hS2, sgn]
            unfold wrap64
            split <;> simp at * <;> omega
          clear hS2
          go_wp2_with fail
          go_ret2
          exact ⟨by rw [HS.out]; rfl, hk1⟩
        · simp at hb
          have hs : wrap64 ((x : Int) * 256) / 256 = S := by
            rw [← hS2, sgn]
            unfold wrap64
            split <;> simp at * <;> omega
          clear hS2
          go_wp2_with fail
          go_ret2
          exact ⟨by rw [HS.out]; rfl, hk1⟩
        · simp at hb
          have hs : wrap64 (x : Int) = S := by
            rw [← hS2, sgn]
            unfold wrap64
            split <;> simp at * <;> omega
          clear hS2
          go_wp2_with fail
          go_ret2
          exact ⟨by rw [HS.out]; rfl, hk1⟩
end Go.Proofs.YtjdfgjlbmbiihaaDoor
