/-
  A number laid seven bits a byte: the walk, and what is told of such bytes.
-/
import Derived.Test.YtjdfgjlbmbiihaaTy6
namespace Go.Proofs.Ytjdfgjlbmbiihaa
open Go.RowKit

/-- append of bytes to bytes of the call's own; only OT's blocks turn. -/
theorem app_bytesT {w : World} {ops : Array Oper} {rest : List Oper} {o : Oper} {a : Act} {Q : Exit → Act → World → Prop} (hgd : o.guard = none) (s x : Operand)
    (ho : o.op = .call { callee := .builtin .append, args := #[s, x], argTypes := #[24, 24] })
    (OT : Nat → Prop) (A : Option Addr) (n c : Nat) (l : List UInt8) (hs : a.eval s = .slice A n c) (hown : Own w OT 5 1 (.slice A n c) n (bc l))
    (ok : Nat → Prop) (Ax : Option Addr) (m cx : Nat) (lx : List UInt8) (hx : a.eval x = .slice Ax m cx) (hm : lx.length = m) (hr : BR w ok (.slice Ax m cx) lx)
    (k : Nat) (hk : n + m = k) (hk2 : k ≤ 140737488355328)
    (h : ∀ A' c' w', Own w' (fun i => OT i ∨ w.heap.size ≤ i) 5 1 (.slice A' k c') k (bc (l ++ lx)) → Kp OT w w' → wpList Try.prog ops Q rest (a.put o.dst (.slice A' k c')) w') : wpList Try.prog ops Q (o :: rest) a w := by
  obtain ⟨i0, hi0, hz0, hz1, hz2⟩ := info_parts u8_info3
  obtain ⟨Ax', cx', e, hcx, hrd⟩ := hr
  injection e with e1 e2 e3
  subst e1 e3
  rw [hm] at hrd
  refine wpList_append_any w hgd s x _ ho 0 5 i0 _ 1 1 Try.underlying24 hi0 hz0 hz1 hz2 rfl (by omega) (.slice A n c) n (bc l) hs hown.1 ok Ax m cx (bc lx) hx hrd (bc_one _) (by simp only [maxLen]; omega) (by omega) (Nat.zero_le _) ?_
  intro v' w' h1 h2 h3
  rw [hk, ← bc_append] at h1
  have hk' : Kp OT w w' := (Kp.refl _ _).grown h2 (fun j hj => .inl (hown.2 j hj))
  have ho' : Own w' (fun i => OT i ∨ w.heap.size ≤ i) 5 1 v' k (bc (l ++ lx)) := ⟨h1, fun j hj => by
    rcases h3 with e | e
    · exact .inl (hown.2 j (e ▸ hj))
    · rw [e] at hj
      injection hj with hj
      exact .inr (by omega)⟩
  obtain ⟨A', c', e, _⟩ := ho'.shape
  subst e
  exact h A' c' w' ho' hk'
theorem app_u64T {w : World} {ops : Array Oper} {rest : List Oper} {o : Oper} {a : Act} {Q : Exit → Act → World → Prop} (hgd : o.guard = none) (s x : Operand)
    (ho : o.op = .call { callee := .builtin .append, args := #[s, x], argTypes := #[22, 22] })
    (OT : Nat → Prop) (A : Option Addr) (n c : Nat) (l : List Nat) (hs : a.eval s = .slice A n c) (hown : Own w OT 23 1 (.slice A n c) n (uc l))
    (ok : Nat → Prop) (Ax : Option Addr) (m cx : Nat) (lx : List Nat) (hx : a.eval x = .slice Ax m cx) (hm : lx.length = m) (hr : UR w ok (.slice Ax m cx) lx)
    (k : Nat) (hk : n + m = k) (hk2 : k ≤ 17592186044416)
    (h : ∀ A' c' w', Own w' (fun i => OT i ∨ w.heap.size ≤ i) 23 1 (.slice A' k c') k (uc (l ++ lx)) → Kp OT w w' → wpList Try.prog ops Q rest (a.put o.dst (.slice A' k c')) w') : wpList Try.prog ops Q (o :: rest) a w := by
  obtain ⟨i0, hi0, hz0, hz1, hz2⟩ := info_parts u64_info
  obtain ⟨Ax', cx', e, hcx, hrd⟩ := hr
  injection e with e1 e2 e3
  subst e1 e3
  rw [hm] at hrd
  refine wpList_append_any w hgd s x _ ho 0 23 i0 _ 1 8 Try.underlying22 hi0 hz0 hz1 hz2 rfl (by omega) (.slice A n c) n (uc l) hs hown.1 ok Ax m cx (uc lx) hx hrd (uc_one _) (by simp only [maxLen]; omega) (by omega) (Nat.zero_le _) ?_
  intro v' w' h1 h2 h3
  rw [hk, ← uc_append] at h1
  have hk' : Kp OT w w' := (Kp.refl _ _).grown h2 (fun j hj => .inl (hown.2 j hj))
  have ho' : Own w' (fun i => OT i ∨ w.heap.size ≤ i) 23 1 v' k (uc (l ++ lx)) := ⟨h1, fun j hj => by
    rcases h3 with e | e
    · exact .inl (hown.2 j (e ▸ hj))
    · rw [e] at hj
      injection hj with hj
      exact .inr (by omega)⟩
  obtain ⟨A', c', e, _⟩ := ho'.shape
  subst e
  exact h A' c' w' ho' hk'

theorem lay7_len (f y : Nat) : (lay7 f y).length ≤ f := by
  induction f generalizing y with
  | zero => simp [lay7]
  | succ f ih =>
    rw [lay7]
    split
    · simp
    · have := ih (y / 128)
      simp
      omega
theorem layL_len (x : Nat) : 1 ≤ (layL x).length ∧ (layL x).length ≤ 11 := by
  have := lay7_len 10 (x / 128)
  simp [layL]
  omega

set_option maxRecDepth 100000 in
set_option maxHeartbeats 1600000 in
theorem lay_any (x : Nat) (hx : x < 18446744073709551616) (w : World) : Calls Try.prog 4 #[.int .u64 x] w fun e w' => ∃ A c, e = .returned (.slice A (layL x).length c) ∧ Own w' (w.heap.size ≤ ·) 5 1 (.slice A (layL x).length c) (layL x).length (bc (layL x)) ∧ Kp (fun _ => False) w w' := by
  have e1 := u64_low7 x hx
  obtain ⟨q, hq⟩ : ∃ q, x % 128 = q := ⟨_, rfl⟩
  rw [hq] at e1
  have hq2 : q < 128 := by omega
  have hlit : #[Value.int .u8 (q : Int)] = (bc [UInt8.ofNat q]).toArray := by
    simp only [bc, List.map_cons, List.map_nil, UInt8.toNat_ofNat', show q % 2 ^ 8 = q from by omega]
  have HO := Lib.hid (Own.lit w [UInt8.ofNat q] _ 1 w.heap.size rfl hlit (Nat.le_refl _) (by decide))
  have hk0 : Kp (fun _ => False) w (w.alloc (.cells #[.int .u8 (q : Int)] 5)) := (Kp.refl _ _).alloc _
  have HL := Lib.hid (show layL x = lay7 10 (x / 128) ++ [UInt8.ofNat q] by rw [layL, hq])
  have hx57 : x / 128 < 144115188075855872 := by omega
  have HQ := Lib.hid hq
  clear hlit hq
  go_enter Try.func4, Try.ntmps4
  go_wp2_with fail
  go_loopw [0, 3] (fun xv bv wr => ∃ (f y : Nat) (B : List UInt8) (A' : Option Addr) (c' : Nat), xv = .int .u64 y ∧ bv = .slice A' B.length c' ∧ Own wr (w.heap.size ≤ ·) 5 1 (.slice A' B.length c') B.length (bc B) ∧ layL x = lay7 f y ++ B ∧ y < 128 ^ f ∧ f ≤ 10 ∧ B.length + f ≤ 11 ∧ y < 144115188075855872 ∧ Kp (fun _ => False) w wr) (fun xv _ _ => (intOf xv).toNat)
  case atStart => exact ⟨10, x / 128, [UInt8.ofNat q], _, _, by go_num, rfl, HO.out, HL.out, by omega, Nat.le_refl _, by simp, hx57, hk0⟩
  case round =>
    obtain ⟨f, y, B, A', c', rfl, rfl, hown, he, hyf, hf, hBf, hy57, hkr⟩ := hrel
    have HOW := Lib.hid hown
    have HE := Lib.hid he
    clear hown he
    by_cases hy : y = 0
    · subst hy
      have hB : layL x = B := by
        rw [HE.out]
        cases f <;> simp [lay7]
      have HB := Lib.hid hB
      clear hB hyf
      go_wp2_with fail
      go_ret
      rw [HB.out]
      exact ⟨A', c', rfl, HOW.out, hkr⟩
    · rcases f with _ | f
      · simp at hyf
        omega
      · have e2 := u64_low7 y (by omega)
        obtain ⟨p, hp⟩ : ∃ p, y % 128 = p := ⟨_, rfl⟩
        rw [hp] at e2
        have hp2 : p < 128 := by omega
        have e3 := u8_hi p hp2
        obtain ⟨p', hp'⟩ : ∃ p', p + 128 = p' := ⟨_, rfl⟩
        rw [hp'] at e3
        have hlit : #[Value.int .u8 (p' : Int)] = (bc [UInt8.ofNat p']).toArray := by
          simp only [bc, List.map_cons, List.map_nil, UInt8.toNat_ofNat', show p' % 2 ^ 8 = p' from by omega]
        have hz := hkr.size
        have HO2 := Lib.hid (Own.lit wr [UInt8.ofNat p'] _ 1 w.heap.size rfl hlit hz (by decide))
        have hka : Kp (fun _ => False) wr (wr.alloc (.cells #[.int .u8 (p' : Int)] 5)) := (Kp.refl _ _).alloc _
        have HB2 := Lib.hid ((HOW.out.kp hka (fun _ _ h => h)).br rfl)
        have hka2 := hkr.then_ hka (fun _ h => h.elim)
        have hza := hka2.size
        have hpos : decide ((0 : Int) < (y : Int)) = true := by simp; omega
        have hpos2 : 0 < y := by omega
        have HEN := Lib.hid (show layL x = lay7 f (y / 128) ++ ([UInt8.ofNat p'] ++ B) by
          rw [HE.out, lay7, if_neg hy, List.append_assoc, ← hp', ← hp])
        have hyf2 : y / 128 < 128 ^ f := by
          rw [Nat.pow_succ] at hyf
          omega
        clear hlit hka hp hp' hyf hy
        go_wp2_with (at_builtin; refine app_bytes rfl (.tmp 18) (.tmp 19) rfl w.heap.size _ 1 _ [UInt8.ofNat p'] rfl rfl HO2.out _ A' B.length c' B rfl rfl HB2.out (1 + B.length) rfl (by omega) hza ?_; intro A2 c2 W2 o2 q2; have O2 := Lib.hid o2; have K2 := Lib.hid (hka2.then_ q2 (fun i hi => .inr hi)); clear o2 q2)
        go_roundw
        case rel => exact ⟨f, y / 128, [UInt8.ofNat p'] ++ B, A2, c2, by go_num, by simp; omega, by simpa [Nat.add_comm] using O2.out, HEN.out, hyf2, by omega, by simp; omega, by omega, K2.out⟩
        case measure => simp [intOf]; omega

/-! ### Plain: what is told of such bytes. -/
theorem go_lay7 (f y : Nat) (hf : y < 128 ^ f) (hy : y < 72057594037927936) (t : List UInt8) (acc : List Nat) : arcsGo (lay7 f y ++ t) 0 acc = arcsGo t y acc := by
  induction f generalizing y t with
  | zero =>
    obtain rfl : y = 0 := by simpa using hf
    rfl
  | succ f ih =>
    rw [lay7]
    by_cases h0 : y = 0
    · subst h0
      rfl
    · rw [if_neg h0, List.append_assoc, ih (y / 128) (by rw [Nat.pow_succ] at hf; omega) (by omega)]
      show arcsGo (UInt8.ofNat (y % 128 + 128) :: t) (y / 128) acc = _
      have e : (UInt8.ofNat (y % 128 + 128)).toNat = y % 128 + 128 := by rw [UInt8.toNat_ofNat']; omega
      rw [arcsGo, if_neg (by omega), e, if_neg (by omega), show y / 128 * 128 + (y % 128 + 128 - 128) = y from by omega]
theorem go_layL (x : Nat) (hx : x < 9223372036854775808) (t : List UInt8) (acc : List Nat) : arcsGo (layL x ++ t) 0 acc = arcsGo t 0 (acc ++ [x]) := by
  rw [layL, List.append_assoc, go_lay7 10 (x / 128) (by omega) (by omega)]
  show arcsGo (UInt8.ofNat (x % 128) :: t) (x / 128) acc = _
  have e : (UInt8.ofNat (x % 128)).toNat = x % 128 := by rw [UInt8.toNat_ofNat']; omega
  rw [arcsGo, if_neg (by omega), e, if_pos (by omega), show x / 128 * 128 + x % 128 = x from by omega]
theorem oid_lay7 (f y : Nat) (hf : y < 128 ^ f) (h0 : y ≠ 0) (t : List UInt8) : oidS (lay7 f y ++ t) true = oidS t false := by
  induction f generalizing y t with
  | zero =>
    simp at hf
    omega
  | succ f ih =>
    rw [lay7, if_neg h0, List.append_assoc]
    have e : (UInt8.ofNat (y % 128 + 128)).toNat = y % 128 + 128 := by rw [UInt8.toNat_ofNat']; omega
    by_cases h1 : y / 128 = 0
    · have e2 : lay7 f (y / 128) = [] := by
        rw [h1]
        cases f <;> simp [lay7]
      rw [e2]
      show oidS (UInt8.ofNat (y % 128 + 128) :: t) true = _
      rw [oidS, e, if_neg (by omega), decide_eq_false (by omega)]
    · rw [ih (y / 128) (by rw [Nat.pow_succ] at hf; omega) h1]
      show oidS (UInt8.ofNat (y % 128 + 128) :: t) false = _
      rw [oidS, e, if_neg (by simp), decide_eq_false (by omega)]
theorem oid_layL (x : Nat) (hx : x < 18446744073709551616) (t : List UInt8) : oidS (layL x ++ t) true = oidS t true := by
  have e : (UInt8.ofNat (x % 128)).toNat = x % 128 := by rw [UInt8.toNat_ofNat']; omega
  rw [layL, List.append_assoc]
  by_cases h0 : x / 128 = 0
  · rw [h0]
    show oidS (UInt8.ofNat (x % 128) :: t) true = _
    rw [oidS, e, if_neg (by omega), decide_eq_true (by omega)]
  · rw [oid_lay7 10 (x / 128) (by omega) h0]
    show oidS (UInt8.ofNat (x % 128) :: t) false = _
    rw [oidS, e, if_neg (by simp), decide_eq_true (by omega)]
theorem oid_lays (xs : List Nat) (h : ∀ x ∈ xs, x < 18446744073709551616) : oidS (xs.flatMap layL) true = some true := by
  induction xs with
  | nil => rfl
  | cons x xs ih =>
    rw [List.flatMap_cons, oid_layL x (h x (by simp))]
    exact ih (fun y hy => h y (by simp [hy]))
theorem go_lays (xs : List Nat) (h : ∀ x ∈ xs, x < 9223372036854775808) (acc : List Nat) : arcsGo (xs.flatMap layL) 0 acc = some (acc ++ xs) := by
  induction xs generalizing acc with
  | nil => simp [arcsGo]
  | cons x xs ih =>
    rw [List.flatMap_cons, go_layL x (h x (by simp)), ih (fun y hy => h y (by simp [hy]))]
    simp
/-- The numbers of an identifier are told as they are. -/
theorem arcs_lays (a b : Nat) (xs : List Nat) (ha : a < 3) (hb : b < 256) (hab : a < 2 → b < 40) (h : ∀ x ∈ xs, x < 9223372036854775808) :
    arcsR (layL (40 * a + b) ++ xs.flatMap layL) = ([a, b] ++ xs, 0) := by
  have h' : ∀ x ∈ (40 * a + b) :: xs, x < 9223372036854775808 := by
    intro x hx
    rcases List.mem_cons.1 hx with rfl | hx
    · omega
    · exact h x hx
  have e : layL (40 * a + b) ++ xs.flatMap layL = ((40 * a + b) :: xs).flatMap layL := by rw [List.flatMap_cons]
  have ho := oid_lays ((40 * a + b) :: xs) (fun x hx => by have := h' x hx; omega)
  have hg := go_lays ((40 * a + b) :: xs) h' []
  have hlen := (layL_len (40 * a + b)).1
  rw [e, arcsR]
  have hoB : oidB (((40 * a + b) :: xs).flatMap layL) = true := by
    rw [oidB, ho]
    simp only [List.flatMap_cons, List.length_append, Bool.and_true, decide_eq_true_eq]
    omega
  rw [hoB, if_neg (by simp), hg]
  have e1 : arc1 (40 * a + b) = a := by
    rw [arc1]
    omega
  simp only [List.nil_append, e1, Nat.add_sub_cancel_left]
theorem arcs_wrong (l : List UInt8) : arcsR (128 :: l) = ([], 13) := by
  have : oidB (128 :: l) = false := by
    rw [oidB, oidS, if_pos ⟨rfl, rfl⟩]
  rw [arcsR, if_pos this]
end Go.Proofs.Ytjdfgjlbmbiihaa
