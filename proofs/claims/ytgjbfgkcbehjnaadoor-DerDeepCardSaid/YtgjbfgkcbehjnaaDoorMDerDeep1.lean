/-
  The law DerDeep: for every input it returns true, and its arguments read behind the call as before it. No condition.
-/
import Derived.Deep.CutRange
import Derived.Test.YtgjbfgkcbehjnaaDoorRows
import Derived.Test.YtgjbfgkcbehjnaaDoorCards
import Derived.Test.YtgjbfgkcbehjnaaDoorTie
import Derived.SevenTiedAt
import Derived.ProofKit
import Derived.LaidMore
import Derived.Stop.Joined
import Derived.Test.YtgjbfgkcbehjnaaDoorBX1
import Derived.Test.YtgjbfgkcbehjnaaDoorBX2
import Derived.Test.YtgjbfgkcbehjnaaDoorBX3

set_option linter.unusedVariables false
set_option linter.unusedSimpArgs false
namespace Go.Proofs.YtgjbfgkcbehjnaaDoor
open Go.RowKit

mutual
def depN : Nd → Nat
  | .mk _ l => depNs l 0 + 1
def depNs : List Nd → Nat → Nat
  | [], d => d
  | x :: l, d => depNs l (max d (depN x))
end
theorem depN_mk (a : NH) (l : List Nd) : depN (.mk a l) = depNs l 0 + 1 := by rw [depN]
theorem depNs_ge : ∀ (l : List Nd) (d : Nat), d ≤ depNs l d
  | [], d => by rw [depNs]; exact Nat.le_refl _
  | x :: l, d => by rw [depNs]; exact Nat.le_trans (Nat.le_max_left _ _) (depNs_ge l _)
theorem depNs_mem : ∀ (l : List Nd) (d : Nat) (x : Nd), x ∈ l → depN x ≤ depNs l d
  | y :: l, d, x, h => by
    rw [depNs]
    rcases List.mem_cons.1 h with rfl | h
    · exact Nat.le_trans (Nat.le_max_right _ _) (depNs_ge l _)
    · exact depNs_mem l _ x h
theorem depN_kid {a : NH} {l : List Nd} {x : Nd} (h : x ∈ l) : depN x < depN (.mk a l) := by
  rw [depN_mk]
  have := depNs_mem l 0 x h
  omega
theorem depNs_drop {l : List Nd} {j d : Nat} (h : j < l.length) : depNs (l.drop j) d = depNs (l.drop (j + 1)) (max d (depN l[j])) := by
  rw [List.drop_eq_getElem_cons h, depNs]
theorem depNs_end {l : List Nd} {j d : Nat} (h : l.length ≤ j) : depNs (l.drop j) d = d := by rw [List.drop_of_length_le h, depNs]

set_option maxRecDepth 100000 in
set_option maxHeartbeats 3200000 in
theorem depth_anyN (ok : Nat → Prop) : ∀ (x : Nd) (v : Value) (w : World), NdR w ok v x → depN x ≤ 1000000 →
    Calls Tryd.prog 24 #[v] w fun e w' => e = .returned (.int .i64 (depN x : Nat)) ∧ Kp (fun _ => False) w w' := by
  intro x
  induction x using RT.induct with
  | h a l ih =>
  intro v w hv hd
  have hkid : ∀ y ∈ l, depN y ≤ 1000000 := fun y hy => by have := depN_kid (a := a) hy; omega
  have hkd : ∀ y ∈ l, depN y ≤ depNs l 0 := fun y hy => depNs_mem l 0 y hy
  obtain ⟨c, t, m, B⟩ := a
  obtain ⟨A1, c1, A2, c2, rfl, _, _, hc1, hl1, hb, hc2, hl2, hs⟩ := hv.parts
  have hk0 : Kp (fun _ => False) w (w.alloc (.cells #[.int .i64 c, .int .i64 t, .bool m, .slice A1 B.length c1, .slice A2 l.length c2] 25)) := (Kp.refl _ _).alloc _
  have hq1 := Blk.new w 25 #[.int .i64 c, .int .i64 t, .bool m, .slice A1 B.length c1, .slice A2 l.length c2]
  rw [depN_mk] at hd ⊢
  obtain ⟨r, hr⟩ : ∃ r, depNs l 0 = r := ⟨_, rfl⟩
  rw [hr] at hd hkd ⊢
  have HK := Lib.hid hk0
  have HQ1 := Lib.hid hq1
  have HS := Lib.hid (hs.kp hk0 (fun _ _ h => h))
  have HIH := Lib.hid ih
  have HKD := Lib.hid (fun y hy => And.intro (hkid y hy) (hkd y hy))
  have HR0 := Lib.hid (show depNs (l.drop 0) 0 = r from hr)
  clear hv hb hs hk0 hq1 ih hr hkid hkd
  go_enter Tryd.func24, Tryd.ntmps24
  go_upto_region 1 with fail
  generalize w.alloc (.cells #[.int .i64 c, .int .i64 t, .bool m, .slice A1 B.length c1, .slice A2 l.length c2] 25) = W0 at HK HQ1 HS ⊢
  have x4 := HQ1.out.cell 4
  simp at x4
  go_upto_region 3 with fail
  clear x4
  go_loopw [3, 9] (fun kv i wr => ∃ j d : Nat, j ≤ l.length ∧ i = .int .i64 j ∧ kv = .int .i64 d ∧ d ≤ r ∧ depNs (l.drop j) d = r ∧ Kp (fun _ => False) W0 wr) (fun _ i _ => l.length - (intOf i).toNat)
  case atStart => exact ⟨0, 0, Nat.zero_le _, rfl, rfl, Nat.zero_le _, HR0.out, Kp.refl _ _⟩
  case round =>
    obtain ⟨j, d, hj, rfl, rfl, hdr, he, hkr⟩ := hrel
    have HJ := Lib.hid he
    have HKR := Lib.hid hkr
    clear he hkr
    by_cases hlt : j < l.length
    · obtain ⟨bo, of, A5, c5, A6, c6, rfl, _, hf5, p0, p1, p2, p3, p4⟩ := (HS.out.kp HKR.out (fun _ _ h => h)).at_ hlt
      have hst := depNs_drop (d := d) hlt
      have hmem : l[j] ∈ l := List.getElem_mem hlt
      generalize hp : l[j] = y at hf5 p0 p1 p2 p3 p4 hst hmem
      clear hp
      have hka : ∀ o, Kp (fun _ => False) wr (wr.alloc o) := fun o => (Kp.refl _ _).alloc o
      have HKA := Lib.hid hka
      obtain ⟨hy1, hy2⟩ := HKD.out y hmem
      have HC := Lib.hid (fun o => HIH.out y hmem _ (wr.alloc o) (hf5.kp (hka o) (fun _ _ h => h)) hy1)
      have HD := Lib.hid hst
      generalize depN y = q at HC HD hy1 hy2
      have hm0 : (0 : Int) ≤ (j : Int) := by omega
      have hm1 : (j : Int) < (l.length : Int) := by omega
      clear hst hmem hf5 hka
      by_cases hdq : d < q
      · have hmx : max d q = q := by omega
        rw [hmx] at HD
        go_wp2_with (go_at_call 24; refine (HC.out _).mono ?_; rintro e w5 ⟨rfl, hk5⟩; have HK5 := Lib.hid (HKR.out.then_ ((HKA.out _).then_ hk5 (fun _ h => h.elim)) (fun _ h => h.elim)); clear hk5)
        go_roundw
        case rel => exact ⟨j + 1, q, by omega, by go_num, by go_num, by omega, by rw [← HD.out]; exact HJ.out, HK5.out⟩
        case measure => simp [intOf]; omega
      · have hmx : max d q = d := by omega
        have hqd : q ≤ d := by omega
        rw [hmx] at HD
        clear hdq
        go_wp2_with (go_at_call 24; refine (HC.out _).mono ?_; rintro e w5 ⟨rfl, hk5⟩; have HK5 := Lib.hid (HKR.out.then_ ((HKA.out _).then_ hk5 (fun _ h => h.elim)) (fun _ h => h.elim)); clear hk5)
        go_roundw
        case rel => exact ⟨j + 1, d, by omega, by go_num, by go_num, by omega, by rw [← HD.out]; exact HJ.out, HK5.out⟩
        case measure => simp [intOf]; omega
    · have HX := Lib.hid (show d = r by rw [← HJ.out, depNs_end (by omega)])
      have hle : l.length ≤ j := by omega
      clear hlt
      go_wp2_with fail
      go_ret
      exact ⟨by rw [← HX.out]; rfl, HK.out.then_ HKR.out (fun _ h => h.elim)⟩
end Go.Proofs.YtgjbfgkcbehjnaaDoor

namespace Go.Proofs.YtgjbfgkcbehjnaaDoor
open Go.RowKit

/-- The first byte of a thing in a thing. -/
def deepC (t : Nat) : UInt8 := UInt8.ofNat (160 + t % 16)
/-- Things in things. -/
def deepB (t : Nat) : Nat → List UInt8
  | 0 => [5, 0]
  | k + 1 => deepC t :: UInt8.ofNat (deepB t k).length :: deepB t k
theorem deepB_len (t : Nat) : ∀ k, (deepB t k).length = 2 * k + 2
  | 0 => rfl
  | k + 1 => by rw [deepB, List.length_cons, List.length_cons, deepB_len t k]; omega
def deepX (t : Nat) : Nat → Nd
  | 0 => .mk ⟨0, 5, false, []⟩ []
  | k + 1 => .mk ⟨2, ((t % 16 : Nat) : Int), true, []⟩ [deepX t k]
theorem deepX_dep (t : Nat) : ∀ k, depN (deepX t k) = k + 1
  | 0 => by rw [deepX, depN_mk, depNs]
  | k + 1 => by rw [deepX, depN_mk, depNs, depNs, deepX_dep t k]; omega
theorem deepC_rd (t : Nat) : topB (deepC t) = true ∧ ((deepC t).toNat : Int) / 64 = 2 ∧ ((deepC t).toNat : Int) % 32 = ((t % 16 : Nat) : Int) ∧ ((deepC t).toNat / 32 % 2 == 1) = true := by
  have h : ∀ x : Fin 16, topB (UInt8.ofNat (160 + x.val)) = true ∧ ((UInt8.ofNat (160 + x.val)).toNat : Int) / 64 = 2 ∧ ((UInt8.ofNat (160 + x.val)).toNat : Int) % 32 = ((x.val : Nat) : Int) ∧ ((UInt8.ofNat (160 + x.val)).toNat / 32 % 2 == 1) = true := by decide +kernel
  exact h ⟨t % 16, Nat.mod_lt _ (by decide)⟩
theorem deep_head (t k : Nat) (h : 2 * k + 2 < 128) : rd (deepB t (k + 1)) = ((2, ((t % 16 : Nat) : Int), true, ((deepB t k).length : Int)), 2, 0) := by
  obtain ⟨h1, h2, h3, h4⟩ := deepC_rd t
  have hl := deepB_len t k
  have hu : (UInt8.ofNat (deepB t k).length).toNat = (deepB t k).length := by rw [UInt8.toNat_ofNat']; omega
  rw [deepB, rd, if_pos h1, if_pos (by omega), hdB, h2, h3, h4, hu]
theorem deep_one (t : Nat) : ∀ (d k : Nat), k ≤ 60 → oneN d (deepB t k) = if k < d then .got (deepX t k) [] else .bad (2 * d) 14 := by
  intro d
  induction d with
  | zero =>
    intro k _
    rw [oneN, if_neg (by omega)]
  | succ d ih =>
    intro k hk
    cases k with
    | zero =>
      rw [if_pos (by omega)]
      have hq : rd (deepB t 0) = ((0, 5, false, ((0 : Nat) : Int)), ((2 : Nat) : Int), 0) := by kernel_rfl
      rw [oneN_good hq, bodyN, if_neg (by rw [deepB_len]; omega), if_neg (by decide), if_neg (by rintro ⟨_, h⟩; exact h rfl)]
      rfl
    | succ k =>
      have hq := deep_head t k (by omega)
      have hl := deepB_len t k
      rw [oneN_good (K := 2) hq, bodyN, if_neg (by rw [deepB_len, hl]; omega), if_pos rfl]
      have hd : (deepB t (k + 1)).drop 2 = deepB t k := by rw [deepB]; rfl
      have hd2 : (deepB t (k + 1)).drop (2 + (deepB t k).length) = [] := by rw [← List.drop_drop, hd, List.drop_length]
      rw [hd, hd2, List.take_length]
      obtain ⟨n, hn⟩ : ∃ n, (deepB t k).length = n + 1 := ⟨2 * k + 1, by omega⟩
      rw [hn, iterN_step (by omega), ih k (by omega)]
      by_cases h : k < d
      · rw [if_pos h, if_pos (by omega)]
        simp only
        rw [iterN_end rfl]
        rfl
      · rw [if_neg h, if_neg (by omega)]
        simp only
        congr 1
        omega
theorem deep_read (t k : Nat) (hk : k ≤ 60) : readN (deepB t k) = if k < 8 then (deepX t k, (deepB t k).length, 0) else (.mk ⟨0, 0, false, []⟩ [], 16, 14) := by
  rw [readN, deep_one t 8 k hk]
  by_cases h : k < 8
  · rw [if_pos h, if_pos h]
    rfl
  · rw [if_neg h, if_neg h]
theorem deep_byte (t : Nat) (ht : t < 256) : bits .or .u8 160 ((t : Int) % 16) = ((deepC t).toNat : Int) := by
  have h : ∀ x : Fin 256, bits .or .u8 160 (((x.val : Nat) : Int) % 16) = ((deepC x.val).toNat : Int) := by decide +kernel
  exact h ⟨t, ht⟩
theorem max_mod20N (n : Int) : ∃ k : Nat, max 0 n % 20 = (k : Int) ∧ k < 20 := by
  refine ⟨(max 0 n % 20).toNat, ?_, ?_⟩ <;> omega

set_option maxRecDepth 100000 in
set_option maxHeartbeats 6400000 in
theorem ddeep_walk (w : World) (tab : TabN w) (n : Int) (_hn : (Lit.int .i64 n).wf = true) (tag : Int) (ht : (Lit.int .u8 tag).wf = true) :
    Calls Tryd.prog 5 #[.int .i64 n, .int .u8 tag] w fun e w' => e = .returned (.bool true) ∧ Below w.heap.size w w' := by
  refine Calls.mono (R := fun e w' => e = .returned (.bool true) ∧ Kp (fun _ => False) w w') ?_ fun _ _ ⟨h1, h2⟩ => ⟨h1, h2.below⟩
  obtain ⟨k, hk, hk20⟩ := max_mod20N n
  obtain ⟨ht0, ht1⟩ := bounds_u8 ht
  obtain ⟨t, rfl⟩ := Int.eq_ofNat_of_zero_le ht0
  have HN := Lib.hid hk
  have HT := Lib.hid (fun W (hk : Kp (fun _ => False) w W) => tab.kp0 hk)
  have hbt := deep_byte t (by omega)
  clear hk tab ht
  go_enter Tryd.func5, Tryd.ntmps5
  go_upto_region 2 with fail
  rw [HN.out]
  generalize max 0 n = mx
  go_upto_region 4 with fail
  have ka : Kp (fun _ => False) w (w.alloc (.cells #[.int .u8 5, .int .u8 0] 5)) := (Kp.refl _ _).alloc _
  have hb := BR.lit w 5 [5, 0] #[.int .u8 5, .int .u8 0] 2 rfl rfl
  have HB := Lib.hid (hb.mono (ok' := (w.heap.size ≤ ·)) (fun i (hi : i = w.heap.size) => by omega))
  have HK := Lib.hid ka
  clear ka hb
  generalize w.alloc (.cells #[.int .u8 5, .int .u8 0] 5) = W0 at HB HK ⊢
  go_loopw [6, 15] (fun sv i wr => ∃ (j : Nat) (A : Option Addr) (c : Nat), j ≤ k ∧ i = .int .i64 j ∧ sv = .slice A (2 * j + 2) c ∧ BR wr (w.heap.size ≤ ·) (.slice A (2 * j + 2) c) (deepB t j) ∧ Kp (fun _ => False) w wr) (fun _ i _ => k - (intOf i).toNat)
  case atStart => exact ⟨0, _, _, Nat.zero_le _, rfl, rfl, HB.out, HK.out⟩
  case round =>
    obtain ⟨j, A, c, hj, rfl, rfl, hbr, hkr⟩ := hrel
    have HBR := Lib.hid hbr
    have HKR := Lib.hid hkr
    clear hbr hkr
    by_cases hjk : j < k
    · have hjk1 : (j : Int) < (k : Int) := by omega
      have ka : Kp (fun _ => False) wr (wr.alloc (.cells #[.int .u8 ((deepC t).toNat : Int), .int .u8 (2 * (j : Int) + 2)] 5)) := (Kp.refl _ _).alloc _
      have hly := deepB_len t j
      have HO := Lib.hid (Own.lit wr [deepC t, UInt8.ofNat (2 * j + 2)] #[.int .u8 ((deepC t).toNat : Int), .int .u8 (2 * (j : Int) + 2)] 2 wr.heap.size rfl (by simp [bc]; omega) (Nat.le_refl _) (by decide))
      have HV := Lib.hid (HBR.out.kp ka (fun _ _ h => h))
      have hz := ka.size
      have HKA := Lib.hid ka
      have hst : deepC t :: UInt8.ofNat (2 * j + 2) :: deepB t j = deepB t (j + 1) := by rw [deepB, hly]
      have HST := Lib.hid hst
      clear ka hst
      go_wp2_with (at_builtin; refine app_bytes rfl (.tmp 23) (.tmp 24) rfl wr.heap.size _ 2 _ [deepC t, UInt8.ofNat (2 * j + 2)] rfl rfl HO.out _ A (2 * j + 2) c (deepB t j) rfl hly HV.out (2 * (j + 1) + 2) (by omega) (by omega) hz ?_; intro A2 c2 W2 o2 q2; have O2 := Lib.hid o2; have K2 := Lib.hid (HKR.out.then_ (HKA.out.then_ q2 (fun i hi => .inr hi)) (fun _ h => h.elim)); clear o2 q2)
      go_roundw
      case rel =>
        refine ⟨j + 1, A2, c2, by omega, by go_num, rfl, ?_, K2.out⟩
        have h := O2.out.br (by simp [hly]; omega)
        rw [List.cons_append, List.cons_append, List.nil_append, HST.out] at h
        exact h.mono (fun i (hi : wr.heap.size ≤ i) => by have := HKR.out.size; omega)
      case measure => simp [intOf]; omega
    · obtain rfl : j = k := by omega
      have hrr := deep_read t j (by omega)
      have hci := readD_any _ (.slice A (2 * j + 2) c) (deepB t j) 0 wr HBR.out (HT.out _ HKR.out) (by rw [deepB_len]; omega) (by decide) (by rw [deepB_len]; omega)
      unfold ReadP at hci
      by_cases h8 : j < 8
      · rw [if_pos h8] at hrr
        rw [hrr] at hci
        simp only [Int.zero_add] at hci
        have HC := Lib.hid hci
        have hdx := deepX_dep t j
        generalize deepX t j = x at *
        clear hci hrr
        go_upto_region 8 with (go_at_call 21; refine HC.out.mono ?_; rintro e w2 ⟨u, rfl, hvx, hk2⟩; obtain ⟨A1, c1, A2, c2, rfl, _⟩ := hvx.shape; have HVX := Lib.hid hvx; have HK2 := Lib.hid (HKR.out.then_ hk2 (fun _ h => h.elim)); clear hvx hk2)
        have ka : Kp (fun _ => False) w2 (w2.alloc (.cells #[.int .i64 x.a.c, .int .i64 x.a.t, .bool x.a.m, .slice A1 x.a.b.length c1, .slice A2 x.l.length c2] 25)) := (Kp.refl _ _).alloc _
        have HX3 := Lib.hid (Blk.new w2 25 #[.int .i64 x.a.c, .int .i64 x.a.t, .bool x.a.m, .slice A1 x.a.b.length c1, .slice A2 x.l.length c2])
        have HK3 := Lib.hid (HK2.out.then_ ka (fun _ h => h.elim))
        have HV3 := Lib.hid ((HVX.out.kp ka (fun _ _ h => h)).mono (ok' := fun _ => True) (fun _ _ => trivial))
        clear ka HVX HK2 HC
        generalize w2.alloc (.cells #[.int .i64 x.a.c, .int .i64 x.a.t, .bool x.a.m, .slice A1 x.a.b.length c1, .slice A2 x.l.length c2] 25) = W3 at HX3 HK3 HV3 ⊢
        generalize w2.heap.size = bx at HX3 ⊢
        have HAL := Lib.hid (alive11 W3 (HT.out _ HK3.out))
        have h8b : (j : Int) + 1 ≤ 8 := by omega
        go_upto_region 10 with fail
        go_wp2_with fail
        refine HAL.out.mono ?_
        rintro e w4 ⟨rfl, hk4⟩
        have HK4 := Lib.hid (HK3.out.then_ hk4 (fun _ h => h.elim))
        have HX4 := Lib.hid (HX3.out.kp hk4 (fun h => h))
        have hdp := depth_anyN _ x _ w4 (HV3.out.kp hk4 (fun _ _ h => h)) (by omega)
        rw [hdx] at hdp
        have HD := Lib.hid hdp
        clear hk4 hdp HX3 HK3 HV3 HAL
        have p0 := HX4.out.cell 0
        have p1 := HX4.out.cell 1
        have p2 := HX4.out.cell 2
        have p3 := HX4.out.cell 3
        have p4 := HX4.out.cell 4
        simp at p0 p1 p2 p3 p4
        go_wp2_with (go_at_call 24; refine HD.out.mono ?_; rintro e w5 ⟨rfl, hk5⟩; have HK5 := Lib.hid (HK4.out.then_ hk5 (fun _ h => h.elim)); clear hk5)
        go_ret
        exact ⟨rfl, HK5.out⟩
      · rw [if_neg h8] at hrr
        rw [hrr] at hci
        simp only [Int.zero_add] at hci
        have HC := Lib.hid hci
        clear hci hrr
        go_upto_region 8 with (go_at_call 21; refine HC.out.mono ?_; rintro e w2 ⟨u, rfl, hvx, hk2⟩; obtain ⟨A1, c1, A2, c2, rfl, _⟩ := hvx.shape; have HK2 := Lib.hid (HKR.out.then_ hk2 (fun _ h => h.elim)); clear hvx hk2)
        simp only [RT.a, RT.l, List.length_nil]
        have HK3 := Lib.hid (HK2.out.alloc (.cells #[.int .i64 0, .int .i64 0, .bool false, .slice A1 0 c1, .slice A2 0 c2] 25))
        generalize w2.alloc (.cells #[.int .i64 0, .int .i64 0, .bool false, .slice A1 0 c1, .slice A2 0 c2] 25) = W3 at HK3 ⊢
        have HAL := Lib.hid (alive11 W3 (HT.out _ HK3.out))
        have h8b : 8 < (j : Int) + 1 := by omega
        go_upto_region 9 with fail
        go_wp2_with fail
        refine HAL.out.mono ?_
        rintro e w4 ⟨rfl, hk4⟩
        have HK4 := Lib.hid (HK3.out.then_ hk4 (fun _ h => h.elim))
        clear hk4
        go_wp2_with fail
        go_ret
        exact ⟨rfl, HK4.out⟩
end Go.Proofs.YtgjbfgkcbehjnaaDoor

namespace Go.Proofs.YtgjbfgkcbehjnaaDoor
open Go.RowKit

theorem tabN {W : World} {laid : List (String × DataW Unit)} (h : laidMetH Tryd.prog laid W)
    (hf : (laid.filter fun x => x.1 == "passepartout/dertype.days") = [("passepartout/dertype.days", Lib.tabData .i64 daysT)])
    (hg : (laid.filter fun x => x.1 == "passepartout/dertag.plain" || x.1 == "passepartout/dertag.made") = [("passepartout/dertag.plain", Lib.tabData .i64 plainT), ("passepartout/dertag.made", Lib.tabData .i64 madeT)]) : TabN W := by
  refine ⟨tab09 ?_, tab10 h hf⟩
  rw [← hg]
  exact h.filter _
end Go.Proofs.YtgjbfgkcbehjnaaDoor

namespace Go.Proofs.YtgjbfgkcbehjnaaDoor.derDeep
open Go.ChangeShapes Go.WideShapes Go.ChangeAt Go.RowKit
set_option linter.unusedVariables false

theorem own : ownKnob Tryd.prog.godebug = none := by kernel_rfl
theorem laidOut : laidOutB Tryd.prog = true := by kernel_rfl

theorem door_met (os : Os) (args : Array Value) : laidMetH Tryd.prog Rows.derDeepRow.laid ((World.doorLaid Tryd.prog 77 os).forCall (fun _ _ => 0) ⟨#[], args, []⟩).memory :=
  laidMetH_of_parts3 (fuel := 8) (laidMet_of_run' 8 (by kernel_rfl) (by kernel_rfl)) (by kernel_rfl) (by kernel_rfl)

set_option maxRecDepth 100000 in
theorem lifted (os : Os) (started : os.Started) (H : Type) (enc : TypeId × Value → H) :
    ReturnsInHanded {} Tryd.checked os 5 .any (fun w args => (Rows.derDeepSpec.pre enc Tryd.prog Tryd.f5 [] false w args ∧ laidMetH Tryd.prog Rows.derDeepRow.laid w) ∧ sizedMet enc Tryd.prog Tryd.f5 (OpenSpec.ofChange Rows.derDeepSpec) false w args) (Rows.derDeepSpec.post enc Tryd.prog Tryd.f5 false true false false) := by
  refine returnsInHanded_of_change_and (C := Tryd.checked) (X := fun w _ => laidMetH Tryd.prog Rows.derDeepRow.laid w) (fun _ _ _ hh h => h.of_heap hh) own started (by kernel_rfl) Tryd.func5
    (ChangeSpec.witness_shaped (enc := enc) (C := Tryd.checked) (os := os) (X := fun w _ => laidMetH Tryd.prog Rows.derDeepRow.laid w) false (World.doorLaid Tryd.prog 77 os) #[.int .i64 0, .int .u8 0] 8 rfl (World.shaped_of_RefB (by kernel_rfl) (by kernel_rfl)) (by kernel_rfl) (by kernel_rfl) (by kernel_rfl) (door_met os _)) ?_
  intro W base args ds gs before hval0 hW hcnd hsz0 hL _
  have tab := tabN (hf := by kernel_rfl) (hg := by kernel_rfl) hL
  have hval : ∀ (j : Nat) t v, Tryd.f5.params[j]? = some t → args[j]? = some v → Value.okWide Tryd.prog W .any base t v := hval0
  have hW' := hW
  obtain ⟨p, q, hA0, hV, rfl, hfz, hnd⟩ := hW
  have hA : DataW.TrodAll enc Tryd.prog W 0 (fun _ => true) true Tryd.f5.params.toList args.toList ds p := hA0
  obtain ⟨rfl, rfl⟩ := trodVars_none hV
  have hsz : (DataW.weightsEach Tryd.prog (Tryd.f5.params.toList ++ []) (ds ++ [])).all (· ≤ reachBytes) = true := hsz0
  rw [List.append_nil, List.append_nil] at hsz
  rw [Tryd.params5] at hA hval hsz
  obtain ⟨v0, vs0, d0, ds0, p0, q0, hargs, rfl, rfl, h0, r0⟩ := trodAll_cons hA
  obtain ⟨v1, vs1, d1, ds1, p1, q1, rfl, rfl, rfl, h1, r1⟩ := trodAll_cons r0
  obtain ⟨rfl, rfl, rfl⟩ := trodAll_nil r1
  obtain rfl : args = #[v0, v1] := by cases args; simp_all
  have k0 := h0
  have lt0 : ∀ x ∈ p0, x.block < W.heap.size := by obtain ⟨m, hm⟩ := k0; exact DataW.trod_lt m _ _ _ hm
  have k1 := h1
  have lt1 : ∀ x ∈ p1, x.block < W.heap.size := by obtain ⟨m, hm⟩ := k1; exact DataW.trod_lt m _ _ _ hm
  obtain ⟨a0, rfl, rfl, rfl, w0⟩ := open_int Tryd.underlying3 (hval 0 3 v0 rfl rfl) h0
  obtain ⟨a1, rfl, rfl, rfl, w1⟩ := open_int Tryd.underlying5 (hval 1 5 v1 rfl rfl) h1
  clear hA0 hval0 hsz0
  refine (ddeep_walk W tab a0 w0 a1 w1).mono fun e W' ⟨he, bel⟩ => ?_
  subst he
  exact ⟨_, rfl, _, _, _, [], _, [], hW', trodAll_mk1 (shut_bool Tryd.underlying4 _), (trodAll_cons_mk (Below.trod laidOut (by kernel_rfl) (of_decide_eq_true (by kernel_rfl)) k0 bel lt0) (trodAll_cons_mk (Below.trod laidOut (by kernel_rfl) (of_decide_eq_true (by kernel_rfl)) k1 bel lt1) trodAll_mk0)), rfl, bel.frame _, fun h => by cases h⟩

theorem over : Rows.derDeepRow.holds Tryd.pinned (OpenSpec.ofChange Rows.derDeepSpec) :=
  OpenClaim.holds_of_wide 5 Tryd.f5 rfl rfl rfl rfl rfl rfl rfl ⟨rfl, rfl, rfl, rfl, rfl⟩ rfl rfl rfl rfl rfl (by kernel_rfl) Tryd.func5 (by kernel_rfl)
    (of_decide_eq_true (by kernel_rfl)) (by unfold Func.isWrapper; first | (rw [if_pos (by decide +kernel)]; kernel_rfl) | (rw [if_neg (by decide +kernel)]; exact ⟨rfl, rfl⟩))
    (fun os started H enc _ => lifted os started H enc)

/-- The tied card. -/
theorem proved : Rows.DerDeepCardSaid :=
  Claim7.holds_tied_plain_at .later [] [.data, .data, .data, .sentinel, .sentinel, .widerDeep, .widerDeep, .data] true (true, "0ab74d96bed3506d8a76af22bf9d6f6d114eadcc4072f4d921186855ad1623b7") true
    over (fun _ h => by cases h) (by kernel_rfl) (fun _ h => by cases h) derDeep_row_tie rfl ⟨rfl, rfl⟩ (by kernel_rfl) rfl
    (fun f fn hf hfn => by
      obtain rfl : f = 5 := Option.some.inj ((show Tryd.prog.funcNamed "passepartout/passepartoutlaw11.DerDeep" = some 5 by kernel_rfl).symm.trans hf) |>.symm
      obtain rfl : fn = Tryd.f5 := (Option.some.inj (Tryd.func5.symm.trans hfn)).symm
      exact ⟨by kernel_rfl, fun j t ht => by
        rw [Tryd.params5] at ht
        have hm : t ∈ [3, 5] := by simpa using Array.mem_of_getElem? ht
        have hall : ([3, 5].all fun u => !Tryd.prog.wantsStandIn u) = true := by kernel_rfl
        exact (show Tryd.prog.wantsStandIn t = false by simpa using List.all_eq_true.1 hall t hm)⟩)
    (by kernel_rfl)
#print axioms proved
end Go.Proofs.YtgjbfgkcbehjnaaDoor.derDeep
