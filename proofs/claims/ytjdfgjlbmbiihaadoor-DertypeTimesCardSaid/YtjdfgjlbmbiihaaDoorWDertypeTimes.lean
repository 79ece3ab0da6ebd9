/-
  DertypeTimes: the walk.
-/
import Derived.Test.YtjdfgjlbmbiihaaDoorPt10c
import Derived.Test.YtjdfgjlbmbiihaaDoorTy6
import Derived.Test.YtjdfgjlbmbiihaaDoorOpen
import Derived.Deep.RegionHeld3
import Derived.Deep.CutRange
namespace Go.Proofs.YtjdfgjlbmbiihaaDoor
open Go.RowKit

set_option maxRecDepth 100000 in
theorem two_any (n : Nat) (hn : n < 10000) (w : World) : Calls Tryd.prog 33 #[.int .i64 (n : Int)] w fun e w' => e = .returned (.string (str (two n))) ∧ Kp (fun _ => False) w w' := by
  obtain ⟨a, ha⟩ : ∃ a, 48 + n / 10 % 10 = a := ⟨_, rfl⟩
  obtain ⟨b, hb⟩ : ∃ b, 48 + n % 10 = b := ⟨_, rfl⟩
  have hab : a < 256 ∧ b < 256 := by omega
  have e1 : (48 : Int) + (n : Int) / 10 % 10 = (a : Int) := by omega
  have e2 : (48 : Int) + (n : Int) % 10 = (b : Int) := by omega
  have e3 : (a : Int) % 256 = (a : Int) := by omega
  have e4 : (b : Int) % 256 = (b : Int) := by omega
  have ht : two n = [UInt8.ofNat a, UInt8.ofNat b] := by rw [two, ha, hb]
  have hk : Kp (fun _ => False) w (w.alloc (.cells #[.int .u8 (a : Int), .int .u8 (b : Int)] 5)) := (Kp.refl _ _).alloc _
  have hbr := BR.lit w 5 [UInt8.ofNat a, UInt8.ofNat b] #[.int .u8 (a : Int), .int .u8 (b : Int)] 2 rfl (by simp only [bc, List.map_cons, List.map_nil, UInt8.toNat_ofNat', show a % 2 ^ 8 = a from by omega, show b % 2 ^ 8 = b from by omega])
  have hcv := run_str (P := Tryd.prog) (src := 22) (dst := 9) (e := 5) Tryd.underlying22 Tryd.underlying5 Tryd.underlying9 hbr
  rw [ht]
  clear ht ha hb hbr
  go_enter Tryd.func33, Tryd.ntmps33
  go_wp2_with fail
  go_ret
  exact ⟨rfl, hk⟩

/-- '[]byte(s)'. -/
theorem conv_str (W : World) (l : List UInt8) (n : Nat) (hn : l.length = n) : (convert 9 22 (.string (str l))).run Tryd.prog W = .ok (.slice (some ⟨W.heap.size, 0, none⟩) n (grownCap W n 0 5)) (Lib.bytesWorld W 5 (str l)) := by
  subst hn
  have := Lib.run_convert_string_bytes (P := Tryd.prog) W 9 22 5 (str l) (u := .string) Tryd.underlying9 Tryd.underlying22 Tryd.underlying5
  rw [str_size] at this
  exact this
theorem conv_br (W : World) (l : List UInt8) (n : Nat) (hn : l.length = n) (hm : n ≤ 140737488355328) : BR (Lib.bytesWorld W 5 (str l)) (· = W.heap.size) (.slice (some ⟨W.heap.size, 0, none⟩) n (grownCap W n 0 5)) l := by
  subst hn
  refine ⟨_, _, rfl, grownCap_ge _ _ _ _, by rw [bc_length]; omega, fun _ => ⟨_, rfl, rfl, rfl, fun j u hu => ?_⟩⟩
  have hj : j < l.length := by rw [← bc_length l]; exact (List.getElem?_eq_some_iff.1 hu).1
  have h := Lib.bytesWorld_cell W 5 (str l) j (by rw [str_size]; exact hj)
  rw [show (⟨W.heap.size, 0, none⟩ : Addr).add j = ⟨W.heap.size, j, none⟩ from by
    unfold Addr.add
    split
    · next h0 => subst h0; rfl
    · simp]
  rw [h, str_toList]
  rw [bc, List.getElem?_map, List.getElem?_eq_getElem hj] at hu
  rw [← hu, List.getD_eq_getElem?_getD, List.getElem?_eq_getElem hj]
  rfl

theorem add_str (W : World) (a b : List UInt8) (h : a.length + b.length ≤ 1000) : (Op.stringOp .add (str a) (str b)).run Tryd.prog W = .ok (.string (str (a ++ b))) W := by
  have h1 : ¬ (((str a).size + (str b).size : Nat) : Int) > IntKind.i64.max := by
    rw [str_size, str_size, show IntKind.i64.max = 9223372036854775807 by decide]
    omega
  simp only [Op.stringOp, if_neg h1, str_append]
  rfl
theorem add_Z (W : World) (a : List UInt8) (h : a.length ≤ 900) : (Op.stringOp .add (str a) ⟨#[90]⟩).run Tryd.prog W = .ok (.string (str (a ++ [90]))) W := add_str W a [90] (by rw [show ([90] : List UInt8).length = 1 from rfl]; omega)
theorem add_c (c : List UInt8) (hc : c.length ≤ 100) (W : World) (a : List UInt8) (h : a.length ≤ 900) : (Op.stringOp .add (str a) ⟨c.toArray⟩).run Tryd.prog W = .ok (.string (str (a ++ c))) W := add_str W a c (by omega)
theorem check_lit (Y m d h i s : Nat) (hY : Y < 10000) (hm : m < 100) (hd : d < 100) (hh : h < 100) (hi : i < 100) (hs : s < 100) (c : UInt8) (H M : List UInt8) (hH : two (Y / 100) ++ (two Y ++ two m) = H) (hM : two d ++ two h ++ two i ++ two s ++ [c] = M) :
    checkR 24 (H ++ M) = if c.toNat = 90 ∧ okT ⟨Y, m, d, h, i, s⟩ = true then 0 else 13 := by
  rw [← check_of_date Y m d h i s hY hm hd hh hi hs, ← hH, ← hM]
  simp [dateL]
theorem two_len (n : Nat) : (two n).length = 2 := rfl
theorem long_ix (m : Nat) (h1 : 1 ≤ m) (h2 : m ≤ 12) (W : World) : (Instr.index 68 (.agg #[.int .i64 0, .int .i64 31, .int .i64 28, .int .i64 31, .int .i64 30, .int .i64 31, .int .i64 30, .int .i64 31, .int .i64 31, .int .i64 30, .int .i64 31, .int .i64 30, .int .i64 31]) (.int .i64 (m : Int))).run Tryd.prog W = .ok (.int .i64 (daysT.getD (m - 1) 0)) W := by
  have hm : m = 1 ∨ m = 2 ∨ m = 3 ∨ m = 4 ∨ m = 5 ∨ m = 6 ∨ m = 7 ∨ m = 8 ∨ m = 9 ∨ m = 10 ∨ m = 11 ∨ m = 12 := by omega
  rcases hm with rfl | rfl | rfl | rfl | rfl | rfl | rfl | rfl | rfl | rfl | rfl | rfl
  all_goals
    show _ = _
    kernel_rfl
theorem mod_times (n : Int) : ∃ j : Nat, wrap64 ((IntKind.u64.wrap n).tmod 12648960000) = (j : Int) ∧ j < 12648960000 := by
  rw [IntKind.wrap_u64]
  have h0 : 0 ≤ n % 18446744073709551616 := Int.emod_nonneg _ (by omega)
  rw [Int.tmod_eq_emod_of_nonneg h0]
  refine ⟨((n % 18446744073709551616) % 12648960000).toNat, ?_, by omega⟩
  unfold wrap64
  omega

set_option maxRecDepth 100000 in
set_option maxHeartbeats 12800000 in
theorem dtimes_part (w : World) (tab : Tab10 w) (n : Int) :
    Calls Tryd.prog 12 #[.int .i64 n] w fun e w' => e = .returned (.bool true) ∧ Kp (fun _ => False) w w' := by
  obtain ⟨K, hK, hKb⟩ := mod_times n
  obtain ⟨Y, hY⟩ : ∃ Y, 1900 + K % 400 = Y := ⟨_, rfl⟩
  obtain ⟨m, hm⟩ : ∃ m, 1 + K / 400 % 12 = m := ⟨_, rfl⟩
  obtain ⟨d, hd⟩ : ∃ d, 1 + K / 4800 % 28 = d := ⟨_, rfl⟩
  obtain ⟨h, hh⟩ : ∃ h, K / 7 % 24 = h := ⟨_, rfl⟩
  obtain ⟨i, hi⟩ : ∃ i, K / 11 % 60 = i := ⟨_, rfl⟩
  obtain ⟨s, hs⟩ : ∃ s, K / 13 % 60 = s := ⟨_, rfl⟩
  have eY : (1900 : Int) + (K : Int) % 400 = (Y : Int) := by omega
  have em : (1 : Int) + (K : Int) / 400 % 12 = (m : Int) := by omega
  have ed : (1 : Int) + (K : Int) / 4800 % 28 = (d : Int) := by omega
  have eh : (K : Int) / 7 % 24 = (h : Int) := by omega
  have ei : (K : Int) / 11 % 60 = (i : Int) := by omega
  have es : (K : Int) / 13 % 60 = (s : Int) := by omega
  have bY : 1900 ≤ Y ∧ Y < 2300 := by omega
  have bm : 1 ≤ m ∧ m ≤ 12 := by omega
  have bd : 1 ≤ d ∧ d ≤ 28 := by omega
  have bh : h ≤ 23 := by omega
  have bi : i ≤ 59 := by omega
  have bs : s ≤ 59 := by omega
  obtain ⟨bY1, bY2⟩ := bY
  obtain ⟨bm1, bm2⟩ := bm
  obtain ⟨bd1, bd2⟩ := bd
  clear hY hm hd hh hi hs
  have SA := add_str
  have SZ := add_Z
  have TL := two_len
  have HTAB := Lib.hid tab
  clear tab
  go_enter Tryd.func12, Tryd.ntmps12
  go_wp2_with fail
  have hk1 : Kp (fun _ => False) w (w.alloc (.cells #[.int .i64 (h : Int), .int .i64 (i : Int), .int .i64 (s : Int)] 66)) := (Kp.refl _ _).alloc _
  have hbk := Blk.new w 66 #[.int .i64 (h : Int), .int .i64 (i : Int), .int .i64 (s : Int)]
  obtain ⟨W1, hW1⟩ : ∃ W1, w.alloc (.cells #[.int .i64 (h : Int), .int .i64 (i : Int), .int .i64 (s : Int)] 66) = W1 := ⟨_, rfl⟩
  rw [hW1] at hk1 hbk ⊢
  obtain ⟨g, hg⟩ : ∃ g, w.heap.size = g := ⟨_, rfl⟩
  rw [hg] at hbk ⊢
  have HG := Lib.hid hg
  have HCE := Lib.hid (show ∀ W, Kp (fun _ => False) W1 W → W.cell? ⟨g, 0, none⟩ = some (.int .i64 (h : Int)) ∧ W.cell? ⟨g, 1, none⟩ = some (.int .i64 (i : Int)) ∧ W.cell? ⟨g, 2, none⟩ = some (.int .i64 (s : Int)) from fun W hk => by
    have hb := hbk.kp hk (fun h => h)
    exact ⟨hb.cell 0, hb.cell 1, hb.cell 2⟩)
  have HKR := Lib.hid (Kp.refl (fun _ => False) W1)
  have HK1 := Lib.hid hk1
  clear hW1 hg hbk hk1 hK eY em ed eh ei es
  go_region_held3 (fun w' => w'.cell? ⟨g, 0, none⟩ = some (.int .i64 (h : Int)) ∧ w'.cell? ⟨g, 1, none⟩ = some (.int .i64 (i : Int)) ∧ w'.cell? ⟨g, 2, none⟩ = some (.int .i64 (s : Int))) (first | exact HCE.out _ HKR.out | exact HCE.out _ HKR.out.drew) ((go_at_call 33; (refine (two_any _ (by omega) _).mono ?_); rintro e w5 ⟨rfl, hk5⟩; have hq := Kp.then_ (a := W1) (S := fun _ => False) (by first | exact HKR.out | exact HKR.out.drew) hk5 (fun _ h => h.elim); clear HKR; have HKR := Lib.hid hq; clear hq hk5))
  obtain ⟨C, hC⟩ : ∃ C, Y / 100 = C := ⟨_, rfl⟩
  have eC : (Y : Int) / 100 = (C : Int) := by omega
  have bC : C < 100 := by omega
  obtain ⟨R, hR⟩ : ∃ R, two m ++ (two d ++ (two h ++ (two i ++ (two s ++ [90])))) = R := ⟨_, rfl⟩
  have RL : R.length = 11 := by rw [← hR]; rfl
  obtain ⟨L, hL⟩ : ∃ L, two C ++ (two Y ++ R) = L := ⟨_, rfl⟩
  have LL : L.length = 15 := by rw [← hL, List.length_append, List.length_append, RL]; rfl
  have HOK := ok_date Y m d h i s bm1 bm2 bd1 bd2 bh bi bs
  have HLD := Lib.hid (show timeV 24 L = (⟨Y, m, d, h, i, s⟩, 0) by
    have := timeV_date Y m d h i s (by omega) (by omega) (by omega) (by omega) (by omega) (by omega) HOK
    rw [← this, ← hL, ← hR, ← hC]
    simp [dateL])
  obtain ⟨L2, hL2⟩ : ∃ L2, two Y ++ R = L2 := ⟨_, rfl⟩
  have LL2 : L2.length = 13 := by rw [← hL2, List.length_append, RL]; rfl
  have HLD2 := Lib.hid (show timeV 23 L2 = (⟨(if 50 ≤ Y % 100 then 1900 else 2000) + Y % 100, m, d, h, i, s⟩, 0) by
    have := timeV_short Y m d h i s (by omega) (by omega) (by omega) (by omega) (by omega) HOK
    rw [← this, ← hL2, ← hR]
    simp)
  have HCC := Lib.hid hC
  have HL2 := Lib.hid hL2
  clear hL2
  clear HOK hC
  go_wp2_with fail
  refine (two_any _ (by omega) _).mono ?_
  rintro e w6 ⟨rfl, hk6⟩
  have HK6 := Lib.hid (HKR.out.then_ hk6 (fun _ h => h.elim))
  clear hk6
  go_wp2_with fail
  refine (two_any _ (by omega) _).mono ?_
  rintro e w7 ⟨rfl, hk7⟩
  have HK7 := Lib.hid (HK6.out.then_ hk7 (fun _ h => h.elim))
  clear hk7
  have CV := conv_str w7 L 15 LL
  have HBR := Lib.hid (conv_br w7 L 15 LL (by omega))
  have hkb := bytesWorld_kp w7 5 (str L)
  obtain ⟨W8, hW8⟩ : ∃ W8, Lib.bytesWorld w7 5 (str L) = W8 := ⟨_, rfl⟩
  rw [hW8] at CV HBR hkb
  have HK8 := Lib.hid (HK7.out.then_ hkb (fun _ h => h.elim))
  generalize grownCap w7 15 0 5 = cap at CV HBR
  have HTB := Lib.hid (HTAB.out.kp (HK1.out.then_ HK8.out (fun _ h => h.elim)))
  clear hW8 hkb
  go_wp2_with fail
  have hcall := time_any 24 _ _ L W8 HBR.out HTB.out
  rw [HLD.out] at hcall
  simp only [T6.v] at hcall
  refine hcall.mono ?_
  rintro e w9 ⟨rfl, hk9⟩
  have HK9 := Lib.hid (HK8.out.then_ hk9 (fun _ h => h.elim))
  clear hk9 hcall CV
  have hc0 := fun o => (HCE.out (w9.alloc o) (HK9.out.alloc o)).1
  have hc1 := fun o => (HCE.out (w9.alloc o) (HK9.out.alloc o)).2.1
  have hc2 := fun o => (HCE.out (w9.alloc o) (HK9.out.alloc o)).2.2
  have hbT := (Blk.new w9 56 #[.int .i64 (Y : Int), .int .i64 (m : Int), .int .i64 (d : Int), .int .i64 (h : Int), .int .i64 (i : Int), .int .i64 (s : Int)]).alloc (.cells #[.int .i64 (Y : Int), .int .i64 (m : Int), .int .i64 (d : Int), .int .i64 (h : Int), .int .i64 (i : Int), .int .i64 (s : Int)] 56)
  have hbW := Blk.new (w9.alloc (.cells #[.int .i64 (Y : Int), .int .i64 (m : Int), .int .i64 (d : Int), .int .i64 (h : Int), .int .i64 (i : Int), .int .i64 (s : Int)] 56)) 56 #[.int .i64 (Y : Int), .int .i64 (m : Int), .int .i64 (d : Int), .int .i64 (h : Int), .int .i64 (i : Int), .int .i64 (s : Int)]
  rw [World.size_alloc] at hbW
  have HK10 := Lib.hid ((HK9.out.alloc (.cells #[.int .i64 (Y : Int), .int .i64 (m : Int), .int .i64 (d : Int), .int .i64 (h : Int), .int .i64 (i : Int), .int .i64 (s : Int)] 56)).alloc (.cells #[.int .i64 (Y : Int), .int .i64 (m : Int), .int .i64 (d : Int), .int .i64 (h : Int), .int .i64 (i : Int), .int .i64 (s : Int)] 56))
  obtain ⟨q, hq⟩ : ∃ q, w9.heap.size = q := ⟨_, rfl⟩
  have HQ := Lib.hid hq
  go_wp2_with fail
  refine (alive10 _).mono ?_
  rintro e w11 ⟨rfl, hk11⟩
  have hT := hbT.kp hk11 (fun h => h)
  have hW := hbW.kp hk11 (fun h => h)
  have HK11 := Lib.hid (HK10.out.then_ hk11 (fun _ h => h.elim))
  rw [hq] at hT hW
  clear hc0 hc1 hc2 hbT hbW hk11 hq
  have HT := Lib.hid hT
  have HW := Lib.hid hW
  have t0 := hT.cell 0
  have v0 := hW.cell 0
  have t1 := hT.cell 1
  have v1 := hW.cell 1
  have t2 := hT.cell 2
  have v2 := hW.cell 2
  have t3 := hT.cell 3
  have v3 := hW.cell 3
  have t4 := hT.cell 4
  have v4 := hW.cell 4
  have t5 := hT.cell 5
  have v5 := hW.cell 5
  simp only [List.getElem?_toArray, List.getElem?_cons_zero, List.getElem?_cons_succ] at t0 t1 t2 t3 t4 t5 v0 v1 v2 v3 v4 v5
  clear hT hW
  have EQ : ∀ W, (Op.equalIn 10000 56 (.agg #[.int .i64 (Y : Int), .int .i64 (m : Int), .int .i64 (d : Int), .int .i64 (h : Int), .int .i64 (i : Int), .int .i64 (s : Int)]) (.agg #[.int .i64 (Y : Int), .int .i64 (m : Int), .int .i64 (d : Int), .int .i64 (h : Int), .int .i64 (i : Int), .int .i64 (s : Int)])).run Tryd.prog W = .ok true W := fun W => by
    have := eq6 W ⟨Y, m, d, h, i, s⟩ ⟨Y, m, d, h, i, s⟩
    rwa [decide_eq_true rfl] at this
  go_wp2_with fail
  refine (two_any _ (by omega) _).mono ?_
  rintro e w12 ⟨rfl, hk12⟩
  have HK12 := Lib.hid (HK11.out.then_ hk12 (fun _ h => h.elim))
  have KB12 := Lib.hid hk12
  clear hk12 t0 t1 t2 t3 t4 t5 v0 v1 v2 v3 v4 v5
  have HL := Lib.hid hL
  have hL2 := HL2.out
  clear hL
  have CV := conv_str w12 L2 13 LL2
  have HBR2 := Lib.hid (conv_br w12 L2 13 LL2 (by omega))
  have hkb := bytesWorld_kp w12 5 (str L2)
  obtain ⟨W13, hW13⟩ : ∃ W13, Lib.bytesWorld w12 5 (str L2) = W13 := ⟨_, rfl⟩
  rw [hW13] at CV HBR2 hkb
  have HK13 := Lib.hid (HK12.out.then_ hkb (fun _ h => h.elim))
  have KB13 := Lib.hid (KB12.out.then_ hkb (fun _ h => h.elim))
  generalize grownCap w12 13 0 5 = cap2 at CV HBR2
  have HTB2 := Lib.hid (HTAB.out.kp (HK1.out.then_ HK13.out (fun _ h => h.elim)))
  clear hW13 hkb
  obtain ⟨Z, hZ⟩ : ∃ Z, (if 50 ≤ Y % 100 then 1900 else 2000) + Y % 100 = Z := ⟨_, rfl⟩
  rw [hZ] at HLD2
  have HZ := Lib.hid hZ
  clear hZ
  go_wp2_with fail
  have hcall := time_any 23 _ _ L2 W13 HBR2.out HTB2.out
  rw [HLD2.out] at hcall
  simp only [T6.v] at hcall
  refine hcall.mono ?_
  rintro e w14 ⟨rfl, hk14⟩
  have HK14 := Lib.hid (HK13.out.then_ hk14 (fun _ h => h.elim))
  have KB14 := Lib.hid (KB13.out.then_ hk14 (fun _ h => h.elim))
  clear hk14 hcall CV
  go_upto_region 10 with fail
  have hW := (HW.out.kp KB14.out (fun h => h)).alloc (.cells #[.int .i64 (Z : Int), .int .i64 (m : Int), .int .i64 (d : Int), .int .i64 (h : Int), .int .i64 (i : Int), .int .i64 (s : Int)] 56)
  have hU := Blk.new w14 56 #[.int .i64 (Z : Int), .int .i64 (m : Int), .int .i64 (d : Int), .int .i64 (h : Int), .int .i64 (i : Int), .int .i64 (s : Int)]
  have HK15 := Lib.hid (HK14.out.alloc (.cells #[.int .i64 (Z : Int), .int .i64 (m : Int), .int .i64 (d : Int), .int .i64 (h : Int), .int .i64 (i : Int), .int .i64 (s : Int)] 56))
  obtain ⟨W15, hW15⟩ : ∃ W15, w14.alloc (.cells #[.int .i64 (Z : Int), .int .i64 (m : Int), .int .i64 (d : Int), .int .i64 (h : Int), .int .i64 (i : Int), .int .i64 (s : Int)] 56) = W15 := ⟨_, rfl⟩
  obtain ⟨p, hp⟩ : ∃ p, w14.heap.size = p := ⟨_, rfl⟩
  rw [hW15] at hW hU HK15 ⊢
  rw [hp] at hU ⊢
  clear hW15 hp
  have t0 := hU.cell 0
  have v0 := hW.cell 0
  have t1 := hU.cell 1
  have v1 := hW.cell 1
  have t2 := hU.cell 2
  have v2 := hW.cell 2
  have t3 := hU.cell 3
  have v3 := hW.cell 3
  have t4 := hU.cell 4
  have v4 := hW.cell 4
  have t5 := hU.cell 5
  have v5 := hW.cell 5
  simp only [List.getElem?_toArray, List.getElem?_cons_zero, List.getElem?_cons_succ] at t0 t1 t2 t3 t4 t5 v0 v1 v2 v3 v4 v5
  clear hU hW HBR HBR2
  go_cut [117] from 103 to 117 (fun c wx => c = .bool false ∧ wx = W15)
  case first =>
    by_cases y1 : 1950 ≤ Y
    · by_cases y2 : Y < 2050
      · obtain rfl : Z = Y := by
          have := HZ.out
          split at this <;> omega
        have f1 : decide ((1950 : Int) ≤ (Z : Int)) = true := by simp; omega
        have f2 : decide ((Z : Int) < 2050) = true := by simp; omega
        clear y1 y2
        go_wp2_with fail
        go_meet
        exact ⟨rfl, rfl⟩
      · have f1 : decide ((1950 : Int) ≤ (Y : Int)) = true := by simp; omega
        have f2 : decide ((Y : Int) < 2050) = false := by simp; omega
        clear y1 y2
        go_wp2_with fail
        go_meet
        exact ⟨rfl, rfl⟩
    · have f1 : decide ((1950 : Int) ≤ (Y : Int)) = false := by simp; omega
      clear y1
      go_wp2_with fail
      go_meet
      exact ⟨rfl, rfl⟩
  case rest =>
    obtain ⟨rfl, hwc⟩ := hcut
    rw [hwc]
    clear hwc
    clear t0 t1 t2 t3 t4 t5 v0 v1 v2 v3 v4 v5 EQ
    go_upto_region 12 with fail
    obtain ⟨dd, hdd, hdim, hd31⟩ := dim_days Y m bm1 bm2
    have hlv : leapI Y m ≤ 1 := by unfold leapI; split <;> omega
    have HLV := Lib.hid (show leapI Y m = if m = 2 ∧ leapN Y = true then 1 else 0 from rfl)
    generalize leapI Y m = lv at hdim hlv HLV
    obtain ⟨LG, hLG⟩ : ∃ LG, dd + lv = LG := ⟨_, rfl⟩
    rw [hLG] at hdim
    have HDIM := Lib.hid hdim
    have HIX : ∀ W, (Instr.index 68 (.agg #[.int .i64 0, .int .i64 31, .int .i64 28, .int .i64 31, .int .i64 30, .int .i64 31, .int .i64 30, .int .i64 31, .int .i64 31, .int .i64 30, .int .i64 31, .int .i64 30, .int .i64 31]) (.int .i64 (m : Int))).run Tryd.prog W = .ok (.int .i64 (dd : Int)) W := by
      intro W
      rw [← hdd]
      exact long_ix m bm1 bm2 W
    clear hdim hdd
    go_upto_region 13 with fail
    obtain ⟨B, hB⟩ : ∃ B : Bool, decide (m = 2 ∧ leapN Y = true) = B := ⟨_, rfl⟩
    have HBL := Lib.hid (show LG = dd + if B then 1 else 0 by
      rw [← hLG, HLV.out, ← hB]
      by_cases h : m = 2 ∧ leapN Y = true
      · rw [if_pos h, decide_eq_true h]; rfl
      · rw [if_neg h, decide_eq_false h]; rfl)
    have HB := Lib.hid hB
    clear hB hLG hlv HLV
    go_cut [137] from 121 to 137 (fun c wx => c = .bool B ∧ wx = W15)
    case first =>
      by_cases h2 : m = 2
      · have f2 : ((m : Int) == 2) = true := by simp; omega
        have e4 : ((Y : Int) % 4 == 0) = decide (Y % 4 = 0) := by rw [Bool.eq_iff_iff]; simp; omega
        have e100 : ((Y : Int) % 100 != 0) = decide (Y % 100 ≠ 0) := by rw [Bool.eq_iff_iff]; simp; omega
        have e400 : ((Y : Int) % 400 == 0) = decide (Y % 400 = 0) := by rw [Bool.eq_iff_iff]; simp; omega
        have HLF := Lib.hid (show B = leapN Y by
          rw [← HB.out]
          cases leapN Y <;> simp [h2])
        clear h2
        by_cases h400 : Y % 400 = 0
        · rw [decide_eq_true h400] at e400
          have h4 : Y % 4 = 0 := by omega
          have h100 : ¬ Y % 100 ≠ 0 := by omega
          rw [decide_eq_true h4] at e4
          rw [decide_eq_false h100] at e100
          obtain rfl : B = true := by rw [HLF.out, leapN, decide_eq_true h4, decide_eq_true h400]; simp
          clear h4 h100 h400 HLF
          go_wp2_with fail
          go_meet
          exact ⟨rfl, rfl⟩
        rw [decide_eq_false h400] at e400
        by_cases h4 : Y % 4 = 0
        · rw [decide_eq_true h4] at e4
          by_cases h100 : Y % 100 ≠ 0
          · rw [decide_eq_true h100] at e100
            obtain rfl : B = true := by rw [HLF.out, leapN, decide_eq_true h4, decide_eq_true h100]; rfl
            clear h4 h100 h400 HLF
            go_wp2_with fail
            go_meet
            exact ⟨rfl, rfl⟩
          · rw [decide_eq_false h100] at e100
            obtain rfl : B = false := by rw [HLF.out, leapN, decide_eq_false h100, decide_eq_false h400]; simp
            clear h4 h100 h400 HLF
            go_wp2_with fail
            go_meet
            exact ⟨rfl, rfl⟩
        · rw [decide_eq_false h4] at e4
          obtain rfl : B = false := by rw [HLF.out, leapN, decide_eq_false h4]; simp
          clear h4 h400 HLF
          go_wp2_with fail
          go_meet
          exact ⟨rfl, rfl⟩
      · have f2 : ((m : Int) == 2) = false := by simp; omega
        obtain rfl : B = false := by rw [← HB.out]; exact decide_eq_false (fun x => h2 x.1)
        clear h2
        go_wp2_with fail
        go_meet
        exact ⟨rfl, rfl⟩
    case rest =>
    obtain ⟨rfl, hwc⟩ := hcut
    rw [hwc]
    clear hwc
    go_upto_if 137 with fail
    go_cut [14] from 138 to 139 (fun c wx => c = .int .i64 (LG : Int) ∧ wx = W15)
    case first =>
      cases B
      · obtain rfl : LG = dd := HBL.out
        go_wp2_with fail
        go_meet
        exact ⟨rfl, rfl⟩
      · have s1 : (dd : Int) + 1 = (LG : Int) := by have := HBL.out; simp at this; omega
        go_wp2_with fail
        go_meet
        exact ⟨rfl, rfl⟩
    case rest =>
      obtain ⟨rfl, hwc⟩ := hcut
      rw [hwc]
      clear hwc HIX
      obtain ⟨H, hH⟩ : ∃ H, two C ++ (two Y ++ two m) = H := ⟨_, rfl⟩
      have HLEN : H.length = 6 := by rw [← hH]; rfl
      have HH := Lib.hid (show two (Y / 100) ++ (two Y ++ two m) = H by rw [HCC.out]; exact hH)
      clear HBL
      go_wp2_with fail
      refine (two_any _ (by omega) _).mono ?_
      rintro e w16 ⟨rfl, hk16⟩
      have HK16 := Lib.hid (HK15.out.then_ hk16 (fun _ h => h.elim))
      clear hk16
      go_wp2_with fail
      refine (two_any _ (by omega) _).mono ?_
      rintro e w17 ⟨rfl, hk17⟩
      have HK17 := Lib.hid (HK16.out.then_ hk17 (fun _ h => h.elim))
      clear hk17
      go_wp2_with fail
      refine (two_any _ (by omega) _).mono ?_
      rintro e w18 ⟨rfl, hk18⟩
      have HK18 := Lib.hid (HK1.out.then_ (HK17.out.then_ hk18 (fun _ h => h.elim)) (fun _ h => h.elim))
      clear hk18
      have C7 := add_c [48, 48, 48, 48, 48, 48, 90] (by decide)
      have C9a := add_c [48, 49, 50, 52, 48, 48, 48, 48, 90] (by decide)
      have C9b := add_c [48, 49, 48, 48, 54, 48, 48, 48, 90] (by decide)
      have C9c := add_c [48, 49, 48, 48, 48, 48, 54, 48, 90] (by decide)
      have C9d := add_c [48, 49, 48, 48, 48, 48, 48, 48, 122] (by decide)
      clear hL2 hR SZ
      go_wp2_with fail
      obtain ⟨V, hV⟩ : ∃ V, w18 = V := ⟨_, rfl⟩
      rw [hV] at HK18 ⊢
      clear hV
      go_loopw [16] (fun dv wr => ∃ k : Nat, 1 ≤ k ∧ k ≤ 33 ∧ dv = .int .i64 k ∧ Kp (fun _ => False) w wr) (fun dv _ => 33 - (intOf dv).toNat)
      case atStart => exact ⟨1, by omega, by omega, rfl, HK18.out⟩
      case round =>
        obtain ⟨k, hk1, hk33, rfl, hkr⟩ := hrel
        have HKW := Lib.hid hkr
        clear hkr
        by_cases hlt : k ≤ 32
        · have hlt2 : (k : Int) ≤ 32 := by omega
          obtain ⟨M, hM⟩ : ∃ M, two k ++ [48, 48, 48, 48, 48, 48, 90] = M := ⟨_, rfl⟩
          have LM : (H ++ M).length = 15 := by rw [List.length_append, HLEN, ← hM]; rfl
          have hck := check_lit Y m k 0 0 0 (by omega) (by omega) (by omega) (by omega) (by omega) (by omega) 90 H M HH.out (by rw [← hM]; simp; rfl)
          obtain ⟨N, hN⟩ : ∃ N, H ++ M = N := ⟨_, rfl⟩
          rw [hN] at hck LM
          have hok : okT ⟨Y, m, k, 0, 0, 0⟩ = decide (k ≤ LG) := by
            rw [okT, HDIM.out, decide_eq_true bm1, decide_eq_true bm2, decide_eq_true hk1]
            simp
          rw [hok] at hck
          go_wp2_with fail
          refine (two_any _ (by omega) _).mono ?_
          rintro e w20 ⟨rfl, hk20⟩
          have HK20 := Lib.hid (HKW.out.then_ hk20 (fun _ h => h.elim))
          clear hk20
          have CV := conv_str w20 N 15 LM
          have HBR := Lib.hid (conv_br w20 N 15 LM (by omega))
          have hkb := bytesWorld_kp w20 5 (str N)
          obtain ⟨W21, hW21⟩ : ∃ W21, Lib.bytesWorld w20 5 (str N) = W21 := ⟨_, rfl⟩
          rw [hW21] at CV HBR hkb
          have HK21 := Lib.hid (HK20.out.then_ hkb (fun _ h => h.elim))
          generalize grownCap w20 15 0 5 = cap3 at CV HBR
          clear hW21 hkb
          have hcall := check_any 24 (by decide) _ _ N W21 HBR.out (by rw [LM]; omega) (HTAB.out.kp HK21.out)
          by_cases hkl : k ≤ LG
          · rw [hck, if_pos ⟨rfl, decide_eq_true hkl⟩] at hcall
            have hd : decide (k ≤ LG) = true := decide_eq_true hkl
            have HCALL := Lib.hid hcall
            clear hcall hck hok hkl hlt
            go_wp2_with fail
            refine HCALL.out.mono ?_
            rintro e w22 ⟨rfl, hk22⟩
            have HK22 := Lib.hid (HK21.out.then_ hk22 (fun _ h => h.elim))
            clear hk22
            go_wp2_with fail
            go_roundw
            case rel => exact ⟨k + 1, by omega, by omega, by go_num, HK22.out⟩
            case measure => simp [intOf]; omega
          · rw [hck, if_neg (fun x => hkl (of_decide_eq_true x.2))] at hcall
            have hd : decide (k ≤ LG) = false := decide_eq_false hkl
            have HCALL := Lib.hid hcall
            clear hcall hck hok hkl hlt
            go_wp2_with fail
            refine HCALL.out.mono ?_
            rintro e w22 ⟨rfl, hk22⟩
            have HK22 := Lib.hid (HK21.out.then_ hk22 (fun _ h => h.elim))
            clear hk22
            go_wp2_with fail
            go_roundw
            case rel => exact ⟨k + 1, by omega, by omega, by go_num, HK22.out⟩
            case measure => simp [intOf]; omega
        · obtain rfl : k = 33 := by omega
          have G1 : checkR 24 (H ++ [48, 49, 50, 52, 48, 48, 48, 48, 90]) = 13 := by
            rw [check_lit Y m 1 24 0 0 (by omega) (by omega) (by omega) (by omega) (by omega) (by omega) 90 H [48, 49, 50, 52, 48, 48, 48, 48, 90] HH.out (by decide), if_neg (by simp [okT])]
          have G2 : checkR 24 (H ++ [48, 49, 48, 48, 54, 48, 48, 48, 90]) = 13 := by
            rw [check_lit Y m 1 0 60 0 (by omega) (by omega) (by omega) (by omega) (by omega) (by omega) 90 H [48, 49, 48, 48, 54, 48, 48, 48, 90] HH.out (by decide), if_neg (by simp [okT])]
          have G3 : checkR 24 (H ++ [48, 49, 48, 48, 48, 48, 54, 48, 90]) = 13 := by
            rw [check_lit Y m 1 0 0 60 (by omega) (by omega) (by omega) (by omega) (by omega) (by omega) 90 H [48, 49, 48, 48, 48, 48, 54, 48, 90] HH.out (by decide), if_neg (by simp [okT])]
          have G4 : checkR 24 (H ++ [48, 49, 48, 48, 48, 48, 48, 48, 122]) = 13 := by
            rw [check_lit Y m 1 0 0 0 (by omega) (by omega) (by omega) (by omega) (by omega) (by omega) 122 H [48, 49, 48, 48, 48, 48, 48, 48, 122] HH.out (by decide), if_neg (by simp)]
          have CALL : ∀ (M : List UInt8) (W : World), M.length = 9 → checkR 24 (H ++ M) = 13 → Kp (fun _ => False) w W → (convert 9 22 (.string (str (H ++ M)))).run Tryd.prog W = .ok (.slice (some ⟨W.heap.size, 0, none⟩) 15 (grownCap W 15 0 5)) (Lib.bytesWorld W 5 (str (H ++ M))) ∧
              Calls Tryd.prog 31 #[.int .i64 24, .slice (some ⟨W.heap.size, 0, none⟩) 15 (grownCap W 15 0 5)] (Lib.bytesWorld W 5 (str (H ++ M))) fun e w' => e = .returned (.int .i64 13) ∧ Kp (fun _ => False) w w' := by
            intro M W hM hc hk
            have hl : (H ++ M).length = 15 := by rw [List.length_append, HLEN, hM]
            refine ⟨conv_str W (H ++ M) 15 hl, ?_⟩
            have hkb := hk.then_ (bytesWorld_kp W 5 (str (H ++ M))) (fun _ h => h.elim)
            have := check_any 24 (by decide) _ _ (H ++ M) _ (conv_br W (H ++ M) 15 hl (by omega)) (by rw [hl]; omega) (HTAB.out.kp hkb)
            rw [hc] at this
            exact this.mono fun _ _ ⟨he, hq⟩ => ⟨he, hkb.then_ hq (fun _ h => h.elim)⟩
          have HCALL := Lib.hid CALL
          have HG2 := Lib.hid G2
          have HG3 := Lib.hid G3
          have HG4 := Lib.hid G4
          obtain ⟨cv1, ca1⟩ := CALL _ wr rfl G1 HKW.out
          have CA1 := Lib.hid ca1
          clear CALL G1 G2 G3 G4 ca1 hlt
          go_wp2_with fail
          refine CA1.out.mono ?_
          rintro e w30 ⟨rfl, hk30⟩
          obtain ⟨cv2, ca2⟩ := HCALL.out _ w30 rfl HG2.out hk30
          have CA2 := Lib.hid ca2
          clear cv1 ca2 hk30
          go_wp2_with fail
          refine CA2.out.mono ?_
          rintro e w31 ⟨rfl, hk31⟩
          obtain ⟨cv3, ca3⟩ := HCALL.out _ w31 rfl HG3.out hk31
          have CA3 := Lib.hid ca3
          clear cv2 ca3 hk31
          go_wp2_with fail
          refine CA3.out.mono ?_
          rintro e w32 ⟨rfl, hk32⟩
          obtain ⟨cv4, ca4⟩ := HCALL.out _ w32 rfl HG4.out hk32
          have CA4 := Lib.hid ca4
          clear cv3 ca4 hk32
          go_wp2_with fail
          refine CA4.out.mono ?_
          rintro e w33 ⟨rfl, hk33⟩
          go_wp2_with fail
          go_ret
          exact ⟨rfl, hk33⟩

theorem dtimes_walk (w : World) (tab : Tab10 w) (n : Int) (_hn : (Lit.int .i64 n).wf = true) :
    Calls Tryd.prog 12 #[.int .i64 n] w fun e w' => e = .returned (.bool true) ∧ Below w.heap.size w w' := by
  exact (dtimes_part w tab n).mono fun _ _ ⟨he, hk⟩ => ⟨he, hk.below⟩
end Go.Proofs.YtjdfgjlbmbiihaaDoor
