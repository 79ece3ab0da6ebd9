/-
  Texts that several laws share.
-/
import Derived.StillTailTactics
import Derived.BigQuiet
import Derived.Test.YtgjbfgkcbehjnaaDoorProg
import Derived.IntWalk
import Derived.Maps.OwnSet
import Derived.Laws.EntriesVeiled
import Derived.Deep.RegionHeld3
import Derived.Deep.QuietTactic
import Derived.Deep.CutRange
import Derived.Deep.RegionWith
import Derived.Deep.DeepCutAuto
import Derived.Deep.LoopGhost
import Derived.Test.YtgjbfgkcbehjnaaDoorBX1

set_option linter.unusedVariables false
set_option linter.unusedSimpArgs false
namespace Go.Proofs.YtgjbfgkcbehjnaaDoor
open Go.RowKit

set_option maxRecDepth 100000 in
set_option maxHeartbeats 12800000 in
theorem time_b (ok : Nat → Prop) (v : Value) (l L : List UInt8) (w : World) (hv : BR w ok v l) (htab : Tab10 w) (h15 : L.length = 15) (hL : L = [49, 57] ++ l) (h53 : 53 ≤ bt l 0) (r : T6 × Int) (hr : resT (time15 L) = r) :
    Calls Tryd.prog 94 #[.int .i64 23, v] w fun e w' => e = .returned (.tuple #[r.1.v, .int .i64 r.2]) ∧ Kp (fun _ => False) w w' := by
  have hk : Kp (fun _ => False) w (w.alloc (.cells #[.int .i64 0, .int .i64 0, .int .i64 0, .int .i64 0, .int .i64 0, .int .i64 0] 31)) := (Kp.refl _ _).alloc _
  have hcv := run_str (P := Tryd.prog) (src := 22) (dst := 9) (e := 5) Tryd.underlying22 Tryd.underlying5 Tryd.underlying9 (hv.kp hk (fun _ _ h => h))
  have hl13 : l.length = 13 := by
    rw [hL] at h15
    simpa using h15
  have hadd : (⟨#[49, 57]⟩ : ByteArray) ++ str l = str L := by
    rw [hL, ← str_append]
    rfl
  have hsz0 : (str l).size = 13 := by rw [str_size, hl13]
  have hat0 : ∀ (hk : 0 < (str l).size), (str l)[0]'hk = l[0]'(by omega) := fun hk => by
    have := Lib.getD_at (str l) 0 hk
    rw [str_toList, List.getD_eq_getElem?_getD, List.getElem?_eq_getElem (by omega)] at this
    exact this
  rw [bt_at (by omega)] at h53
  have hsz : (str L).size = 15 := by rw [str_size, h15]
  have hat : ∀ k (hk : k < (str L).size) (hk' : k < L.length), (str L)[k]'hk = L[k]'hk' := fun k hk hk' => by
    have := Lib.getD_at (str L) k hk
    rw [str_toList, List.getD_eq_getElem?_getD, List.getElem?_eq_getElem hk'] at this
    exact this
  have hex : ∀ i j, ((str L).extract i j).data.toList = (L.drop i).take (j - i) := fun i j => by rw [Lib.extract_data, str_toList]
  generalize str L = S at hadd hsz hat hex
  generalize str l = S0 at hcv hsz0 hat0 hadd
  have hp0 : 0 < S0.size := by omega
  have hat1 := hat0 hp0
  obtain ⟨b0, hb0⟩ : ∃ b, l[0]'(by omega) = b := ⟨_, rfl⟩
  rw [hb0] at hat1 h53
  have hcb : decide ((53 : Int) ≤ (b0.toNat : Int)) = true := by simp; omega
  clear hv hat0 hL hb0 hl13 h53
  have hz := hat 14 (by omega) (by omega)
  have hbz := bt_at (l := L) (i := 14) (by omega)
  obtain ⟨z, hzz⟩ : ∃ z, L[14]'(by omega) = z := ⟨_, rfl⟩
  rw [hzz] at hz hbz
  have hlt14 : 14 < S.size := by omega
  clear hzz
  have HAT := Lib.hid hat
  have HEX := Lib.hid hex
  have HTAB := Lib.hid htab
  have HR := Lib.hid hr
  have H15 := Lib.hid h15
  have HBZ := Lib.hid hbz
  clear hat hex htab hr h15 hbz
  by_cases hz90 : z.toNat = 90
  case neg =>
    have g1 : ((z.toNat : Int) != 90) = true := by simp; omega
    have g2 : ((z.toNat : Int) == 90) = false := by simp; omega
    have HR2 := Lib.hid (show r = (T6.zero, 13) by
      rw [← HR.out, time15, if_neg (fun x => hz90 (by rw [← HBZ.out]; exact x.2.1))])
    clear hz90
    go_enter Tryd.func94, Tryd.ntmps94
    go_wp2_with fail
    refine bodyPost_ret (v := .tuple #[T6.zero.v, .int .i64 13]) (by simp [results, Tryd.results94, go_sem, T6.v, T6.zero]) rfl ⟨by rw [HR2.out], hk⟩
  have g1 : ((z.toNat : Int) != 90) = false := by simp; omega
  have g2 : ((z.toNat : Int) == 90) = true := by simp; omega
  have HZ := Lib.hid hz90
  clear hz90
  go_enter Tryd.func94, Tryd.ntmps94
  go_wp2_with fail
  go_loop [45] (fun i => ∃ k : Nat, k ≤ 14 ∧ i = .int .i64 k ∧ digs (L.take k) = true) (fun i => 14 - (intOf i).toNat)
  case atStart => exact ⟨0, Nat.zero_le _, rfl, rfl⟩
  case round =>
    obtain ⟨k, hk14, rfl, hdk⟩ := hrel
    have HDK := Lib.hid hdk
    clear hdk
    by_cases hlt : k < 14
    · have hkS : k < S.size := by omega
      have hkL : k < L.length := by have := H15.out; omega
      have hsk := HAT.out k hkS hkL
      have hts := Lib.hid (List.take_succ_eq_append_getElem hkL)
      obtain ⟨c, hc⟩ : ∃ c, L[k] = c := ⟨_, rfl⟩
      rw [hc] at hsk hts
      have hk15 : (k : Int) < 15 := by omega
      clear hc
      by_cases hd : isDig c = true
      · have hd2 := hd
        simp only [isDig, Bool.and_eq_true, decide_eq_true_eq] at hd2
        obtain ⟨hd3, hd4⟩ := hd2
        have d1 : decide ((c.toNat : Int) < 48) = false := by simp; omega
        have d2 : decide ((57 : Int) < (c.toNat : Int)) = false := by simp; omega
        have HD := Lib.hid hd
        clear hd hd3 hd4
        go_wp2_with fail
        go_round
        case rel => exact ⟨k + 1, by omega, by go_num, by rw [hts.out, digs_append, HDK.out]; simp [digs, HD.out]⟩
        case measure => simp [intOf]; omega
      · have HR2 := Lib.hid (show r = (T6.zero, 13) by
          rw [← HR.out, time15, if_neg (fun x => hd (by
            have h1 := x.2.2
            have h2 := List.all_eq_true.1 h1 c (List.mem_iff_getElem.2 ⟨k, by rw [List.length_take]; omega, by
              have : (L.take (k + 1))[k]'(by rw [List.length_take]; omega) = c := by
                have := hts.out
                simp only [this]
                rw [List.getElem_append_right (by rw [List.length_take]; omega)]
                simp
              simpa using this⟩)
            exact h2))])
        have hd2 : c.toNat < 48 ∨ 57 < c.toNat := by
          simp only [isDig, Bool.and_eq_true, decide_eq_true_eq] at hd
          omega
        have hd5 : (decide ((c.toNat : Int) < 48) = true) ∨ (decide ((c.toNat : Int) < 48) = false ∧ decide ((57 : Int) < (c.toNat : Int)) = true) := by
          rcases hd2 with h | h
          · exact .inl (by simp; omega)
          · exact .inr ⟨by simp; omega, by simp; omega⟩
        clear hd hd2
        rcases hd5 with d1 | ⟨d1, d2⟩
        · go_wp2_with fail
          refine bodyPost_ret (v := .tuple #[T6.zero.v, .int .i64 13]) (by simp [results, Tryd.results94, go_sem, T6.v, T6.zero]) rfl ⟨by rw [HR2.out], hk⟩
        · go_wp2_with fail
          refine bodyPost_ret (v := .tuple #[T6.zero.v, .int .i64 13]) (by simp [results, Tryd.results94, go_sem, T6.v, T6.zero]) rfl ⟨by rw [HR2.out], hk⟩
    · obtain rfl : k = 14 := by omega
      have AT : ∀ i m, 1 ≤ m → m ≤ 4 → i + m ≤ 14 → ∀ W, Calls Tryd.prog 101 #[.string (S.extract i (i + m))] W fun e w' => e = .returned (.tuple #[.int .i64 (num ((L.drop i).take m) : Int), .nilIface]) ∧ Kp (fun _ => False) W w' := by
        intro i m hm1 hm4 him W
        have hlen : ((L.drop i).take m).length = m := by rw [List.length_take, List.length_drop, H15.out]; omega
        refine atoi_any _ _ ?_ (by omega) (by omega) (digs_sub HDK.out him) W
        rw [HEX.out, show i + m - i = m by omega]
      have bx : ∀ i m, i + m ≤ 14 → num ((L.drop i).take m) < 10 ^ m := by
        intro i m him
        have hlen : ((L.drop i).take m).length = m := by rw [List.length_take, List.length_drop, H15.out]; omega
        have := num_lt _ (digs_sub HDK.out him)
        rwa [hlen] at this
      have HT := Lib.hid (show t15 L = ⟨num ((L.drop 0).take 4), num ((L.drop 4).take 2), num ((L.drop 6).take 2), num ((L.drop 8).take 2), num ((L.drop 10).take 2), num ((L.drop 12).take 2)⟩ from rfl)
      have x0b := bx 0 4 (by omega)
      have x1b := bx 4 2 (by omega)
      have x2b := bx 6 2 (by omega)
      have x3b := bx 8 2 (by omega)
      have x4b := bx 10 2 (by omega)
      have x5b := bx 12 2 (by omega)
      have AT0 := AT 0 4 (by omega) (by omega) (by omega)
      have AT1 := AT 4 2 (by omega) (by omega) (by omega)
      have AT2 := AT 6 2 (by omega) (by omega) (by omega)
      have AT3 := AT 8 2 (by omega) (by omega) (by omega)
      have AT4 := AT 10 2 (by omega) (by omega) (by omega)
      have AT5 := AT 12 2 (by omega) (by omega) (by omega)
      generalize num ((L.drop 0).take 4) = x0 at AT0 x0b HT
      generalize num ((L.drop 4).take 2) = x1 at AT1 x1b HT
      generalize num ((L.drop 6).take 2) = x2 at AT2 x2b HT
      generalize num ((L.drop 8).take 2) = x3 at AT3 x3b HT
      generalize num ((L.drop 10).take 2) = x4 at AT4 x4b HT
      generalize num ((L.drop 12).take 2) = x5 at AT5 x5b HT
      simp only [Nat.reduceAdd, Nat.reducePow] at AT0 AT1 AT2 AT3 AT4 AT5 x0b x1b x2b x3b x4b x5b
      have A0 := Lib.hid AT0
      have A1 := Lib.hid AT1
      have A2 := Lib.hid AT2
      have A3 := Lib.hid AT3
      have A4 := Lib.hid AT4
      have A5 := Lib.hid AT5
      have HTIME := Lib.hid (show time15 L = if okT ⟨x0, x1, x2, x3, x4, x5⟩ = true then some ⟨x0, x1, x2, x3, x4, x5⟩ else none by
        rw [time15, HT.out, if_pos ⟨H15.out, by rw [HBZ.out]; exact HZ.out, HDK.out⟩])
      clear AT bx AT0 AT1 AT2 AT3 AT4 AT5 HDK
      have hR := (Blk.new w 31 #[.int .i64 0, .int .i64 0, .int .i64 0, .int .i64 0, .int .i64 0, .int .i64 0]).alloc (.cells #[.int .i64 0, .int .i64 0, .int .i64 0, .int .i64 0, .int .i64 0, .int .i64 0] 31)
      have hB := Blk.new (w.alloc (.cells #[.int .i64 0, .int .i64 0, .int .i64 0, .int .i64 0, .int .i64 0, .int .i64 0] 31)) 31 #[.int .i64 0, .int .i64 0, .int .i64 0, .int .i64 0, .int .i64 0, .int .i64 0]
      have hk2 := hk.alloc (.cells #[.int .i64 0, .int .i64 0, .int .i64 0, .int .i64 0, .int .i64 0, .int .i64 0] 31)
      rw [World.size_alloc] at hB
      go_wp2_with fail
      refine (A0.out _).mono ?_
      rintro e w1 ⟨rfl, q1⟩
      have hR1 := hR.kp q1 (fun h => h)
      have hB1 := hB.kp q1 (fun h => h)
      have hk3 := hk2.then_ q1 (fun _ h => h.elim)
      clear hR hB hk2 hk q1
      have c1 := hB1.cell 0
      have f1 := hB1.frozen 0
      simp only [List.getElem?_toArray, List.getElem?_cons_zero] at c1
      have hB2 := hB1.set_ 0 (.int .i64 (x0 : Int))
      have hR2 := hR1.far (p := ⟨w.heap.size + 1, 0, none⟩) (by simp) (.int .i64 (x0 : Int))
      have hk4 := hk3.setCell (p := ⟨w.heap.size + 1, 0, none⟩) (.inr (by simp)) (.int .i64 (x0 : Int))
      clear hB1 hR1 hk3
      go_wp2_with fail
      refine wp_loop_rounds 6 ?_
      rw [rounds_succ]
      go_wp2_with fail
      refine (A1.out _).mono ?_
      rintro e w2 ⟨rfl, q2⟩
      have hR2a := hR2.kp q2 (fun h => h)
      have hB2a := hB2.kp q2 (fun h => h)
      have hk2a := hk4.then_ q2 (fun _ h => h.elim)
      clear hR2 hB2 hk4 q2
      have c2 := hB2a.cell 1
      have f2 := hB2a.frozen 1
      simp [Array.setIfInBounds] at c2
      have hB3 := hB2a.set_ 1 (.int .i64 (x1 : Int))
      have hR3 := hR2a.far (p := ⟨w.heap.size + 1, 1, none⟩) (by simp) (.int .i64 (x1 : Int))
      have hk5 := hk2a.setCell (p := ⟨w.heap.size + 1, 1, none⟩) (.inr (by simp)) (.int .i64 (x1 : Int))
      clear hB2a hR2a hk2a
      go_wp2_with fail
      rw [rounds_succ]
      go_wp2_with fail
      refine (A2.out _).mono ?_
      rintro e w3 ⟨rfl, q3⟩
      have hR3a := hR3.kp q3 (fun h => h)
      have hB3a := hB3.kp q3 (fun h => h)
      have hk3a := hk5.then_ q3 (fun _ h => h.elim)
      clear hR3 hB3 hk5 q3
      have c3 := hB3a.cell 2
      have f3 := hB3a.frozen 2
      simp [Array.setIfInBounds] at c3
      have hB4 := hB3a.set_ 2 (.int .i64 (x2 : Int))
      have hR4 := hR3a.far (p := ⟨w.heap.size + 1, 2, none⟩) (by simp) (.int .i64 (x2 : Int))
      have hk6 := hk3a.setCell (p := ⟨w.heap.size + 1, 2, none⟩) (.inr (by simp)) (.int .i64 (x2 : Int))
      clear hB3a hR3a hk3a
      go_wp2_with fail
      rw [rounds_succ]
      go_wp2_with fail
      refine (A3.out _).mono ?_
      rintro e w4 ⟨rfl, q4⟩
      have hR4a := hR4.kp q4 (fun h => h)
      have hB4a := hB4.kp q4 (fun h => h)
      have hk4a := hk6.then_ q4 (fun _ h => h.elim)
      clear hR4 hB4 hk6 q4
      have c4 := hB4a.cell 3
      have f4 := hB4a.frozen 3
      simp [Array.setIfInBounds] at c4
      have hB5 := hB4a.set_ 3 (.int .i64 (x3 : Int))
      have hR5 := hR4a.far (p := ⟨w.heap.size + 1, 3, none⟩) (by simp) (.int .i64 (x3 : Int))
      have hk7 := hk4a.setCell (p := ⟨w.heap.size + 1, 3, none⟩) (.inr (by simp)) (.int .i64 (x3 : Int))
      clear hB4a hR4a hk4a
      go_wp2_with fail
      rw [rounds_succ]
      go_wp2_with fail
      refine (A4.out _).mono ?_
      rintro e w5 ⟨rfl, q5⟩
      have hR5a := hR5.kp q5 (fun h => h)
      have hB5a := hB5.kp q5 (fun h => h)
      have hk5a := hk7.then_ q5 (fun _ h => h.elim)
      clear hR5 hB5 hk7 q5
      have c5 := hB5a.cell 4
      have f5 := hB5a.frozen 4
      simp [Array.setIfInBounds] at c5
      have hB6 := hB5a.set_ 4 (.int .i64 (x4 : Int))
      have hR6 := hR5a.far (p := ⟨w.heap.size + 1, 4, none⟩) (by simp) (.int .i64 (x4 : Int))
      have hk8 := hk5a.setCell (p := ⟨w.heap.size + 1, 4, none⟩) (.inr (by simp)) (.int .i64 (x4 : Int))
      clear hB5a hR5a hk5a
      go_wp2_with fail
      rw [rounds_succ]
      go_wp2_with fail
      refine (A5.out _).mono ?_
      rintro e w6 ⟨rfl, q6⟩
      have hR6a := hR6.kp q6 (fun h => h)
      have hB6a := hB6.kp q6 (fun h => h)
      have hk6a := hk8.then_ q6 (fun _ h => h.elim)
      clear hR6 hB6 hk8 q6
      have c6 := hB6a.cell 5
      have f6 := hB6a.frozen 5
      simp [Array.setIfInBounds] at c6
      have hB7 := hB6a.set_ 5 (.int .i64 (x5 : Int))
      have hR7 := hR6a.far (p := ⟨w.heap.size + 1, 5, none⟩) (by simp) (.int .i64 (x5 : Int))
      have hk9 := hk6a.setCell (p := ⟨w.heap.size + 1, 5, none⟩) (.inr (by simp)) (.int .i64 (x5 : Int))
      clear hB6a hR6a hk6a
      go_wp2_with fail
      rw [rounds_succ]
      go_wp2_with fail
      have hT7 := HTAB.out.kp hk9
      simp [Array.setIfInBounds] at hB7
      obtain ⟨W, hW⟩ : ∃ W, w6.setCell ⟨w.heap.size + 1, 5, none⟩ (.int .i64 (x5 : Int)) = W := ⟨_, rfl⟩
      rw [hW] at hT7 hB7 hR7 hk9 ⊢
      clear hW
      have d0 := hB7.cell 0
      have e0 := hR7.cell 0
      have g10 := hR7.frozen 0
      have d1 := hB7.cell 1
      have e1 := hR7.cell 1
      have g11 := hR7.frozen 1
      have d2 := hB7.cell 2
      have e2 := hR7.cell 2
      have g12 := hR7.frozen 2
      have d3 := hB7.cell 3
      have e3 := hR7.cell 3
      have g13 := hR7.frozen 3
      have d4 := hB7.cell 4
      have e4 := hR7.cell 4
      have g14 := hR7.frozen 4
      have d5 := hB7.cell 5
      have e5 := hR7.cell 5
      have g15 := hR7.frozen 5
      simp at d0 d1 d2 d3 d4 d5 e0 e1 e2 e3 e4 e5
      clear hB7 hR7
      have HK8 := Lib.hid hk9
      clear hk9
      have HNO := Lib.hid (show okT ⟨x0, x1, x2, x3, x4, x5⟩ = false → r = (T6.zero, 13) from fun h => by
        rw [← HR.out, HTIME.out, h]
        rfl)
      have HYES := Lib.hid (show okT ⟨x0, x1, x2, x3, x4, x5⟩ = true → r = (⟨x0, x1, x2, x3, x4, x5⟩, 0) from fun h => by
        rw [← HR.out, HTIME.out, h]
        rfl)
      clear HR HTIME A0 A1 A2 A3 A4 A5 HT
      by_cases b1 : x1 < 1
      · have t1 : decide ((x1 : Int) < 1) = true := by simp; omega
        have HR2 := Lib.hid (HNO.out (by simp [okT]; omega))
        clear b1 HNO HYES
        go_quiet (fail)
        go_wp2_with fail
        refine bodyPost_ret (v := .tuple #[T6.zero.v, .int .i64 13]) (by simp [results, Tryd.results94, go_sem, T6.v, T6.zero, e0, e1, e2, e3, e4, e5]) rfl ⟨by rw [HR2.out], ?_⟩
        exact (Kp.setCell (p := ⟨w.heap.size, 5, none⟩) (Kp.setCell (p := ⟨w.heap.size, 4, none⟩) (Kp.setCell (p := ⟨w.heap.size, 3, none⟩) (Kp.setCell (p := ⟨w.heap.size, 2, none⟩) (Kp.setCell (p := ⟨w.heap.size, 1, none⟩) (Kp.setCell (p := ⟨w.heap.size, 0, none⟩) (HK8.out.drewN _) (.inr (Nat.le_refl _)) _) (.inr (Nat.le_refl _)) _) (.inr (Nat.le_refl _)) _) (.inr (Nat.le_refl _)) _) (.inr (Nat.le_refl _)) _) (.inr (Nat.le_refl _)) _)
      obtain ⟨m, rfl⟩ : ∃ m, x1 = m + 1 := ⟨x1 - 1, by omega⟩
      have t1 : decide ((m : Int) + 1 < 1) = false := by simp; omega
      by_cases b2 : 12 < m + 1
      · have t2 : decide ((12 : Int) < (m : Int) + 1) = true := by simp; omega
        have HR2 := Lib.hid (HNO.out (by simp [okT]; omega))
        clear b1 b2 HNO HYES
        go_quiet (fail)
        go_wp2_with fail
        refine bodyPost_ret (v := .tuple #[T6.zero.v, .int .i64 13]) (by simp [results, Tryd.results94, go_sem, T6.v, T6.zero, e0, e1, e2, e3, e4, e5]) rfl ⟨by rw [HR2.out], ?_⟩
        exact (Kp.setCell (p := ⟨w.heap.size, 5, none⟩) (Kp.setCell (p := ⟨w.heap.size, 4, none⟩) (Kp.setCell (p := ⟨w.heap.size, 3, none⟩) (Kp.setCell (p := ⟨w.heap.size, 2, none⟩) (Kp.setCell (p := ⟨w.heap.size, 1, none⟩) (Kp.setCell (p := ⟨w.heap.size, 0, none⟩) (HK8.out.drewN _) (.inr (Nat.le_refl _)) _) (.inr (Nat.le_refl _)) _) (.inr (Nat.le_refl _)) _) (.inr (Nat.le_refl _)) _) (.inr (Nat.le_refl _)) _) (.inr (Nat.le_refl _)) _)
      have t2 : decide ((12 : Int) < (m : Int) + 1) = false := by simp; omega
      by_cases b3 : x2 < 1
      · have t3 : decide ((x2 : Int) < 1) = true := by simp; omega
        have HR2 := Lib.hid (HNO.out (by simp [okT]; omega))
        clear b1 b2 b3 HNO HYES
        go_quiet (fail)
        go_wp2_with fail
        refine bodyPost_ret (v := .tuple #[T6.zero.v, .int .i64 13]) (by simp [results, Tryd.results94, go_sem, T6.v, T6.zero, e0, e1, e2, e3, e4, e5]) rfl ⟨by rw [HR2.out], ?_⟩
        exact (Kp.setCell (p := ⟨w.heap.size, 5, none⟩) (Kp.setCell (p := ⟨w.heap.size, 4, none⟩) (Kp.setCell (p := ⟨w.heap.size, 3, none⟩) (Kp.setCell (p := ⟨w.heap.size, 2, none⟩) (Kp.setCell (p := ⟨w.heap.size, 1, none⟩) (Kp.setCell (p := ⟨w.heap.size, 0, none⟩) (HK8.out.drewN _) (.inr (Nat.le_refl _)) _) (.inr (Nat.le_refl _)) _) (.inr (Nat.le_refl _)) _) (.inr (Nat.le_refl _)) _) (.inr (Nat.le_refl _)) _) (.inr (Nat.le_refl _)) _)
      have t3 : decide ((x2 : Int) < 1) = false := by simp; omega
      obtain ⟨dd, hdd, hdim, hd31⟩ := dim_days x0 (m + 1) (by omega) (by omega)
      have dday := hT7 m (by omega)
      rw [show m + 1 - 1 = m by omega] at hdd
      rw [hdd] at dday
      have LEAP := fun W => leap_any x0 (m + 1) x0b x1b W
      have lv1 : leapI x0 (m + 1) ≤ 1 := by unfold leapI; split <;> omega
      generalize leapI x0 (m + 1) = lv at hdim LEAP lv1
      obtain ⟨D, hD⟩ : ∃ D, dd + lv = D := ⟨_, rfl⟩
      rw [hD] at hdim
      have s0 : IntKind.i64.wrap ((dd : Int) + (lv : Int)) = (D : Int) := by
        rw [show (dd : Int) + (lv : Int) = (D : Int) by omega]
        exact IntWalk.i64_in _ (by omega)
      have s1 : IntKind.i64.wrap ((m : Int) + 1 - 1) = (m : Int) := by
        rw [show (m : Int) + 1 - 1 = m by omega]
        exact IntWalk.i64_in _ (by omega)
      have s4 : IntKind.i64.wrap (m : Int) = (m : Int) := IntWalk.i64_in _ (by omega)
      have s2 : (0 : Int) ≤ (m : Int) := by omega
      have s3 : (m : Int) < 12 := by omega
      have HL := Lib.hid (show ∀ W, Calls Tryd.prog 102 #[.int .i64 (x0 : Int), .int .i64 ((m : Int) + 1)] W fun e w' => e = .returned (.int .i64 (lv : Int)) ∧ W = w' from fun W => by
        have := LEAP W
        rwa [show ((m + 1 : Nat) : Int) = (m : Int) + 1 from by omega] at this)
      clear LEAP hdd hD hd31 lv1 hT7
      by_cases b4 : D < x2
      · have t4 : decide (D < x2) = true := by simp; omega
        have HR2 := Lib.hid (HNO.out (by simp [okT, hdim]; omega))
        clear b1 b2 b3 b4 HNO HYES hdim
        go_quiet ((go_at_call 102; exact quiet_left (HL.out _)))
        go_wp2_with fail
        refine bodyPost_ret (v := .tuple #[T6.zero.v, .int .i64 13]) (by simp [results, Tryd.results94, go_sem, T6.v, T6.zero, e0, e1, e2, e3, e4, e5]) rfl ⟨by rw [HR2.out], ?_⟩
        exact (Kp.setCell (p := ⟨w.heap.size, 5, none⟩) (Kp.setCell (p := ⟨w.heap.size, 4, none⟩) (Kp.setCell (p := ⟨w.heap.size, 3, none⟩) (Kp.setCell (p := ⟨w.heap.size, 2, none⟩) (Kp.setCell (p := ⟨w.heap.size, 1, none⟩) (Kp.setCell (p := ⟨w.heap.size, 0, none⟩) (HK8.out.drewN _) (.inr (Nat.le_refl _)) _) (.inr (Nat.le_refl _)) _) (.inr (Nat.le_refl _)) _) (.inr (Nat.le_refl _)) _) (.inr (Nat.le_refl _)) _) (.inr (Nat.le_refl _)) _)
      have t4 : decide (D < x2) = false := by simp; omega
      by_cases b5 : 23 < x3
      · have t5 : decide ((23 : Int) < (x3 : Int)) = true := by simp; omega
        have HR2 := Lib.hid (HNO.out (by simp [okT, hdim]; omega))
        clear b1 b2 b3 b4 b5 HNO HYES hdim
        go_quiet ((go_at_call 102; exact quiet_left (HL.out _)))
        go_wp2_with fail
        refine bodyPost_ret (v := .tuple #[T6.zero.v, .int .i64 13]) (by simp [results, Tryd.results94, go_sem, T6.v, T6.zero, e0, e1, e2, e3, e4, e5]) rfl ⟨by rw [HR2.out], ?_⟩
        exact (Kp.setCell (p := ⟨w.heap.size, 5, none⟩) (Kp.setCell (p := ⟨w.heap.size, 4, none⟩) (Kp.setCell (p := ⟨w.heap.size, 3, none⟩) (Kp.setCell (p := ⟨w.heap.size, 2, none⟩) (Kp.setCell (p := ⟨w.heap.size, 1, none⟩) (Kp.setCell (p := ⟨w.heap.size, 0, none⟩) (HK8.out.drewN _) (.inr (Nat.le_refl _)) _) (.inr (Nat.le_refl _)) _) (.inr (Nat.le_refl _)) _) (.inr (Nat.le_refl _)) _) (.inr (Nat.le_refl _)) _) (.inr (Nat.le_refl _)) _)
      have t5 : decide ((23 : Int) < (x3 : Int)) = false := by simp; omega
      by_cases b6 : 59 < x4
      · have t6 : decide ((59 : Int) < (x4 : Int)) = true := by simp; omega
        have HR2 := Lib.hid (HNO.out (by simp [okT, hdim]; omega))
        clear b1 b2 b3 b4 b5 b6 HNO HYES hdim
        go_quiet ((go_at_call 102; exact quiet_left (HL.out _)))
        go_wp2_with fail
        refine bodyPost_ret (v := .tuple #[T6.zero.v, .int .i64 13]) (by simp [results, Tryd.results94, go_sem, T6.v, T6.zero, e0, e1, e2, e3, e4, e5]) rfl ⟨by rw [HR2.out], ?_⟩
        exact (Kp.setCell (p := ⟨w.heap.size, 5, none⟩) (Kp.setCell (p := ⟨w.heap.size, 4, none⟩) (Kp.setCell (p := ⟨w.heap.size, 3, none⟩) (Kp.setCell (p := ⟨w.heap.size, 2, none⟩) (Kp.setCell (p := ⟨w.heap.size, 1, none⟩) (Kp.setCell (p := ⟨w.heap.size, 0, none⟩) (HK8.out.drewN _) (.inr (Nat.le_refl _)) _) (.inr (Nat.le_refl _)) _) (.inr (Nat.le_refl _)) _) (.inr (Nat.le_refl _)) _) (.inr (Nat.le_refl _)) _) (.inr (Nat.le_refl _)) _)
      have t6 : decide ((59 : Int) < (x4 : Int)) = false := by simp; omega
      by_cases b7 : 59 < x5
      · have t7 : decide ((59 : Int) < (x5 : Int)) = true := by simp; omega
        have HR2 := Lib.hid (HNO.out (by simp [okT, hdim]; omega))
        clear b1 b2 b3 b4 b5 b6 b7 HNO HYES hdim
        go_quiet ((go_at_call 102; exact quiet_left (HL.out _)))
        go_wp2_with fail
        refine bodyPost_ret (v := .tuple #[T6.zero.v, .int .i64 13]) (by simp [results, Tryd.results94, go_sem, T6.v, T6.zero, e0, e1, e2, e3, e4, e5]) rfl ⟨by rw [HR2.out], ?_⟩
        exact (Kp.setCell (p := ⟨w.heap.size, 5, none⟩) (Kp.setCell (p := ⟨w.heap.size, 4, none⟩) (Kp.setCell (p := ⟨w.heap.size, 3, none⟩) (Kp.setCell (p := ⟨w.heap.size, 2, none⟩) (Kp.setCell (p := ⟨w.heap.size, 1, none⟩) (Kp.setCell (p := ⟨w.heap.size, 0, none⟩) (HK8.out.drewN _) (.inr (Nat.le_refl _)) _) (.inr (Nat.le_refl _)) _) (.inr (Nat.le_refl _)) _) (.inr (Nat.le_refl _)) _) (.inr (Nat.le_refl _)) _) (.inr (Nat.le_refl _)) _)
      have t7 : decide ((59 : Int) < (x5 : Int)) = false := by simp; omega
      have HR2 := Lib.hid (HYES.out (by simp [okT, hdim]; omega))
      clear b1 b2 b3 b4 b5 b6 b7 HNO HYES hdim
      go_quiet ((go_at_call 102; exact quiet_left (HL.out _)))
      go_wp2_with fail
      refine bodyPost_ret (v := .tuple #[T6.v ⟨x0, m + 1, x2, x3, x4, x5⟩, .int .i64 0]) (by simp [results, Tryd.results94, go_sem, T6.v, e0, e1, e2, e3, e4, e5]) rfl ⟨by rw [HR2.out], ?_⟩
      exact (Kp.setCell (p := ⟨w.heap.size, 5, none⟩) (Kp.setCell (p := ⟨w.heap.size, 4, none⟩) (Kp.setCell (p := ⟨w.heap.size, 3, none⟩) (Kp.setCell (p := ⟨w.heap.size, 2, none⟩) (Kp.setCell (p := ⟨w.heap.size, 1, none⟩) (Kp.setCell (p := ⟨w.heap.size, 0, none⟩) (HK8.out.drewN _) (.inr (Nat.le_refl _)) _) (.inr (Nat.le_refl _)) _) (.inr (Nat.le_refl _)) _) (.inr (Nat.le_refl _)) _) (.inr (Nat.le_refl _)) _) (.inr (Nat.le_refl _)) _)
end Go.Proofs.YtgjbfgkcbehjnaaDoor

namespace Go.Proofs.YtgjbfgkcbehjnaaDoor
open Go.RowKit

set_option maxRecDepth 100000 in
set_option maxHeartbeats 12800000 in
theorem time_c (ok : Nat → Prop) (v : Value) (l L : List UInt8) (w : World) (hv : BR w ok v l) (htab : Tab10 w) (h15 : L.length = 15) (hL : L = [50, 48] ++ l) (h53 : bt l 0 < 53) (r : T6 × Int) (hr : resT (time15 L) = r) :
    Calls Tryd.prog 94 #[.int .i64 23, v] w fun e w' => e = .returned (.tuple #[r.1.v, .int .i64 r.2]) ∧ Kp (fun _ => False) w w' := by
  have hk : Kp (fun _ => False) w (w.alloc (.cells #[.int .i64 0, .int .i64 0, .int .i64 0, .int .i64 0, .int .i64 0, .int .i64 0] 31)) := (Kp.refl _ _).alloc _
  have hcv := run_str (P := Tryd.prog) (src := 22) (dst := 9) (e := 5) Tryd.underlying22 Tryd.underlying5 Tryd.underlying9 (hv.kp hk (fun _ _ h => h))
  have hl13 : l.length = 13 := by
    rw [hL] at h15
    simpa using h15
  have hadd : (⟨#[50, 48]⟩ : ByteArray) ++ str l = str L := by
    rw [hL, ← str_append]
    rfl
  have hsz0 : (str l).size = 13 := by rw [str_size, hl13]
  have hat0 : ∀ (hk : 0 < (str l).size), (str l)[0]'hk = l[0]'(by omega) := fun hk => by
    have := Lib.getD_at (str l) 0 hk
    rw [str_toList, List.getD_eq_getElem?_getD, List.getElem?_eq_getElem (by omega)] at this
    exact this
  rw [bt_at (by omega)] at h53
  have hsz : (str L).size = 15 := by rw [str_size, h15]
  have hat : ∀ k (hk : k < (str L).size) (hk' : k < L.length), (str L)[k]'hk = L[k]'hk' := fun k hk hk' => by
    have := Lib.getD_at (str L) k hk
    rw [str_toList, List.getD_eq_getElem?_getD, List.getElem?_eq_getElem hk'] at this
    exact this
  have hex : ∀ i j, ((str L).extract i j).data.toList = (L.drop i).take (j - i) := fun i j => by rw [Lib.extract_data, str_toList]
  generalize str L = S at hadd hsz hat hex
  generalize str l = S0 at hcv hsz0 hat0 hadd
  have hp0 : 0 < S0.size := by omega
  have hat1 := hat0 hp0
  obtain ⟨b0, hb0⟩ : ∃ b, l[0]'(by omega) = b := ⟨_, rfl⟩
  rw [hb0] at hat1 h53
  have hcb : decide ((53 : Int) ≤ (b0.toNat : Int)) = false := by simp; omega
  clear hv hat0 hL hb0 hl13 h53
  have hz := hat 14 (by omega) (by omega)
  have hbz := bt_at (l := L) (i := 14) (by omega)
  obtain ⟨z, hzz⟩ : ∃ z, L[14]'(by omega) = z := ⟨_, rfl⟩
  rw [hzz] at hz hbz
  have hlt14 : 14 < S.size := by omega
  clear hzz
  have HAT := Lib.hid hat
  have HEX := Lib.hid hex
  have HTAB := Lib.hid htab
  have HR := Lib.hid hr
  have H15 := Lib.hid h15
  have HBZ := Lib.hid hbz
  clear hat hex htab hr h15 hbz
  by_cases hz90 : z.toNat = 90
  case neg =>
    have g1 : ((z.toNat : Int) != 90) = true := by simp; omega
    have g2 : ((z.toNat : Int) == 90) = false := by simp; omega
    have HR2 := Lib.hid (show r = (T6.zero, 13) by
      rw [← HR.out, time15, if_neg (fun x => hz90 (by rw [← HBZ.out]; exact x.2.1))])
    clear hz90
    go_enter Tryd.func94, Tryd.ntmps94
    go_wp2_with fail
    refine bodyPost_ret (v := .tuple #[T6.zero.v, .int .i64 13]) (by simp [results, Tryd.results94, go_sem, T6.v, T6.zero]) rfl ⟨by rw [HR2.out], hk⟩
  have g1 : ((z.toNat : Int) != 90) = false := by simp; omega
  have g2 : ((z.toNat : Int) == 90) = true := by simp; omega
  have HZ := Lib.hid hz90
  clear hz90
  go_enter Tryd.func94, Tryd.ntmps94
  go_wp2_with fail
  go_loop [45] (fun i => ∃ k : Nat, k ≤ 14 ∧ i = .int .i64 k ∧ digs (L.take k) = true) (fun i => 14 - (intOf i).toNat)
  case atStart => exact ⟨0, Nat.zero_le _, rfl, rfl⟩
  case round =>
    obtain ⟨k, hk14, rfl, hdk⟩ := hrel
    have HDK := Lib.hid hdk
    clear hdk
    by_cases hlt : k < 14
    · have hkS : k < S.size := by omega
      have hkL : k < L.length := by have := H15.out; omega
      have hsk := HAT.out k hkS hkL
      have hts := Lib.hid (List.take_succ_eq_append_getElem hkL)
      obtain ⟨c, hc⟩ : ∃ c, L[k] = c := ⟨_, rfl⟩
      rw [hc] at hsk hts
      have hk15 : (k : Int) < 15 := by omega
      clear hc
      by_cases hd : isDig c = true
      · have hd2 := hd
        simp only [isDig, Bool.and_eq_true, decide_eq_true_eq] at hd2
        obtain ⟨hd3, hd4⟩ := hd2
        have d1 : decide ((c.toNat : Int) < 48) = false := by simp; omega
        have d2 : decide ((57 : Int) < (c.toNat : Int)) = false := by simp; omega
        have HD := Lib.hid hd
        clear hd hd3 hd4
        go_wp2_with fail
        go_round
        case rel => exact ⟨k + 1, by omega, by go_num, by rw [hts.out, digs_append, HDK.out]; simp [digs, HD.out]⟩
        case measure => simp [intOf]; omega
      · have HR2 := Lib.hid (show r = (T6.zero, 13) by
          rw [← HR.out, time15, if_neg (fun x => hd (by
            have h1 := x.2.2
            have h2 := List.all_eq_true.1 h1 c (List.mem_iff_getElem.2 ⟨k, by rw [List.length_take]; omega, by
              have : (L.take (k + 1))[k]'(by rw [List.length_take]; omega) = c := by
                have := hts.out
                simp only [this]
                rw [List.getElem_append_right (by rw [List.length_take]; omega)]
                simp
              simpa using this⟩)
            exact h2))])
        have hd2 : c.toNat < 48 ∨ 57 < c.toNat := by
          simp only [isDig, Bool.and_eq_true, decide_eq_true_eq] at hd
          omega
        have hd5 : (decide ((c.toNat : Int) < 48) = true) ∨ (decide ((c.toNat : Int) < 48) = false ∧ decide ((57 : Int) < (c.toNat : Int)) = true) := by
          rcases hd2 with h | h
          · exact .inl (by simp; omega)
          · exact .inr ⟨by simp; omega, by simp; omega⟩
        clear hd hd2
        rcases hd5 with d1 | ⟨d1, d2⟩
        · go_wp2_with fail
          refine bodyPost_ret (v := .tuple #[T6.zero.v, .int .i64 13]) (by simp [results, Tryd.results94, go_sem, T6.v, T6.zero]) rfl ⟨by rw [HR2.out], hk⟩
        · go_wp2_with fail
          refine bodyPost_ret (v := .tuple #[T6.zero.v, .int .i64 13]) (by simp [results, Tryd.results94, go_sem, T6.v, T6.zero]) rfl ⟨by rw [HR2.out], hk⟩
    · obtain rfl : k = 14 := by omega
      have AT : ∀ i m, 1 ≤ m → m ≤ 4 → i + m ≤ 14 → ∀ W, Calls Tryd.prog 101 #[.string (S.extract i (i + m))] W fun e w' => e = .returned (.tuple #[.int .i64 (num ((L.drop i).take m) : Int), .nilIface]) ∧ Kp (fun _ => False) W w' := by
        intro i m hm1 hm4 him W
        have hlen : ((L.drop i).take m).length = m := by rw [List.length_take, List.length_drop, H15.out]; omega
        refine atoi_any _ _ ?_ (by omega) (by omega) (digs_sub HDK.out him) W
        rw [HEX.out, show i + m - i = m by omega]
      have bx : ∀ i m, i + m ≤ 14 → num ((L.drop i).take m) < 10 ^ m := by
        intro i m him
        have hlen : ((L.drop i).take m).length = m := by rw [List.length_take, List.length_drop, H15.out]; omega
        have := num_lt _ (digs_sub HDK.out him)
        rwa [hlen] at this
      have HT := Lib.hid (show t15 L = ⟨num ((L.drop 0).take 4), num ((L.drop 4).take 2), num ((L.drop 6).take 2), num ((L.drop 8).take 2), num ((L.drop 10).take 2), num ((L.drop 12).take 2)⟩ from rfl)
      have x0b := bx 0 4 (by omega)
      have x1b := bx 4 2 (by omega)
      have x2b := bx 6 2 (by omega)
      have x3b := bx 8 2 (by omega)
      have x4b := bx 10 2 (by omega)
      have x5b := bx 12 2 (by omega)
      have AT0 := AT 0 4 (by omega) (by omega) (by omega)
      have AT1 := AT 4 2 (by omega) (by omega) (by omega)
      have AT2 := AT 6 2 (by omega) (by omega) (by omega)
      have AT3 := AT 8 2 (by omega) (by omega) (by omega)
      have AT4 := AT 10 2 (by omega) (by omega) (by omega)
      have AT5 := AT 12 2 (by omega) (by omega) (by omega)
      generalize num ((L.drop 0).take 4) = x0 at AT0 x0b HT
      generalize num ((L.drop 4).take 2) = x1 at AT1 x1b HT
      generalize num ((L.drop 6).take 2) = x2 at AT2 x2b HT
      generalize num ((L.drop 8).take 2) = x3 at AT3 x3b HT
      generalize num ((L.drop 10).take 2) = x4 at AT4 x4b HT
      generalize num ((L.drop 12).take 2) = x5 at AT5 x5b HT
      simp only [Nat.reduceAdd, Nat.reducePow] at AT0 AT1 AT2 AT3 AT4 AT5 x0b x1b x2b x3b x4b x5b
      have A0 := Lib.hid AT0
      have A1 := Lib.hid AT1
      have A2 := Lib.hid AT2
      have A3 := Lib.hid AT3
      have A4 := Lib.hid AT4
      have A5 := Lib.hid AT5
      have HTIME := Lib.hid (show time15 L = if okT ⟨x0, x1, x2, x3, x4, x5⟩ = true then some ⟨x0, x1, x2, x3, x4, x5⟩ else none by
        rw [time15, HT.out, if_pos ⟨H15.out, by rw [HBZ.out]; exact HZ.out, HDK.out⟩])
      clear AT bx AT0 AT1 AT2 AT3 AT4 AT5 HDK
      have hR := (Blk.new w 31 #[.int .i64 0, .int .i64 0, .int .i64 0, .int .i64 0, .int .i64 0, .int .i64 0]).alloc (.cells #[.int .i64 0, .int .i64 0, .int .i64 0, .int .i64 0, .int .i64 0, .int .i64 0] 31)
      have hB := Blk.new (w.alloc (.cells #[.int .i64 0, .int .i64 0, .int .i64 0, .int .i64 0, .int .i64 0, .int .i64 0] 31)) 31 #[.int .i64 0, .int .i64 0, .int .i64 0, .int .i64 0, .int .i64 0, .int .i64 0]
      have hk2 := hk.alloc (.cells #[.int .i64 0, .int .i64 0, .int .i64 0, .int .i64 0, .int .i64 0, .int .i64 0] 31)
      rw [World.size_alloc] at hB
      go_wp2_with fail
      refine (A0.out _).mono ?_
      rintro e w1 ⟨rfl, q1⟩
      have hR1 := hR.kp q1 (fun h => h)
      have hB1 := hB.kp q1 (fun h => h)
      have hk3 := hk2.then_ q1 (fun _ h => h.elim)
      clear hR hB hk2 hk q1
      have c1 := hB1.cell 0
      have f1 := hB1.frozen 0
      simp only [List.getElem?_toArray, List.getElem?_cons_zero] at c1
      have hB2 := hB1.set_ 0 (.int .i64 (x0 : Int))
      have hR2 := hR1.far (p := ⟨w.heap.size + 1, 0, none⟩) (by simp) (.int .i64 (x0 : Int))
      have hk4 := hk3.setCell (p := ⟨w.heap.size + 1, 0, none⟩) (.inr (by simp)) (.int .i64 (x0 : Int))
      clear hB1 hR1 hk3
      go_wp2_with fail
      refine wp_loop_rounds 6 ?_
      rw [rounds_succ]
      go_wp2_with fail
      refine (A1.out _).mono ?_
      rintro e w2 ⟨rfl, q2⟩
      have hR2a := hR2.kp q2 (fun h => h)
      have hB2a := hB2.kp q2 (fun h => h)
      have hk2a := hk4.then_ q2 (fun _ h => h.elim)
      clear hR2 hB2 hk4 q2
      have c2 := hB2a.cell 1
      have f2 := hB2a.frozen 1
      simp [Array.setIfInBounds] at c2
      have hB3 := hB2a.set_ 1 (.int .i64 (x1 : Int))
      have hR3 := hR2a.far (p := ⟨w.heap.size + 1, 1, none⟩) (by simp) (.int .i64 (x1 : Int))
      have hk5 := hk2a.setCell (p := ⟨w.heap.size + 1, 1, none⟩) (.inr (by simp)) (.int .i64 (x1 : Int))
      clear hB2a hR2a hk2a
      go_wp2_with fail
      rw [rounds_succ]
      go_wp2_with fail
      refine (A2.out _).mono ?_
      rintro e w3 ⟨rfl, q3⟩
      have hR3a := hR3.kp q3 (fun h => h)
      have hB3a := hB3.kp q3 (fun h => h)
      have hk3a := hk5.then_ q3 (fun _ h => h.elim)
      clear hR3 hB3 hk5 q3
      have c3 := hB3a.cell 2
      have f3 := hB3a.frozen 2
      simp [Array.setIfInBounds] at c3
      have hB4 := hB3a.set_ 2 (.int .i64 (x2 : Int))
      have hR4 := hR3a.far (p := ⟨w.heap.size + 1, 2, none⟩) (by simp) (.int .i64 (x2 : Int))
      have hk6 := hk3a.setCell (p := ⟨w.heap.size + 1, 2, none⟩) (.inr (by simp)) (.int .i64 (x2 : Int))
      clear hB3a hR3a hk3a
      go_wp2_with fail
      rw [rounds_succ]
      go_wp2_with fail
      refine (A3.out _).mono ?_
      rintro e w4 ⟨rfl, q4⟩
      have hR4a := hR4.kp q4 (fun h => h)
      have hB4a := hB4.kp q4 (fun h => h)
      have hk4a := hk6.then_ q4 (fun _ h => h.elim)
      clear hR4 hB4 hk6 q4
      have c4 := hB4a.cell 3
      have f4 := hB4a.frozen 3
      simp [Array.setIfInBounds] at c4
      have hB5 := hB4a.set_ 3 (.int .i64 (x3 : Int))
      have hR5 := hR4a.far (p := ⟨w.heap.size + 1, 3, none⟩) (by simp) (.int .i64 (x3 : Int))
      have hk7 := hk4a.setCell (p := ⟨w.heap.size + 1, 3, none⟩) (.inr (by simp)) (.int .i64 (x3 : Int))
      clear hB4a hR4a hk4a
      go_wp2_with fail
      rw [rounds_succ]
      go_wp2_with fail
      refine (A4.out _).mono ?_
      rintro e w5 ⟨rfl, q5⟩
      have hR5a := hR5.kp q5 (fun h => h)
      have hB5a := hB5.kp q5 (fun h => h)
      have hk5a := hk7.then_ q5 (fun _ h => h.elim)
      clear hR5 hB5 hk7 q5
      have c5 := hB5a.cell 4
      have f5 := hB5a.frozen 4
      simp [Array.setIfInBounds] at c5
      have hB6 := hB5a.set_ 4 (.int .i64 (x4 : Int))
      have hR6 := hR5a.far (p := ⟨w.heap.size + 1, 4, none⟩) (by simp) (.int .i64 (x4 : Int))
      have hk8 := hk5a.setCell (p := ⟨w.heap.size + 1, 4, none⟩) (.inr (by simp)) (.int .i64 (x4 : Int))
      clear hB5a hR5a hk5a
      go_wp2_with fail
      rw [rounds_succ]
      go_wp2_with fail
      refine (A5.out _).mono ?_
      rintro e w6 ⟨rfl, q6⟩
      have hR6a := hR6.kp q6 (fun h => h)
      have hB6a := hB6.kp q6 (fun h => h)
      have hk6a := hk8.then_ q6 (fun _ h => h.elim)
      clear hR6 hB6 hk8 q6
      have c6 := hB6a.cell 5
      have f6 := hB6a.frozen 5
      simp [Array.setIfInBounds] at c6
      have hB7 := hB6a.set_ 5 (.int .i64 (x5 : Int))
      have hR7 := hR6a.far (p := ⟨w.heap.size + 1, 5, none⟩) (by simp) (.int .i64 (x5 : Int))
      have hk9 := hk6a.setCell (p := ⟨w.heap.size + 1, 5, none⟩) (.inr (by simp)) (.int .i64 (x5 : Int))
      clear hB6a hR6a hk6a
      go_wp2_with fail
      rw [rounds_succ]
      go_wp2_with fail
      have hT7 := HTAB.out.kp hk9
      simp [Array.setIfInBounds] at hB7
      obtain ⟨W, hW⟩ : ∃ W, w6.setCell ⟨w.heap.size + 1, 5, none⟩ (.int .i64 (x5 : Int)) = W := ⟨_, rfl⟩
      rw [hW] at hT7 hB7 hR7 hk9 ⊢
      clear hW
      have d0 := hB7.cell 0
      have e0 := hR7.cell 0
      have g10 := hR7.frozen 0
      have d1 := hB7.cell 1
      have e1 := hR7.cell 1
      have g11 := hR7.frozen 1
      have d2 := hB7.cell 2
      have e2 := hR7.cell 2
      have g12 := hR7.frozen 2
      have d3 := hB7.cell 3
      have e3 := hR7.cell 3
      have g13 := hR7.frozen 3
      have d4 := hB7.cell 4
      have e4 := hR7.cell 4
      have g14 := hR7.frozen 4
      have d5 := hB7.cell 5
      have e5 := hR7.cell 5
      have g15 := hR7.frozen 5
      simp at d0 d1 d2 d3 d4 d5 e0 e1 e2 e3 e4 e5
      clear hB7 hR7
      have HK8 := Lib.hid hk9
      clear hk9
      have HNO := Lib.hid (show okT ⟨x0, x1, x2, x3, x4, x5⟩ = false → r = (T6.zero, 13) from fun h => by
        rw [← HR.out, HTIME.out, h]
        rfl)
      have HYES := Lib.hid (show okT ⟨x0, x1, x2, x3, x4, x5⟩ = true → r = (⟨x0, x1, x2, x3, x4, x5⟩, 0) from fun h => by
        rw [← HR.out, HTIME.out, h]
        rfl)
      clear HR HTIME A0 A1 A2 A3 A4 A5 HT
      by_cases b1 : x1 < 1
      · have t1 : decide ((x1 : Int) < 1) = true := by simp; omega
        have HR2 := Lib.hid (HNO.out (by simp [okT]; omega))
        clear b1 HNO HYES
        go_quiet (fail)
        go_wp2_with fail
        refine bodyPost_ret (v := .tuple #[T6.zero.v, .int .i64 13]) (by simp [results, Tryd.results94, go_sem, T6.v, T6.zero, e0, e1, e2, e3, e4, e5]) rfl ⟨by rw [HR2.out], ?_⟩
        exact (Kp.setCell (p := ⟨w.heap.size, 5, none⟩) (Kp.setCell (p := ⟨w.heap.size, 4, none⟩) (Kp.setCell (p := ⟨w.heap.size, 3, none⟩) (Kp.setCell (p := ⟨w.heap.size, 2, none⟩) (Kp.setCell (p := ⟨w.heap.size, 1, none⟩) (Kp.setCell (p := ⟨w.heap.size, 0, none⟩) (HK8.out.drewN _) (.inr (Nat.le_refl _)) _) (.inr (Nat.le_refl _)) _) (.inr (Nat.le_refl _)) _) (.inr (Nat.le_refl _)) _) (.inr (Nat.le_refl _)) _) (.inr (Nat.le_refl _)) _)
      obtain ⟨m, rfl⟩ : ∃ m, x1 = m + 1 := ⟨x1 - 1, by omega⟩
      have t1 : decide ((m : Int) + 1 < 1) = false := by simp; omega
      by_cases b2 : 12 < m + 1
      · have t2 : decide ((12 : Int) < (m : Int) + 1) = true := by simp; omega
        have HR2 := Lib.hid (HNO.out (by simp [okT]; omega))
        clear b1 b2 HNO HYES
        go_quiet (fail)
        go_wp2_with fail
        refine bodyPost_ret (v := .tuple #[T6.zero.v, .int .i64 13]) (by simp [results, Tryd.results94, go_sem, T6.v, T6.zero, e0, e1, e2, e3, e4, e5]) rfl ⟨by rw [HR2.out], ?_⟩
        exact (Kp.setCell (p := ⟨w.heap.size, 5, none⟩) (Kp.setCell (p := ⟨w.heap.size, 4, none⟩) (Kp.setCell (p := ⟨w.heap.size, 3, none⟩) (Kp.setCell (p := ⟨w.heap.size, 2, none⟩) (Kp.setCell (p := ⟨w.heap.size, 1, none⟩) (Kp.setCell (p := ⟨w.heap.size, 0, none⟩) (HK8.out.drewN _) (.inr (Nat.le_refl _)) _) (.inr (Nat.le_refl _)) _) (.inr (Nat.le_refl _)) _) (.inr (Nat.le_refl _)) _) (.inr (Nat.le_refl _)) _) (.inr (Nat.le_refl _)) _)
      have t2 : decide ((12 : Int) < (m : Int) + 1) = false := by simp; omega
      by_cases b3 : x2 < 1
      · have t3 : decide ((x2 : Int) < 1) = true := by simp; omega
        have HR2 := Lib.hid (HNO.out (by simp [okT]; omega))
        clear b1 b2 b3 HNO HYES
        go_quiet (fail)
        go_wp2_with fail
        refine bodyPost_ret (v := .tuple #[T6.zero.v, .int .i64 13]) (by simp [results, Tryd.results94, go_sem, T6.v, T6.zero, e0, e1, e2, e3, e4, e5]) rfl ⟨by rw [HR2.out], ?_⟩
        exact (Kp.setCell (p := ⟨w.heap.size, 5, none⟩) (Kp.setCell (p := ⟨w.heap.size, 4, none⟩) (Kp.setCell (p := ⟨w.heap.size, 3, none⟩) (Kp.setCell (p := ⟨w.heap.size, 2, none⟩) (Kp.setCell (p := ⟨w.heap.size, 1, none⟩) (Kp.setCell (p := ⟨w.heap.size, 0, none⟩) (HK8.out.drewN _) (.inr (Nat.le_refl _)) _) (.inr (Nat.le_refl _)) _) (.inr (Nat.le_refl _)) _) (.inr (Nat.le_refl _)) _) (.inr (Nat.le_refl _)) _) (.inr (Nat.le_refl _)) _)
      have t3 : decide ((x2 : Int) < 1) = false := by simp; omega
      obtain ⟨dd, hdd, hdim, hd31⟩ := dim_days x0 (m + 1) (by omega) (by omega)
      have dday := hT7 m (by omega)
      rw [show m + 1 - 1 = m by omega] at hdd
      rw [hdd] at dday
      have LEAP := fun W => leap_any x0 (m + 1) x0b x1b W
      have lv1 : leapI x0 (m + 1) ≤ 1 := by unfold leapI; split <;> omega
      generalize leapI x0 (m + 1) = lv at hdim LEAP lv1
      obtain ⟨D, hD⟩ : ∃ D, dd + lv = D := ⟨_, rfl⟩
      rw [hD] at hdim
      have s0 : IntKind.i64.wrap ((dd : Int) + (lv : Int)) = (D : Int) := by
        rw [show (dd : Int) + (lv : Int) = (D : Int) by omega]
        exact IntWalk.i64_in _ (by omega)
      have s1 : IntKind.i64.wrap ((m : Int) + 1 - 1) = (m : Int) := by
        rw [show (m : Int) + 1 - 1 = m by omega]
        exact IntWalk.i64_in _ (by omega)
      have s4 : IntKind.i64.wrap (m : Int) = (m : Int) := IntWalk.i64_in _ (by omega)
      have s2 : (0 : Int) ≤ (m : Int) := by omega
      have s3 : (m : Int) < 12 := by omega
      have HL := Lib.hid (show ∀ W, Calls Tryd.prog 102 #[.int .i64 (x0 : Int), .int .i64 ((m : Int) + 1)] W fun e w' => e = .returned (.int .i64 (lv : Int)) ∧ W = w' from fun W => by
        have := LEAP W
        rwa [show ((m + 1 : Nat) : Int) = (m : Int) + 1 from by omega] at this)
      clear LEAP hdd hD hd31 lv1 hT7
      by_cases b4 : D < x2
      · have t4 : decide (D < x2) = true := by simp; omega
        have HR2 := Lib.hid (HNO.out (by simp [okT, hdim]; omega))
        clear b1 b2 b3 b4 HNO HYES hdim
        go_quiet ((go_at_call 102; exact quiet_left (HL.out _)))
        go_wp2_with fail
        refine bodyPost_ret (v := .tuple #[T6.zero.v, .int .i64 13]) (by simp [results, Tryd.results94, go_sem, T6.v, T6.zero, e0, e1, e2, e3, e4, e5]) rfl ⟨by rw [HR2.out], ?_⟩
        exact (Kp.setCell (p := ⟨w.heap.size, 5, none⟩) (Kp.setCell (p := ⟨w.heap.size, 4, none⟩) (Kp.setCell (p := ⟨w.heap.size, 3, none⟩) (Kp.setCell (p := ⟨w.heap.size, 2, none⟩) (Kp.setCell (p := ⟨w.heap.size, 1, none⟩) (Kp.setCell (p := ⟨w.heap.size, 0, none⟩) (HK8.out.drewN _) (.inr (Nat.le_refl _)) _) (.inr (Nat.le_refl _)) _) (.inr (Nat.le_refl _)) _) (.inr (Nat.le_refl _)) _) (.inr (Nat.le_refl _)) _) (.inr (Nat.le_refl _)) _)
      have t4 : decide (D < x2) = false := by simp; omega
      by_cases b5 : 23 < x3
      · have t5 : decide ((23 : Int) < (x3 : Int)) = true := by simp; omega
        have HR2 := Lib.hid (HNO.out (by simp [okT, hdim]; omega))
        clear b1 b2 b3 b4 b5 HNO HYES hdim
        go_quiet ((go_at_call 102; exact quiet_left (HL.out _)))
        go_wp2_with fail
        refine bodyPost_ret (v := .tuple #[T6.zero.v, .int .i64 13]) (by simp [results, Tryd.results94, go_sem, T6.v, T6.zero, e0, e1, e2, e3, e4, e5]) rfl ⟨by rw [HR2.out], ?_⟩
        exact (Kp.setCell (p := ⟨w.heap.size, 5, none⟩) (Kp.setCell (p := ⟨w.heap.size, 4, none⟩) (Kp.setCell (p := ⟨w.heap.size, 3, none⟩) (Kp.setCell (p := ⟨w.heap.size, 2, none⟩) (Kp.setCell (p := ⟨w.heap.size, 1, none⟩) (Kp.setCell (p := ⟨w.heap.size, 0, none⟩) (HK8.out.drewN _) (.inr (Nat.le_refl _)) _) (.inr (Nat.le_refl _)) _) (.inr (Nat.le_refl _)) _) (.inr (Nat.le_refl _)) _) (.inr (Nat.le_refl _)) _) (.inr (Nat.le_refl _)) _)
      have t5 : decide ((23 : Int) < (x3 : Int)) = false := by simp; omega
      by_cases b6 : 59 < x4
      · have t6 : decide ((59 : Int) < (x4 : Int)) = true := by simp; omega
        have HR2 := Lib.hid (HNO.out (by simp [okT, hdim]; omega))
        clear b1 b2 b3 b4 b5 b6 HNO HYES hdim
        go_quiet ((go_at_call 102; exact quiet_left (HL.out _)))
        go_wp2_with fail
        refine bodyPost_ret (v := .tuple #[T6.zero.v, .int .i64 13]) (by simp [results, Tryd.results94, go_sem, T6.v, T6.zero, e0, e1, e2, e3, e4, e5]) rfl ⟨by rw [HR2.out], ?_⟩
        exact (Kp.setCell (p := ⟨w.heap.size, 5, none⟩) (Kp.setCell (p := ⟨w.heap.size, 4, none⟩) (Kp.setCell (p := ⟨w.heap.size, 3, none⟩) (Kp.setCell (p := ⟨w.heap.size, 2, none⟩) (Kp.setCell (p := ⟨w.heap.size, 1, none⟩) (Kp.setCell (p := ⟨w.heap.size, 0, none⟩) (HK8.out.drewN _) (.inr (Nat.le_refl _)) _) (.inr (Nat.le_refl _)) _) (.inr (Nat.le_refl _)) _) (.inr (Nat.le_refl _)) _) (.inr (Nat.le_refl _)) _) (.inr (Nat.le_refl _)) _)
      have t6 : decide ((59 : Int) < (x4 : Int)) = false := by simp; omega
      by_cases b7 : 59 < x5
      · have t7 : decide ((59 : Int) < (x5 : Int)) = true := by simp; omega
        have HR2 := Lib.hid (HNO.out (by simp [okT, hdim]; omega))
        clear b1 b2 b3 b4 b5 b6 b7 HNO HYES hdim
        go_quiet ((go_at_call 102; exact quiet_left (HL.out _)))
        go_wp2_with fail
        refine bodyPost_ret (v := .tuple #[T6.zero.v, .int .i64 13]) (by simp [results, Tryd.results94, go_sem, T6.v, T6.zero, e0, e1, e2, e3, e4, e5]) rfl ⟨by rw [HR2.out], ?_⟩
        exact (Kp.setCell (p := ⟨w.heap.size, 5, none⟩) (Kp.setCell (p := ⟨w.heap.size, 4, none⟩) (Kp.setCell (p := ⟨w.heap.size, 3, none⟩) (Kp.setCell (p := ⟨w.heap.size, 2, none⟩) (Kp.setCell (p := ⟨w.heap.size, 1, none⟩) (Kp.setCell (p := ⟨w.heap.size, 0, none⟩) (HK8.out.drewN _) (.inr (Nat.le_refl _)) _) (.inr (Nat.le_refl _)) _) (.inr (Nat.le_refl _)) _) (.inr (Nat.le_refl _)) _) (.inr (Nat.le_refl _)) _) (.inr (Nat.le_refl _)) _)
      have t7 : decide ((59 : Int) < (x5 : Int)) = false := by simp; omega
      have HR2 := Lib.hid (HYES.out (by simp [okT, hdim]; omega))
      clear b1 b2 b3 b4 b5 b6 b7 HNO HYES hdim
      go_quiet ((go_at_call 102; exact quiet_left (HL.out _)))
      go_wp2_with fail
      refine bodyPost_ret (v := .tuple #[T6.v ⟨x0, m + 1, x2, x3, x4, x5⟩, .int .i64 0]) (by simp [results, Tryd.results94, go_sem, T6.v, e0, e1, e2, e3, e4, e5]) rfl ⟨by rw [HR2.out], ?_⟩
      exact (Kp.setCell (p := ⟨w.heap.size, 5, none⟩) (Kp.setCell (p := ⟨w.heap.size, 4, none⟩) (Kp.setCell (p := ⟨w.heap.size, 3, none⟩) (Kp.setCell (p := ⟨w.heap.size, 2, none⟩) (Kp.setCell (p := ⟨w.heap.size, 1, none⟩) (Kp.setCell (p := ⟨w.heap.size, 0, none⟩) (HK8.out.drewN _) (.inr (Nat.le_refl _)) _) (.inr (Nat.le_refl _)) _) (.inr (Nat.le_refl _)) _) (.inr (Nat.le_refl _)) _) (.inr (Nat.le_refl _)) _) (.inr (Nat.le_refl _)) _)
end Go.Proofs.YtgjbfgkcbehjnaaDoor

namespace Go.Proofs.YtgjbfgkcbehjnaaDoor
open Go.RowKit

/-- Numbers, as cells. -/
def uc (l : List Nat) : List Value := l.map fun n : Nat => Value.int .u64 (n : Int)
theorem uc_length (l : List Nat) : (uc l).length = l.length := by simp [uc]
theorem uc_append (l m : List Nat) : uc (l ++ m) = uc l ++ uc m := by simp [uc]
theorem uc_take (l : List Nat) (k : Nat) : (uc l).take k = uc (l.take k) := by simp [uc]
theorem uc_drop (l : List Nat) (k : Nat) : (uc l).drop k = uc (l.drop k) := by simp [uc]
theorem uc_one (l : List Nat) : ∀ u ∈ uc l, u.oneCell' = true := by
  intro u hu
  obtain ⟨b, _, rfl⟩ := List.mem_map.1 hu
  rfl
/-- A slice value that reads as these numbers. -/
def UR (w : World) (ok : Nat → Prop) (v : Value) (l : List Nat) : Prop := ∃ A c, v = .slice A l.length c ∧ l.length ≤ c ∧ Rd w ok 1 A l.length (uc l)
section
variable {w w' : World} {ok ok' S : Nat → Prop} {v : Value} {l : List Nat}
theorem UR.kp (h : UR w ok v l) (hk : Kp S w w') (hd : ∀ i, ok i → ¬ S i) : UR w' ok v l := by
  obtain ⟨A, c, e, hc, hr⟩ := h
  exact ⟨A, c, e, hc, hr.kp hk hd⟩
theorem UR.mono (h : UR w ok v l) (hd : ∀ i, ok i → ok' i) : UR w ok' v l := by
  obtain ⟨A, c, e, hc, hr⟩ := h
  exact ⟨A, c, e, hc, hr.mono hd⟩
theorem Rd.unum {A : Option Addr} {k : Nat} (h : Rd w ok 1 A l.length (uc l)) (hk : k < l.length) :
    ∃ b off, A = some ⟨b, off, none⟩ ∧ ok b ∧ w.cell? ⟨b, off + k, none⟩ = some (.int .u64 ((l[k]'hk : Nat) : Int)) := by
  obtain ⟨b, off, u, hA, hb, hu, hc⟩ := h.at_ hk
  refine ⟨b, off, hA, hb, ?_⟩
  rw [hc]
  simp [uc, hk] at hu
  rw [← hu]
theorem Own.ur {A : Option Addr} {n c : Nat} (h : Own w ok 132 1 (.slice A n c) n (uc l)) (hn : l.length = n) : UR w ok (.slice A n c) l := by
  obtain ⟨A', c', e, hc⟩ := h.shape
  injection e with e1 e2 e3
  subst e1 e3 hn
  exact ⟨A, c, rfl, hc, h.rd⟩
end

theorem u64_info : (Tryd.prog.info? 132).map (fun i => (i.zero, i.size, i.bytes)) = some (some (.int .u64 0), 1, 8) := by kernel_rfl

/-- Numbers that were laid just now. -/
theorem UR.lit (w : World) (t : TypeId) (l : List Nat) (cs : Array Value) (n : Nat) (hn : l.length = n) (hcs : cs = (uc l).toArray) : UR (w.alloc (.cells cs t)) (· = w.heap.size) (.slice (some ⟨w.heap.size, 0, none⟩) n n) l := by
  subst hn hcs
  refine ⟨_, _, rfl, Nat.le_refl _, by rw [uc_length]; omega, fun _ => ⟨_, rfl, rfl, rfl, fun j u hu => ?_⟩⟩
  have h := (Blk.new w t (uc l).toArray).cell j
  have e : (⟨w.heap.size, 0, none⟩ : Addr).add j = ⟨w.heap.size, j, none⟩ := by
    unfold Addr.add
    split
    · next h0 => subst h0; rfl
    · simp
  rw [e, h]
  simpa using hu
theorem Own.ulit (w : World) (l : List Nat) (cs : Array Value) (n B : Nat) (hn : l.length = n) (hcs : cs = (uc l).toArray) (hB : B ≤ w.heap.size) (hm : n ≤ maxLen) :
    Own (w.alloc (.cells cs 132)) (B ≤ ·) 132 1 (.slice (some ⟨w.heap.size, 0, none⟩) n n) n (uc l) := by
  subst hn hcs
  refine ⟨⟨by rw [uc_length]; omega, .inr ⟨w.heap.size, l.length, _, rfl, Nat.zero_le _, heap_alloc_new w _, Nat.le_refl _, hm, by simp [uc_length], ?_⟩⟩, fun k hk => ?_⟩
  · rw [Nat.mul_one]
    exact List.take_of_length_le (by rw [uc_length]; omega)
  · have : w.heap.size = k := by simpa [Value.ownBlock] using hk
    omega

/-! ### append(nil, make([]T, n)...) -/
set_option maxRecDepth 100000 in
theorem run_append_make_nil {P : Program} (w : World) (t ti ty e : TypeId) (i : TypeInfo) (z : Value) (ht : P.underlying t = some (.slice e)) (hti : P.underlying ti = some (.int .i64)) (hi : P.info? e = some i) (hz : i.zero = some z)
    (n : Nat) (h0 : 0 < n) (hs : 0 < i.size) (h63 : (n : Int) ≤ 9223372036854775807) (h48 : n * i.bytes ≤ 281474976710656) :
    (Builtin.append_ #[t, ti] ty #[.slice none 0 0, .int .i64 (n : Int)]).run P w =
      .ok (.slice (some ⟨w.heap.size, 0, none⟩) n (grownCap w n 0 e)) (w.drew.alloc (.cells (Builtin.zeroCells z.cells n ++ Builtin.zeroCells z.cells (grownCap w n 0 e - n)) e)) := by
  have hn : n ≠ 0 := by omega
  have hw : IntKind.i64.wrap (n : Int) = (n : Int) := by
    exact IntWalk.i64_in _ (by omega)
  have hneg : ¬ ((n : Int) < 0) := by omega
  have hb : ¬ (281474976710656 < (n : Int) * (i.bytes : Int)) := by
    have h := Int.ofNat_le.2 h48
    rw [Int.natCast_mul] at h
    exact Int.not_lt.2 h
  have h63' : ¬ (9223372036854775807 < (n : Int)) := by omega
  have h48' : ¬ (281474976710656 < Builtin.nextslicecap n 0 * i.bytes) := by rw [nextslicecap_zero h0]; omega
  simp [Builtin.append_, run_underlying ht, run_underlying hti, sizeOf, typeInfo, zeroValue, hi, hz, Builtin.lenOf, hn, h63', h48', Question.forced, run_firstCells_none, newRow, grownCap, asInt, asIntOf, hw, hneg, hb]
  intro h
  have := Nat.mul_pos h0 hs
  omega
end Go.Proofs.YtgjbfgkcbehjnaaDoor

namespace Go.Proofs.YtgjbfgkcbehjnaaDoor
open Go.RowKit

end Go.Proofs.YtgjbfgkcbehjnaaDoor

namespace Go.Proofs.YtgjbfgkcbehjnaaDoor
open Go.RowKit

/-- The scan: may a byte begin a number here? none: refused. -/
def oidS : List UInt8 → Bool → Option Bool
  | [], b => some b
  | c :: r, b => if b = true ∧ c.toNat = 128 then none else oidS r (decide (c.toNat < 128))
def oidB (l : List UInt8) : Bool := match oidS l true with
  | none => false
  | some b => decide (0 < l.length) && b
theorem oidS_drop {l : List UInt8} {k : Nat} (hk : k < l.length) (b : Bool) : oidS (l.drop k) b = if b = true ∧ (l[k]).toNat = 128 then none else oidS (l.drop (k + 1)) (decide ((l[k]).toNat < 128)) := by
  rw [List.drop_eq_getElem_cons hk, oidS]

set_option maxRecDepth 100000 in
set_option maxHeartbeats 1600000 in
theorem oid_any (ok : Nat → Prop) (v : Value) (l : List UInt8) (w : World) (hv : BR w ok v l) (hl : l.length ≤ 140737488355328) :
    Calls Tryd.prog 98 #[v] w fun e w' => e = .returned (.bool (oidB l)) ∧ w = w' := by
  obtain ⟨A, c, rfl, hc, hr⟩ := id hv
  obtain ⟨r, hr0⟩ : ∃ r, oidB l = r := ⟨_, rfl⟩
  rw [hr0]
  have HNO := Lib.hid (show oidS l true = none → r = false from fun h => by rw [← hr0, oidB, h])
  have HS := Lib.hid (show ∀ b, oidS l true = some b → r = (decide (0 < l.length) && b) from fun b h => by rw [← hr0, oidB, h])
  clear hr0 hv
  go_enter Tryd.func98, Tryd.ntmps98
  go_wp2_with fail
  go_loop [3, 8] (fun bv i => ∃ (k : Nat) (b : Bool), k ≤ l.length ∧ i = .int .i64 k ∧ bv = .bool b ∧ oidS l true = oidS (l.drop k) b) (fun _ i => l.length - (intOf i).toNat)
  case atStart => exact ⟨0, true, Nat.zero_le _, rfl, rfl, rfl⟩
  case round =>
    obtain ⟨k, b, hk, rfl, rfl, he⟩ := hrel
    have HE := Lib.hid he
    clear he
    by_cases hlt : k < l.length
    · obtain ⟨g, off, rfl, _, hcell⟩ := hr.byte hlt
      have hd := oidS_drop hlt b
      obtain ⟨x, hx⟩ : ∃ x, (l[k]).toNat = x := ⟨_, rfl⟩
      rw [hx] at hcell hd
      have hxl : x < 256 := by rw [← hx]; exact (l[k]).toNat_lt
      have HD := Lib.hid hd
      clear hd hx
      cases b
      · by_cases h128 : x < 128
        · have h1 : decide ((x : Int) < 128) = true := by simp; omega
          go_wp2_with fail
          go_round
          case rel => exact ⟨k + 1, true, by omega, by go_num, rfl, by rw [HE.out, HD.out, if_neg (by simp), decide_eq_true h128]⟩
          case measure => simp [intOf]; omega
        · have h1 : decide ((x : Int) < 128) = false := by simp; omega
          go_wp2_with fail
          go_round
          case rel => exact ⟨k + 1, false, by omega, by go_num, rfl, by rw [HE.out, HD.out, if_neg (by simp), decide_eq_false h128]⟩
          case measure => simp [intOf]; omega
      · by_cases h128 : x < 128
        · have h1 : decide ((x : Int) < 128) = true := by simp; omega
          have h2 : ((x : Int) == 128) = false := by simp; omega
          go_wp2_with fail
          go_round
          case rel => exact ⟨k + 1, true, by omega, by go_num, rfl, by rw [HE.out, HD.out, if_neg (by omega), decide_eq_true h128]⟩
          case measure => simp [intOf]; omega
        · by_cases he : x = 128
          · subst he
            have hr1 := HNO.out (by rw [HE.out, HD.out, if_pos ⟨rfl, rfl⟩])
            subst hr1
            clear HNO HS
            go_wp2_with fail
            go_ret
            exact ⟨rfl, rfl⟩
          · have h1 : decide ((x : Int) < 128) = false := by simp; omega
            have h2 : ((x : Int) == 128) = false := by simp; omega
            go_wp2_with fail
            go_round
            case rel => exact ⟨k + 1, false, by omega, by go_num, rfl, by rw [HE.out, HD.out, if_neg (by omega), decide_eq_false h128]⟩
            case measure => simp [intOf]; omega
    · obtain rfl : k = l.length := by omega
      have hr1 := HS.out b (by rw [HE.out, List.drop_of_length_le (Nat.le_refl _)]; rfl)
      have HR1 := Lib.hid hr1
      clear hr1 HNO HS
      by_cases h0 : 0 < l.length
      · have h1 : (0 : Int) < (l.length : Int) := by omega
        go_wp2_with fail
        go_ret
        exact ⟨by rw [HR1.out, decide_eq_true h0]; simp, rfl⟩
      · have h1 : l.length = 0 := by omega
        have h2 : decide ((0 : Int) < (l.length : Int)) = false := decide_eq_false (by omega)
        have h3 : decide (0 < l.length) = false := decide_eq_false (by omega)
        clear h1
        go_wp2_with fail
        go_ret
        exact ⟨by rw [HR1.out, decide_eq_false h0]; simp, rfl⟩
end Go.Proofs.YtgjbfgkcbehjnaaDoor

namespace Go.Proofs.YtgjbfgkcbehjnaaDoor
open Go.RowKit Go.Maps

/-- Which function a value is: its number; none is -1. -/
def fnR : Value → Option Int
  | .func (.func f) a b => if a.toList = [] ∧ b.toList = [] then some (f : Int) else none
  | .nilFunc => some (-1)
  | _ => none
/-- How a row reads: by the number of its function. -/
def rowR (v : Value) : Option (DataW Unit × List MemPlace) :=
  match v with
  | .agg cs => (match cs.toList with | [x] => (fnR x).map (fun n => (.lit (.int .i64 n), [])) | _ => none)
  | _ => none
theorem fnR_inv {v : Value} {f : Nat} (h : fnR v = some (f : Int)) : v = .func (.func f) #[] #[] := by
  unfold fnR at h
  split at h
  · split at h
    · rename_i g a b hab
      injection h with h
      have h1 : g = f := Int.natCast_inj.1 h
      have ha : a = #[] := by simpa using hab.1
      have hb : b = #[] := by simpa using hab.2
      rw [h1, ha, hb]
    · simp at h
  · injection h with h
    omega
  · simp at h
theorem rowR_inv {v : Value} {f : Nat} {ps : List MemPlace} (h : rowR v = some (.lit (.int .i64 f), ps)) : v = .agg #[.func (.func f) #[] #[]] := by
  unfold rowR at h
  split at h
  · rename_i cs
    split at h
    · rename_i x hx
      cases hf : fnR x with
      | none => rw [hf] at h; simp at h
      | some n =>
        rw [hf] at h
        simp at h
        have e := h.1
        rw [e] at hf
        rw [fnR_inv hf] at hx
        have : cs = #[.func (.func f) #[] #[]] := by
          rw [← Array.toList_inj, hx]
        rw [this]
    · simp at h
  · simp at h
theorem fnR_inv0 {v : Value} (h : fnR v = some (-1)) : v = .nilFunc := by
  unfold fnR at h
  split at h
  · split at h
    · injection h with h
      omega
    · simp at h
  · rfl
  · simp at h
theorem rowR_inv0 {v : Value} {ps : List MemPlace} (h : rowR v = some (.lit (.int .i64 (-1)), ps)) : v = .agg #[.nilFunc] := by
  unfold rowR at h
  split at h
  · rename_i cs
    split at h
    · rename_i x hx
      cases hf : fnR x with
      | none => rw [hf] at h; simp at h
      | some n =>
        rw [hf] at h
        simp at h
        have e := h.1
        rw [e] at hf
        rw [fnR_inv0 hf] at hx
        have : cs = #[.nilFunc] := by
          rw [← Array.toList_inj, hx]
        rw [this]
    · simp at h
  · simp at h
theorem rowR_f (f : Nat) : rowR (.agg #[.func (.func f) #[] #[]]) = some (.lit (.int .i64 f), []) := rfl
theorem rowR_0 : rowR (.agg #[.nilFunc]) = some (.lit (.int .i64 (-1)), []) := rfl

/-- A store at a map's making, at the operation. -/
theorem wpList_insert_own {H : Type} {P : Program} (w : World) {ops : Array Oper} {rest : List Oper} {o : Oper} {a : Act} {Q : Exit → Act → World → Prop}
    (hg : o.guard = none) (m x v : Operand) (t : TypeId) (hop : o.op = Op.insert t m x v)
    (k e : TypeId) (K : Keyed P k) (ht : P.underlying t = some (.map k e)) (R : Value → Option (DataW H × List MemPlace)) (b n : Nat) (D : DataW H)
    (hm : a.eval m = .map (some b)) (hown : w.ownsMap P k R b n D) (hn : n < maxLen) (key val : Value) (kl : Lit) (hx : a.eval x = key) (hv : a.eval v = val) (hkey : keyOf P k key = some kl)
    (d : DataW H) (ps : List MemPlace) (hval : R val = some (d, ps))
    (hK : ∀ w', w'.ownsMap P k R b (n + 1) (D.put kl d) → w.grownBy w' (some b) → wpList P ops Q rest (a.put o.dst undef) w') :
    wpList P ops Q (o :: rest) a w := by
  refine wpList_plain hg fun K' hK' => ?_
  obtain ⟨w', hrun, r1, r2⟩ := hown.update K ht hn hkey hval
  unfold Oper.wp
  simp [execOp, hop, hm, hx, hv, hrun, Result.andThen]
  exact hK' _ _ (hK w' r1 r2)

theorem lawInt : Keyed Tryd.prog 3 := int_keyed Tryd.underlying3

/-- The rows, as they are told at the map's making. -/
def rowD (f : Nat) : DataW Unit := .lit (.int .i64 f)
def rowsD8 : DataW Unit := (((((((((.map [] : DataW Unit).put (.int .i64 1) (rowD 96)).put (.int .i64 2) (rowD 92)).put (.int .i64 10) (rowD 92)).put (.int .i64 3) (rowD 93)).put (.int .i64 5) (rowD 97)).put (.int .i64 6) (rowD 98)).put (.int .i64 23) (rowD 99)).put (.int .i64 24) (rowD 100))
def rowKeys : List Int := [4, 12, 18, 19, 20, 22, 26, 28, 30]
def rowsD (k : Nat) : DataW Unit := (rowKeys.take k).foldl (fun D t => D.put (.int .i64 t) (rowD 95)) rowsD8
theorem rowsD_succ (k : Nat) (h : k < rowKeys.length) : rowsD (k + 1) = (rowsD k).put (.int .i64 rowKeys[k]) (rowD 95) := by
  rw [rowsD, List.take_succ_eq_append_getElem h, List.foldl_append]
  rfl

set_option maxRecDepth 100000 in
set_option maxHeartbeats 3200000 in
theorem rows_any (w : World) : Calls Tryd.prog 89 #[] w fun e w' => ∃ b, e = .returned (.map (some b)) ∧ w'.ownsMap Tryd.prog 3 rowR b 17 (rowsD 9) ∧ Kp (fun _ => False) w w' := by
  have hmm := @run_makeMap Tryd.prog
  have HM := Lib.hid (by simpa using World.ownsMap_made (w.alloc (.cells #[.func (.func 95) #[] #[]] 125)) Tryd.prog 3 rowR)
  have hk0 := ((Kp.refl (fun _ => False) w).alloc (.cells #[.func (.func 95) #[] #[]] 125)).alloc (.map #[] 0)
  obtain ⟨W0, hW0⟩ : ∃ W0, ((w.alloc (.cells #[.func (.func 95) #[] #[]] 125)).alloc (.map #[] 0)) = W0 := ⟨_, rfl⟩
  have hsz : W0.heap.size = w.heap.size + 2 := by rw [← hW0]; simp
  have hf0 : W0.cell? ⟨w.heap.size, 0, none⟩ = some (.func (.func 95) #[] #[]) := by
    rw [← hW0, World.cell?_alloc_past _ _ _ (by simp), World.cell?_alloc_at _ _ _ _ rfl]
    rfl
  rw [hW0] at HM hk0
  have kr := Kp.refl (fun j => j = w.heap.size + 1) W0
  have HW := Lib.hid hW0
  clear hW0
  go_enter Tryd.func89, Tryd.ntmps89
  go_wp2_with (first
    | (rw [HW.out]; refine wpList_insert_own _ rfl _ _ _ 127 rfl 3 125 lawInt Tryd.underlying127 rowR _ _ _ rfl HM.out (by unfold maxLen; omega) _ _ _ rfl rfl (keyOf_int_mk Tryd.underlying3 (by decide)) _ _ (rowR_f _) ?_; intro w1 hown1 hg1; have hk1 := kr.grown hg1 (fun j hj => by cases hj; exact .inl rfl); clear hg1)
    | (refine wpList_insert_own _ rfl _ _ _ 127 rfl 3 125 lawInt Tryd.underlying127 rowR _ _ _ rfl hown1 (by unfold maxLen; omega) _ _ _ rfl rfl (keyOf_int_mk Tryd.underlying3 (by decide)) _ _ (rowR_f _) ?_; clear hown1; intro w2 hown1 hg1; have hk2 := hk1.grown hg1 (fun j hj => by cases hj; exact .inl rfl); clear hg1 hk1; have hk1 := hk2; clear hk2)
    | fail)
  obtain ⟨W1, hW1⟩ : ∃ W1, (w2.alloc (.cells #[.int .i64 4, .int .i64 12, .int .i64 18, .int .i64 19, .int .i64 20, .int .i64 22, .int .i64 26, .int .i64 28, .int .i64 30] 3)) = W1 := ⟨_, rfl⟩
  have hg : w.heap.size + 2 ≤ w2.heap.size := by have := hk1.size; omega
  have hkw := hk0.then_ (hk1.alloc (.cells #[.int .i64 4, .int .i64 12, .int .i64 18, .int .i64 19, .int .i64 20, .int .i64 22, .int .i64 26, .int .i64 28, .int .i64 30] 3)) (fun j hj => .inr (by omega))
  have hf1 := (hk1.alloc (.cells #[.int .i64 4, .int .i64 12, .int .i64 18, .int .i64 19, .int .i64 20, .int .i64 22, .int .i64 26, .int .i64 28, .int .i64 30] 3)).cell hf0 (by simp)
  have hcs : ∀ (k : Nat) (h : k < rowKeys.length), (w2.alloc (.cells #[.int .i64 4, .int .i64 12, .int .i64 18, .int .i64 19, .int .i64 20, .int .i64 22, .int .i64 26, .int .i64 28, .int .i64 30] 3)).cell? ⟨w2.heap.size, 0 + k, none⟩ = some (.int .i64 rowKeys[k]) := by
    intro k h
    rw [World.cell?_alloc_at _ _ _ _ rfl]
    have h9 : k < 9 := h
    match k, h9 with
    | 0, _ | 1, _ | 2, _ | 3, _ | 4, _ | 5, _ | 6, _ | 7, _ | 8, _ => rfl
  have ho1 := hown1.alloc (.cells #[.int .i64 4, .int .i64 12, .int .i64 18, .int .i64 19, .int .i64 20, .int .i64 22, .int .i64 26, .int .i64 28, .int .i64 30] 3)
  have hsz1 : w2.heap.size < W1.heap.size := by rw [← hW1]; simp
  rw [hW1] at hkw hf1 hcs ho1 ⊢
  obtain ⟨g, hgg⟩ : ∃ g, w2.heap.size = g := ⟨_, rfl⟩
  rw [hgg] at hcs hsz1 hg ⊢
  have HO1 := Lib.hid (show W1.ownsMap Tryd.prog 3 rowR (w.heap.size + 1) 8 (rowsD 0) from ho1)
  clear hW1 ho1 hown1 hk1 hgg hk0 kr HM HW hf0 hmm
  have HSTEP := Lib.hid rowsD_succ
  have hwf : ∀ (k : Nat) (h : k < rowKeys.length), (Lit.int .i64 rowKeys[k]).wf = true := by decide
  go_loopw [18] (fun i wr => ∃ k : Nat, k ≤ 9 ∧ i = .int .i64 k ∧ wr.ownsMap Tryd.prog 3 rowR (w.heap.size + 1) (8 + k) (rowsD k) ∧ Kp (fun j => j = w.heap.size + 1) W1 wr) (fun i _ => 9 - (intOf i).toNat)
  case atStart => exact ⟨0, Nat.zero_le _, rfl, HO1.out, Kp.refl _ _⟩
  case round =>
    obtain ⟨k, hk, rfl, hown, hkr⟩ := hrel
    have HOW := Lib.hid hown
    clear hown
    by_cases hlt : k < 9
    · have hk9 : k < rowKeys.length := hlt
      have hst := HSTEP.out k hk9
      have hc := hkr.cell (hcs k hk9) (by simp; omega)
      have hf := hkr.cell hf1 (by simp)
      simp only [Nat.zero_add] at hc
      have hw := hwf k hk9
      generalize rowKeys[k] = x at hst hc hw
      have HST := Lib.hid hst
      have hkey := Lib.hid (keyOf_int_mk Tryd.underlying3 hw)
      clear hst hw
      go_wp2_with (first
        | (at_mapUpdate; refine wpList_mapUpdate_own _ rfl _ _ _ 127 rfl 3 125 lawInt Tryd.underlying127 rowR _ _ _ rfl HOW.out (by unfold maxLen; omega) _ _ _ rfl rfl hkey.out _ _ (rowR_f _) ?_; intro w3 hown3 hg3; have HO3 := Lib.hid hown3; have HK3 := Lib.hid (hkr.grown hg3 (fun j hj => by cases hj; exact .inl rfl)); clear hown3 hg3)
        | fail)
      go_roundw
      case rel => exact ⟨k + 1, by omega, by go_num, by rw [HST.out]; exact HO3.out, HK3.out⟩
      case measure => simp [intOf]; omega
    · obtain rfl : k = 9 := by omega
      go_wp2_with fail
      go_ret
      exact ⟨_, rfl, HOW.out, hkw.then_ hkr (fun j hj => .inr (by omega))⟩
end Go.Proofs.YtgjbfgkcbehjnaaDoor

namespace Go.Proofs.YtgjbfgkcbehjnaaDoor
open Go.RowKit

theorem i64_or_nat2 (a b : Nat) (ha : a < 9223372036854775808) (hb : b < 9223372036854775808) : bits .or .i64 (a : Int) (b : Int) = ((a ||| b : Nat) : Int) := by
  have hx : a ||| b < 2 ^ 63 := Nat.or_lt_two_pow (by omega) (by omega)
  show IntKind.i64.wrap ((BitVec.ofInt 64 (a : Int) ||| BitVec.ofInt 64 (b : Int)).toNat : Int) = _
  rw [BitVec.toNat_or, ofInt_u64 a (by omega), ofInt_u64 b (by omega)]
  exact IntWalk.i64_in _ (by omega)
theorem i64_or_top (x q : Nat) (hq : q < 2) (hx : x < 256) : bits .or .i64 ((x : Int) * 2) (q : Int) = ((x * 2 + q : Nat) : Int) := by
  rw [show (x : Int) * 2 = ((x * 2 : Nat) : Int) from by omega, i64_or_nat2 _ _ (by omega) (by omega)]
  have := Nat.two_pow_add_eq_or_of_lt (i := 1) (b := q) (by omega) x
  rw [show x * 2 = 2 ^ 1 * x from by omega, this]

/-- May bytes be an integer's? -/
def intB : List UInt8 → Bool
  | [] => false
  | [_] => true
  | b :: c :: _ => !decide (b.toNat * 2 + c.toNat / 128 = 0) && !decide (b.toNat * 2 + c.toNat / 128 = 511)

set_option maxRecDepth 100000 in
theorem integer_any (ok : Nat → Prop) (v : Value) (l : List UInt8) (w : World) (hv : BR w ok v l) (hl : l.length ≤ 140737488355328) :
    Calls Tryd.prog 92 #[v] w fun e w' => e = .returned (.bool (intB l)) ∧ Kp (fun _ => False) w w' := by
  obtain ⟨A, c, rfl, hc, hr⟩ := id hv
  match l, hr, hc, hl with
  | [], hr, hc, hl =>
    go_enter Tryd.func92, Tryd.ntmps92
    go_wp2_with fail
    go_ret
    exact ⟨rfl, Kp.refl _ _⟩
  | [b], hr, hc, hl =>
    go_enter Tryd.func92, Tryd.ntmps92
    go_wp2_with fail
    go_ret
    exact ⟨rfl, Kp.refl _ _⟩
  | b :: d :: u, hr, hc, hl =>
    obtain ⟨g, off, rfl, _, h0⟩ := Rd.byte hr (k := 0) (by simp)
    obtain ⟨g', off', ee, _, h1⟩ := Rd.byte hr (k := 1) (by simp)
    simp only [Option.some.injEq, Addr.mk.injEq, and_true] at ee
    obtain ⟨rfl, rfl⟩ := ee
    simp only [List.getElem_cons_succ, List.getElem_cons_zero, Nat.add_zero] at h0 h1
    obtain ⟨r, hr0⟩ : ∃ r, intB (b :: d :: u) = r := ⟨_, rfl⟩
    rw [hr0]
    rw [intB] at hr0
    have hb := b.toNat_lt
    have hd := d.toNat_lt
    generalize b.toNat = x at hr0 h0 hb
    generalize d.toNat = y at hr0 h1 hd
    have hlen : (b :: d :: u).length = u.length + 2 := rfl
    rw [hlen] at hc hl ⊢
    obtain ⟨q, hq⟩ : ∃ q, y / 128 = q := ⟨_, rfl⟩
    have e1 := i64_or_top x q (by omega) (by omega)
    have e0 : (y : Int) / 128 = (q : Int) := by omega
    obtain ⟨t, ht⟩ : ∃ t, x * 2 + q = t := ⟨_, rfl⟩
    rw [ht] at e1
    rw [hq, ht] at hr0
    have hn1 : (0 : Int) < (u.length : Int) + 2 := by omega
    have hn2 : (1 : Int) < (u.length : Int) + 2 := by omega
    have hn3 : decide ((u.length : Int) + 2 < 2) = false := by simp; omega
    have hq2 : q < 2 := by omega
    clear hq ht hlen hv hr
    by_cases ht0 : t = 0
    · subst ht0
      have hr1 : r = false := by rw [← hr0]; rfl
      subst hr1
      clear hr0
      go_enter Tryd.func92, Tryd.ntmps92
      go_wp2_with fail
      go_quiet (fail)
      go_wp2_with fail
      go_ret
      exact ⟨rfl, (Kp.refl _ _).drewN _⟩
    · by_cases ht1 : t = 511
      · subst ht1
        have hr1 : r = false := by rw [← hr0]; rfl
        subst hr1
        clear hr0 ht0
        go_enter Tryd.func92, Tryd.ntmps92
        go_wp2_with fail
        go_quiet (fail)
        go_wp2_with fail
        go_ret
        exact ⟨rfl, (Kp.refl _ _).drewN _⟩
      · have hr1 : r = true := by rw [← hr0, decide_eq_false ht0, decide_eq_false ht1]; rfl
        subst hr1
        have g0 : ((t : Int) != 0) = true := by simp; omega
        have g1 : ((t : Int) != 511) = true := by simp; omega
        clear hr0 ht0 ht1
        go_enter Tryd.func92, Tryd.ntmps92
        go_wp2_with fail
        go_quiet (fail)
        go_wp2_with fail
        go_ret
        exact ⟨rfl, (Kp.refl _ _).drewN _⟩

/-- The number that bytes are, with its sign. -/
def sgn (n x : Nat) : Int := if 2 * x < 256 ^ n then (x : Int) else (x : Int) - ((256 ^ n : Nat) : Int)
def numR (l : List UInt8) : Int × Int := if intB l = false then (0, 13) else if 8 < l.length then (0, 5) else (sgn l.length (be l), 0)

set_option maxRecDepth 100000 in
set_option maxHeartbeats 3200000 in
theorem dnumber_any (ok : Nat → Prop) (v : Value) (l : List UInt8) (w : World) (hv : BR w ok v l) (hl : l.length ≤ 140737488355328) :
    Calls Tryd.prog 79 #[v] w fun e w' => e = .returned (.tuple #[.int .i64 (numR l).1, .int .i64 (numR l).2]) ∧ Kp (fun _ => False) w w' := by
  obtain ⟨A, c, rfl, hc, hr⟩ := id hv
  have HI := Lib.hid (integer_any ok _ l w hv hl)
  cases hi : intB l
  · have e : numR l = (0, 13) := by rw [numR, if_pos hi]
    rw [e]
    rw [hi] at HI
    clear hi e hv hr
    go_enter Tryd.func79, Tryd.ntmps79
    go_wp2_with fail
    refine HI.out.mono ?_
    rintro e w1 ⟨rfl, hk1⟩
    go_wp2_with fail
    go_ret2
    exact ⟨rfl, hk1⟩
  rw [hi] at HI
  by_cases h8 : 8 < l.length
  · have e : numR l = (0, 5) := by rw [numR, if_neg (by simp [hi]), if_pos h8]
    rw [e]
    clear hi e hv hr
    go_enter Tryd.func79, Tryd.ntmps79
    go_wp2_with fail
    refine HI.out.mono ?_
    rintro e w1 ⟨rfl, hk1⟩
    go_wp2_with fail
    go_ret2
    exact ⟨rfl, hk1⟩
  · have e : numR l = (sgn l.length (be l), 0) := by rw [numR, if_neg (by simp [hi]), if_neg h8]
    have hpos : 1 ≤ l.length := by
      rcases l with _ | _
      · simp [intB] at hi
      · simp
    rw [e]
    have hlt := be_lt l
    have HE := Lib.hid e
    clear hi e hv
    go_enter Tryd.func79, Tryd.ntmps79
    go_wp2_with fail
    refine HI.out.mono ?_
    rintro e w1 ⟨rfl, hk1⟩
    have hr1 := hr.kp hk1 (fun _ _ h => h)
    have HLT := Lib.hid hlt
    clear hlt
    go_wp2_with fail
    go_loop [4, 18] (fun x i => ∃ k : Nat, k ≤ l.length ∧ i = .int .i64 k ∧ x = .int .u64 (be (l.take k) : Int)) (fun _ i => l.length - (intOf i).toNat)
    case atStart => exact ⟨0, Nat.zero_le _, rfl, rfl⟩
    case round =>
      obtain ⟨k, hk, rfl, rfl⟩ := hrel
      by_cases hlt : k < l.length
      · obtain ⟨g, off, rfl, _, hcell⟩ := hr1.byte hlt
        have hbk := be_take l k hlt
        have hbs := be_small l k hlt (by omega)
        have hy := (l[k]).toNat_lt
        generalize (l[k]).toNat = y at hcell hbk hy
        generalize hx : be (l.take k) = x at hbk hbs
        have e2 := or_byte x y (by omega) hbs
        obtain ⟨z, hz⟩ : ∃ z, x * 256 + y = z := ⟨_, rfl⟩
        rw [hz] at e2 hbk
        have e3 : bits .or .u64 ((x : Int) * 256) (y : Int) = (z : Int) := by
          have : IntKind.u64.wrap ((x : Int) * 256) = (x : Int) * 256 := by rw [IntKind.wrap_u64]; omega
          rwa [this] at e2
        have HB := Lib.hid hbk
        clear hbk hz hx
        go_wp2_with fail
        go_round
        case rel => exact ⟨k + 1, by omega, by go_num, by rw [HB.out]⟩
        case measure => simp [intOf]; omega
      · obtain rfl : k = l.length := by omega
        rw [List.take_of_length_le (Nat.le_refl _)]
        have hb := HLT.out
        have hn : l.length = 1 ∨ l.length = 2 ∨ l.length = 3 ∨ l.length = 4 ∨ l.length = 5 ∨ l.length = 6 ∨ l.length = 7 ∨ l.length = 8 := by omega
        obtain ⟨x, hx⟩ : ∃ x, be l = x := ⟨_, rfl⟩
        obtain ⟨n, hn0⟩ : ∃ n, l.length = n := ⟨_, rfl⟩
        obtain ⟨S, hS⟩ : ∃ S, sgn l.length (be l) = S := ⟨_, rfl⟩
        have hS2 : sgn n x = S := by rw [← hn0, ← hx]; exact hS
        have HS := Lib.hid hS
        rw [hx]
        rw [hx, hn0] at hb
        rw [hn0] at hn ⊢
        clear hr hr1 HLT HE HI hpos h8 hc hl hS hx hn0
        rcases hn with rfl | rfl | rfl | rfl | rfl | rfl | rfl | rfl
        · simp at hb
          have hs : wrap64 ((x : Int) * 72057594037927936) / 72057594037927936 = S := by
            rw [← hS2, sgn]
            unfold wrap64
            split <;> simp at * <;> omega
          clear hS2
          go_wp2_with fail
          go_ret2
          exact ⟨by rw [HS.out]; rfl, hk1⟩
        · simp at hb
          have hs : wrap64 ((x : Int) * 281474976710656) / 281474976710656 = S := by
            rw [← hS2, sgn]
            unfold wrap64
            split <;> simp at * <;> omega
          clear hS2
          go_wp2_with fail
          go_ret2
          exact ⟨by rw [HS.out]; rfl, hk1⟩
        · simp at hb
          have hs : wrap64 ((x : Int) * 1099511627776) / 1099511627776 = S := by
            rw [← hS2, sgn]
            unfold wrap64
            split <;> simp at * <;> omega
          clear hS2
          go_wp2_with fail
          go_ret2
          exact ⟨by rw [HS.out]; rfl, hk1⟩
        · simp at hb
          have hs : wrap64 ((x : Int) * 4294967296) / 4294967296 = S := by
            rw [← hS2, sgn]
            unfold wrap64
            split <;> simp at * <;> omega
          clear hS2
          go_wp2_with fail
          go_ret2
          exact ⟨by rw [HS.out]; rfl, hk1⟩
        · simp at hb
          have hs : wrap64 ((x : Int) * 16777216) / 16777216 = S := by
            rw [← hS2, sgn]
            unfold wrap64
            split <;> simp at * <;> omega
          clear hS2
          go_wp2_with fail
          go_ret2
          exact ⟨by rw [HS.out]; rfl, hk1⟩
        · simp at hb
          have hs : wrap64 ((x : Int) * 65536) / 65536 = S := by
            rw [← hS2, sgn]
            unfold wrap64
            split <;> simp at * <;> omega
          clear hS2
          go_wp2_with fail
          go_ret2
          exact ⟨by rw [HS.out]; rfl, hk1⟩
        · simp at hb
          have hs : wrap64 ((x : Int) * 256) / 256 = S := by
            rw [← hS2, sgn]
            unfold wrap64
            split <;> simp at * <;> omega
          clear hS2
          go_wp2_with fail
          go_ret2
          exact ⟨by rw [HS.out]; rfl, hk1⟩
        · simp at hb
          have hs : wrap64 (x : Int) = S := by
            rw [← hS2, sgn]
            unfold wrap64
            split <;> simp at * <;> omega
          clear hS2
          go_wp2_with fail
          go_ret2
          exact ⟨by rw [HS.out]; rfl, hk1⟩
end Go.Proofs.YtgjbfgkcbehjnaaDoor

namespace Go.Proofs.YtgjbfgkcbehjnaaDoor
open Go.RowKit Go.Maps

theorem zeroRow (w : World) : (zeroValue 125).run Tryd.prog w = .ok (.agg #[.nilFunc]) w := by kernel_rfl

set_option maxRecDepth 100000 in
set_option maxHeartbeats 3200000 in
theorem check_int (tag : Int) (hw : (Lit.int .i64 tag).wf = true) (hat : (rowsD 9).atKey (.int .i64 tag) (.lit (.int .i64 (-1))) = rowD 92) (hhas : Maps.has (rowsD 9) (.int .i64 tag) = true)
    (ok : Nat → Prop) (v : Value) (l : List UInt8) (w : World) (hv : BR w ok v l) (hl : l.length ≤ 140737488355328) :
    Calls Tryd.prog 71 #[.int .i64 tag, v] w fun e w' => e = .returned (.int .i64 (if intB l then 0 else 13)) ∧ Kp (fun _ => False) w w' := by
  have hkey := Lib.hid (keyOf_int_mk Tryd.underlying3 hw)
  have HAT := Lib.hid hat
  have HHAS := Lib.hid hhas
  have HV := Lib.hid hv
  have hi := fun W hv => integer_any ok v l W hv hl
  clear hat hhas hw hv
  obtain ⟨r, hr⟩ : ∃ r, intB l = r := ⟨_, rfl⟩
  rw [hr] at hi ⊢
  clear hr
  cases r
  · have HI := Lib.hid hi
    clear hi
    show Calls Tryd.prog 71 #[.int .i64 tag, v] w fun e w' => e = .returned (.int .i64 13) ∧ Kp (fun _ => False) w w'
    go_enter Tryd.func71, Tryd.ntmps71
    go_wp2_with fail
    refine (rows_any w).mono ?_
    rintro e w1 ⟨b, rfl, hown, hk1⟩
    have HOWN := Lib.hid hown
    clear hown
    go_wp2_with (first
      | (at_lookup; refine wpList_lookup_own_ok _ rfl _ _ 127 rfl 3 125 lawInt Tryd.underlying127 rowR (zeroRow _) _ [] rowR_0 _ _ _ rfl HOWN.out _ _ rfl hkey.out ?_; rw [HAT.out, HHAS.out]; intro v1 ps hv1; have e1 := rowR_inv hv1; subst e1; clear hv1)
      | fail)
    have hka := hk1.alloc (.cells #[.func (.func 92) #[] #[]] 125)
    refine (HI.out _ (HV.out.kp hka (fun _ _ h => h))).mono ?_
    rintro e w2 ⟨rfl, hk2⟩
    have hkw := hka.then_ hk2 (fun _ h => h.elim)
    go_wp2_with fail
    go_ret
    exact ⟨rfl, hkw⟩
  · have HI := Lib.hid hi
    clear hi
    show Calls Tryd.prog 71 #[.int .i64 tag, v] w fun e w' => e = .returned (.int .i64 0) ∧ Kp (fun _ => False) w w'
    go_enter Tryd.func71, Tryd.ntmps71
    go_wp2_with fail
    refine (rows_any w).mono ?_
    rintro e w1 ⟨b, rfl, hown, hk1⟩
    have HOWN := Lib.hid hown
    clear hown
    go_wp2_with (first
      | (at_lookup; refine wpList_lookup_own_ok _ rfl _ _ 127 rfl 3 125 lawInt Tryd.underlying127 rowR (zeroRow _) _ [] rowR_0 _ _ _ rfl HOWN.out _ _ rfl hkey.out ?_; rw [HAT.out, HHAS.out]; intro v1 ps hv1; have e1 := rowR_inv hv1; subst e1; clear hv1)
      | fail)
    have hka := hk1.alloc (.cells #[.func (.func 92) #[] #[]] 125)
    refine (HI.out _ (HV.out.kp hka (fun _ _ h => h))).mono ?_
    rintro e w2 ⟨rfl, hk2⟩
    have hkw := hka.then_ hk2 (fun _ h => h.elim)
    go_wp2_with fail
    go_ret
    exact ⟨rfl, hkw⟩

theorem rows_at2 : (rowsD 9).atKey (.int .i64 2) (.lit (.int .i64 (-1))) = rowD 92 ∧ Maps.has (rowsD 9) (.int .i64 2) = true := by
  constructor <;> rfl
theorem rows_at10 : (rowsD 9).atKey (.int .i64 10) (.lit (.int .i64 (-1))) = rowD 92 ∧ Maps.has (rowsD 9) (.int .i64 10) = true := by
  constructor <;> rfl
theorem check2 (ok : Nat → Prop) (v : Value) (l : List UInt8) (w : World) (hv : BR w ok v l) (hl : l.length ≤ 140737488355328) :
    Calls Tryd.prog 71 #[.int .i64 2, v] w fun e w' => e = .returned (.int .i64 (if intB l then 0 else 13)) ∧ Kp (fun _ => False) w w' :=
  check_int 2 (by decide) rows_at2.1 rows_at2.2 ok v l w hv hl
theorem check10 (ok : Nat → Prop) (v : Value) (l : List UInt8) (w : World) (hv : BR w ok v l) (hl : l.length ≤ 140737488355328) :
    Calls Tryd.prog 71 #[.int .i64 10, v] w fun e w' => e = .returned (.int .i64 (if intB l then 0 else 13)) ∧ Kp (fun _ => False) w w' :=
  check_int 10 (by decide) rows_at10.1 rows_at10.2 ok v l w hv hl
end Go.Proofs.YtgjbfgkcbehjnaaDoor

namespace Go.Proofs.YtgjbfgkcbehjnaaDoor
open Go.RowKit

theorem u8_low (y : Nat) (k : Nat) (hk : k ≤ 8) (hy : y < 256) : bits .and .u8 (y : Int) ((2 ^ k - 1 : Nat) : Int) = ((y % 2 ^ k : Nat) : Int) := by
  have h2 : 2 ^ k ≤ 2 ^ 8 := Nat.pow_le_pow_right (by omega) hk
  rw [u8_and_nat _ _ hy (by omega), Nat.and_two_pow_sub_one_eq_mod]

set_option maxRecDepth 100000 in
set_option maxHeartbeats 3200000 in
theorem bits_any (ok : Nat → Prop) (v : Value) (l : List UInt8) (w : World) (hv : BR w ok v l) (hl : l.length ≤ 140737488355328) :
    Calls Tryd.prog 93 #[v] w fun e w' => e = .returned (.bool (bitsB l)) ∧ Kp (fun _ => False) w w' := by
  obtain ⟨A, c, rfl, hc, hr⟩ := id hv
  by_cases h0 : l.length = 0
  · have hB : bitsB l = false := by rw [bitsB, h0]; rfl
    rw [hB]
    rw [h0] at hc ⊢
    clear hB hr hv h0
    go_enter Tryd.func93, Tryd.ntmps93
    go_wp2_with fail
    go_ret
    exact ⟨rfl, Kp.refl _ _⟩
  obtain ⟨n, hn⟩ : ∃ n, l.length = n + 1 := ⟨l.length - 1, by omega⟩
  obtain ⟨g, off, rfl, _, hc0⟩ := hr.byte (k := 0) (by omega)
  obtain ⟨g', off', ee, _, hcn⟩ := hr.byte (k := n) (by omega)
  simp only [Option.some.injEq, Addr.mk.injEq, and_true] at ee
  obtain ⟨rfl, rfl⟩ := ee
  have q0 := bt_at (l := l) (i := 0) (by omega)
  have qn := bt_at (l := l) (i := n) (by omega)
  rw [← q0] at hc0
  rw [← qn] at hcn
  have b0 := bt_lt l 0
  have bn := bt_lt l n
  obtain ⟨r, hr0⟩ : ∃ r, bitsB l = r := ⟨_, rfl⟩
  rw [hr0]
  rw [bitsB, show l.length - 1 = n by omega, hn] at hr0
  have hnn : n = 0 → bt l n = bt l 0 := by rintro rfl; rfl
  rw [hn] at hc ⊢
  clear hr hv q0 qn h0
  obtain ⟨x, hx⟩ : ∃ x, bt l 0 = x := ⟨_, rfl⟩
  obtain ⟨y, hy⟩ : ∃ y, bt l n = y := ⟨_, rfl⟩
  rw [hx] at hc0 b0 hr0 hnn
  rw [hy] at hcn bn hr0 hnn
  rw [Nat.add_zero] at hc0
  clear hx hy
  have g1 : ((n : Int) + 1 == 0) = false := by simp <;> omega
  have g2 : (0 : Int) < (n : Int) + 1 := by omega
  have g6 : decide ((0 : Int) < (n : Int) + 1) = true := by simp <;> omega
  have hn63 : (n : Int) + 1 ≤ 140737488355328 := by omega
  by_cases h7 : 7 < x
  · have hr1 : r = false := by rw [← hr0, decide_eq_false (by omega : ¬ x ≤ 7)]; simp
    subst hr1
    have g3 : decide ((7 : Int) < (x : Int)) = true := by simp <;> omega
    clear hr0 hnn hn hl
    go_enter Tryd.func93, Tryd.ntmps93
    go_wp2_with fail
    go_ret
    exact ⟨rfl, Kp.refl _ _⟩
  have g3 : decide ((7 : Int) < (x : Int)) = false := by simp <;> omega
  by_cases h1 : n = 0
  · subst h1
    obtain rfl := hnn rfl
    rw [if_pos rfl] at hr0
    by_cases hx0 : y = 0
    · subst hx0
      have hr1 : r = true := by rw [← hr0]; rfl
      subst hr1
      clear hr0 hnn hn hl h7
      go_enter Tryd.func93, Tryd.ntmps93
      go_wp2_with fail
      go_ret
      exact ⟨rfl, Kp.refl _ _⟩
    · have hr1 : r = false := by rw [← hr0, decide_eq_false hx0]; simp
      subst hr1
      have g4 : ((y : Int) == 0) = false := by simp <;> omega
      clear hr0 hnn hn hl h7
      go_enter Tryd.func93, Tryd.ntmps93
      go_wp2_with fail
      go_ret
      exact ⟨rfl, Kp.refl _ _⟩
  have g4 : ((n : Int) + 1 == 1) = false := by simp <;> omega
  have g5 : ((n : Int) == 0) = false := by simp <;> omega
  rw [if_neg (by omega)] at hr0
  have hr1 : decide (y % 2 ^ x = 0) = r := by
    rw [← hr0, decide_eq_true (by omega : x ≤ 7)]
    simp
  obtain ⟨z, hz⟩ : ∃ z, y % 2 ^ x = z := ⟨_, rfl⟩
  have e1 := u8_low y x (by omega) bn
  rw [hz] at e1 hr1
  have hr2 : ((z : Int) == 0) = r := by
    rw [← hr1]
    by_cases hz0 : z = 0
    · subst hz0; rfl
    · rw [decide_eq_false hz0]; simp; omega
  have s1 : IntKind.i64.wrap ((n : Int) + 1 - 1) = (n : Int) := by
    rw [show (n : Int) + 1 - 1 = n by omega]
    exact IntWalk.i64_in _ (by omega)
  have s2 : (0 : Int) ≤ (n : Int) := by omega
  have s3 : (n : Int) < (n : Int) + 1 := by omega
  have hx8 : x = 0 ∨ x = 1 ∨ x = 2 ∨ x = 3 ∨ x = 4 ∨ x = 5 ∨ x = 6 ∨ x = 7 := by omega
  clear hr0 hr1 hnn hn hl h7 h1 hz g3 b0
  rcases hx8 with rfl | rfl | rfl | rfl | rfl | rfl | rfl | rfl <;>
  · simp at e1
    go_enter Tryd.func93, Tryd.ntmps93
    go_wp2_with fail
    go_quiet (fail)
    go_wp2_with fail
    go_ret
    exact ⟨rfl, (Kp.refl _ _).drewN _⟩

/-! ### bytes.Clone. -/
set_option maxRecDepth 100000 in
theorem clone_any (ok : Nat → Prop) (v : Value) (l : List UInt8) (w : World) (hv : BR w ok v l) (hl : l.length ≤ 140737488355328) :
    Calls Tryd.prog 53 #[v] w fun e w' => ∃ A c, e = .returned (.slice A l.length c) ∧ Own w' (w.heap.size ≤ ·) 5 1 (.slice A l.length c) l.length (bc l) ∧ Kp (fun _ => False) w w' := by
  obtain ⟨A, c, rfl, hc, hr⟩ := id hv
  cases A with
  | none =>
    have h0 : l = [] := by
      rcases l with _ | ⟨a, l⟩
      · rfl
      · obtain ⟨ad, e, _⟩ := hr.2 (by simp)
        cases e
    subst h0
    have HN := fun W c => Lib.run_eql_slice_nil (P := Tryd.prog) W 22 5 none 0 c 0 0 Tryd.underlying22
    go_enter Tryd.func53, Tryd.ntmps53
    go_wp2_with fail
    go_ret
    exact ⟨none, 0, rfl, Own.nil, Kp.refl _ _⟩
  | some ad =>
    have HN := fun W => Lib.run_eql_slice_nil (P := Tryd.prog) W 22 5 (some ad) l.length c 0 0 Tryd.underlying22
    have ka : Kp (fun _ => False) w (w.alloc (.cells #[] 5)) := (Kp.refl _ _).alloc _
    have HV := Lib.hid (hv.kp ka (fun _ _ h => h))
    clear hr hv
    have HO := Lib.hid (Own.lit w [] #[] 0 w.heap.size rfl rfl (Nat.le_refl _) (by decide))
    have hz := ka.size
    go_enter Tryd.func53, Tryd.ntmps53
    go_wp2_with (at_builtin; refine app_bytes rfl (.tmp 5) (.tmp 6) rfl w.heap.size _ 0 _ [] rfl rfl HO.out _ (some ad) l.length c l rfl rfl HV.out l.length (by omega) hl hz ?_; intro A2 c2 W2 o2 q2; have O2 := Lib.hid o2; have K2 := Lib.hid (ka.then_ q2 (fun i hi => .inr hi)); clear o2 q2)
    go_ret
    exact ⟨A2, c2, rfl, O2.out, K2.out⟩

/-- What Bits tells. -/
def bitsR (l : List UInt8) : List UInt8 × Nat × Int := if bitsB l = true then (l.drop 1, bt l 0, 0) else ([], 0, 13)
theorem bitsB_pos {l : List UInt8} (h : bitsB l = true) : 0 < l.length := by
  simp only [bitsB, Bool.and_eq_true, decide_eq_true_eq] at h
  exact h.1.1

set_option maxRecDepth 100000 in
set_option maxHeartbeats 1600000 in
theorem dbits_any (ok : Nat → Prop) (v : Value) (l : List UInt8) (w : World) (hv : BR w ok v l) (hl : l.length ≤ 140737488355328) :
    Calls Tryd.prog 81 #[v] w fun e w' => ∃ A n c, e = .returned (.tuple #[.slice A n c, .int .i64 (bitsR l).2.1, .int .i64 (bitsR l).2.2]) ∧ BR w' (w.heap.size ≤ ·) (.slice A n c) (bitsR l).1 ∧ (bitsR l).1.length = n ∧ Kp (fun _ => False) w w' := by
  have HI := Lib.hid (bits_any ok v l w hv hl)
  cases hb : bitsB l
  · have e : bitsR l = ([], 0, 13) := by rw [bitsR, if_neg (by simp [hb])]
    rw [e]
    rw [hb] at HI
    clear hb e hv
    go_enter Tryd.func81, Tryd.ntmps81
    go_wp2_with fail
    refine HI.out.mono ?_
    rintro e w1 ⟨rfl, hk1⟩
    go_wp2_with fail
    go_ret3
    exact ⟨none, 0, 0, rfl, BR.nil, rfl, hk1⟩
  · have e : bitsR l = (l.drop 1, bt l 0, 0) := by rw [bitsR, if_pos hb]
    have hp := bitsB_pos hb
    rw [hb] at HI
    rw [e]
    obtain ⟨A, c, rfl, hc, hr⟩ := id hv
    obtain ⟨n, hn⟩ : ∃ n, l.length = n + 1 := ⟨l.length - 1, by omega⟩
    have hld : (l.drop 1).length = n := by simp; omega
    have q0 := bt_at (l := l) (i := 0) (by omega)
    obtain ⟨g, off, rfl, hok, hcx⟩ := hr.byte (k := 0) (by omega)
    clear hcx
    have hsub := BR.sub (ok := ok) hr hc (i := 1) (j := l.length) (by omega) (Nat.le_refl _)
    rw [hn, show n + 1 - 1 = n by omega, List.take_of_length_le (by omega)] at hsub
    obtain ⟨D, hD⟩ : ∃ D, l.drop 1 = D := ⟨_, rfl⟩
    obtain ⟨x, hx⟩ : ∃ x, bt l 0 = x := ⟨_, rfl⟩
    have hxb : x < 256 := by rw [← hx]; exact bt_lt l 0
    rw [hD] at hsub hld
    rw [hD, hx]
    have hcl : ∀ W, Kp (fun _ => False) w W → Calls Tryd.prog 53 #[.slice (if c = 1 then some ⟨g, off, none⟩ else some ⟨g, off + 1, none⟩) n (c - 1)] W fun e w' => ∃ A c, e = .returned (.slice A n c) ∧ Own w' (W.heap.size ≤ ·) 5 1 (.slice A n c) n (bc D) ∧ Kp (fun _ => False) W w' := by
      intro W hk
      have h1 := hsub.kp hk (fun _ _ h => h)
      have := clone_any ok _ D W h1 (by omega)
      rw [hld] at this
      exact this
    have HCL := Lib.hid hcl
    have HR := Lib.hid hr
    have hcell : ∀ W, Kp (fun _ => False) w W → W.cell? ⟨g, off, none⟩ = some (.int .u8 (x : Int)) := by
      intro W hk
      obtain ⟨g', off', ee, _, h2⟩ := (HR.out.kp hk (fun _ _ h => h)).byte (k := 0) (by omega)
      simp only [Option.some.injEq, Addr.mk.injEq, and_true] at ee
      obtain ⟨rfl, rfl⟩ := ee
      rw [← q0, hx] at h2
      exact h2
    have HCE := Lib.hid hcell
    have hx0 : w.cell? ⟨g, off, none⟩ = some (.int .u8 (x : Int)) := hcell w (Kp.refl _ _)
    rw [hn] at hc hl HI ⊢
    clear hcell hcl hsub hr hv q0 hx hD e hb hn HR hp hok
    show Calls Tryd.prog 81 #[.slice (some ⟨g, off, none⟩) (n + 1) c] w fun e w' => ∃ A n c, e = .returned (.tuple #[.slice A n c, .int .i64 (x : Int), .int .i64 0]) ∧ BR w' (w.heap.size ≤ ·) (.slice A n c) D ∧ D.length = n ∧ Kp (fun _ => False) w w'
    have wx : IntKind.i64.wrap (x : Int) = (x : Int) := IntWalk.i64_in _ (by omega)
    have z1 : (1 : Int) ≤ (n : Int) + 1 := by omega
    have z2 : (n : Int) + 1 ≤ (c : Int) := by omega
    by_cases h1 : c = 1
    · subst h1
      obtain rfl : n = 0 := by omega
      have HCL2 := Lib.hid (show ∀ W, Kp (fun _ => False) w W → Calls Tryd.prog 53 #[.slice (some ⟨g, off, none⟩) 0 0] W fun e w' => ∃ A c, e = .returned (.slice A 0 c) ∧ Own w' (W.heap.size ≤ ·) 5 1 (.slice A 0 c) 0 (bc D) ∧ Kp (fun _ => False) W w' from HCL.out)
      clear HCL
      go_enter Tryd.func81, Tryd.ntmps81
      go_wp2_with fail
      refine HI.out.mono ?_
      rintro e w1 ⟨rfl, hk1⟩
      have hx1 := HCE.out w1 hk1
      go_wp2_with fail
      go_region_held3 (fun w' => w'.cell? ⟨g, off, none⟩ = some (.int .u8 (x : Int))) (first | go_keep | exact hx2) (first | (go_at_call 53; ((refine (HCL2.out _ (hk1.drew)).mono ?_); rintro e w2 ⟨A2, c2, rfl, ho2, hk2⟩; have hx2 : w2.cell? ⟨g, off, none⟩ = some (.int .u8 (x : Int)) := HCE.out w2 (hk1.drew.then_ hk2 (fun _ h => h.elim)); have HO2 := Lib.hid ho2; have HK2 := Lib.hid (hk1.drew.then_ hk2 (fun _ h => h.elim)); clear ho2 hk2)))
      go_wp2_with fail
      go_ret3
      exact ⟨A2, 0, c2, rfl, (HO2.out.mono (fun i _ hi => Nat.le_trans hk1.size hi)).br hld, hld, HK2.out⟩
    · have HCL2 := Lib.hid (show ∀ W, Kp (fun _ => False) w W → Calls Tryd.prog 53 #[.slice (some ⟨g, off + 1, none⟩) n (c - 1)] W fun e w' => ∃ A c, e = .returned (.slice A n c) ∧ Own w' (W.heap.size ≤ ·) 5 1 (.slice A n c) n (bc D) ∧ Kp (fun _ => False) W w' from by
        have := HCL.out
        rwa [if_neg h1] at this)
      clear HCL
      go_enter Tryd.func81, Tryd.ntmps81
      go_wp2_with fail
      refine HI.out.mono ?_
      rintro e w1 ⟨rfl, hk1⟩
      have hx1 := HCE.out w1 hk1
      go_wp2_with fail
      go_region_held3 (fun w' => w'.cell? ⟨g, off, none⟩ = some (.int .u8 (x : Int))) (first | go_keep | exact hx2) (first | (go_at_call 53; ((refine (HCL2.out _ (hk1.drew)).mono ?_); rintro e w2 ⟨A2, c2, rfl, ho2, hk2⟩; have hx2 : w2.cell? ⟨g, off, none⟩ = some (.int .u8 (x : Int)) := HCE.out w2 (hk1.drew.then_ hk2 (fun _ h => h.elim)); have HO2 := Lib.hid ho2; have HK2 := Lib.hid (hk1.drew.then_ hk2 (fun _ h => h.elim)); clear ho2 hk2)))
      go_wp2_with fail
      go_ret3
      exact ⟨A2, n, c2, rfl, (HO2.out.mono (fun i _ hi => Nat.le_trans hk1.size hi)).br hld, hld, HK2.out⟩
end Go.Proofs.YtgjbfgkcbehjnaaDoor

namespace Go.Proofs.YtgjbfgkcbehjnaaDoor
open Go.RowKit Go.Maps

theorem enters_ {P : Program} {f : FuncId} {fn : Func} {c : Code} (hf : P.funcs[f]? = some fn) (hname : (fn.name == "runtime.NumGoroutine") = false) (hb : fn.body = some c) (args : Array Value) (w : World) : (callFunc f args).run P w = .ok (.enter f args) w := by
  have hn : fn.name ≠ "runtime.NumGoroutine" := by simpa using hname
  simp [callFunc, hf, hn, hb]

set_option maxRecDepth 100000 in
set_option maxHeartbeats 3200000 in
/-- Check at a tag that there is, by what its function answers. -/
theorem check_gen (tag : Int) (F : Nat) (hw : (Lit.int .i64 tag).wf = true) (hat : (rowsD 9).atKey (.int .i64 tag) (.lit (.int .i64 (-1))) = rowD F) (hhas : Maps.has (rowsD 9) (.int .i64 tag) = true)
    (ok : Nat → Prop) (v : Value) (l : List UInt8) (w : World) (hv : BR w ok v l) (r : Bool) (hen : ∀ args w, (callFunc F args).run Tryd.prog w = .ok (.enter F args) w)
    (hF : ∀ W, Kp (fun _ => False) w W → BR W ok v l → Calls Tryd.prog F #[v] W fun e w' => e = .returned (.bool r) ∧ Kp (fun _ => False) W w') :
    Calls Tryd.prog 71 #[.int .i64 tag, v] w fun e w' => e = .returned (.int .i64 (if r then 0 else 13)) ∧ Kp (fun _ => False) w w' := by
  have hkey := Lib.hid (keyOf_int_mk Tryd.underlying3 hw)
  have HAT := Lib.hid hat
  have HHAS := Lib.hid hhas
  have HV := Lib.hid hv
  have HI := Lib.hid hF
  clear hat hhas hw hv hF
  cases r
  · show Calls Tryd.prog 71 #[.int .i64 tag, v] w fun e w' => e = .returned (.int .i64 13) ∧ Kp (fun _ => False) w w'
    go_enter Tryd.func71, Tryd.ntmps71
    go_wp2_with fail
    refine (rows_any w).mono ?_
    rintro e w1 ⟨b, rfl, hown, hk1⟩
    have HOWN := Lib.hid hown
    clear hown
    go_wp2_with (first
      | (at_lookup; refine wpList_lookup_own_ok _ rfl _ _ 127 rfl 3 125 lawInt Tryd.underlying127 rowR (zeroRow _) _ [] rowR_0 _ _ _ rfl HOWN.out _ _ rfl hkey.out ?_; rw [HAT.out, HHAS.out]; intro v1 ps hv1; have e1 := rowR_inv hv1; subst e1; clear hv1)
      | fail)
    have hka := hk1.alloc (.cells #[.func (.func F) #[] #[]] 125)
    refine (HI.out _ hka (HV.out.kp hka (fun _ _ h => h))).mono ?_
    rintro e w2 ⟨rfl, hk2⟩
    have hkw := hka.then_ hk2 (fun _ h => h.elim)
    go_wp2_with fail
    go_ret
    exact ⟨rfl, hkw⟩
  · show Calls Tryd.prog 71 #[.int .i64 tag, v] w fun e w' => e = .returned (.int .i64 0) ∧ Kp (fun _ => False) w w'
    go_enter Tryd.func71, Tryd.ntmps71
    go_wp2_with fail
    refine (rows_any w).mono ?_
    rintro e w1 ⟨b, rfl, hown, hk1⟩
    have HOWN := Lib.hid hown
    clear hown
    go_wp2_with (first
      | (at_lookup; refine wpList_lookup_own_ok _ rfl _ _ 127 rfl 3 125 lawInt Tryd.underlying127 rowR (zeroRow _) _ [] rowR_0 _ _ _ rfl HOWN.out _ _ rfl hkey.out ?_; rw [HAT.out, HHAS.out]; intro v1 ps hv1; have e1 := rowR_inv hv1; subst e1; clear hv1)
      | fail)
    have hka := hk1.alloc (.cells #[.func (.func F) #[] #[]] 125)
    refine (HI.out _ hka (HV.out.kp hka (fun _ _ h => h))).mono ?_
    rintro e w2 ⟨rfl, hk2⟩
    have hkw := hka.then_ hk2 (fun _ h => h.elim)
    go_wp2_with fail
    go_ret
    exact ⟨rfl, hkw⟩

set_option maxRecDepth 100000 in
set_option maxHeartbeats 3200000 in
/-- Check at a tag that there isn't. -/
theorem check_no (tag : Int) (hw : (Lit.int .i64 tag).wf = true) (hat : (rowsD 9).atKey (.int .i64 tag) (.lit (.int .i64 (-1))) = .lit (.int .i64 (-1))) (hhas : Maps.has (rowsD 9) (.int .i64 tag) = false) (v : Value) (w : World) :
    Calls Tryd.prog 71 #[.int .i64 tag, v] w fun e w' => e = .returned (.int .i64 2) ∧ Kp (fun _ => False) w w' := by
  have hkey := Lib.hid (keyOf_int_mk Tryd.underlying3 hw)
  have HAT := Lib.hid hat
  have HHAS := Lib.hid hhas
  clear hat hhas hw
  go_enter Tryd.func71, Tryd.ntmps71
  go_wp2_with fail
  refine (rows_any w).mono ?_
  rintro e w1 ⟨b, rfl, hown, hk1⟩
  have HOWN := Lib.hid hown
  clear hown
  go_wp2_with (first
    | (at_lookup; refine wpList_lookup_own_ok _ rfl _ _ 127 rfl 3 125 lawInt Tryd.underlying127 rowR (zeroRow _) _ [] rowR_0 _ _ _ rfl HOWN.out _ _ rfl hkey.out ?_; rw [HAT.out, HHAS.out]; intro v1 ps hv1; have e1 := rowR_inv0 hv1; subst e1; clear hv1)
    | fail)
  go_ret
  exact ⟨rfl, hk1.alloc _⟩

theorem check3 (ok : Nat → Prop) (v : Value) (l : List UInt8) (w : World) (hv : BR w ok v l) (hl : l.length ≤ 140737488355328) :
    Calls Tryd.prog 71 #[.int .i64 3, v] w fun e w' => e = .returned (.int .i64 (if bitsB l then 0 else 13)) ∧ Kp (fun _ => False) w w' :=
  check_gen 3 93 (by decide) rfl rfl ok v l w hv (bitsB l) (enters_ Tryd.func93 (by kernel_rfl) rfl) fun W _ hW => bits_any ok v l W hW hl
end Go.Proofs.YtgjbfgkcbehjnaaDoor

namespace Go.Proofs.YtgjbfgkcbehjnaaDoor
open Go.RowKit Go.Maps

theorem time_any (tag : Int) (ok : Nat → Prop) (v : Value) (l : List UInt8) (w : World) (hv : BR w ok v l) (htab : Tab10 w) :
    Calls Tryd.prog 94 #[.int .i64 tag, v] w fun e w' => e = .returned (.tuple #[(timeV tag l).1.v, .int .i64 (timeV tag l).2]) ∧ Kp (fun _ => False) w w' := by
  by_cases h23 : tag = 23
  · subst h23
    by_cases h13 : l.length = 13
    · have e : timeR 23 l = time15 (cent l ++ l) := by rw [timeR, if_pos rfl, if_pos h13]
      by_cases h53 : 53 ≤ bt l 0
      · have hc : cent l = [49, 57] := by rw [cent, if_pos h53]
        refine time_b ok v l (cent l ++ l) w hv htab (by rw [hc]; simp; omega) (by rw [hc]) h53 (timeV 23 l) ?_
        rw [timeV, if_pos (.inl rfl), e]
      · have hc : cent l = [50, 48] := by rw [cent, if_neg h53]
        refine time_c ok v l (cent l ++ l) w hv htab (by rw [hc]; simp; omega) (by rw [hc]) (by omega) (timeV 23 l) ?_
        rw [timeV, if_pos (.inl rfl), e]
    · have e : timeV 23 l = (T6.zero, 13) := by rw [timeV, if_pos (.inl rfl), timeR, if_pos rfl, if_neg h13]
      rw [e]
      exact time_13 ok v l w hv h13
  · by_cases h24 : tag = 24
    · subst h24
      by_cases h15 : l.length = 15
      · refine time_a ok v l l w hv htab h15 rfl (timeV 24 l) ?_
        rw [timeV, if_pos (.inr rfl), timeR, if_neg h23]
      · have e : timeV 24 l = (T6.zero, 13) := by rw [timeV, if_pos (.inr rfl), timeR, if_neg h23, time15, if_neg (fun x => h15 x.1)]
        rw [e]
        exact time_15 ok v l w hv h15
    · have e : timeV tag l = (T6.zero, 2) := by rw [timeV, if_neg (by omega)]
      rw [e]
      exact time_arg tag h23 h24 v w
theorem timeV_ok (tag : Int) (h : tag = 23 ∨ tag = 24) (l : List UInt8) : ((timeV tag l).2 == 0) = (timeR tag l).isSome := by
  rw [timeV, if_pos h]
  cases timeR tag l <;> rfl

set_option maxRecDepth 100000 in
theorem row4_any (ok : Nat → Prop) (v : Value) (l : List UInt8) (w : World) (hv : BR w ok v l) (htab : Tab10 w) :
    Calls Tryd.prog 99 #[v] w fun e w' => e = .returned (.bool (timeR 23 l).isSome) ∧ Kp (fun _ => False) w w' := by
  have HT := Lib.hid (time_any 23 ok v l w hv htab)
  have hb := timeV_ok 23 (.inl rfl) l
  obtain ⟨t, ht⟩ : ∃ t, (timeV 23 l).1 = t := ⟨_, rfl⟩
  obtain ⟨n, hn⟩ : ∃ n, (timeV 23 l).2 = n := ⟨_, rfl⟩
  obtain ⟨r, hr⟩ : ∃ r, (timeR 23 l).isSome = r := ⟨_, rfl⟩
  rw [ht, hn] at HT
  rw [hn, hr] at hb
  rw [hr]
  obtain ⟨a, b, c, d, e, f⟩ := t
  clear hv htab ht hn hr
  go_enter Tryd.func99, Tryd.ntmps99
  go_wp2_with fail
  refine HT.out.mono ?_
  rintro e w1 ⟨rfl, hk1⟩
  simp only [T6.v]
  go_wp2_with fail
  go_ret
  exact ⟨rfl, hk1.alloc _⟩
set_option maxRecDepth 100000 in
theorem row5_any (ok : Nat → Prop) (v : Value) (l : List UInt8) (w : World) (hv : BR w ok v l) (htab : Tab10 w) :
    Calls Tryd.prog 100 #[v] w fun e w' => e = .returned (.bool (timeR 24 l).isSome) ∧ Kp (fun _ => False) w w' := by
  have HT := Lib.hid (time_any 24 ok v l w hv htab)
  have hb := timeV_ok 24 (.inr rfl) l
  obtain ⟨t, ht⟩ : ∃ t, (timeV 24 l).1 = t := ⟨_, rfl⟩
  obtain ⟨n, hn⟩ : ∃ n, (timeV 24 l).2 = n := ⟨_, rfl⟩
  obtain ⟨r, hr⟩ : ∃ r, (timeR 24 l).isSome = r := ⟨_, rfl⟩
  rw [ht, hn] at HT
  rw [hn, hr] at hb
  rw [hr]
  obtain ⟨a, b, c, d, e, f⟩ := t
  clear hv htab ht hn hr
  go_enter Tryd.func100, Tryd.ntmps100
  go_wp2_with fail
  refine HT.out.mono ?_
  rintro e w1 ⟨rfl, hk1⟩
  simp only [T6.v]
  go_wp2_with fail
  go_ret
  exact ⟨rfl, hk1.alloc _⟩
set_option maxRecDepth 100000 in
theorem row1_any (v : Value) (w : World) : Calls Tryd.prog 95 #[v] w fun e w' => e = .returned (.bool true) ∧ Kp (fun _ => False) w w' := by
  go_enter Tryd.func95, Tryd.ntmps95
  go_wp2_with fail
  go_ret
  exact ⟨rfl, Kp.refl _ _⟩
set_option maxRecDepth 100000 in
theorem row3_any (ok : Nat → Prop) (v : Value) (l : List UInt8) (w : World) (hv : BR w ok v l) : Calls Tryd.prog 97 #[v] w fun e w' => e = .returned (.bool (decide (l.length = 0))) ∧ Kp (fun _ => False) w w' := by
  obtain ⟨A, c, rfl, hc, hr⟩ := hv
  clear hr
  have hb : ((l.length : Int) == 0) = decide (l.length = 0) := by rw [Bool.eq_iff_iff]; simp
  go_enter Tryd.func97, Tryd.ntmps97
  go_wp2_with fail
  go_ret
  exact ⟨by simp, Kp.refl _ _⟩
/-- May bytes be a boolean's? -/
def boolB (l : List UInt8) : Bool := decide (l.length = 1) && (decide (bt l 0 = 0) || decide (bt l 0 = 255))
set_option maxRecDepth 100000 in
theorem row2_any (ok : Nat → Prop) (v : Value) (l : List UInt8) (w : World) (hv : BR w ok v l) : Calls Tryd.prog 96 #[v] w fun e w' => e = .returned (.bool (boolB l)) ∧ Kp (fun _ => False) w w' := by
  obtain ⟨A, c, rfl, hc, hr⟩ := hv
  obtain ⟨r, hr0⟩ : ∃ r, boolB l = r := ⟨_, rfl⟩
  rw [hr0]
  rw [boolB] at hr0
  by_cases h1 : l.length = 1
  · obtain ⟨g, off, rfl, _, hc0⟩ := hr.byte (k := 0) (by omega)
    rw [← bt_at (l := l) (i := 0) (by omega), Nat.add_zero] at hc0
    generalize bt l 0 = x at hr0 hc0
    rw [decide_eq_true h1, Bool.true_and] at hr0
    rw [h1] at hc ⊢
    by_cases hx0 : x = 0
    · subst hx0
      have hr1 : r = true := by rw [← hr0]; rfl
      subst hr1
      clear hr0 hr h1
      go_enter Tryd.func96, Tryd.ntmps96
      go_wp2_with fail
      go_ret
      exact ⟨rfl, Kp.refl _ _⟩
    · have g0 : ((x : Int) == 0) = false := by simp; omega
      have hb : ((x : Int) == 255) = r := by
        rw [← hr0, decide_eq_false hx0, Bool.eq_iff_iff]
        simp
        omega
      clear hr0 hr h1 hx0
      go_enter Tryd.func96, Tryd.ntmps96
      go_wp2_with fail
      go_ret
      exact ⟨rfl, Kp.refl _ _⟩
  · have hr1 : r = false := by rw [← hr0, decide_eq_false h1]; rfl
    subst hr1
    have g0 : ((l.length : Int) == 1) = false := by simp; omega
    clear hr0 hr h1
    go_enter Tryd.func96, Tryd.ntmps96
    go_wp2_with fail
    go_ret
    exact ⟨rfl, Kp.refl _ _⟩

/-! ### Check. -/
/-- What is asked of a tag's bytes. -/
def mayR (tag : Int) : Option (List UInt8 → Bool) :=
  if tag = 1 then some boolB else if tag = 2 ∨ tag = 10 then some intB else if tag = 3 then some bitsB else if tag = 5 then some (fun l => decide (l.length = 0)) else if tag = 6 then some oidB
  else if tag = 23 then some (fun l => (timeR 23 l).isSome) else if tag = 24 then some (fun l => (timeR 24 l).isSome)
  else if tag = 4 ∨ tag = 12 ∨ tag = 18 ∨ tag = 19 ∨ tag = 20 ∨ tag = 22 ∨ tag = 26 ∨ tag = 28 ∨ tag = 30 then some (fun _ => true) else none
def checkR (tag : Int) (l : List UInt8) : Int := match mayR tag with
  | some p => if p l then 0 else 13
  | none => 2

theorem rows_none (tag : Int) (h : tag ≠ 1 ∧ tag ≠ 2 ∧ tag ≠ 10 ∧ tag ≠ 3 ∧ tag ≠ 5 ∧ tag ≠ 6 ∧ tag ≠ 23 ∧ tag ≠ 24 ∧ tag ≠ 4 ∧ tag ≠ 12 ∧ tag ≠ 18 ∧ tag ≠ 19 ∧ tag ≠ 20 ∧ tag ≠ 22 ∧ tag ≠ 26 ∧ tag ≠ 28 ∧ tag ≠ 30) :
    (rowsD 9).atKey (.int .i64 tag) (.lit (.int .i64 (-1))) = .lit (.int .i64 (-1)) ∧ Maps.has (rowsD 9) (.int .i64 tag) = false := by
  have ne : ∀ k : Int, tag ≠ k → (Lit.int .i64 tag) ≠ Lit.int .i64 k := fun k hk e => hk (by injection e)
  have e1 : rowsD 9 = (((((((((rowsD8.put (.int .i64 4) (rowD 95)).put (.int .i64 12) (rowD 95)).put (.int .i64 18) (rowD 95)).put (.int .i64 19) (rowD 95)).put (.int .i64 20) (rowD 95)).put (.int .i64 22) (rowD 95)).put (.int .i64 26) (rowD 95)).put (.int .i64 28) (rowD 95)).put (.int .i64 30) (rowD 95)) := rfl
  obtain ⟨h1, h2, h3, h4, h5, h6, h7, h8, h9, h10, h11, h12, h13, h14, h15, h16, h17⟩ := h
  rw [e1, rowsD8]
  constructor
  · iterate 17 rw [atKey_put_other (ne _ (by assumption))]
    rfl
  · iterate 17 rw [has_put_other (ne _ (by assumption))]
    rfl
theorem mayR_none (tag : Int) (h : tag ≠ 1 ∧ tag ≠ 2 ∧ tag ≠ 10 ∧ tag ≠ 3 ∧ tag ≠ 5 ∧ tag ≠ 6 ∧ tag ≠ 23 ∧ tag ≠ 24 ∧ tag ≠ 4 ∧ tag ≠ 12 ∧ tag ≠ 18 ∧ tag ≠ 19 ∧ tag ≠ 20 ∧ tag ≠ 22 ∧ tag ≠ 26 ∧ tag ≠ 28 ∧ tag ≠ 30) : mayR tag = none := by
  obtain ⟨h1, h2, h3, h4, h5, h6, h7, h8, h9, h10, h11, h12, h13, h14, h15, h16, h17⟩ := h
  simp [mayR, h1, h2, h3, h4, h5, h6, h7, h8, h9, h10, h11, h12, h13, h14, h15, h16, h17]
theorem tag_cases (tag : Int) : (tag = 1 ∨ tag = 2 ∨ tag = 10 ∨ tag = 3 ∨ tag = 5 ∨ tag = 6 ∨ tag = 23 ∨ tag = 24 ∨ tag = 4 ∨ tag = 12 ∨ tag = 18 ∨ tag = 19 ∨ tag = 20 ∨ tag = 22 ∨ tag = 26 ∨ tag = 28 ∨ tag = 30) ∨
    (tag ≠ 1 ∧ tag ≠ 2 ∧ tag ≠ 10 ∧ tag ≠ 3 ∧ tag ≠ 5 ∧ tag ≠ 6 ∧ tag ≠ 23 ∧ tag ≠ 24 ∧ tag ≠ 4 ∧ tag ≠ 12 ∧ tag ≠ 18 ∧ tag ≠ 19 ∧ tag ≠ 20 ∧ tag ≠ 22 ∧ tag ≠ 26 ∧ tag ≠ 28 ∧ tag ≠ 30) := by omega

theorem check_any (tag : Int) (hw : (Lit.int .i64 tag).wf = true) (ok : Nat → Prop) (v : Value) (l : List UInt8) (w : World) (hv : BR w ok v l) (hl : l.length ≤ 140737488355328) (htab : Tab10 w) :
    Calls Tryd.prog 71 #[.int .i64 tag, v] w fun e w' => e = .returned (.int .i64 (checkR tag l)) ∧ Kp (fun _ => False) w w' := by
  rcases tag_cases tag with h | h
  · have all : ∀ t : Int, mayR t = some (fun _ => true) → checkR t l = (if true then 0 else 13) := fun t ht => by rw [checkR, ht]
    rcases h with rfl | rfl | rfl | rfl | rfl | rfl | rfl | rfl | rfl | rfl | rfl | rfl | rfl | rfl | rfl | rfl | rfl
    · exact check_gen 1 96 hw rfl rfl ok v l w hv (boolB l) (enters_ Tryd.func96 (by kernel_rfl) rfl) fun W _ hW => row2_any ok v l W hW
    · exact check_gen 2 92 hw rfl rfl ok v l w hv (intB l) (enters_ Tryd.func92 (by kernel_rfl) rfl) fun W _ hW => integer_any ok v l W hW hl
    · exact check_gen 10 92 hw rfl rfl ok v l w hv (intB l) (enters_ Tryd.func92 (by kernel_rfl) rfl) fun W _ hW => integer_any ok v l W hW hl
    · exact check_gen 3 93 hw rfl rfl ok v l w hv (bitsB l) (enters_ Tryd.func93 (by kernel_rfl) rfl) fun W _ hW => bits_any ok v l W hW hl
    · exact check_gen 5 97 hw rfl rfl ok v l w hv (decide (l.length = 0)) (enters_ Tryd.func97 (by kernel_rfl) rfl) fun W _ hW => row3_any ok v l W hW
    · exact check_gen 6 98 hw rfl rfl ok v l w hv (oidB l) (enters_ Tryd.func98 (by kernel_rfl) rfl) fun W _ hW => (oid_any ok v l W hW hl).mono fun _ _ ⟨he, hw⟩ => ⟨he, hw ▸ Kp.refl _ _⟩
    · exact check_gen 23 99 hw rfl rfl ok v l w hv (timeR 23 l).isSome (enters_ Tryd.func99 (by kernel_rfl) rfl) fun W hk hW => row4_any ok v l W hW (htab.kp hk)
    · exact check_gen 24 100 hw rfl rfl ok v l w hv (timeR 24 l).isSome (enters_ Tryd.func100 (by kernel_rfl) rfl) fun W hk hW => row5_any ok v l W hW (htab.kp hk)
    all_goals
      rw [all _ rfl]
      exact check_gen _ 95 hw rfl rfl ok v l w hv true (enters_ Tryd.func95 (by kernel_rfl) rfl) fun W _ _ => row1_any v W
  · have e : checkR tag l = 2 := by rw [checkR, mayR_none tag h]
    rw [e]
    exact check_no tag hw (rows_none tag h).1 (rows_none tag h).2 v w
end Go.Proofs.YtgjbfgkcbehjnaaDoor

namespace Go.Proofs.YtgjbfgkcbehjnaaDoor
open Go.RowKit

/-- What is read: where there is none and why, or the thing and the bytes behind it. -/
inductive RnT where
  | bad (a : Nat) (e : Int)
  | got (x : Nd) (r : List UInt8)
/-- Things one behind the other, as long as there are bytes; 'd': how many bytes were before. -/
def iterN (f : List UInt8 → RnT) : Nat → List UInt8 → Nat → List Nd → RnT
  | 0, b, _, acc => .got (.mk ⟨0, 0, false, []⟩ acc) b
  | n + 1, b, d, acc => if b.length = 0 then .got (.mk ⟨0, 0, false, []⟩ acc) b else
    match f b with
    | .bad a e => .bad (d + a) e
    | .got x r => iterN f n r (d + (b.length - r.length)) (acc ++ [x])
/-- Of a head that was read: the thing. -/
def bodyN (f : List UInt8 → RnT) (c t : Int) (m : Bool) (n k : Nat) (b : List UInt8) : RnT :=
  if b.length - k < n then .bad b.length 4
  else if m = true then match iterN f n ((b.drop k).take n) k [] with
    | .bad a e => .bad a e
    | .got x _ => .got (.mk ⟨c, t, true, []⟩ x.l) (b.drop (k + n))
  else if c = 0 ∧ checkR t ((b.drop k).take n) ≠ 0 then .bad k 13
  else .got (.mk ⟨c, t, false, (b.drop k).take n⟩ []) (b.drop (k + n))
/-- The thing ahead; so many more may lie one in the other. -/
def oneN : Nat → List UInt8 → RnT
  | 0, _ => .bad 0 14
  | k + 1, b => if (rd b).2.2 ≠ 0 then .bad (rd b).2.1.toNat (rd b).2.2
    else bodyN (oneN k) (rd b).1.1 (rd b).1.2.1 (rd b).1.2.2.1 (rd b).1.2.2.2.toNat (rd b).2.1.toNat b
/-- All bytes: the thing, the place, the error. -/
def readN (b : List UInt8) : Nd × Nat × Int := match oneN 8 b with
  | .bad a e => (.mk ⟨0, 0, false, []⟩ [], a, e)
  | .got x r => if r.length = 0 then (x, b.length, 0) else (.mk ⟨0, 0, false, []⟩ [], b.length - r.length, 6)

theorem kindB_wf {c t : Int} {m : Bool} (h : kindB c t m = true) : (c = 0 ∨ c = 2) ∧ 0 ≤ t ∧ t ≤ 30 := kindB_cases h
/-- What a head that was read is. -/
theorem rd_good {b : List UInt8} {c t : Int} {m : Bool} {n k : Int} (h : rd b = ((c, t, m, n), k, 0)) :
    ∃ N K : Nat, n = N ∧ k = K ∧ N ≤ 16777215 ∧ 2 ≤ K ∧ K ≤ b.length ∧ kindB c t m = true ∧ b.take K = hb c t m :: lenB N := by
  rcases rd_back b _ _ _ h with ⟨h1, _⟩ | ⟨_, K, rfl, hK, hp⟩
  · exact absurd rfl h1
  · simp only [pt] at hp
    split at hp
    · rename_i hk
      split at hp
      · simp at hp
      · rename_i hn
        obtain ⟨N, rfl⟩ := Int.eq_ofNat_of_zero_le (show 0 ≤ n by omega)
        simp only [Prod.mk.injEq, and_true] at hp
        have hl := lenB_len N
        have he : (b.take K).length = 1 + (lenB N).length := by rw [← hp]; simp; omega
        rw [List.length_take] at he
        refine ⟨N, K, rfl, rfl, by omega, by omega, hK, hk, ?_⟩
        rw [← hp]
        rfl
    · simp at hp
theorem rd_fail {b : List UInt8} {c t : Int} {m : Bool} {n k er : Int} (h : rd b = ((c, t, m, n), k, er)) (he : er ≠ 0) : c = 0 ∧ t = 0 ∧ m = false ∧ n = 0 ∧ 0 ≤ k ∧ k ≤ b.length := by
  rcases rd_back b _ _ _ h with ⟨_, h2, h3, h4⟩ | ⟨h1, _⟩
  · simp only [hd0, Prod.mk.injEq] at h2
    obtain ⟨rfl, rfl, rfl, rfl⟩ := h2
    exact ⟨rfl, rfl, rfl, rfl, h3, h4⟩
  · exact absurd h1 he
theorem oneN_zero (b : List UInt8) : oneN 0 b = .bad 0 14 := by rw [oneN]
theorem oneN_fail {k : Nat} {b : List UInt8} {h : Int × Int × Bool × Int} {n er : Int} (hq : rd b = (h, n, er)) (he : er ≠ 0) : oneN (k + 1) b = .bad n.toNat er := by
  rw [oneN, hq, if_pos he]
theorem oneN_good {k : Nat} {b : List UInt8} {c t : Int} {m : Bool} {N K : Nat} (hq : rd b = ((c, t, m, (N : Int)), (K : Int), 0)) : oneN (k + 1) b = bodyN (oneN k) c t m N K b := by
  rw [oneN, hq, if_neg (fun h => h rfl)]
  rfl
theorem iterN_end {f : List UInt8 → RnT} {n : Nat} {b : List UInt8} {d : Nat} {acc : List Nd} (h : b.length = 0) : iterN f n b d acc = .got (.mk ⟨0, 0, false, []⟩ acc) b := by
  cases n with
  | zero => rw [iterN]
  | succ n => rw [iterN, if_pos h]
theorem iterN_step {f : List UInt8 → RnT} {n : Nat} {b : List UInt8} {d : Nat} {acc : List Nd} (h : b.length ≠ 0) : iterN f (n + 1) b d acc = match f b with
    | .bad a e => .bad (d + a) e
    | .got x r => iterN f n r (d + (b.length - r.length)) (acc ++ [x]) := by
  rw [iterN, if_neg h]
/-- What is read takes two bytes at least, from the front; an error lies within. -/
theorem oneN_sound : ∀ (k : Nat) (b : List UInt8), (∀ x r, oneN k b = .got x r → ∃ u, b = u ++ r ∧ 2 ≤ u.length) ∧ (∀ a e, oneN k b = .bad a e → a ≤ b.length ∧ e ≠ 0) := by
  intro k
  induction k with
  | zero =>
    intro b
    rw [oneN]
    constructor
    · intro x r h; cases h
    · intro a e h
      injection h with h1 h2
      subst h1 h2
      exact ⟨Nat.zero_le _, by decide⟩
  | succ k ih =>
    have iter : ∀ (n : Nat) (b : List UInt8) (d : Nat) (acc : List Nd), (∀ a e, iterN (oneN k) n b d acc = .bad a e → a ≤ d + b.length ∧ e ≠ 0) := by
      intro n
      induction n with
      | zero => intro b d acc a e h; rw [iterN] at h; cases h
      | succ n ih2 =>
        intro b d acc a e h
        rw [iterN] at h
        split at h
        · cases h
        · split at h
          · rename_i a' e' hf
            injection h with h1 h2
            subst h1 h2
            have := (ih b).2 _ _ hf
            exact ⟨by omega, this.2⟩
          · rename_i x r hf
            obtain ⟨u, hu, hu2⟩ := (ih b).1 _ _ hf
            have := ih2 _ _ _ _ _ h
            have hbl : b.length = u.length + r.length := by rw [hu, List.length_append]
            exact ⟨by omega, this.2⟩
    intro b
    obtain ⟨c, t, m, n, kk, er, hq⟩ : ∃ c t m n kk er, rd b = ((c, t, m, n), kk, er) := ⟨_, _, _, _, _, _, rfl⟩
    by_cases he : er = 0
    · subst he
      obtain ⟨N, K, rfl, rfl, hN, hK2, hK, _, _⟩ := rd_good hq
      rw [oneN_good hq, bodyN]
      split
      · constructor
        · intro x r h; cases h
        · intro a e h
          injection h with h1 h2
          subst h1 h2
          exact ⟨Nat.le_refl _, by decide⟩
      rename_i hlen
      have hcut : b = b.take (K + N) ++ b.drop (K + N) := (List.take_append_drop _ _).symm
      have hcl : 2 ≤ (b.take (K + N)).length := by rw [List.length_take]; omega
      split
      · split
        · rename_i a e hi
          constructor
          · intro x r h; cases h
          · intro a' e' h
            injection h with h1 h2
            subst h1 h2
            have := iter _ _ _ _ _ _ hi
            rw [List.length_take, List.length_drop] at this
            exact ⟨by omega, this.2⟩
        · rename_i x r hi
          constructor
          · intro x' r' h
            injection h with h1 h2
            subst h2
            exact ⟨_, hcut, hcl⟩
          · intro a e h; cases h
      · split
        · constructor
          · intro x r h; cases h
          · intro a e h
            injection h with h1 h2
            subst h1 h2
            exact ⟨hK, by decide⟩
        · constructor
          · intro x' r' h
            injection h with h1 h2
            subst h2
            exact ⟨_, hcut, hcl⟩
          · intro a e h; cases h
    · obtain ⟨_, _, _, _, h0, h1⟩ := rd_fail hq he
      rw [oneN_fail hq he]
      constructor
      · intro x r h; cases h
      · intro a e h
        injection h with h1 h2
        subst h1 h2
        exact ⟨by omega, he⟩
end Go.Proofs.YtgjbfgkcbehjnaaDoor

namespace Go.Proofs.YtgjbfgkcbehjnaaDoor

/-- The next n bytes, the error. -/
def nx (l : List UInt8) (n : Int) : List UInt8 × Int := if n < 0 then ([], 2) else if (l.length : Int) < n then ([], 4) else (l.take n.toNat, 0)

theorem nx_neg {l : List UInt8} {n : Int} (h : n < 0) : nx l n = ([], 2) := by rw [nx, if_pos h]
theorem nx_short {l : List UInt8} {n : Int} (h0 : 0 ≤ n) (h : (l.length : Int) < n) : nx l n = ([], 4) := by rw [nx, if_neg (by omega), if_pos h]
theorem nx_ok {l : List UInt8} {n : Int} (h0 : 0 ≤ n) (h : n ≤ l.length) : nx l n = (l.take n.toNat, 0) := by rw [nx, if_neg (by omega), if_neg (by omega)]
theorem nx_cases (l : List UInt8) (n : Int) : ((nx l n).2 = 0 ∧ 0 ≤ n ∧ n ≤ l.length ∧ (nx l n).1 = l.take n.toNat) ∨ ((nx l n).2 ≠ 0 ∧ (n < 0 ∨ (l.length : Int) < n) ∧ (nx l n).1 = []) := by
  rcases Int.lt_or_le n 0 with h | h
  · rw [nx_neg h]
    exact .inr ⟨by simp, .inl h, rfl⟩
  · rcases Int.lt_or_le (l.length : Int) n with h1 | h1
    · rw [nx_short h h1]
      exact .inr ⟨by simp, .inr h1, rfl⟩
    · rw [nx_ok h h1]
      exact .inl ⟨rfl, h, h1, rfl⟩
theorem nx_pre (l : List UInt8) (n : Int) : (nx l n).1 = l.take (nx l n).1.length := by
  unfold nx
  split
  · simp
  · split
    · simp
    · simp
theorem nx_len (l : List UInt8) (n : Int) : (nx l n).1.length ≤ l.length := by
  rw [nx_pre]; simp; omega

theorem nx_le (l : List UInt8) (n : Int) : (nx l n).1.length ≤ n.toNat := by
  unfold nx
  split
  · simp
  · split
    · simp
    · simp; omega

def nn (l : List UInt8) (n : Int) : List UInt8 × Int := if szB n = true then nx l n else ([], 2)

end Go.Proofs.YtgjbfgkcbehjnaaDoor

namespace Go.Proofs.YtgjbfgkcbehjnaaDoor
open Go.RowKit

/-- A cursor at block g: the bytes ahead, its place. -/
def Cur (w : World) (ok : Nat → Prop) (g : Nat) (l : List UInt8) (at_ : Int) : Prop :=
  ∃ v, BR w ok v l ∧ Blk w g 93 #[v, .int .i64 at_]

section
variable {w w' : World} {ok ok' S : Nat → Prop} {g : Nat} {l : List UInt8} {a : Int}
theorem Cur.kp (h : Cur w ok g l a) (hk : Kp S w w') (hd : ∀ i, ok i → ¬ S i) (hg : ¬ S g) : Cur w' ok g l a := by
  obtain ⟨v, h1, h2⟩ := h
  exact ⟨v, h1.kp hk hd, h2.kp hk hg⟩
theorem Cur.lt (h : Cur w ok g l a) : g < w.heap.size := by
  obtain ⟨v, h1, h2⟩ := h
  exact h2.lt
theorem Cur.mono (h : Cur w ok g l a) (hd : ∀ i, ok i → ok' i) : Cur w ok' g l a := by
  obtain ⟨v, h1, h2⟩ := h
  exact ⟨v, h1.mono hd, h2⟩
end

/-- What a call of next leaves. -/
def NextP (ok : Nat → Prop) (g : Nat) (l : List UInt8) (a n : Int) (w : World) (e : Ending) (w' : World) : Prop :=
  ∃ v, e = .returned (.tuple #[v, .int .i64 (nx l n).2]) ∧ BR w' ok v (nx l n).1 ∧ Cur w' ok g (l.drop (nx l n).1.length) (a + (nx l n).1.length) ∧ Kp (· = g) w w'

theorem next_done {w : World} {ok : Nat → Prop} {g : Nat} {l : List UInt8} {a : Int} {A A' : Option Addr} {n c : Nat} (hr : Rd w ok 1 A l.length (bc l)) (hb : Blk w g 93 #[.slice A l.length c, .int .i64 a])
    (hok : ¬ ok g) (hn : n ≤ l.length) (hlc : l.length ≤ c) (hA : A' = if c = n then A else A.map (·.add n)) :
    NextP ok g l a n w (.returned (.tuple #[.slice A n n, .int .i64 0])) ((w.setCell ⟨g, 0, none⟩ (.slice A' (l.length - n) (c - n))).setCell ⟨g, 1, none⟩ (.int .i64 (a + n))) := by
  have hk : Kp (· = g) w ((w.setCell ⟨g, 0, none⟩ (.slice A' (l.length - n) (c - n))).setCell ⟨g, 1, none⟩ (.int .i64 (a + n))) :=
    ((Kp.refl (· = g) w).setCell (p := ⟨g, 0, none⟩) (.inl rfl) _).setCell (p := ⟨g, 1, none⟩) (.inl rfl) _
  have hlt : (l.take (n : Int).toNat).length = n := by simp; omega
  have hB : BR ((w.setCell ⟨g, 0, none⟩ (.slice A' (l.length - n) (c - n))).setCell ⟨g, 1, none⟩ (.int .i64 (a + n))) ok (.slice A' (l.length - n) (c - n)) (l.drop n) := by
    refine ⟨A', c - n, by rw [List.length_drop], by rw [List.length_drop]; omega, ?_⟩
    have := (hr.cut hn hlc).kp hk (fun i hi hg => hok (hg ▸ hi))
    rw [Nat.mul_one, bc_drop] at this
    rw [List.length_drop]
    rw [← hA] at this
    exact this
  rw [NextP, nx_ok (by omega) (by omega)]
  refine ⟨_, rfl, ⟨A, n, ?_, ?_, ?_⟩, ?_, hk⟩
  · simp only [hlt]
  · simp only [hlt]; exact Nat.le_refl _
  · have := (hr.take hn).kp hk (fun i hi hg => hok (hg ▸ hi))
    rw [Nat.mul_one, bc_take] at this
    simp only [hlt]
    exact this
  · refine ⟨.slice A' (l.length - n) (c - n), ?_, ?_⟩
    · simp only [hlt]; exact hB
    · have := (hb.set_ 0 (.slice A' (l.length - n) (c - n))).set_ 1 (.int .i64 (a + n))
      simp only [hlt]
      exact this

theorem next_nil (n : Int) (w : World) :
    Calls Tryd.prog 85 #[.pointer none, .int .i64 n] w fun e w' => e = .returned (.tuple #[.slice none 0 0, .int .i64 1]) ∧ w = w' := by
  go_enter Tryd.func85, Tryd.ntmps85
  go_wp2_with fail
  go_ret2
  exact ⟨rfl, rfl⟩

theorem next_any (ok : Nat → Prop) (g : Nat) (l : List UInt8) (a : Int) (n : Int) (w : World) (hc : Cur w ok g l a) (hok : ¬ ok g) (_hl : l.length ≤ 140737488351232) (ha : 0 ≤ a) (hal : a + l.length ≤ 9223372036854775807) :
    Calls Tryd.prog 85 #[.pointer (some ⟨g, 0, none⟩), .int .i64 n] w (NextP ok g l a n w) := by
  by_cases hneg : n < 0
  · have hP : NextP ok g l a n w (.returned (.tuple #[.slice none 0 0, .int .i64 2])) w := by
      rw [NextP, nx_neg hneg]
      exact ⟨_, rfl, BR.nil, by simpa using hc, Kp.refl _ _⟩
    go_enter Tryd.func85, Tryd.ntmps85
    go_wp2_with fail
    go_ret2
    exact hP
  by_cases hlong : (l.length : Int) < n
  · have hP : NextP ok g l a n w (.returned (.tuple #[.slice none 0 0, .int .i64 4])) w := by
      rw [NextP, nx_short (by omega) hlong]
      exact ⟨_, rfl, BR.nil, by simpa using hc, Kp.refl _ _⟩
    obtain ⟨v, ⟨A, c, rfl, hlc, hr⟩, hb⟩ := hc
    have hc0 : w.cell? ⟨g, 0, none⟩ = some (.slice A l.length c) := hb.cell 0
    go_enter Tryd.func85, Tryd.ntmps85
    go_wp2_with fail
    go_ret2
    exact hP
  · obtain ⟨n, rfl⟩ := Int.eq_ofNat_of_zero_le (Int.not_lt.1 hneg)
    have hn : n ≤ l.length := by omega
    obtain ⟨v, ⟨A, c, rfl, hlc, hr⟩, hb⟩ := hc
    have hP : ∀ A' d, (A' = if c = n then A else A.map (·.add n)) → d = c - n → NextP ok g l a n w (.returned (.tuple #[.slice A n n, .int .i64 0])) ((w.setCell ⟨g, 0, none⟩ (.slice A' (l.length - n) d)).setCell ⟨g, 1, none⟩ (.int .i64 (a + n))) := by
      rintro A' d h rfl
      exact next_done hr hb hok hn hlc h
    have hc0 : w.cell? ⟨g, 0, none⟩ = some (.slice A l.length c) := hb.cell 0
    have hc1 : w.cell? ⟨g, 1, none⟩ = some (.int .i64 a) := hb.cell 1
    have hf0 : w.frozen? ⟨g, 0, none⟩ = false := hb.frozen 0
    have hf1 : w.frozen? ⟨g, 1, none⟩ = false := hb.frozen 1
    go_enter Tryd.func85, Tryd.ntmps85
    go_wp2_with fail
    all_goals go_ret2
    · exact hP _ _ (by simp [*]) (by omega)
    · exact hP _ _ (by simp [*]) (by omega)

/-! ### Places. -/
theorem new_any (ok : Nat → Prop) (v : Value) (l : List UInt8) (a : Int) (w : World) (hv : BR w ok v l) :
    Calls Tryd.prog 36 #[v, .int .i64 a] w fun e w' => ∃ g, e = .returned (.pointer (some ⟨g, 0, none⟩)) ∧ w.heap.size ≤ g ∧ Cur w' ok g l a ∧ Kp (fun _ => False) w w' := by
  have hP : Cur (w.alloc (.cells #[v, .int .i64 a] 93)) ok w.heap.size l a ∧ Kp (fun _ => False) w (w.alloc (.cells #[v, .int .i64 a] 93)) :=
    ⟨⟨v, hv.kp ((Kp.refl (fun _ => False) w).alloc _) (fun _ _ h => h), Blk.new _ _ _⟩, (Kp.refl _ w).alloc _⟩
  obtain ⟨A, c, rfl, _, _⟩ := hv
  go_enter Tryd.func36, Tryd.ntmps36
  go_wp2_with fail
  go_ret
  exact ⟨_, rfl, Nat.le_refl _, hP⟩

theorem at_any (ok : Nat → Prop) (g : Nat) (l : List UInt8) (a : Int) (w : World) (hc : Cur w ok g l a) :
    Calls Tryd.prog 39 #[.pointer (some ⟨g, 0, none⟩)] w fun e w' => e = .returned (.int .i64 a) ∧ w = w' := by
  obtain ⟨v, _, hb⟩ := hc
  have hc1 : w.cell? ⟨g, 1, none⟩ = some (.int .i64 a) := hb.cell 1
  go_enter Tryd.func39, Tryd.ntmps39
  go_wp2_with fail
  go_ret
  exact ⟨rfl, rfl⟩

theorem left_any (ok : Nat → Prop) (g : Nat) (l : List UInt8) (a : Int) (w : World) (hc : Cur w ok g l a) :
    Calls Tryd.prog 38 #[.pointer (some ⟨g, 0, none⟩)] w fun e w' => e = .returned (.int .i64 l.length) ∧ w = w' := by
  obtain ⟨v, ⟨A, c, rfl, _, _⟩, hb⟩ := hc
  have hc0 : w.cell? ⟨g, 0, none⟩ = some (.slice A l.length c) := hb.cell 0
  go_enter Tryd.func38, Tryd.ntmps38
  go_wp2_with fail
  go_ret
  exact ⟨rfl, rfl⟩

theorem end_any (ok : Nat → Prop) (g : Nat) (l : List UInt8) (a : Int) (w : World) (hc : Cur w ok g l a) (ha : 0 ≤ a) (hal : a + l.length ≤ 9223372036854775807) :
    Calls Tryd.prog 65 #[.pointer (some ⟨g, 0, none⟩)] w fun e w' => e = .returned (.int .i64 (a + l.length)) ∧ w = w' := by
  go_enter Tryd.func65, Tryd.ntmps65
  go_wp2_with (first | (go_at_call 39; refine (at_any ok g l a _ hc).mono ?_; rintro e w' ⟨rfl, rfl⟩) | (go_at_call 38; refine (left_any ok g l a _ hc).mono ?_; rintro e w' ⟨rfl, rfl⟩))
  go_ret
  exact ⟨rfl, rfl⟩

theorem at_nil (w : World) : Calls Tryd.prog 39 #[.pointer none] w fun e w' => e = .returned (.int .i64 0) ∧ w = w' := by
  go_enter Tryd.func39, Tryd.ntmps39
  go_wp2_with fail
  go_ret
  exact ⟨rfl, rfl⟩
theorem left_nil (w : World) : Calls Tryd.prog 38 #[.pointer none] w fun e w' => e = .returned (.int .i64 0) ∧ w = w' := by
  go_enter Tryd.func38, Tryd.ntmps38
  go_wp2_with fail
  go_ret
  exact ⟨rfl, rfl⟩
theorem end_nil (w : World) : Calls Tryd.prog 65 #[.pointer none] w fun e w' => e = .returned (.int .i64 0) ∧ w = w' := by
  go_enter Tryd.func65, Tryd.ntmps65
  go_wp2_with (first | (go_at_call 39; refine (at_nil _).mono ?_; rintro e w' ⟨rfl, rfl⟩) | (go_at_call 38; refine (left_nil _).mono ?_; rintro e w' ⟨rfl, rfl⟩))
  go_ret
  exact ⟨rfl, rfl⟩

/-! ### Numbers. -/
def NumP (ok : Nat → Prop) (g : Nat) (l : List UInt8) (a n : Int) (w : World) (e : Ending) (w' : World) : Prop :=
  e = .returned (.tuple #[.int .u64 (be (nn l n).1), .int .i64 (nn l n).2]) ∧ Cur w' ok g (l.drop (nn l n).1.length) (a + (nn l n).1.length) ∧ Kp (· = g) w w'

/-! ### Bytes taken. -/
theorem u8_info : (Tryd.prog.info? 5).map (fun i => (i.zero, i.size, i.bytes)) = some (some (.int .u8 0), 1, 1) := by kernel_rfl

def TakeP (ok : Nat → Prop) (g : Nat) (l : List UInt8) (a n : Int) (w : World) (e : Ending) (w' : World) : Prop :=
  ∃ v, e = .returned (.tuple #[v, .int .i64 (nx l n).2]) ∧ BR w' (fun k => w.heap.size ≤ k) v (nx l n).1 ∧ Cur w' ok g (l.drop (nx l n).1.length) (a + (nx l n).1.length) ∧ Kp (· = g) w w'

theorem take_nil (n : Int) (w : World) :
    Calls Tryd.prog 63 #[.pointer none, .int .i64 n] w fun e w' => e = .returned (.tuple #[.slice none 0 0, .int .i64 1]) ∧ w = w' := by
  go_enter Tryd.func63, Tryd.ntmps63
  go_wp2_with (go_at_call 85; refine (next_nil _ _).mono ?_; rintro e w' ⟨rfl, rfl⟩)
  go_ret2
  exact ⟨rfl, rfl⟩

theorem take_any (ok : Nat → Prop) (g : Nat) (l : List UInt8) (a : Int) (n : Int) (w : World) (hc : Cur w ok g l a) (hok : ¬ ok g) (hl : l.length ≤ 140737488351232) (ha : 0 ≤ a) (hal : a + l.length ≤ 9223372036854775807) :
    Calls Tryd.prog 63 #[.pointer (some ⟨g, 0, none⟩), .int .i64 n] w (TakeP ok g l a n w) := by
  obtain ⟨got, er, hgot⟩ : ∃ got er, nx l n = (got, er) := ⟨_, _, rfl⟩
  have hlen : got.length ≤ 140737488351232 := by have := nx_len l n; rw [hgot] at this; simp only at this; omega
  have hg := hc.lt
  have hnext : Calls Tryd.prog 85 #[.pointer (some ⟨g, 0, none⟩), .int .i64 n] w fun e w' => ∃ A c, e = .returned (.tuple #[.slice A got.length c, .int .i64 er]) ∧
      Rd w' ok 1 A got.length (bc got) ∧ Cur w' ok g (l.drop got.length) (a + got.length) ∧ Kp (· = g) w w' := by
    refine (next_any ok g l a n w hc hok hl ha hal).mono ?_
    rintro e w' ⟨v, rfl, ⟨A, c, rfl, hlc, hr⟩, hcur, hkp⟩
    rw [hgot] at hr hcur ⊢
    exact ⟨A, c, rfl, hr, hcur, hkp⟩
  have hfin : ∀ v w1 w2, Cur w1 ok g (l.drop got.length) (a + got.length) → Kp (· = g) w w1 → w2.ownsRow w1.heap.size 5 1 v (0 + got.length) ([] ++ bc got) → w1.grownBy w2 none →
      TakeP ok g l a n w (.returned (.tuple #[v, .int .i64 er])) w2 := by
    intro v w1 w2 h1 h2 h3 h4
    have hk : Kp (fun _ => False) w1 w2 := (Kp.refl _ _).grown h4 (fun k hk => by cases hk)
    rw [TakeP, hgot]
    simp only [List.nil_append] at h3
    refine ⟨v, rfl, BR.of_own h3 (fun k hk => ?_), h1.kp hk (fun _ _ h => h) (fun h => h), h2.trans (hk.mono (fun _ _ h => h.elim))⟩
    have := h3.lt k hk
    have := h2.size
    omega
  have HN := Lib.hid hnext
  have HF := Lib.hid hfin
  clear hnext hfin hgot
  obtain ⟨i0, hi0, hz0, hz1, hz2⟩ := info_parts u8_info
  go_enter Tryd.func63, Tryd.ntmps63
  go_wp2_with (first
    | (go_at_call 85; refine (HN.out).mono ?_; rintro e w1 ⟨A, c, rfl, hr, hcur, hkp⟩)
    | (at_builtin; refine wpList_append_any _ rfl (.const (.slice none 0 0)) (.tmp 14) _ rfl w1.heap.size 5 i0 _ 1 1 Tryd.underlying22 hi0 hz0 hz1 hz2 rfl (by omega) (.slice none 0 0) 0 [] rfl ⟨by simp, .inl ⟨rfl, rfl⟩⟩ ok A got.length c (bc got) rfl hr (bc_one _) (by simp only [maxLen]; omega) (by omega) (Nat.le_refl _) ?_; intro v2 w2 hown hgrow hat))
  go_ret2
  exact HF.out _ _ _ hcur hkp hown hgrow

/-! ### A cursor of its own over the next bytes. -/
theorem sub_nil (n : Int) (w : World) :
    Calls Tryd.prog 64 #[.pointer none, .int .i64 n] w fun e w' => e = .returned (.tuple #[.pointer none, .int .i64 1]) ∧ w = w' := by
  go_enter Tryd.func64, Tryd.ntmps64
  go_wp2_with (first
    | (go_at_call 85; refine (next_nil _ _).mono ?_; rintro e w' ⟨rfl, rfl⟩)
    | (go_at_call 39; refine (at_nil _).mono ?_; rintro e w' ⟨rfl, rfl⟩))
  go_ret2
  exact ⟨rfl, rfl⟩

/-- The error alone, and nothing turned but for what is read. -/
def SubE (ok : Nat → Prop) (g : Nat) (l : List UInt8) (a n : Int) (w : World) (e : Ending) (w' : World) : Prop :=
  e = .returned (.tuple #[.pointer none, .int .i64 (nx l n).2]) ∧ Cur w' ok g l a ∧ Kp (· = g) w w'
def SubP (ok : Nat → Prop) (g : Nat) (l : List UInt8) (a : Int) (n : Nat) (w : World) (e : Ending) (w' : World) : Prop :=
  ∃ g', e = .returned (.tuple #[.pointer (some ⟨g', 0, none⟩), .int .i64 0]) ∧ w.heap.size ≤ g' ∧ Cur w' ok g' (l.take n) a ∧ Cur w' ok g (l.drop n) (a + n) ∧ Kp (· = g) w w'

theorem sub_err (ok : Nat → Prop) (g : Nat) (l : List UInt8) (a : Int) (n : Int) (w : World) (hc : Cur w ok g l a) (hok : ¬ ok g) (hl : l.length ≤ 140737488351232) (ha : 0 ≤ a) (hal : a + l.length ≤ 9223372036854775807)
    (hn : n < 0 ∨ (l.length : Int) < n) :
    Calls Tryd.prog 64 #[.pointer (some ⟨g, 0, none⟩), .int .i64 n] w (SubE ok g l a n w) := by
  obtain ⟨er, hgot, hne⟩ : ∃ er, nx l n = ([], er) ∧ (er != 0) = true := by
    rcases hn with h | h
    · exact ⟨2, nx_neg h, rfl⟩
    · exact ⟨4, nx_short (by omega) h, rfl⟩
  have hnext : Calls Tryd.prog 85 #[.pointer (some ⟨g, 0, none⟩), .int .i64 n] w fun e w' => ∃ A c, e = .returned (.tuple #[.slice A 0 c, .int .i64 er]) ∧
      Cur w' ok g l a ∧ Kp (· = g) w w' := by
    refine (next_any ok g l a n w hc hok hl ha hal).mono ?_
    rintro e w' ⟨v, rfl, ⟨A, c, rfl, hlc, hr⟩, hcur, hkp⟩
    rw [hgot] at hr hcur ⊢
    exact ⟨A, c, rfl, by simpa using hcur, hkp⟩
  have hfin : ∀ w1, Cur w1 ok g l a → Kp (· = g) w w1 → SubE ok g l a n w (.returned (.tuple #[.pointer none, .int .i64 er])) w1 := by
    intro w1 h1 h2
    rw [SubE, hgot]
    exact ⟨rfl, h1, h2⟩
  have HN := Lib.hid hnext
  have HF := Lib.hid hfin
  clear hnext hfin hgot hn
  go_enter Tryd.func64, Tryd.ntmps64
  go_wp2_with (first
    | (go_at_call 85; refine (HN.out).mono ?_; rintro e w1 ⟨A, c, rfl, hcur, hkp⟩)
    | (go_at_call 39; refine (at_any ok g l a _ hc).mono ?_; rintro e w' ⟨rfl, rfl⟩))
  go_ret2
  exact HF.out _ hcur hkp

theorem sub_ok (ok : Nat → Prop) (g : Nat) (l : List UInt8) (a : Int) (n : Nat) (w : World) (hc : Cur w ok g l a) (hok : ¬ ok g) (hl : l.length ≤ 140737488351232) (ha : 0 ≤ a) (hal : a + l.length ≤ 9223372036854775807)
    (hn : n ≤ l.length) :
    Calls Tryd.prog 64 #[.pointer (some ⟨g, 0, none⟩), .int .i64 n] w (SubP ok g l a n w) := by
  have hlt := hc.lt
  have hnext : Calls Tryd.prog 85 #[.pointer (some ⟨g, 0, none⟩), .int .i64 n] w fun e w' => ∃ A c, e = .returned (.tuple #[.slice A n c, .int .i64 0]) ∧
      BR w' ok (.slice A n c) (l.take n) ∧ Cur w' ok g (l.drop n) (a + n) ∧ Kp (· = g) w w' := by
    refine (next_any ok g l a n w hc hok hl ha hal).mono ?_
    rintro e w' ⟨v, rfl, hv, hcur, hkp⟩
    rw [nx_ok (by omega) (by omega)] at hv hcur ⊢
    have hlen : (l.take (n : Int).toNat).length = n := by simp; omega
    simp only [hlen] at hcur
    obtain ⟨A, c, rfl, h⟩ := id hv
    rw [hlen] at hv ⊢
    exact ⟨A, c, rfl, hv, hcur, hkp⟩
  have hfin : ∀ A c w1, BR w1 ok (.slice A n c) (l.take n) → Cur w1 ok g (l.drop n) (a + n) → Kp (· = g) w w1 →
      SubP ok g l a n w (.returned (.tuple #[.pointer (some ⟨w1.heap.size, 0, none⟩), .int .i64 0])) (w1.alloc (.cells #[.slice A n c, .int .i64 a] 93)) := by
    intro A c w1 h0 h1 h2
    have hk : Kp (fun _ => False) w1 (w1.alloc (.cells #[.slice A n c, .int .i64 a] 93)) := (Kp.refl _ _).alloc _
    exact ⟨_, rfl, h2.size, ⟨_, h0.kp hk (fun _ _ h => h), Blk.new _ _ _⟩, h1.kp hk (fun _ _ h => h) (fun h => h), h2.alloc _⟩
  have HN := Lib.hid hnext
  have HF := Lib.hid hfin
  clear hnext hfin hn
  go_enter Tryd.func64, Tryd.ntmps64
  go_wp2_with (first
    | (go_at_call 85; refine (HN.out).mono ?_; rintro e w1 ⟨A, c, rfl, hb, hcur, hkp⟩)
    | (go_at_call 39; refine (at_any ok g l a _ hc).mono ?_; rintro e w' ⟨rfl, rfl⟩))
  go_ret2
  exact HF.out _ _ _ hb hcur hkp

end Go.Proofs.YtgjbfgkcbehjnaaDoor

namespace Go.Proofs.YtgjbfgkcbehjnaaDoor
open Go.RowKit

set_option maxRecDepth 100000 in
set_option maxHeartbeats 1600000 in
theorem read_ok1 (w : World) (ok : Nat → Prop) (b c p2 : UInt8) (r : List UInt8) (hc : c.toNat = 129) (hq : 128 ≤ be [p2] ∧ be [p2] / 256 ^ 0 ≠ 0) (v : Value) (hv : BR w ok v (b :: c :: p2 :: r)) (htab : Tab w) (hl : (b :: c :: p2 :: r).length ≤ 140737488355328) (htop : topB b = true) :
    Calls Tryd.prog 62 #[v] w fun e w' => e = .returned (rdV (b :: c :: p2 :: r)) ∧ Kp (fun _ => False) w w' := by
  obtain ⟨A, cp, rfl, hlc, hr⟩ := id hv
  obtain ⟨g, off, rfl, hok, -⟩ := hr.byte (k := 0) (by simp)
  have hcell : ∀ k (hk : k < (b :: c :: p2 :: r).length), w.cell? ⟨g, off + k, none⟩ = some (.int .u8 ((b :: c :: p2 :: r)[k].toNat : Int)) := by
    intro k hk
    obtain ⟨g', off', e', _, h⟩ := hr.byte hk
    simp only [Option.some.injEq, Addr.mk.injEq, and_true] at e'
    obtain ⟨rfl, rfl⟩ := e'
    exact h
  obtain ⟨x, hx⟩ : ∃ x : Nat, b.toNat = x := ⟨_, rfl⟩
  obtain ⟨m, hm'⟩ : ∃ m, (x / 32 % 2 == 1) = m := ⟨_, rfl⟩
  have hlt := b.toNat_lt
  rw [hx] at hlt
  obtain ⟨x2, hx2⟩ : ∃ x : Nat, p2.toNat = x := ⟨_, rfl⟩
  have lx2 := p2.toNat_lt
  rw [hx2] at lx2
  have o2 : bits .or .i64 0 (x2 : Int) = x2 := by have := i64_or_byte 0 x2 (by omega) (by omega); simpa using this
  have c0 : w.cell? ⟨g, off, none⟩ = some (.int .u8 x) := by have := hcell 0 (by (try simp); (try omega)); first | (simp [*]; done) | simpa [*] using this
  have d0 : ∀ o, (w.alloc o).cell? ⟨g, off, none⟩ = some (.int .u8 x) := fun o => ((Kp.refl (fun _ => False) w).alloc o).cell c0 (fun h => h)
  have e0 : ∀ o1 o2, ((w.alloc o1).alloc o2).cell? ⟨g, off, none⟩ = some (.int .u8 x) := fun o1 o2 => (((Kp.refl (fun _ => False) w).alloc o1).alloc o2).cell c0 (fun h => h)
  have c1 : w.cell? ⟨g, off + 1, none⟩ = some (.int .u8 129) := by have := hcell 1 (by (try simp); (try omega)); first | (simp [*]; done) | simpa [*] using this
  have d1 : ∀ o, (w.alloc o).cell? ⟨g, off + 1, none⟩ = some (.int .u8 129) := fun o => ((Kp.refl (fun _ => False) w).alloc o).cell c1 (fun h => h)
  have e1 : ∀ o1 o2, ((w.alloc o1).alloc o2).cell? ⟨g, off + 1, none⟩ = some (.int .u8 129) := fun o1 o2 => (((Kp.refl (fun _ => False) w).alloc o1).alloc o2).cell c1 (fun h => h)
  have c2 : w.cell? ⟨g, off + 2, none⟩ = some (.int .u8 x2) := by have := hcell 2 (by (try simp); (try omega)); first | (simp [*]; done) | simpa [*] using this
  have d2 : ∀ o, (w.alloc o).cell? ⟨g, off + 2, none⟩ = some (.int .u8 x2) := fun o => ((Kp.refl (fun _ => False) w).alloc o).cell c2 (fun h => h)
  have e2 : ∀ o1 o2, ((w.alloc o1).alloc o2).cell? ⟨g, off + 2, none⟩ = some (.int .u8 x2) := fun o1 o2 => (((Kp.refl (fun _ => False) w).alloc o1).alloc o2).cell c2 (fun h => h)
  have hm : decide (0 < bits .and .u8 (x : Int) 32) = m := by rw [u8_bit5 x hlt]; exact hm'
  have HK : Hid (kindB (x / 64) (x % 32) m = true) := Lib.hid (by simpa [topB, hx, hm'] using htop)
  have KK : Hid (Kp (fun _ => False) w ((w.alloc (.cells #[.int .i64 0, .int .i64 0, .bool false, .int .i64 0] 85)).alloc (.cells #[.int .i64 (↑x / 64), .int .i64 (↑x % 32), .bool m, .int .i64 0] 85)).drew) := Lib.hid ((((Kp.refl _ _).alloc _).alloc _).drew)
  have KS0 : ∀ z : Int, Kp (fun _ => False) w ((w.alloc (.cells #[.int .i64 (↑x / 64), .int .i64 (↑x % 32), .bool m, .int .i64 z] 85)).alloc (.cells #[.int .i64 (↑x / 64), .int .i64 (↑x % 32), .bool m, .int .i64 z] 85)).drew := fun z => ((((Kp.refl _ _).alloc _).alloc _).drew)
  have KS := Lib.hid KS0
  clear KS0
  have KT := Lib.hid (fun z : Int => (show Kp (fun _ => False) w ((w.alloc (.cells #[.int .i64 0, .int .i64 0, .bool false, .int .i64 0] 85)).alloc (.cells #[.int .i64 (↑x / 64), .int .i64 (↑x % 32), .bool m, .int .i64 z] 85)).drew from ((((Kp.refl _ _).alloc _).alloc _).drew)))
  have hbe : be [p2] = x2 := by simp [be, hx2]
  have htk : be ((p2 :: r).take 1) = x2 := by rw [show (p2 :: r).take 1 = [p2] from rfl]; exact hbe
  have hq1 := hq
  rw [hbe] at hq1
  have HR : Hid (rdV (b :: c :: p2 :: r) = .tuple #[hdV (↑x / 64, ↑x % 32, m, ↑x2), .int .i64 3, .int .i64 0]) := Lib.hid (by rw [rdV, rd_long (k := 1) htop hc (by omega) (by omega) (by simp) htk, if_neg (by omega)]; simp [hdB, hx, hm'])
  have hmask : bits .and .u8 129 127 = 1 := by decide
  clear htk hbe hc
  clear hcell hr hv hm' hx htop
  simp only [List.length_cons] at hlc hl ⊢
  generalize r.length = n at *
  have hd1 : ¬ (x2 : Int) < 128 := by omega
  have hd2 : ((x2 : Int) == 0) = false := by simp; omega
  clear hq hq1
  go_enter Tryd.func62, Tryd.ntmps62
  go_wp2_with fail
  go_region
  go_wp2_with fail
  refine (kind_any _ _ _ _ (htab.kp KK.out)).mono ?_
  rintro e w2 ⟨rfl, rfl⟩
  rw [if_pos HK.out]
  go_wp2_with fail
  refine wp_loop_rounds 2 ?_
  iterate 2 (rw [rounds_succ]; go_wp2_with fail)
  refine bodyPost_ret (v := .tuple #[hdV (↑x / 64, ↑x % 32, m, ↑x2), .int .i64 3, .int .i64 0]) (by simp [results, Tryd.results62, go_sem, hdV]) rfl ⟨by rw [HR.out], KS.out x2⟩

set_option maxRecDepth 100000 in
set_option maxHeartbeats 1600000 in
theorem read_low1 (w : World) (ok : Nat → Prop) (b c p2 : UInt8) (r : List UInt8) (hc : c.toNat = 129) (hq : be [p2] < 128 ∨ be [p2] / 256 ^ 0 = 0) (v : Value) (hv : BR w ok v (b :: c :: p2 :: r)) (htab : Tab w) (hl : (b :: c :: p2 :: r).length ≤ 140737488355328) (htop : topB b = true) :
    Calls Tryd.prog 62 #[v] w fun e w' => e = .returned (rdV (b :: c :: p2 :: r)) ∧ Kp (fun _ => False) w w' := by
  obtain ⟨A, cp, rfl, hlc, hr⟩ := id hv
  obtain ⟨g, off, rfl, hok, -⟩ := hr.byte (k := 0) (by simp)
  have hcell : ∀ k (hk : k < (b :: c :: p2 :: r).length), w.cell? ⟨g, off + k, none⟩ = some (.int .u8 ((b :: c :: p2 :: r)[k].toNat : Int)) := by
    intro k hk
    obtain ⟨g', off', e', _, h⟩ := hr.byte hk
    simp only [Option.some.injEq, Addr.mk.injEq, and_true] at e'
    obtain ⟨rfl, rfl⟩ := e'
    exact h
  obtain ⟨x, hx⟩ : ∃ x : Nat, b.toNat = x := ⟨_, rfl⟩
  obtain ⟨m, hm'⟩ : ∃ m, (x / 32 % 2 == 1) = m := ⟨_, rfl⟩
  have hlt := b.toNat_lt
  rw [hx] at hlt
  obtain ⟨x2, hx2⟩ : ∃ x : Nat, p2.toNat = x := ⟨_, rfl⟩
  have lx2 := p2.toNat_lt
  rw [hx2] at lx2
  have o2 : bits .or .i64 0 (x2 : Int) = x2 := by have := i64_or_byte 0 x2 (by omega) (by omega); simpa using this
  have c0 : w.cell? ⟨g, off, none⟩ = some (.int .u8 x) := by have := hcell 0 (by (try simp); (try omega)); first | (simp [*]; done) | simpa [*] using this
  have d0 : ∀ o, (w.alloc o).cell? ⟨g, off, none⟩ = some (.int .u8 x) := fun o => ((Kp.refl (fun _ => False) w).alloc o).cell c0 (fun h => h)
  have e0 : ∀ o1 o2, ((w.alloc o1).alloc o2).cell? ⟨g, off, none⟩ = some (.int .u8 x) := fun o1 o2 => (((Kp.refl (fun _ => False) w).alloc o1).alloc o2).cell c0 (fun h => h)
  have c1 : w.cell? ⟨g, off + 1, none⟩ = some (.int .u8 129) := by have := hcell 1 (by (try simp); (try omega)); first | (simp [*]; done) | simpa [*] using this
  have d1 : ∀ o, (w.alloc o).cell? ⟨g, off + 1, none⟩ = some (.int .u8 129) := fun o => ((Kp.refl (fun _ => False) w).alloc o).cell c1 (fun h => h)
  have e1 : ∀ o1 o2, ((w.alloc o1).alloc o2).cell? ⟨g, off + 1, none⟩ = some (.int .u8 129) := fun o1 o2 => (((Kp.refl (fun _ => False) w).alloc o1).alloc o2).cell c1 (fun h => h)
  have c2 : w.cell? ⟨g, off + 2, none⟩ = some (.int .u8 x2) := by have := hcell 2 (by (try simp); (try omega)); first | (simp [*]; done) | simpa [*] using this
  have d2 : ∀ o, (w.alloc o).cell? ⟨g, off + 2, none⟩ = some (.int .u8 x2) := fun o => ((Kp.refl (fun _ => False) w).alloc o).cell c2 (fun h => h)
  have e2 : ∀ o1 o2, ((w.alloc o1).alloc o2).cell? ⟨g, off + 2, none⟩ = some (.int .u8 x2) := fun o1 o2 => (((Kp.refl (fun _ => False) w).alloc o1).alloc o2).cell c2 (fun h => h)
  have hm : decide (0 < bits .and .u8 (x : Int) 32) = m := by rw [u8_bit5 x hlt]; exact hm'
  have HK : Hid (kindB (x / 64) (x % 32) m = true) := Lib.hid (by simpa [topB, hx, hm'] using htop)
  have KK : Hid (Kp (fun _ => False) w ((w.alloc (.cells #[.int .i64 0, .int .i64 0, .bool false, .int .i64 0] 85)).alloc (.cells #[.int .i64 (↑x / 64), .int .i64 (↑x % 32), .bool m, .int .i64 0] 85)).drew) := Lib.hid ((((Kp.refl _ _).alloc _).alloc _).drew)
  have KS0 : ∀ z : Int, Kp (fun _ => False) w ((w.alloc (.cells #[.int .i64 (↑x / 64), .int .i64 (↑x % 32), .bool m, .int .i64 z] 85)).alloc (.cells #[.int .i64 (↑x / 64), .int .i64 (↑x % 32), .bool m, .int .i64 z] 85)).drew := fun z => ((((Kp.refl _ _).alloc _).alloc _).drew)
  have KS := Lib.hid KS0
  clear KS0
  have KT := Lib.hid (fun z : Int => (show Kp (fun _ => False) w ((w.alloc (.cells #[.int .i64 0, .int .i64 0, .bool false, .int .i64 0] 85)).alloc (.cells #[.int .i64 (↑x / 64), .int .i64 (↑x % 32), .bool m, .int .i64 z] 85)).drew from ((((Kp.refl _ _).alloc _).alloc _).drew)))
  have hbe : be [p2] = x2 := by simp [be, hx2]
  have htk : be ((p2 :: r).take 1) = x2 := by rw [show (p2 :: r).take 1 = [p2] from rfl]; exact hbe
  have hq1 := hq
  rw [hbe] at hq1
  have HR : Hid (rdV (b :: c :: p2 :: r) = .tuple #[hdV hd0, .int .i64 1, .int .i64 13]) := Lib.hid (by rw [rdV, rd_long (k := 1) htop hc (by omega) (by omega) (by simp) htk, if_pos hq1])
  have hmask : bits .and .u8 129 127 = 1 := by decide
  clear htk hbe hc
  clear hcell hr hv hm' hx htop
  simp only [List.length_cons] at hlc hl ⊢
  generalize r.length = n at *
  clear hq
  have hq2 : (x2 : Int) < 128 := by simp at hq1; omega
  clear hq1
  go_enter Tryd.func62, Tryd.ntmps62
  go_wp2_with fail
  go_region
  go_wp2_with fail
  refine (kind_any _ _ _ _ (htab.kp KK.out)).mono ?_
  rintro e w2 ⟨rfl, rfl⟩
  rw [if_pos HK.out]
  go_wp2_with fail
  refine wp_loop_rounds 2 ?_
  iterate 2 (rw [rounds_succ]; go_wp2_with fail)
  refine bodyPost_ret (v := .tuple #[hdV hd0, .int .i64 1, .int .i64 13]) (by simp [results, Tryd.results62, go_sem, hdV, hd0]) rfl ⟨by rw [HR.out], KT.out _⟩

set_option maxRecDepth 100000 in
set_option maxHeartbeats 1600000 in
theorem read_ok2 (w : World) (ok : Nat → Prop) (b c p2 p3 : UInt8) (r : List UInt8) (hc : c.toNat = 130) (hq : 128 ≤ be [p2, p3] ∧ be [p2, p3] / 256 ^ 1 ≠ 0) (v : Value) (hv : BR w ok v (b :: c :: p2 :: p3 :: r)) (htab : Tab w) (hl : (b :: c :: p2 :: p3 :: r).length ≤ 140737488355328) (htop : topB b = true) :
    Calls Tryd.prog 62 #[v] w fun e w' => e = .returned (rdV (b :: c :: p2 :: p3 :: r)) ∧ Kp (fun _ => False) w w' := by
  obtain ⟨A, cp, rfl, hlc, hr⟩ := id hv
  obtain ⟨g, off, rfl, hok, -⟩ := hr.byte (k := 0) (by simp)
  have hcell : ∀ k (hk : k < (b :: c :: p2 :: p3 :: r).length), w.cell? ⟨g, off + k, none⟩ = some (.int .u8 ((b :: c :: p2 :: p3 :: r)[k].toNat : Int)) := by
    intro k hk
    obtain ⟨g', off', e', _, h⟩ := hr.byte hk
    simp only [Option.some.injEq, Addr.mk.injEq, and_true] at e'
    obtain ⟨rfl, rfl⟩ := e'
    exact h
  obtain ⟨x, hx⟩ : ∃ x : Nat, b.toNat = x := ⟨_, rfl⟩
  obtain ⟨m, hm'⟩ : ∃ m, (x / 32 % 2 == 1) = m := ⟨_, rfl⟩
  have hlt := b.toNat_lt
  rw [hx] at hlt
  obtain ⟨x2, hx2⟩ : ∃ x : Nat, p2.toNat = x := ⟨_, rfl⟩
  have lx2 := p2.toNat_lt
  rw [hx2] at lx2
  obtain ⟨x3, hx3⟩ : ∃ x : Nat, p3.toNat = x := ⟨_, rfl⟩
  have lx3 := p3.toNat_lt
  rw [hx3] at lx3
  have o2 : bits .or .i64 0 (x2 : Int) = x2 := by have := i64_or_byte 0 x2 (by omega) (by omega); simpa using this
  obtain ⟨y1, hy1⟩ : ∃ y : Nat, x2 * 256 + x3 = y := ⟨_, rfl⟩
  have o3 : bits .or .i64 ((x2 : Int) * 256) (x3 : Int) = y1 := by rw [i64_or_byte _ _ (by omega) (by omega), hy1]
  have c0 : w.cell? ⟨g, off, none⟩ = some (.int .u8 x) := by have := hcell 0 (by (try simp); (try omega)); first | (simp [*]; done) | simpa [*] using this
  have d0 : ∀ o, (w.alloc o).cell? ⟨g, off, none⟩ = some (.int .u8 x) := fun o => ((Kp.refl (fun _ => False) w).alloc o).cell c0 (fun h => h)
  have e0 : ∀ o1 o2, ((w.alloc o1).alloc o2).cell? ⟨g, off, none⟩ = some (.int .u8 x) := fun o1 o2 => (((Kp.refl (fun _ => False) w).alloc o1).alloc o2).cell c0 (fun h => h)
  have c1 : w.cell? ⟨g, off + 1, none⟩ = some (.int .u8 130) := by have := hcell 1 (by (try simp); (try omega)); first | (simp [*]; done) | simpa [*] using this
  have d1 : ∀ o, (w.alloc o).cell? ⟨g, off + 1, none⟩ = some (.int .u8 130) := fun o => ((Kp.refl (fun _ => False) w).alloc o).cell c1 (fun h => h)
  have e1 : ∀ o1 o2, ((w.alloc o1).alloc o2).cell? ⟨g, off + 1, none⟩ = some (.int .u8 130) := fun o1 o2 => (((Kp.refl (fun _ => False) w).alloc o1).alloc o2).cell c1 (fun h => h)
  have c2 : w.cell? ⟨g, off + 2, none⟩ = some (.int .u8 x2) := by have := hcell 2 (by (try simp); (try omega)); first | (simp [*]; done) | simpa [*] using this
  have d2 : ∀ o, (w.alloc o).cell? ⟨g, off + 2, none⟩ = some (.int .u8 x2) := fun o => ((Kp.refl (fun _ => False) w).alloc o).cell c2 (fun h => h)
  have e2 : ∀ o1 o2, ((w.alloc o1).alloc o2).cell? ⟨g, off + 2, none⟩ = some (.int .u8 x2) := fun o1 o2 => (((Kp.refl (fun _ => False) w).alloc o1).alloc o2).cell c2 (fun h => h)
  have c3 : w.cell? ⟨g, off + 3, none⟩ = some (.int .u8 x3) := by have := hcell 3 (by (try simp); (try omega)); first | (simp [*]; done) | simpa [*] using this
  have d3 : ∀ o, (w.alloc o).cell? ⟨g, off + 3, none⟩ = some (.int .u8 x3) := fun o => ((Kp.refl (fun _ => False) w).alloc o).cell c3 (fun h => h)
  have e3 : ∀ o1 o2, ((w.alloc o1).alloc o2).cell? ⟨g, off + 3, none⟩ = some (.int .u8 x3) := fun o1 o2 => (((Kp.refl (fun _ => False) w).alloc o1).alloc o2).cell c3 (fun h => h)
  have hm : decide (0 < bits .and .u8 (x : Int) 32) = m := by rw [u8_bit5 x hlt]; exact hm'
  have HK : Hid (kindB (x / 64) (x % 32) m = true) := Lib.hid (by simpa [topB, hx, hm'] using htop)
  have KK : Hid (Kp (fun _ => False) w ((w.alloc (.cells #[.int .i64 0, .int .i64 0, .bool false, .int .i64 0] 85)).alloc (.cells #[.int .i64 (↑x / 64), .int .i64 (↑x % 32), .bool m, .int .i64 0] 85)).drew) := Lib.hid ((((Kp.refl _ _).alloc _).alloc _).drew)
  have KS0 : ∀ z : Int, Kp (fun _ => False) w ((w.alloc (.cells #[.int .i64 (↑x / 64), .int .i64 (↑x % 32), .bool m, .int .i64 z] 85)).alloc (.cells #[.int .i64 (↑x / 64), .int .i64 (↑x % 32), .bool m, .int .i64 z] 85)).drew := fun z => ((((Kp.refl _ _).alloc _).alloc _).drew)
  have KS := Lib.hid KS0
  clear KS0
  have KT := Lib.hid (fun z : Int => (show Kp (fun _ => False) w ((w.alloc (.cells #[.int .i64 0, .int .i64 0, .bool false, .int .i64 0] 85)).alloc (.cells #[.int .i64 (↑x / 64), .int .i64 (↑x % 32), .bool m, .int .i64 z] 85)).drew from ((((Kp.refl _ _).alloc _).alloc _).drew)))
  have hbe : be [p2, p3] = y1 := by simp [be, hx2, hx3]; omega
  have htk : be ((p2 :: p3 :: r).take 2) = y1 := by rw [show (p2 :: p3 :: r).take 2 = [p2, p3] from rfl]; exact hbe
  have hq1 := hq
  rw [hbe] at hq1
  have HR : Hid (rdV (b :: c :: p2 :: p3 :: r) = .tuple #[hdV (↑x / 64, ↑x % 32, m, ↑y1), .int .i64 4, .int .i64 0]) := Lib.hid (by rw [rdV, rd_long (k := 2) htop hc (by omega) (by omega) (by simp) htk, if_neg (by omega)]; simp [hdB, hx, hm'])
  have hmask : bits .and .u8 130 127 = 2 := by decide
  clear htk hbe hc
  clear hcell hr hv hm' hx htop
  simp only [List.length_cons] at hlc hl ⊢
  generalize r.length = n at *
  have hd1 : ¬ (y1 : Int) < 128 := by omega
  have hd2 : ((y1 : Int) / 256 == 0) = false := by simp; omega
  clear hq hq1
  go_enter Tryd.func62, Tryd.ntmps62
  go_wp2_with fail
  go_region
  go_wp2_with fail
  refine (kind_any _ _ _ _ (htab.kp KK.out)).mono ?_
  rintro e w2 ⟨rfl, rfl⟩
  rw [if_pos HK.out]
  go_wp2_with fail
  refine wp_loop_rounds 3 ?_
  iterate 3 (rw [rounds_succ]; go_wp2_with fail)
  refine bodyPost_ret (v := .tuple #[hdV (↑x / 64, ↑x % 32, m, ↑y1), .int .i64 4, .int .i64 0]) (by simp [results, Tryd.results62, go_sem, hdV]) rfl ⟨by rw [HR.out], KS.out y1⟩

set_option maxRecDepth 100000 in
set_option maxHeartbeats 1600000 in
theorem read_low2 (w : World) (ok : Nat → Prop) (b c p2 p3 : UInt8) (r : List UInt8) (hc : c.toNat = 130) (hq : be [p2, p3] < 128 ∨ be [p2, p3] / 256 ^ 1 = 0) (v : Value) (hv : BR w ok v (b :: c :: p2 :: p3 :: r)) (htab : Tab w) (hl : (b :: c :: p2 :: p3 :: r).length ≤ 140737488355328) (htop : topB b = true) :
    Calls Tryd.prog 62 #[v] w fun e w' => e = .returned (rdV (b :: c :: p2 :: p3 :: r)) ∧ Kp (fun _ => False) w w' := by
  obtain ⟨A, cp, rfl, hlc, hr⟩ := id hv
  obtain ⟨g, off, rfl, hok, -⟩ := hr.byte (k := 0) (by simp)
  have hcell : ∀ k (hk : k < (b :: c :: p2 :: p3 :: r).length), w.cell? ⟨g, off + k, none⟩ = some (.int .u8 ((b :: c :: p2 :: p3 :: r)[k].toNat : Int)) := by
    intro k hk
    obtain ⟨g', off', e', _, h⟩ := hr.byte hk
    simp only [Option.some.injEq, Addr.mk.injEq, and_true] at e'
    obtain ⟨rfl, rfl⟩ := e'
    exact h
  obtain ⟨x, hx⟩ : ∃ x : Nat, b.toNat = x := ⟨_, rfl⟩
  obtain ⟨m, hm'⟩ : ∃ m, (x / 32 % 2 == 1) = m := ⟨_, rfl⟩
  have hlt := b.toNat_lt
  rw [hx] at hlt
  obtain ⟨x2, hx2⟩ : ∃ x : Nat, p2.toNat = x := ⟨_, rfl⟩
  have lx2 := p2.toNat_lt
  rw [hx2] at lx2
  obtain ⟨x3, hx3⟩ : ∃ x : Nat, p3.toNat = x := ⟨_, rfl⟩
  have lx3 := p3.toNat_lt
  rw [hx3] at lx3
  have o2 : bits .or .i64 0 (x2 : Int) = x2 := by have := i64_or_byte 0 x2 (by omega) (by omega); simpa using this
  obtain ⟨y1, hy1⟩ : ∃ y : Nat, x2 * 256 + x3 = y := ⟨_, rfl⟩
  have o3 : bits .or .i64 ((x2 : Int) * 256) (x3 : Int) = y1 := by rw [i64_or_byte _ _ (by omega) (by omega), hy1]
  have c0 : w.cell? ⟨g, off, none⟩ = some (.int .u8 x) := by have := hcell 0 (by (try simp); (try omega)); first | (simp [*]; done) | simpa [*] using this
  have d0 : ∀ o, (w.alloc o).cell? ⟨g, off, none⟩ = some (.int .u8 x) := fun o => ((Kp.refl (fun _ => False) w).alloc o).cell c0 (fun h => h)
  have e0 : ∀ o1 o2, ((w.alloc o1).alloc o2).cell? ⟨g, off, none⟩ = some (.int .u8 x) := fun o1 o2 => (((Kp.refl (fun _ => False) w).alloc o1).alloc o2).cell c0 (fun h => h)
  have c1 : w.cell? ⟨g, off + 1, none⟩ = some (.int .u8 130) := by have := hcell 1 (by (try simp); (try omega)); first | (simp [*]; done) | simpa [*] using this
  have d1 : ∀ o, (w.alloc o).cell? ⟨g, off + 1, none⟩ = some (.int .u8 130) := fun o => ((Kp.refl (fun _ => False) w).alloc o).cell c1 (fun h => h)
  have e1 : ∀ o1 o2, ((w.alloc o1).alloc o2).cell? ⟨g, off + 1, none⟩ = some (.int .u8 130) := fun o1 o2 => (((Kp.refl (fun _ => False) w).alloc o1).alloc o2).cell c1 (fun h => h)
  have c2 : w.cell? ⟨g, off + 2, none⟩ = some (.int .u8 x2) := by have := hcell 2 (by (try simp); (try omega)); first | (simp [*]; done) | simpa [*] using this
  have d2 : ∀ o, (w.alloc o).cell? ⟨g, off + 2, none⟩ = some (.int .u8 x2) := fun o => ((Kp.refl (fun _ => False) w).alloc o).cell c2 (fun h => h)
  have e2 : ∀ o1 o2, ((w.alloc o1).alloc o2).cell? ⟨g, off + 2, none⟩ = some (.int .u8 x2) := fun o1 o2 => (((Kp.refl (fun _ => False) w).alloc o1).alloc o2).cell c2 (fun h => h)
  have c3 : w.cell? ⟨g, off + 3, none⟩ = some (.int .u8 x3) := by have := hcell 3 (by (try simp); (try omega)); first | (simp [*]; done) | simpa [*] using this
  have d3 : ∀ o, (w.alloc o).cell? ⟨g, off + 3, none⟩ = some (.int .u8 x3) := fun o => ((Kp.refl (fun _ => False) w).alloc o).cell c3 (fun h => h)
  have e3 : ∀ o1 o2, ((w.alloc o1).alloc o2).cell? ⟨g, off + 3, none⟩ = some (.int .u8 x3) := fun o1 o2 => (((Kp.refl (fun _ => False) w).alloc o1).alloc o2).cell c3 (fun h => h)
  have hm : decide (0 < bits .and .u8 (x : Int) 32) = m := by rw [u8_bit5 x hlt]; exact hm'
  have HK : Hid (kindB (x / 64) (x % 32) m = true) := Lib.hid (by simpa [topB, hx, hm'] using htop)
  have KK : Hid (Kp (fun _ => False) w ((w.alloc (.cells #[.int .i64 0, .int .i64 0, .bool false, .int .i64 0] 85)).alloc (.cells #[.int .i64 (↑x / 64), .int .i64 (↑x % 32), .bool m, .int .i64 0] 85)).drew) := Lib.hid ((((Kp.refl _ _).alloc _).alloc _).drew)
  have KS0 : ∀ z : Int, Kp (fun _ => False) w ((w.alloc (.cells #[.int .i64 (↑x / 64), .int .i64 (↑x % 32), .bool m, .int .i64 z] 85)).alloc (.cells #[.int .i64 (↑x / 64), .int .i64 (↑x % 32), .bool m, .int .i64 z] 85)).drew := fun z => ((((Kp.refl _ _).alloc _).alloc _).drew)
  have KS := Lib.hid KS0
  clear KS0
  have KT := Lib.hid (fun z : Int => (show Kp (fun _ => False) w ((w.alloc (.cells #[.int .i64 0, .int .i64 0, .bool false, .int .i64 0] 85)).alloc (.cells #[.int .i64 (↑x / 64), .int .i64 (↑x % 32), .bool m, .int .i64 z] 85)).drew from ((((Kp.refl _ _).alloc _).alloc _).drew)))
  have hbe : be [p2, p3] = y1 := by simp [be, hx2, hx3]; omega
  have htk : be ((p2 :: p3 :: r).take 2) = y1 := by rw [show (p2 :: p3 :: r).take 2 = [p2, p3] from rfl]; exact hbe
  have hq1 := hq
  rw [hbe] at hq1
  have HR : Hid (rdV (b :: c :: p2 :: p3 :: r) = .tuple #[hdV hd0, .int .i64 1, .int .i64 13]) := Lib.hid (by rw [rdV, rd_long (k := 2) htop hc (by omega) (by omega) (by simp) htk, if_pos hq1])
  have hmask : bits .and .u8 130 127 = 2 := by decide
  clear htk hbe hc
  clear hcell hr hv hm' hx htop
  simp only [List.length_cons] at hlc hl ⊢
  generalize r.length = n at *
  clear hq
  rcases hq1 with hq1 | hq1
  · have hd1 : (y1 : Int) < 128 := by omega
    clear hq1
    go_enter Tryd.func62, Tryd.ntmps62
    go_wp2_with fail
    go_region
    go_wp2_with fail
    refine (kind_any _ _ _ _ (htab.kp KK.out)).mono ?_
    rintro e w2 ⟨rfl, rfl⟩
    rw [if_pos HK.out]
    go_wp2_with fail
    refine wp_loop_rounds 3 ?_
    iterate 3 (rw [rounds_succ]; go_wp2_with fail)
    refine bodyPost_ret (v := .tuple #[hdV hd0, .int .i64 1, .int .i64 13]) (by simp [results, Tryd.results62, go_sem, hdV, hd0]) rfl ⟨by rw [HR.out], KT.out _⟩
  · by_cases hd1 : (y1 : Int) < 128
    · clear hq1
      go_enter Tryd.func62, Tryd.ntmps62
      go_wp2_with fail
      go_region
      go_wp2_with fail
      refine (kind_any _ _ _ _ (htab.kp KK.out)).mono ?_
      rintro e w2 ⟨rfl, rfl⟩
      rw [if_pos HK.out]
      go_wp2_with fail
      refine wp_loop_rounds 3 ?_
      iterate 3 (rw [rounds_succ]; go_wp2_with fail)
      refine bodyPost_ret (v := .tuple #[hdV hd0, .int .i64 1, .int .i64 13]) (by simp [results, Tryd.results62, go_sem, hdV, hd0]) rfl ⟨by rw [HR.out], KT.out _⟩
    · have hd2 : ((y1 : Int) / 256 == 0) = true := by simp; omega
      clear hq1
      go_enter Tryd.func62, Tryd.ntmps62
      go_wp2_with fail
      go_region
      go_wp2_with fail
      refine (kind_any _ _ _ _ (htab.kp KK.out)).mono ?_
      rintro e w2 ⟨rfl, rfl⟩
      rw [if_pos HK.out]
      go_wp2_with fail
      refine wp_loop_rounds 3 ?_
      iterate 3 (rw [rounds_succ]; go_wp2_with fail)
      refine bodyPost_ret (v := .tuple #[hdV hd0, .int .i64 1, .int .i64 13]) (by simp [results, Tryd.results62, go_sem, hdV, hd0]) rfl ⟨by rw [HR.out], KT.out _⟩

end Go.Proofs.YtgjbfgkcbehjnaaDoor

namespace Go.Proofs.YtgjbfgkcbehjnaaDoor
open Go.RowKit

set_option maxRecDepth 100000 in
set_option maxHeartbeats 1600000 in
theorem read_ok3 (w : World) (ok : Nat → Prop) (b c p2 p3 p4 : UInt8) (r : List UInt8) (hc : c.toNat = 131) (hq : 128 ≤ be [p2, p3, p4] ∧ be [p2, p3, p4] / 256 ^ 2 ≠ 0) (v : Value) (hv : BR w ok v (b :: c :: p2 :: p3 :: p4 :: r)) (htab : Tab w) (hl : (b :: c :: p2 :: p3 :: p4 :: r).length ≤ 140737488355328) (htop : topB b = true) :
    Calls Tryd.prog 62 #[v] w fun e w' => e = .returned (rdV (b :: c :: p2 :: p3 :: p4 :: r)) ∧ Kp (fun _ => False) w w' := by
  obtain ⟨A, cp, rfl, hlc, hr⟩ := id hv
  obtain ⟨g, off, rfl, hok, -⟩ := hr.byte (k := 0) (by simp)
  have hcell : ∀ k (hk : k < (b :: c :: p2 :: p3 :: p4 :: r).length), w.cell? ⟨g, off + k, none⟩ = some (.int .u8 ((b :: c :: p2 :: p3 :: p4 :: r)[k].toNat : Int)) := by
    intro k hk
    obtain ⟨g', off', e', _, h⟩ := hr.byte hk
    simp only [Option.some.injEq, Addr.mk.injEq, and_true] at e'
    obtain ⟨rfl, rfl⟩ := e'
    exact h
  obtain ⟨x, hx⟩ : ∃ x : Nat, b.toNat = x := ⟨_, rfl⟩
  obtain ⟨m, hm'⟩ : ∃ m, (x / 32 % 2 == 1) = m := ⟨_, rfl⟩
  have hlt := b.toNat_lt
  rw [hx] at hlt
  obtain ⟨x2, hx2⟩ : ∃ x : Nat, p2.toNat = x := ⟨_, rfl⟩
  have lx2 := p2.toNat_lt
  rw [hx2] at lx2
  obtain ⟨x3, hx3⟩ : ∃ x : Nat, p3.toNat = x := ⟨_, rfl⟩
  have lx3 := p3.toNat_lt
  rw [hx3] at lx3
  obtain ⟨x4, hx4⟩ : ∃ x : Nat, p4.toNat = x := ⟨_, rfl⟩
  have lx4 := p4.toNat_lt
  rw [hx4] at lx4
  have o2 : bits .or .i64 0 (x2 : Int) = x2 := by have := i64_or_byte 0 x2 (by omega) (by omega); simpa using this
  obtain ⟨y1, hy1⟩ : ∃ y : Nat, x2 * 256 + x3 = y := ⟨_, rfl⟩
  have o3 : bits .or .i64 ((x2 : Int) * 256) (x3 : Int) = y1 := by rw [i64_or_byte _ _ (by omega) (by omega), hy1]
  obtain ⟨y2, hy2⟩ : ∃ y : Nat, y1 * 256 + x4 = y := ⟨_, rfl⟩
  have o4 : bits .or .i64 ((y1 : Int) * 256) (x4 : Int) = y2 := by rw [i64_or_byte _ _ (by omega) (by omega), hy2]
  have c0 : w.cell? ⟨g, off, none⟩ = some (.int .u8 x) := by have := hcell 0 (by (try simp); (try omega)); first | (simp [*]; done) | simpa [*] using this
  have d0 : ∀ o, (w.alloc o).cell? ⟨g, off, none⟩ = some (.int .u8 x) := fun o => ((Kp.refl (fun _ => False) w).alloc o).cell c0 (fun h => h)
  have e0 : ∀ o1 o2, ((w.alloc o1).alloc o2).cell? ⟨g, off, none⟩ = some (.int .u8 x) := fun o1 o2 => (((Kp.refl (fun _ => False) w).alloc o1).alloc o2).cell c0 (fun h => h)
  have c1 : w.cell? ⟨g, off + 1, none⟩ = some (.int .u8 131) := by have := hcell 1 (by (try simp); (try omega)); first | (simp [*]; done) | simpa [*] using this
  have d1 : ∀ o, (w.alloc o).cell? ⟨g, off + 1, none⟩ = some (.int .u8 131) := fun o => ((Kp.refl (fun _ => False) w).alloc o).cell c1 (fun h => h)
  have e1 : ∀ o1 o2, ((w.alloc o1).alloc o2).cell? ⟨g, off + 1, none⟩ = some (.int .u8 131) := fun o1 o2 => (((Kp.refl (fun _ => False) w).alloc o1).alloc o2).cell c1 (fun h => h)
  have c2 : w.cell? ⟨g, off + 2, none⟩ = some (.int .u8 x2) := by have := hcell 2 (by (try simp); (try omega)); first | (simp [*]; done) | simpa [*] using this
  have d2 : ∀ o, (w.alloc o).cell? ⟨g, off + 2, none⟩ = some (.int .u8 x2) := fun o => ((Kp.refl (fun _ => False) w).alloc o).cell c2 (fun h => h)
  have e2 : ∀ o1 o2, ((w.alloc o1).alloc o2).cell? ⟨g, off + 2, none⟩ = some (.int .u8 x2) := fun o1 o2 => (((Kp.refl (fun _ => False) w).alloc o1).alloc o2).cell c2 (fun h => h)
  have c3 : w.cell? ⟨g, off + 3, none⟩ = some (.int .u8 x3) := by have := hcell 3 (by (try simp); (try omega)); first | (simp [*]; done) | simpa [*] using this
  have d3 : ∀ o, (w.alloc o).cell? ⟨g, off + 3, none⟩ = some (.int .u8 x3) := fun o => ((Kp.refl (fun _ => False) w).alloc o).cell c3 (fun h => h)
  have e3 : ∀ o1 o2, ((w.alloc o1).alloc o2).cell? ⟨g, off + 3, none⟩ = some (.int .u8 x3) := fun o1 o2 => (((Kp.refl (fun _ => False) w).alloc o1).alloc o2).cell c3 (fun h => h)
  have c4 : w.cell? ⟨g, off + 4, none⟩ = some (.int .u8 x4) := by have := hcell 4 (by (try simp); (try omega)); first | (simp [*]; done) | simpa [*] using this
  have d4 : ∀ o, (w.alloc o).cell? ⟨g, off + 4, none⟩ = some (.int .u8 x4) := fun o => ((Kp.refl (fun _ => False) w).alloc o).cell c4 (fun h => h)
  have e4 : ∀ o1 o2, ((w.alloc o1).alloc o2).cell? ⟨g, off + 4, none⟩ = some (.int .u8 x4) := fun o1 o2 => (((Kp.refl (fun _ => False) w).alloc o1).alloc o2).cell c4 (fun h => h)
  have hm : decide (0 < bits .and .u8 (x : Int) 32) = m := by rw [u8_bit5 x hlt]; exact hm'
  have HK : Hid (kindB (x / 64) (x % 32) m = true) := Lib.hid (by simpa [topB, hx, hm'] using htop)
  have KK : Hid (Kp (fun _ => False) w ((w.alloc (.cells #[.int .i64 0, .int .i64 0, .bool false, .int .i64 0] 85)).alloc (.cells #[.int .i64 (↑x / 64), .int .i64 (↑x % 32), .bool m, .int .i64 0] 85)).drew) := Lib.hid ((((Kp.refl _ _).alloc _).alloc _).drew)
  have KS0 : ∀ z : Int, Kp (fun _ => False) w ((w.alloc (.cells #[.int .i64 (↑x / 64), .int .i64 (↑x % 32), .bool m, .int .i64 z] 85)).alloc (.cells #[.int .i64 (↑x / 64), .int .i64 (↑x % 32), .bool m, .int .i64 z] 85)).drew := fun z => ((((Kp.refl _ _).alloc _).alloc _).drew)
  have KS := Lib.hid KS0
  clear KS0
  have KT := Lib.hid (fun z : Int => (show Kp (fun _ => False) w ((w.alloc (.cells #[.int .i64 0, .int .i64 0, .bool false, .int .i64 0] 85)).alloc (.cells #[.int .i64 (↑x / 64), .int .i64 (↑x % 32), .bool m, .int .i64 z] 85)).drew from ((((Kp.refl _ _).alloc _).alloc _).drew)))
  have hbe : be [p2, p3, p4] = y2 := by simp [be, hx2, hx3, hx4]; omega
  have htk : be ((p2 :: p3 :: p4 :: r).take 3) = y2 := by rw [show (p2 :: p3 :: p4 :: r).take 3 = [p2, p3, p4] from rfl]; exact hbe
  have hq1 := hq
  rw [hbe] at hq1
  have HR : Hid (rdV (b :: c :: p2 :: p3 :: p4 :: r) = .tuple #[hdV (↑x / 64, ↑x % 32, m, ↑y2), .int .i64 5, .int .i64 0]) := Lib.hid (by rw [rdV, rd_long (k := 3) htop hc (by omega) (by omega) (by simp) htk, if_neg (by omega)]; simp [hdB, hx, hm'])
  have hmask : bits .and .u8 131 127 = 3 := by decide
  clear htk hbe hc
  clear hcell hr hv hm' hx htop
  simp only [List.length_cons] at hlc hl ⊢
  generalize r.length = n at *
  have hd1 : ¬ (y2 : Int) < 128 := by omega
  have hd2 : ((y2 : Int) / 65536 == 0) = false := by simp; omega
  clear hq hq1
  go_enter Tryd.func62, Tryd.ntmps62
  go_wp2_with fail
  go_region
  go_wp2_with fail
  refine (kind_any _ _ _ _ (htab.kp KK.out)).mono ?_
  rintro e w2 ⟨rfl, rfl⟩
  rw [if_pos HK.out]
  go_wp2_with fail
  refine wp_loop_rounds 4 ?_
  iterate 4 (rw [rounds_succ]; go_wp2_with fail)
  refine bodyPost_ret (v := .tuple #[hdV (↑x / 64, ↑x % 32, m, ↑y2), .int .i64 5, .int .i64 0]) (by simp [results, Tryd.results62, go_sem, hdV]) rfl ⟨by rw [HR.out], KS.out y2⟩

set_option maxRecDepth 100000 in
set_option maxHeartbeats 1600000 in
theorem read_low3 (w : World) (ok : Nat → Prop) (b c p2 p3 p4 : UInt8) (r : List UInt8) (hc : c.toNat = 131) (hq : be [p2, p3, p4] < 128 ∨ be [p2, p3, p4] / 256 ^ 2 = 0) (v : Value) (hv : BR w ok v (b :: c :: p2 :: p3 :: p4 :: r)) (htab : Tab w) (hl : (b :: c :: p2 :: p3 :: p4 :: r).length ≤ 140737488355328) (htop : topB b = true) :
    Calls Tryd.prog 62 #[v] w fun e w' => e = .returned (rdV (b :: c :: p2 :: p3 :: p4 :: r)) ∧ Kp (fun _ => False) w w' := by
  obtain ⟨A, cp, rfl, hlc, hr⟩ := id hv
  obtain ⟨g, off, rfl, hok, -⟩ := hr.byte (k := 0) (by simp)
  have hcell : ∀ k (hk : k < (b :: c :: p2 :: p3 :: p4 :: r).length), w.cell? ⟨g, off + k, none⟩ = some (.int .u8 ((b :: c :: p2 :: p3 :: p4 :: r)[k].toNat : Int)) := by
    intro k hk
    obtain ⟨g', off', e', _, h⟩ := hr.byte hk
    simp only [Option.some.injEq, Addr.mk.injEq, and_true] at e'
    obtain ⟨rfl, rfl⟩ := e'
    exact h
  obtain ⟨x, hx⟩ : ∃ x : Nat, b.toNat = x := ⟨_, rfl⟩
  obtain ⟨m, hm'⟩ : ∃ m, (x / 32 % 2 == 1) = m := ⟨_, rfl⟩
  have hlt := b.toNat_lt
  rw [hx] at hlt
  obtain ⟨x2, hx2⟩ : ∃ x : Nat, p2.toNat = x := ⟨_, rfl⟩
  have lx2 := p2.toNat_lt
  rw [hx2] at lx2
  obtain ⟨x3, hx3⟩ : ∃ x : Nat, p3.toNat = x := ⟨_, rfl⟩
  have lx3 := p3.toNat_lt
  rw [hx3] at lx3
  obtain ⟨x4, hx4⟩ : ∃ x : Nat, p4.toNat = x := ⟨_, rfl⟩
  have lx4 := p4.toNat_lt
  rw [hx4] at lx4
  have o2 : bits .or .i64 0 (x2 : Int) = x2 := by have := i64_or_byte 0 x2 (by omega) (by omega); simpa using this
  obtain ⟨y1, hy1⟩ : ∃ y : Nat, x2 * 256 + x3 = y := ⟨_, rfl⟩
  have o3 : bits .or .i64 ((x2 : Int) * 256) (x3 : Int) = y1 := by rw [i64_or_byte _ _ (by omega) (by omega), hy1]
  obtain ⟨y2, hy2⟩ : ∃ y : Nat, y1 * 256 + x4 = y := ⟨_, rfl⟩
  have o4 : bits .or .i64 ((y1 : Int) * 256) (x4 : Int) = y2 := by rw [i64_or_byte _ _ (by omega) (by omega), hy2]
  have c0 : w.cell? ⟨g, off, none⟩ = some (.int .u8 x) := by have := hcell 0 (by (try simp); (try omega)); first | (simp [*]; done) | simpa [*] using this
  have d0 : ∀ o, (w.alloc o).cell? ⟨g, off, none⟩ = some (.int .u8 x) := fun o => ((Kp.refl (fun _ => False) w).alloc o).cell c0 (fun h => h)
  have e0 : ∀ o1 o2, ((w.alloc o1).alloc o2).cell? ⟨g, off, none⟩ = some (.int .u8 x) := fun o1 o2 => (((Kp.refl (fun _ => False) w).alloc o1).alloc o2).cell c0 (fun h => h)
  have c1 : w.cell? ⟨g, off + 1, none⟩ = some (.int .u8 131) := by have := hcell 1 (by (try simp); (try omega)); first | (simp [*]; done) | simpa [*] using this
  have d1 : ∀ o, (w.alloc o).cell? ⟨g, off + 1, none⟩ = some (.int .u8 131) := fun o => ((Kp.refl (fun _ => False) w).alloc o).cell c1 (fun h => h)
  have e1 : ∀ o1 o2, ((w.alloc o1).alloc o2).cell? ⟨g, off + 1, none⟩ = some (.int .u8 131) := fun o1 o2 => (((Kp.refl (fun _ => False) w).alloc o1).alloc o2).cell c1 (fun h => h)
  have c2 : w.cell? ⟨g, off + 2, none⟩ = some (.int .u8 x2) := by have := hcell 2 (by (try simp); (try omega)); first | (simp [*]; done) | simpa [*] using this
  have d2 : ∀ o, (w.alloc o).cell? ⟨g, off + 2, none⟩ = some (.int .u8 x2) := fun o => ((Kp.refl (fun _ => False) w).alloc o).cell c2 (fun h => h)
  have e2 : ∀ o1 o2, ((w.alloc o1).alloc o2).cell? ⟨g, off + 2, none⟩ = some (.int .u8 x2) := fun o1 o2 => (((Kp.refl (fun _ => False) w).alloc o1).alloc o2).cell c2 (fun h => h)
  have c3 : w.cell? ⟨g, off + 3, none⟩ = some (.int .u8 x3) := by have := hcell 3 (by (try simp); (try omega)); first | (simp [*]; done) | simpa [*] using this
  have d3 : ∀ o, (w.alloc o).cell? ⟨g, off + 3, none⟩ = some (.int .u8 x3) := fun o => ((Kp.refl (fun _ => False) w).alloc o).cell c3 (fun h => h)
  have e3 : ∀ o1 o2, ((w.alloc o1).alloc o2).cell? ⟨g, off + 3, none⟩ = some (.int .u8 x3) := fun o1 o2 => (((Kp.refl (fun _ => False) w).alloc o1).alloc o2).cell c3 (fun h => h)
  have c4 : w.cell? ⟨g, off + 4, none⟩ = some (.int .u8 x4) := by have := hcell 4 (by (try simp); (try omega)); first | (simp [*]; done) | simpa [*] using this
  have d4 : ∀ o, (w.alloc o).cell? ⟨g, off + 4, none⟩ = some (.int .u8 x4) := fun o => ((Kp.refl (fun _ => False) w).alloc o).cell c4 (fun h => h)
  have e4 : ∀ o1 o2, ((w.alloc o1).alloc o2).cell? ⟨g, off + 4, none⟩ = some (.int .u8 x4) := fun o1 o2 => (((Kp.refl (fun _ => False) w).alloc o1).alloc o2).cell c4 (fun h => h)
  have hm : decide (0 < bits .and .u8 (x : Int) 32) = m := by rw [u8_bit5 x hlt]; exact hm'
  have HK : Hid (kindB (x / 64) (x % 32) m = true) := Lib.hid (by simpa [topB, hx, hm'] using htop)
  have KK : Hid (Kp (fun _ => False) w ((w.alloc (.cells #[.int .i64 0, .int .i64 0, .bool false, .int .i64 0] 85)).alloc (.cells #[.int .i64 (↑x / 64), .int .i64 (↑x % 32), .bool m, .int .i64 0] 85)).drew) := Lib.hid ((((Kp.refl _ _).alloc _).alloc _).drew)
  have KS0 : ∀ z : Int, Kp (fun _ => False) w ((w.alloc (.cells #[.int .i64 (↑x / 64), .int .i64 (↑x % 32), .bool m, .int .i64 z] 85)).alloc (.cells #[.int .i64 (↑x / 64), .int .i64 (↑x % 32), .bool m, .int .i64 z] 85)).drew := fun z => ((((Kp.refl _ _).alloc _).alloc _).drew)
  have KS := Lib.hid KS0
  clear KS0
  have KT := Lib.hid (fun z : Int => (show Kp (fun _ => False) w ((w.alloc (.cells #[.int .i64 0, .int .i64 0, .bool false, .int .i64 0] 85)).alloc (.cells #[.int .i64 (↑x / 64), .int .i64 (↑x % 32), .bool m, .int .i64 z] 85)).drew from ((((Kp.refl _ _).alloc _).alloc _).drew)))
  have hbe : be [p2, p3, p4] = y2 := by simp [be, hx2, hx3, hx4]; omega
  have htk : be ((p2 :: p3 :: p4 :: r).take 3) = y2 := by rw [show (p2 :: p3 :: p4 :: r).take 3 = [p2, p3, p4] from rfl]; exact hbe
  have hq1 := hq
  rw [hbe] at hq1
  have HR : Hid (rdV (b :: c :: p2 :: p3 :: p4 :: r) = .tuple #[hdV hd0, .int .i64 1, .int .i64 13]) := Lib.hid (by rw [rdV, rd_long (k := 3) htop hc (by omega) (by omega) (by simp) htk, if_pos hq1])
  have hmask : bits .and .u8 131 127 = 3 := by decide
  clear htk hbe hc
  clear hcell hr hv hm' hx htop
  simp only [List.length_cons] at hlc hl ⊢
  generalize r.length = n at *
  clear hq
  rcases hq1 with hq1 | hq1
  · have hd1 : (y2 : Int) < 128 := by omega
    clear hq1
    go_enter Tryd.func62, Tryd.ntmps62
    go_wp2_with fail
    go_region
    go_wp2_with fail
    refine (kind_any _ _ _ _ (htab.kp KK.out)).mono ?_
    rintro e w2 ⟨rfl, rfl⟩
    rw [if_pos HK.out]
    go_wp2_with fail
    refine wp_loop_rounds 4 ?_
    iterate 4 (rw [rounds_succ]; go_wp2_with fail)
    refine bodyPost_ret (v := .tuple #[hdV hd0, .int .i64 1, .int .i64 13]) (by simp [results, Tryd.results62, go_sem, hdV, hd0]) rfl ⟨by rw [HR.out], KT.out _⟩
  · by_cases hd1 : (y2 : Int) < 128
    · clear hq1
      go_enter Tryd.func62, Tryd.ntmps62
      go_wp2_with fail
      go_region
      go_wp2_with fail
      refine (kind_any _ _ _ _ (htab.kp KK.out)).mono ?_
      rintro e w2 ⟨rfl, rfl⟩
      rw [if_pos HK.out]
      go_wp2_with fail
      refine wp_loop_rounds 4 ?_
      iterate 4 (rw [rounds_succ]; go_wp2_with fail)
      refine bodyPost_ret (v := .tuple #[hdV hd0, .int .i64 1, .int .i64 13]) (by simp [results, Tryd.results62, go_sem, hdV, hd0]) rfl ⟨by rw [HR.out], KT.out _⟩
    · have hd2 : ((y2 : Int) / 65536 == 0) = true := by simp; omega
      clear hq1
      go_enter Tryd.func62, Tryd.ntmps62
      go_wp2_with fail
      go_region
      go_wp2_with fail
      refine (kind_any _ _ _ _ (htab.kp KK.out)).mono ?_
      rintro e w2 ⟨rfl, rfl⟩
      rw [if_pos HK.out]
      go_wp2_with fail
      refine wp_loop_rounds 4 ?_
      iterate 4 (rw [rounds_succ]; go_wp2_with fail)
      refine bodyPost_ret (v := .tuple #[hdV hd0, .int .i64 1, .int .i64 13]) (by simp [results, Tryd.results62, go_sem, hdV, hd0]) rfl ⟨by rw [HR.out], KT.out _⟩

end Go.Proofs.YtgjbfgkcbehjnaaDoor

namespace Go.Proofs.YtgjbfgkcbehjnaaDoor
open Go.RowKit

theorem read_anyB (w : World) (ok : Nat → Prop) (v : Value) (l : List UInt8) (hv : BR w ok v l) (htab : Tab w) (hl : l.length ≤ 140737488355328) :
    Calls Tryd.prog 62 #[v] w fun e w' => e = .returned (rdV l) ∧ Kp (fun _ => False) w w' := by
  match l, hv, hl with
  | [], hv, hl => exact read_nil w ok v hv
  | [b], hv, hl =>
    cases htop : topB b
    · exact read_bad w ok b [] v hv htab hl htop
    · exact read_one w ok b v hv htab hl htop
  | b :: c :: u, hv, hl =>
    cases htop : topB b
    · exact read_bad w ok b (c :: u) v hv htab hl htop
    rcases Nat.lt_or_ge c.toNat 128 with h | h
    · exact read_small w ok b c u h v hv htab hl htop
    rcases Nat.lt_or_ge 131 c.toNat with h' | h'
    · exact read_132 w ok b c u h' v hv htab hl htop
    have h4 : c.toNat = 128 ∨ c.toNat = 129 ∨ c.toNat = 130 ∨ c.toNat = 131 := by omega
    rcases h4 with h4 | h4 | h4 | h4
    · exact read_128 w ok b c u h4 v hv htab hl htop
    · match u, hv, hl with
      | [], hv, hl => exact read_short1 w ok b c _ h4 (by simp) v hv htab hl htop
      | p2 :: r, hv, hl =>
        by_cases hq : be [p2] < 128 ∨ be [p2] / 256 ^ 0 = 0
        · exact read_low1 w ok b c p2 r h4 hq v hv htab hl htop
        · exact read_ok1 w ok b c p2 r h4 (by omega) v hv htab hl htop
    · match u, hv, hl with
      | [], hv, hl => exact read_short2 w ok b c _ h4 (by simp) v hv htab hl htop
      | [p2], hv, hl => exact read_short2 w ok b c _ h4 (by simp) v hv htab hl htop
      | p2 :: p3 :: r, hv, hl =>
        by_cases hq : be [p2, p3] < 128 ∨ be [p2, p3] / 256 ^ 1 = 0
        · exact read_low2 w ok b c p2 p3 r h4 hq v hv htab hl htop
        · exact read_ok2 w ok b c p2 p3 r h4 (by omega) v hv htab hl htop
    · match u, hv, hl with
      | [], hv, hl => exact read_short3 w ok b c _ h4 (by simp) v hv htab hl htop
      | [p2], hv, hl => exact read_short3 w ok b c _ h4 (by simp) v hv htab hl htop
      | [p2, p3], hv, hl => exact read_short3 w ok b c _ h4 (by simp) v hv htab hl htop
      | p2 :: p3 :: p4 :: r, hv, hl =>
        by_cases hq : be [p2, p3, p4] < 128 ∨ be [p2, p3, p4] / 256 ^ 2 = 0
        · exact read_low3 w ok b c p2 p3 p4 r h4 hq v hv htab hl htop
        · exact read_ok3 w ok b c p2 p3 p4 r h4 (by omega) v hv htab hl htop

theorem read_any (w : World) (ok : Nat → Prop) (v : Value) (l : List UInt8) (hv : BR w ok v l) (htab : Tab w) (hl : l.length ≤ 140737488351232) :
    Calls Tryd.prog 62 #[v] w fun e w' => e = .returned (rdV l) ∧ Kp (fun _ => False) w w' := read_anyB w ok v l hv htab (by omega)

end Go.Proofs.YtgjbfgkcbehjnaaDoor

namespace Go.Proofs.YtgjbfgkcbehjnaaDoor
open Go.RowKit

/-- The tables' blocks. -/
def Gl (i : Nat) : Prop := i = 0 ∨ i = 1 ∨ i = 2
/-- All tables lie as the program's text lays them. -/
def TabN (w : World) : Prop := Tab w ∧ Tab10 w
section
variable {w w' : World} {S : Nat → Prop}
theorem TabN.kp (h : TabN w) (hk : Kp S w w') (hS : ∀ i, Gl i → ¬ S i) : TabN w' :=
  ⟨⟨fun i hi => hk.cell (h.1.1 i hi) (hS _ (.inl rfl)), fun i hi => hk.cell (h.1.2 i hi) (hS _ (.inr (.inl rfl)))⟩, fun i hi => hk.cell (h.2 i hi) (hS _ (.inr (.inr rfl)))⟩
theorem TabN.kp0 (h : TabN w) (hk : Kp (fun _ => False) w w') : TabN w' := h.kp hk (fun _ _ h => h)
theorem TabN.lt (h : TabN w) : ∀ i, Gl i → i < w.heap.size := by
  rintro i (rfl | rfl | rfl)
  · exact cell_lt (h.1.1 0 (by decide))
  · exact cell_lt (h.1.2 0 (by decide))
  · exact cell_lt (h.2 0 (by decide))
end
theorem i64N_wf {n : Int} (h : i64N n) : (Lit.int .i64 n).wf = true := WalkArith.wf_i64 ⟨h.1, by have := h.2; omega⟩
theorem i64N_small {n : Int} (h1 : 0 ≤ n) (h2 : n ≤ 1000) : i64N n := by unfold i64N; omega

/-- May a thing's own bytes be? -/
def mayB (c t : Int) (m : Bool) (b : List UInt8) : Bool := decide (c ≠ 0) || (m || decide (checkR t b = 0))
set_option maxRecDepth 100000 in
theorem may_any (ok : Nat → Prop) (c t : Int) (m : Bool) (b : List UInt8) (A1 A2 : Option Addr) (c1 n2 c2 : Nat) (w : World) (ht : i64N t) (hb : BR w ok (.slice A1 b.length c1) b) (hl : b.length ≤ 140737488351232) (tab : TabN w) :
    Calls Tryd.prog 52 #[.agg #[.int .i64 c, .int .i64 t, .bool m, .slice A1 b.length c1, .slice A2 n2 c2]] w fun e w' => e = .returned (.bool (mayB c t m b)) ∧ Kp (fun _ => False) w w' := by
  have hka : Kp (fun _ => False) w (w.alloc (.cells #[.int .i64 c, .int .i64 t, .bool m, .slice A1 b.length c1, .slice A2 n2 c2] 25)) := (Kp.refl _ _).alloc _
  have HKA := Lib.hid hka
  have HC := Lib.hid (check_any t (i64N_wf ht) ok (.slice A1 b.length c1) b _ (hb.kp hka (fun _ _ h => h)) (by omega) (tab.kp0 hka).2)
  clear hka hb tab
  by_cases h0 : c = 0
  · have h0b : (c != 0) = false := by simp [h0]
    cases m
    · obtain ⟨r, hr⟩ : ∃ r, checkR t b = r := ⟨_, rfl⟩
      have hm : mayB c t false b = (r == 0) := by rw [mayB, hr, h0]; simp [BEq.beq]
      rw [hr] at HC
      rw [hm]
      clear hm hr h0
      go_enter Tryd.func52, Tryd.ntmps52
      go_wp2_with fail
      refine HC.out.mono ?_
      rintro e w1 ⟨rfl, hk1⟩
      have HK1 := Lib.hid (HKA.out.then_ hk1 (fun _ h => h.elim))
      clear hk1
      go_wp2_with fail
      go_ret
      exact ⟨rfl, HK1.out⟩
    · have hm : mayB c t true b = true := by simp [mayB]
      rw [hm]
      clear hm h0 HC
      go_enter Tryd.func52, Tryd.ntmps52
      go_wp2_with fail
      go_ret
      exact ⟨rfl, HKA.out⟩
  · have h0b : (c != 0) = true := by simpa using h0
    have hm : mayB c t m b = true := by simp [mayB, h0]
    rw [hm]
    clear hm h0 HC
    go_enter Tryd.func52, Tryd.ntmps52
    go_wp2_with fail
    go_ret
    exact ⟨rfl, HKA.out⟩

/-- The five stores of a node. -/
abbrev put5 (W : World) (B : Nat) (u0 u1 u2 u3 u4 : Value) : World := ((((W.setCell ⟨B, 0, none⟩ u0).setCell ⟨B, 1, none⟩ u1).setCell ⟨B, 2, none⟩ u2).setCell ⟨B, 3, none⟩ u3).setCell ⟨B, 4, none⟩ u4
theorem Kp.put5 {S : Nat → Prop} {a w : World} (h : Kp S a w) {B : Nat} (hB : S B ∨ a.heap.size ≤ B) (u0 u1 u2 u3 u4 : Value) : Kp S a (put5 w B u0 u1 u2 u3 u4) :=
  ((((h.at_ B hB 0 u0).at_ B hB 1 u1).at_ B hB 2 u2).at_ B hB 3 u3).at_ B hB 4 u4
/-- A reader at a block: where it is wrong, why. -/
def RnB (w : World) (g : Nat) (a e : Int) : Prop := Blk w g 67 #[.int .i64 a, .int .i64 e]
theorem RnB.kp {w w' : World} {S : Nat → Prop} {g : Nat} {a e : Int} (h : RnB w g a e) (hk : Kp S w w') (hg : ¬ S g) : RnB w' g a e := Blk.kp h hk hg
set_option maxRecDepth 100000 in
theorem failN_any (g : Nat) (a0 e0 a e : Int) (w : World) (h : RnB w g a0 e0) :
    Calls Tryd.prog 61 #[.pointer (some ⟨g, 0, none⟩), .int .i64 a, .int .i64 e] w fun x w' => x = .returned (.agg #[.int .i64 0, .int .i64 0, .bool false, .slice none 0 0, .slice none 0 0]) ∧ RnB w' g a e ∧ Kp (· = g) w w' := by
  have hlt := Blk.lt h
  have hka : Kp (fun _ => False) w (w.alloc (.cells #[.int .i64 0, .int .i64 0, .bool false, .slice none 0 0, .slice none 0 0] 25)) := (Kp.refl _ _).alloc _
  have HKA := Lib.hid hka
  have h1 := h.kp hka (fun h => h)
  have hb := Blk.new w 25 #[.int .i64 0, .int .i64 0, .bool false, .slice none 0 0, .slice none 0 0]
  have hf0 := Blk.frozen h1 0
  have hf1 := Blk.frozen h1 1
  have hc0 := Blk.cell h1 0
  have hc1 := Blk.cell h1 1
  have hk2 : Kp (· = g) (w.alloc (.cells #[.int .i64 0, .int .i64 0, .bool false, .slice none 0 0, .slice none 0 0] 25)) (((w.alloc (.cells #[.int .i64 0, .int .i64 0, .bool false, .slice none 0 0, .slice none 0 0] 25)).setCell ⟨g, 0, none⟩ (.int .i64 a)).setCell ⟨g, 1, none⟩ (.int .i64 e)) := ((Kp.refl (· = g) _).setCell (p := ⟨g, 0, none⟩) (.inl rfl) _).setCell (p := ⟨g, 1, none⟩) (.inl rfl) _
  have HK2 := Lib.hid hk2
  have HR2 := Lib.hid (show RnB (((w.alloc (.cells #[.int .i64 0, .int .i64 0, .bool false, .slice none 0 0, .slice none 0 0] 25)).setCell ⟨g, 0, none⟩ (.int .i64 a)).setCell ⟨g, 1, none⟩ (.int .i64 e)) g a e from (Blk.set_ h1 0 _).set_ 1 _)
  have HB := Lib.hid hb
  simp at hc0 hc1
  clear h h1 hka hb hk2
  go_enter Tryd.func61, Tryd.ntmps61
  go_upto_region 1 with fail
  generalize w.alloc (.cells #[.int .i64 0, .int .i64 0, .bool false, .slice none 0 0, .slice none 0 0] 25) = W at HKA HK2 HR2 HB hf0 hf1 hc0 hc1 ⊢
  go_upto_region 2 with fail
  generalize (W.setCell ⟨g, 0, none⟩ (.int .i64 a)).setCell ⟨g, 1, none⟩ (.int .i64 e) = W2 at HK2 HR2 ⊢
  have HB2 := Lib.hid (HB.out.kp HK2.out (by omega))
  have z0 := HB2.out.frozen 0
  have z1 := HB2.out.frozen 1
  have z2 := HB2.out.frozen 2
  have z3 := HB2.out.frozen 3
  have z4 := HB2.out.frozen 4
  have y0 := HB2.out.cell 0
  have y1 := HB2.out.cell 1
  have y2 := HB2.out.cell 2
  have y3 := HB2.out.cell 3
  have y4 := HB2.out.cell 4
  simp at y0 y1 y2 y3 y4
  clear hf0 hf1 hc0 hc1
  go_wp2_with fail
  have hq : Kp (· = w.heap.size) W2 (put5 W2 w.heap.size (.int .i64 0) (.int .i64 0) (.bool false) (.slice none 0 0) (.slice none 0 0)) := (Kp.refl (fun i => i = w.heap.size) W2).put5 (B := w.heap.size) (.inl rfl) _ _ _ _ _
  refine bodyPost_ret (v := .agg #[.int .i64 0, .int .i64 0, .bool false, .slice none 0 0, .slice none 0 0]) (by simp [results, Tryd.results61, go_sem, y0, y1, y2, y3, y4]) rfl ⟨rfl, HR2.out.kp hq (by omega), ?_⟩
  exact ((HKA.out.mono (fun _ _ h => h.elim)).then_ HK2.out (fun i hi => .inl hi)).then_ hq (fun i hi => .inr (by omega))
/-- 'b[K:K+N]' of bytes: the value, told once. -/
theorem slice_cutN {W : World} {ok : Nat → Prop} {A : Option Addr} {cp K N : Nat} {b : List UInt8} (hb : BR W ok (.slice A b.length cp) b) (h : K + N ≤ b.length) :
    ∃ A' d, (∀ W', (Instr.slice 22 (.slice A b.length cp) (some (.int .i64 (K : Int))) (some (.int .i64 ((K : Int) + (N : Int)))) none).run Tryd.prog W' = .ok (.slice A' N d) W') ∧ N ≤ d ∧ BR W ok (.slice A' N d) ((b.drop K).take N) := by
  obtain ⟨A9, c9, e9, h9, hr9⟩ := hb
  injection e9 with e9 _ e10
  subst e9 e10
  have hs : ∀ W' : World, (sizeOf (Tryd.prog.elem 22)).run Tryd.prog W' = .ok 1 W' := fun W' => by kernel_rfl
  refine ⟨if cp = K then A else A.map (·.add K), cp - K, fun W' => ?_, by omega, ?_⟩
  · rw [run_slice_lh W' 22 A b.length cp (by kernel_rfl) _ _ _ _ (by omega) (by omega) (by omega), hs]
    simp only [Result.andThen, sliced]
    rw [show ((K : Int) + (N : Int)).toNat - (K : Int).toNat = N by omega, show (K : Int).toNat = K by omega, Nat.mul_one]
  · have h1 := hr9.cut (k := K) (by omega) h9
    rw [Nat.mul_one, bc_drop] at h1
    have h2 := h1.take (k := N) (by omega)
    rw [Nat.mul_one, bc_take] at h2
    have hl : ((b.drop K).take N).length = N := by rw [List.length_take, List.length_drop]; omega
    exact ⟨_, _, by rw [hl], by omega, by rw [hl]; exact h2⟩
/-- What a reading leaves. -/
def EndN (ok : Nat → Prop) (rg cg : Nat) (b : List UInt8) (a : Int) (W : World) (x : Nd) : RnT → Prop
  | .bad o er => RnB W rg (a + o) er ∧ er ≠ 0
  | .got y r => x = y ∧ RnB W rg 0 0 ∧ Cur W ok cg r (a + (b.length - r.length : Nat))
def S2n (rg cg : Nat) : Nat → Prop := fun i => i = rg ∨ i = cg
def OneP (ok : Nat → Prop) (rg cg : Nat) (b : List UInt8) (a : Int) (w : World) (R : RnT) (e : Ending) (w' : World) : Prop :=
  ∃ v x, e = .returned v ∧ NdR w' (w.heap.size ≤ ·) v x ∧ Kp (S2n rg cg) w w' ∧ EndN ok rg cg b a w' x R
theorem NdR.shape {w : World} {ok : Nat → Prop} {v : Value} {x : Nd} (h : NdR w ok v x) : ∃ A1 c1 A2 c2, v = .agg #[.int .i64 x.a.c, .int .i64 x.a.t, .bool x.a.m, .slice A1 x.a.b.length c1, .slice A2 x.l.length c2] ∧ TR NHd 5 w ok x [.int .i64 x.a.c, .int .i64 x.a.t, .bool x.a.m, .slice A1 x.a.b.length c1, .slice A2 x.l.length c2] := by
  obtain ⟨bv, sv, rfl, h0, h1, ⟨A1, c1, rfl, h2⟩, h3, ⟨A2, c2, rfl, h4, h5, h6⟩⟩ := h
  exact ⟨A1, c1, A2, c2, rfl, (TR_def _ _ _ _ _ _).2 ⟨[.int .i64 x.a.c, .int .i64 x.a.t, .bool x.a.m, .slice A1 x.a.b.length c1], A2, c2, rfl, rfl, ⟨_, rfl, h0, h1, ⟨A1, c1, rfl, h2⟩, h3⟩, h4, h5, h6⟩⟩
theorem NdR.leaf {w : World} {ok : Nat → Prop} {c t : Int} {m : Bool} {v : Value} {b : List UInt8} (hc : i64N c) (ht : i64N t) (hb : BR w ok v b) (hl : b.length ≤ 140737488351232) : NdR w ok (.agg #[.int .i64 c, .int .i64 t, .bool m, v, .slice none 0 0]) (.mk ⟨c, t, m, b⟩ []) :=
  ⟨v, _, rfl, hc, ht, hb, hl, NsR.nil⟩
theorem i64N_0 : i64N 0 := by unfold i64N; omega
theorem NdR.zero {w : World} {ok : Nat → Prop} : NdR w ok (.agg #[.int .i64 0, .int .i64 0, .bool false, .slice none 0 0, .slice none 0 0]) (.mk ⟨0, 0, false, []⟩ []) := NdR.leaf i64N_0 i64N_0 BR.nil (by simp)
/-- What lies where: the reader, the cursor, and what is read of. -/
structure EnvN (ok : Nat → Prop) (rg cg : Nat) (b : List UInt8) (a : Int) (w : World) : Prop where
  hor : ¬ ok rg
  hoc : ¬ ok cg
  hrc : rg ≠ cg
  hrl : rg < w.heap.size
  hcl : cg < w.heap.size
  hokl : ∀ i, ok i → i < w.heap.size
  hog : ∀ i, Gl i → ok i
  hl : b.length ≤ 1000000000
  ha : 0 ≤ a
  hal : a + b.length ≤ 4611686018427387904
section
variable {ok : Nat → Prop} {rg cg : Nat} {b : List UInt8} {a : Int} {w : World}
theorem EnvN.ok_S (E : EnvN ok rg cg b a w) : ∀ i, ok i → ¬ S2n rg cg i := by
  rintro i hi (rfl | rfl)
  · exact E.hor hi
  · exact E.hoc hi
theorem EnvN.new_S (E : EnvN ok rg cg b a w) : ∀ i, w.heap.size ≤ i → ¬ S2n rg cg i := by
  rintro i hi (rfl | rfl)
  · have := E.hrl; omega
  · have := E.hcl; omega
theorem EnvN.gl_S (E : EnvN ok rg cg b a w) : ∀ i, Gl i → ¬ S2n rg cg i := fun i hi => E.ok_S i (E.hog i hi)
end
theorem one_fin {ok okn : Nat → Prop} {rg cg : Nat} {b : List UInt8} {a : Int} {w W : World} {R : RnT} {u0 u1 u2 u3 u4 : Value} {x : Nd} {B : Nat} (hK : Kp (S2n rg cg) w W) (hB : w.heap.size ≤ B) (hv : NdR W okn (.agg #[u0, u1, u2, u3, u4]) x)
    (hokn : ∀ i, okn i → w.heap.size ≤ i ∧ i ≠ B) (hrg : rg ≠ B) (hcg : cg ≠ B) (hok : ∀ i, ok i → i ≠ B) (hR : EndN ok rg cg b a W x R) :
    OneP ok rg cg b a w R (.returned (.agg #[u0, u1, u2, u3, u4])) (put5 W B u0 u1 u2 u3 u4) := by
  have hq : Kp (fun i => i = B) W (put5 W B u0 u1 u2 u3 u4) := (Kp.refl (fun i => i = B) W).put5 (B := B) (.inl rfl) _ _ _ _ _
  refine ⟨_, x, rfl, (hv.kp hq (fun i hi he => (hokn i hi).2 he)).mono (fun i hi => (hokn i hi).1), hK.then_ hq (fun i hi => .inr (by omega)), ?_⟩
  cases R with
  | bad o er => exact ⟨hR.1.kp hq hrg, hR.2⟩
  | got y r => exact ⟨hR.1, hR.2.1.kp hq hrg, hR.2.2.kp hq (fun i hi he => hok i hi he) hcg⟩
/-- The contract of the reader at a depth. -/
def OneC (ok : Nat → Prop) (rg k : Nat) : Prop :=
  ∀ (cg : Nat) (b : List UInt8) (a : Int) (v : Value) (w : World), EnvN ok rg cg b a w → BR w ok v b → RnB w rg 0 0 → Cur w ok cg b a → TabN w →
    Calls Tryd.prog 37 #[.pointer (some ⟨rg, 0, none⟩), .pointer (some ⟨cg, 0, none⟩), v, .int .i64 (9 - (k : Int))] w (OneP ok rg cg b a w (oneN k b))
end Go.Proofs.YtgjbfgkcbehjnaaDoor

namespace Go.Proofs.YtgjbfgkcbehjnaaDoor
open Go.RowKit

theorem rdV_ofN {l : List UInt8} {c t : Int} {m : Bool} {n k e : Int} (h : rd l = ((c, t, m, n), k, e)) : rdV l = .tuple #[.agg #[.int .i64 c, .int .i64 t, .bool m, .int .i64 n], .int .i64 k, .int .i64 e] := by rw [rdV, h]; rfl
set_option maxRecDepth 100000 in
set_option maxHeartbeats 3200000 in
theorem one_deep (ok : Nat → Prop) (rg cg : Nat) (b : List UInt8) (a : Int) (v : Value) (w : World) (dv : Int) (hdv : 8 < dv ∧ dv ≤ 100) (E : EnvN ok rg cg b a w) (hb : BR w ok v b) (hr : RnB w rg 0 0) (hc : Cur w ok cg b a) (tab : TabN w) :
    Calls Tryd.prog 37 #[.pointer (some ⟨rg, 0, none⟩), .pointer (some ⟨cg, 0, none⟩), v, .int .i64 dv] w (OneP ok rg cg b a w (oneN 0 b)) := by
  obtain ⟨hd1, hd2⟩ := hdv
  have ka : Kp (fun _ => False) w (w.alloc (.cells #[.int .i64 0, .int .i64 0, .bool false, .slice none 0 0, .slice none 0 0] 25)) := (Kp.refl _ _).alloc _
  have hblk := Blk.new w 25 #[.int .i64 0, .int .i64 0, .bool false, .slice none 0 0, .slice none 0 0]
  have hb0 := hb.kp ka (fun _ _ h => h)
  have hr0 := hr.kp ka (fun h => h)
  have hc0 := hc.kp ka (fun _ _ h => h) (fun h => h)
  have ht0 := tab.kp0 ka
  have hz0 : (w.alloc (.cells #[.int .i64 0, .int .i64 0, .bool false, .slice none 0 0, .slice none 0 0] 25)).heap.size = w.heap.size + 1 := by rw [World.size_alloc]
  obtain ⟨A, cp, rfl, hcp, _⟩ := id hb
  have HE := Lib.hid E
  have HKA := Lib.hid ka
  have HBK := Lib.hid hblk
  have HB0 := Lib.hid hb0
  have HR0 := Lib.hid hr0
  have HC0 := Lib.hid hc0
  have HT0 := Lib.hid ht0
  have hrl := E.hrl
  have hcl := E.hcl
  have hbl := E.hl
  have ha0 := E.ha
  have hal := E.hal
  clear ka hblk hb hr hc tab hb0 hr0 hc0 ht0 E
  go_enter Tryd.func37, Tryd.ntmps37
  go_upto_region 2 with fail
  generalize w.alloc (.cells #[.int .i64 0, .int .i64 0, .bool false, .slice none 0 0, .slice none 0 0] 25) = W0 at HKA HBK HB0 HR0 HC0 HT0 hz0 ⊢
  have HAT := Lib.hid (at_any ok cg b a W0 HC0.out)
  have HF := Lib.hid (failN_any rg 0 0 a 14 W0 HR0.out)
  go_wp2_with (first | (go_at_call 39; refine HAT.out.mono ?_; rintro e w2 ⟨rfl, rfl⟩) | (go_at_call 61; refine HF.out.mono ?_; rintro e w2 ⟨rfl, hr2, hk2⟩; have hb2 := HBK.out.kp hk2 (by omega); have y0 := hb2.cell 0; have y1 := hb2.cell 1; have y2 := hb2.cell 2; have y3 := hb2.cell 3; have y4 := hb2.cell 4; have z0 := hb2.frozen 0; have z1 := hb2.frozen 1; have z2 := hb2.frozen 2; have z3 := hb2.frozen 3; have z4 := hb2.frozen 4; simp at y0 y1 y2 y3 y4; have HR2 := Lib.hid hr2; have HK2 := Lib.hid hk2; clear hb2 hr2 hk2))
  refine bodyPost_ret (v := .agg #[.int .i64 0, .int .i64 0, .bool false, .slice none 0 0, .slice none 0 0]) (by simp [results, Tryd.results37, go_sem, y0, y1, y2, y3, y4]) rfl ?_
  refine one_fin (okn := fun _ => False) ((HKA.out.mono (fun _ _ h => h.elim)).then_ HK2.out (fun i hi => .inl (.inl hi))) (Nat.le_refl _) NdR.zero (fun i hi => hi.elim) (by omega) (by omega) (fun i hi => by have := HE.out.hokl i hi; omega) ?_
  rw [oneN_zero]
  exact ⟨by simpa using HR2.out, by decide⟩

set_option maxRecDepth 100000 in
set_option maxHeartbeats 3200000 in
theorem one_err (ok : Nat → Prop) (rg cg k : Nat) (b : List UInt8) (a : Int) (v : Value) (w : World) (dv : Int) (hdv : 0 ≤ dv ∧ dv ≤ 8) (c t : Int) (m : Bool) (n kk er : Int) (hq : rd b = ((c, t, m, n), kk, er)) (he : er ≠ 0) (E : EnvN ok rg cg b a w) (hb : BR w ok v b) (hr : RnB w rg 0 0) (hc : Cur w ok cg b a) (tab : TabN w) :
    Calls Tryd.prog 37 #[.pointer (some ⟨rg, 0, none⟩), .pointer (some ⟨cg, 0, none⟩), v, .int .i64 dv] w (OneP ok rg cg b a w (oneN (k + 1) b)) := by
  obtain ⟨hd1, hd2⟩ := hdv
  obtain ⟨rfl, rfl, rfl, rfl, h0, h1⟩ := rd_fail hq he
  have HR := Lib.hid (oneN_fail (k := k) hq he)
  have hne : (er != 0) = true := by simpa using he
  have HE2 := Lib.hid he
  clear he
  have ka : Kp (fun _ => False) w (w.alloc (.cells #[.int .i64 0, .int .i64 0, .bool false, .slice none 0 0, .slice none 0 0] 25)) := (Kp.refl _ _).alloc _
  have hblk := Blk.new w 25 #[.int .i64 0, .int .i64 0, .bool false, .slice none 0 0, .slice none 0 0]
  have hb0 := hb.kp ka (fun _ _ h => h)
  have hr0 := hr.kp ka (fun h => h)
  have hc0 := hc.kp ka (fun _ _ h => h) (fun h => h)
  have ht0 := tab.kp0 ka
  have hz0 : (w.alloc (.cells #[.int .i64 0, .int .i64 0, .bool false, .slice none 0 0, .slice none 0 0] 25)).heap.size = w.heap.size + 1 := by rw [World.size_alloc]
  obtain ⟨A, cp, rfl, hcp, _⟩ := id hb
  have HE := Lib.hid E
  have HKA := Lib.hid ka
  have HBK := Lib.hid hblk
  have HB0 := Lib.hid hb0
  have HR0 := Lib.hid hr0
  have HC0 := Lib.hid hc0
  have HT0 := Lib.hid ht0
  have hrl := E.hrl
  have hcl := E.hcl
  have hbl := E.hl
  have ha0 := E.ha
  have hal := E.hal
  clear ka hblk hb hr hc tab hb0 hr0 hc0 ht0 E
  go_enter Tryd.func37, Tryd.ntmps37
  go_upto_region 3 with fail
  generalize w.alloc (.cells #[.int .i64 0, .int .i64 0, .bool false, .slice none 0 0, .slice none 0 0] 25) = W0 at HKA HBK HB0 HR0 HC0 HT0 hz0 ⊢
  have hrd := read_any W0 ok (.slice A b.length cp) b HB0.out HT0.out.1 (by omega)
  rw [rdV_ofN hq] at hrd
  have HRD := Lib.hid hrd
  clear hrd hq
  go_upto_region 4 with (go_at_call 62; refine HRD.out.mono ?_; rintro e w1 ⟨rfl, hk1⟩; have HK1' := Lib.hid hk1; clear hk1)
  have k1 : Kp (fun _ => False) W0 (w1.alloc (.cells #[.int .i64 0, .int .i64 0, .bool false, .int .i64 0] 85)) := HK1'.out.alloc _
  have HBH := Lib.hid (Blk.new w1 85 #[.int .i64 0, .int .i64 0, .bool false, .int .i64 0])
  have hz1 : w.heap.size + 1 ≤ w1.heap.size := by have := HK1'.out.size; omega
  have hz1' : (w1.alloc (.cells #[.int .i64 0, .int .i64 0, .bool false, .int .i64 0] 85)).heap.size = w1.heap.size + 1 := by rw [World.size_alloc]
  have HK1 := Lib.hid k1
  have HBK1 := Lib.hid (HBK.out.kp k1 (fun h => h))
  have HB1 := Lib.hid (HB0.out.kp k1 (fun _ _ h => h))
  have HR1 := Lib.hid (HR0.out.kp k1 (fun h => h))
  have HC1 := Lib.hid (HC0.out.kp k1 (fun _ _ h => h) (fun h => h))
  have HT1 := Lib.hid (HT0.out.kp0 k1)
  clear k1 HK1' HRD HBK HB0 HR0 HC0 HT0
  generalize w1.alloc (.cells #[.int .i64 0, .int .i64 0, .bool false, .int .i64 0] 85) = W1 at HBH HK1 HBK1 HB1 HR1 HC1 HT1 hz1' ⊢
  generalize w1.heap.size = bh at HBH hz1 hz1' ⊢
  have HAT := Lib.hid (at_any ok cg b a W1 HC1.out)
  have HF := Lib.hid (failN_any rg 0 0 (a + kk) er W1 HR1.out)
  go_wp2_with (first | (go_at_call 39; refine HAT.out.mono ?_; rintro e w2 ⟨rfl, rfl⟩) | (go_at_call 61; refine HF.out.mono ?_; rintro e w2 ⟨rfl, hr2, hk2⟩; have hb2 := HBK1.out.kp hk2 (by omega); have y0 := hb2.cell 0; have y1 := hb2.cell 1; have y2 := hb2.cell 2; have y3 := hb2.cell 3; have y4 := hb2.cell 4; have z0 := hb2.frozen 0; have z1 := hb2.frozen 1; have z2 := hb2.frozen 2; have z3 := hb2.frozen 3; have z4 := hb2.frozen 4; simp at y0 y1 y2 y3 y4; have HR2 := Lib.hid hr2; have HK2 := Lib.hid hk2; clear hb2 hr2 hk2))
  refine bodyPost_ret (v := .agg #[.int .i64 0, .int .i64 0, .bool false, .slice none 0 0, .slice none 0 0]) (by simp [results, Tryd.results37, go_sem, y0, y1, y2, y3, y4]) rfl ?_
  refine one_fin (okn := fun _ => False) (((HKA.out.then_ HK1.out (fun _ h => h.elim)).mono (fun _ _ h => h.elim)).then_ HK2.out (fun i hi => .inl (.inl hi))) (Nat.le_refl _) NdR.zero (fun i hi => hi.elim) (by omega) (by omega) (fun i hi => by have := HE.out.hokl i hi; omega) ?_
  rw [HR.out]
  refine ⟨?_, HE2.out⟩
  rw [show a + (kk.toNat : Int) = a + kk by omega]
  exact HR2.out

set_option maxRecDepth 100000 in
set_option maxHeartbeats 3200000 in
theorem one_short (ok : Nat → Prop) (rg cg k : Nat) (b : List UInt8) (a : Int) (v : Value) (w : World) (dv : Int) (hdv : 0 ≤ dv ∧ dv ≤ 8) (c t : Int) (m : Bool) (N K : Nat) (hq : rd b = ((c, t, m, (N : Int)), (K : Int), 0)) (hK : K ≤ b.length) (hN : N ≤ 16777215) (hs : b.length - K < N) (E : EnvN ok rg cg b a w) (hb : BR w ok v b) (hr : RnB w rg 0 0) (hc : Cur w ok cg b a) (tab : TabN w) :
    Calls Tryd.prog 37 #[.pointer (some ⟨rg, 0, none⟩), .pointer (some ⟨cg, 0, none⟩), v, .int .i64 dv] w (OneP ok rg cg b a w (oneN (k + 1) b)) := by
  obtain ⟨hd1, hd2⟩ := hdv
  have HR := Lib.hid (oneN_good (k := k) hq)
  rw [bodyN, if_pos hs] at HR
  have ka : Kp (fun _ => False) w (w.alloc (.cells #[.int .i64 0, .int .i64 0, .bool false, .slice none 0 0, .slice none 0 0] 25)) := (Kp.refl _ _).alloc _
  have hblk := Blk.new w 25 #[.int .i64 0, .int .i64 0, .bool false, .slice none 0 0, .slice none 0 0]
  have hb0 := hb.kp ka (fun _ _ h => h)
  have hr0 := hr.kp ka (fun h => h)
  have hc0 := hc.kp ka (fun _ _ h => h) (fun h => h)
  have ht0 := tab.kp0 ka
  have hz0 : (w.alloc (.cells #[.int .i64 0, .int .i64 0, .bool false, .slice none 0 0, .slice none 0 0] 25)).heap.size = w.heap.size + 1 := by rw [World.size_alloc]
  obtain ⟨A, cp, rfl, hcp, _⟩ := id hb
  have HE := Lib.hid E
  have HKA := Lib.hid ka
  have HBK := Lib.hid hblk
  have HB0 := Lib.hid hb0
  have HR0 := Lib.hid hr0
  have HC0 := Lib.hid hc0
  have HT0 := Lib.hid ht0
  have hrl := E.hrl
  have hcl := E.hcl
  have hbl := E.hl
  have ha0 := E.ha
  have hal := E.hal
  clear ka hblk hb hr hc tab hb0 hr0 hc0 ht0 E
  go_enter Tryd.func37, Tryd.ntmps37
  go_upto_region 3 with fail
  generalize w.alloc (.cells #[.int .i64 0, .int .i64 0, .bool false, .slice none 0 0, .slice none 0 0] 25) = W0 at HKA HBK HB0 HR0 HC0 HT0 hz0 ⊢
  have hrd := read_any W0 ok (.slice A b.length cp) b HB0.out HT0.out.1 (by omega)
  rw [rdV_ofN hq] at hrd
  have HRD := Lib.hid hrd
  clear hrd hq
  go_upto_region 4 with (go_at_call 62; refine HRD.out.mono ?_; rintro e w1 ⟨rfl, hk1⟩; have HK1' := Lib.hid hk1; clear hk1)
  have k1 : Kp (fun _ => False) W0 (w1.alloc (.cells #[.int .i64 c, .int .i64 t, .bool m, .int .i64 (N : Int)] 85)) := HK1'.out.alloc _
  have HBH := Lib.hid (Blk.new w1 85 #[.int .i64 c, .int .i64 t, .bool m, .int .i64 (N : Int)])
  have hz1 : w.heap.size + 1 ≤ w1.heap.size := by have := HK1'.out.size; omega
  have hz1' : (w1.alloc (.cells #[.int .i64 c, .int .i64 t, .bool m, .int .i64 (N : Int)] 85)).heap.size = w1.heap.size + 1 := by rw [World.size_alloc]
  have HK1 := Lib.hid k1
  have HBK1 := Lib.hid (HBK.out.kp k1 (fun h => h))
  have HB1 := Lib.hid (HB0.out.kp k1 (fun _ _ h => h))
  have HR1 := Lib.hid (HR0.out.kp k1 (fun h => h))
  have HC1 := Lib.hid (HC0.out.kp k1 (fun _ _ h => h) (fun h => h))
  have HT1 := Lib.hid (HT0.out.kp0 k1)
  clear k1 HK1' HRD HBK HB0 HR0 HC0 HT0
  generalize w1.alloc (.cells #[.int .i64 c, .int .i64 t, .bool m, .int .i64 (N : Int)] 85) = W1 at HBH HK1 HBK1 HB1 HR1 HC1 HT1 hz1' ⊢
  generalize w1.heap.size = bh at HBH hz1 hz1' ⊢
  have hnx : nx b (K : Int) = (b.take K, 0) := by rw [nx_ok (by omega) (by omega)]; simp
  have htk : (b.take K).length = K := by rw [List.length_take]; omega
  have hdl : (b.drop K).length = b.length - K := by rw [List.length_drop]
  have HTK := Lib.hid (take_any ok cg b a (K : Int) W1 HC1.out HE.out.hoc (by omega) (by omega) (by omega))
  go_upto_region 7 with (go_at_call 63; refine HTK.out.mono ?_; rintro e w2 ⟨vt, rfl, hvt, hc2, hk2⟩)
  clear hvt HTK
  rw [hnx] at hc2
  simp only [htk] at hc2
  have HK2 := Lib.hid (show Kp (S2n rg cg) w w2 from ((HKA.out.then_ HK1.out (fun _ h => h.elim)).mono (fun _ _ h => h.elim)).then_ hk2 (fun i hi => .inl (.inr hi)))
  have HBK2 := Lib.hid (HBK1.out.kp hk2 (by omega))
  have HB2 := Lib.hid (HB1.out.kp hk2 (fun i hi he => HE.out.hoc (he ▸ hi)))
  have HR2 := Lib.hid (HR1.out.kp hk2 HE.out.hrc)
  have HC2 := Lib.hid hc2
  have HT2 := Lib.hid (HT1.out.kp hk2 (fun i hi he => HE.out.hoc (he ▸ HE.out.hog i hi)))
  have HBH2 := Lib.hid (HBH.out.kp hk2 (by omega))
  have hz2 : bh + 1 ≤ w2.heap.size := by have := hk2.size; omega
  clear hc2 hk2 HK1 HKA HBK1 HB1 HR1 HC1 HT1 HBH hz1' hnx
  have x0 := HBH2.out.cell 0
  have x1 := HBH2.out.cell 1
  have x2 := HBH2.out.cell 2
  have x3 := HBH2.out.cell 3
  simp at x0 x1 x2 x3
  have HS := Lib.hid (sub_err ok cg (b.drop K) (a + K) (N : Int) w2 HC2.out HE.out.hoc (by omega) (by omega) (by omega) (.inr (by omega)))
  have hnx2 : nx (b.drop K) (N : Int) = ([], 4) := nx_short (by omega) (by omega)
  go_upto_region 9 with (go_at_call 64; refine HS.out.mono ?_; rintro e w3 ⟨he3, hc3, hk3⟩; rw [hnx2] at he3; subst he3)
  have HK3 := Lib.hid (HK2.out.then_ hk3 (fun i hi => .inl (.inr hi)))
  have HBK1 := Lib.hid (HBK2.out.kp hk3 (by omega))
  have HR3 := Lib.hid (HR2.out.kp hk3 HE.out.hrc)
  have HED := Lib.hid (end_any ok cg (b.drop K) (a + K) w3 hc3 (by omega) (by omega))
  rw [show a + (K : Int) + ((b.drop K).length : Int) = a + (b.length : Int) by omega] at HED
  have HF := Lib.hid (failN_any rg 0 0 (a + b.length) 4 w3 HR3.out)
  clear hc3 hk3 HS hnx2 HK2 HBK2 HB2 HR2 HC2 HT2 HBH2 x0 x1 x2 x3
  go_wp2_with (first | (go_at_call 65; refine HED.out.mono ?_; rintro e w2 ⟨rfl, rfl⟩) | (go_at_call 61; refine HF.out.mono ?_; rintro e w4 ⟨rfl, hr4, hk4⟩; have hb4 := HBK1.out.kp hk4 (by omega); have y0 := hb4.cell 0; have y1 := hb4.cell 1; have y2 := hb4.cell 2; have y3 := hb4.cell 3; have y4 := hb4.cell 4; have z0 := hb4.frozen 0; have z1 := hb4.frozen 1; have z2 := hb4.frozen 2; have z3 := hb4.frozen 3; have z4 := hb4.frozen 4; simp at y0 y1 y2 y3 y4; have HR4 := Lib.hid hr4; have HK4 := Lib.hid hk4; clear hb4 hr4 hk4))
  refine bodyPost_ret (v := .agg #[.int .i64 0, .int .i64 0, .bool false, .slice none 0 0, .slice none 0 0]) (by simp [results, Tryd.results37, go_sem, y0, y1, y2, y3, y4]) rfl ?_
  refine one_fin (okn := fun _ => False) (HK3.out.then_ HK4.out (fun i hi => .inl (.inl hi))) (Nat.le_refl _) NdR.zero (fun i hi => hi.elim) (by omega) (by omega) (fun i hi => by have := HE.out.hokl i hi; omega) ?_
  rw [HR.out]
  exact ⟨HR4.out, by decide⟩

set_option maxRecDepth 100000 in
set_option maxHeartbeats 3200000 in
theorem one_leaf (ok : Nat → Prop) (rg cg k : Nat) (b : List UInt8) (a : Int) (v : Value) (w : World) (dv : Int) (hdv : 0 ≤ dv ∧ dv ≤ 8) (c t : Int) (N K : Nat) (hq : rd b = ((c, t, false, (N : Int)), (K : Int), 0)) (hct : i64N c ∧ i64N t) (hK : K ≤ b.length) (hN : N ≤ 16777215) (hs : ¬ b.length - K < N) (E : EnvN ok rg cg b a w) (hb : BR w ok v b) (hr : RnB w rg 0 0) (hc : Cur w ok cg b a) (tab : TabN w) :
    Calls Tryd.prog 37 #[.pointer (some ⟨rg, 0, none⟩), .pointer (some ⟨cg, 0, none⟩), v, .int .i64 dv] w (OneP ok rg cg b a w (oneN (k + 1) b)) := by
  obtain ⟨hd1, hd2⟩ := hdv
  have HCT := Lib.hid hct
  have HR := Lib.hid (oneN_good (k := k) hq)
  rw [bodyN, if_neg hs, if_neg (by decide)] at HR
  have ka : Kp (fun _ => False) w (w.alloc (.cells #[.int .i64 0, .int .i64 0, .bool false, .slice none 0 0, .slice none 0 0] 25)) := (Kp.refl _ _).alloc _
  have hblk := Blk.new w 25 #[.int .i64 0, .int .i64 0, .bool false, .slice none 0 0, .slice none 0 0]
  have hb0 := hb.kp ka (fun _ _ h => h)
  have hr0 := hr.kp ka (fun h => h)
  have hc0 := hc.kp ka (fun _ _ h => h) (fun h => h)
  have ht0 := tab.kp0 ka
  have hz0 : (w.alloc (.cells #[.int .i64 0, .int .i64 0, .bool false, .slice none 0 0, .slice none 0 0] 25)).heap.size = w.heap.size + 1 := by rw [World.size_alloc]
  obtain ⟨A, cp, rfl, hcp, _⟩ := id hb
  have HE := Lib.hid E
  have HKA := Lib.hid ka
  have HBK := Lib.hid hblk
  have HB0 := Lib.hid hb0
  have HR0 := Lib.hid hr0
  have HC0 := Lib.hid hc0
  have HT0 := Lib.hid ht0
  have hrl := E.hrl
  have hcl := E.hcl
  have hbl := E.hl
  have ha0 := E.ha
  have hal := E.hal
  clear ka hblk hb hr hc tab hb0 hr0 hc0 ht0 E
  go_enter Tryd.func37, Tryd.ntmps37
  go_upto_region 3 with fail
  generalize w.alloc (.cells #[.int .i64 0, .int .i64 0, .bool false, .slice none 0 0, .slice none 0 0] 25) = W0 at HKA HBK HB0 HR0 HC0 HT0 hz0 ⊢
  have hrd := read_any W0 ok (.slice A b.length cp) b HB0.out HT0.out.1 (by omega)
  rw [rdV_ofN hq] at hrd
  have HRD := Lib.hid hrd
  clear hrd hq
  go_upto_region 4 with (go_at_call 62; refine HRD.out.mono ?_; rintro e w1 ⟨rfl, hk1⟩; have HK1' := Lib.hid hk1; clear hk1)
  have k1 : Kp (fun _ => False) W0 (w1.alloc (.cells #[.int .i64 c, .int .i64 t, .bool false, .int .i64 (N : Int)] 85)) := HK1'.out.alloc _
  have HBH := Lib.hid (Blk.new w1 85 #[.int .i64 c, .int .i64 t, .bool false, .int .i64 (N : Int)])
  have hz1 : w.heap.size + 1 ≤ w1.heap.size := by have := HK1'.out.size; omega
  have hz1' : (w1.alloc (.cells #[.int .i64 c, .int .i64 t, .bool false, .int .i64 (N : Int)] 85)).heap.size = w1.heap.size + 1 := by rw [World.size_alloc]
  have HK1 := Lib.hid k1
  have HBK1 := Lib.hid (HBK.out.kp k1 (fun h => h))
  have HB1 := Lib.hid (HB0.out.kp k1 (fun _ _ h => h))
  have HR1 := Lib.hid (HR0.out.kp k1 (fun h => h))
  have HC1 := Lib.hid (HC0.out.kp k1 (fun _ _ h => h) (fun h => h))
  have HT1 := Lib.hid (HT0.out.kp0 k1)
  clear k1 HK1' HRD HBK HB0 HR0 HC0 HT0
  generalize w1.alloc (.cells #[.int .i64 c, .int .i64 t, .bool false, .int .i64 (N : Int)] 85) = W1 at HBH HK1 HBK1 HB1 HR1 HC1 HT1 hz1' ⊢
  generalize w1.heap.size = bh at HBH hz1 hz1' ⊢
  have hnx : nx b (K : Int) = (b.take K, 0) := by rw [nx_ok (by omega) (by omega)]; simp
  have htk : (b.take K).length = K := by rw [List.length_take]; omega
  have hdl : (b.drop K).length = b.length - K := by rw [List.length_drop]
  have HTK := Lib.hid (take_any ok cg b a (K : Int) W1 HC1.out HE.out.hoc (by omega) (by omega) (by omega))
  go_upto_region 7 with (go_at_call 63; refine HTK.out.mono ?_; rintro e w2 ⟨vt, rfl, hvt, hc2, hk2⟩)
  clear hvt HTK
  rw [hnx] at hc2
  simp only [htk] at hc2
  have HK2 := Lib.hid (show Kp (S2n rg cg) w w2 from ((HKA.out.then_ HK1.out (fun _ h => h.elim)).mono (fun _ _ h => h.elim)).then_ hk2 (fun i hi => .inl (.inr hi)))
  have HBK2 := Lib.hid (HBK1.out.kp hk2 (by omega))
  have HB2 := Lib.hid (HB1.out.kp hk2 (fun i hi he => HE.out.hoc (he ▸ hi)))
  have HR2 := Lib.hid (HR1.out.kp hk2 HE.out.hrc)
  have HC2 := Lib.hid hc2
  have HT2 := Lib.hid (HT1.out.kp hk2 (fun i hi he => HE.out.hoc (he ▸ HE.out.hog i hi)))
  have HBH2 := Lib.hid (HBH.out.kp hk2 (by omega))
  have hz2 : bh + 1 ≤ w2.heap.size := by have := hk2.size; omega
  clear hc2 hk2 HK1 HKA HBK1 HB1 HR1 HC1 HT1 HBH hz1' hnx
  have x0 := HBH2.out.cell 0
  have x1 := HBH2.out.cell 1
  have x2 := HBH2.out.cell 2
  have x3 := HBH2.out.cell 3
  simp at x0 x1 x2 x3
  have HS := Lib.hid (sub_ok ok cg (b.drop K) (a + K) N w2 HC2.out HE.out.hoc (by omega) (by omega) (by omega) (by omega))
  go_upto_region 8 with (go_at_call 64; refine HS.out.mono ?_; rintro e w3 ⟨gs, rfl, hgs, hs3, hc3, hk3⟩)
  have HK3 := Lib.hid (HK2.out.then_ hk3 (fun i hi => .inl (.inr hi)))
  have HBK3 := Lib.hid (HBK2.out.kp hk3 (by omega))
  have HB3 := Lib.hid (HB2.out.kp hk3 (fun i hi he => HE.out.hoc (he ▸ hi)))
  have HR3 := Lib.hid (HR2.out.kp hk3 HE.out.hrc)
  have HC3 := Lib.hid hc3
  have HG3 := Lib.hid hs3
  have HT3 := Lib.hid (HT2.out.kp hk3 (fun i hi he => HE.out.hoc (he ▸ HE.out.hog i hi)))
  have HBH3 := Lib.hid (HBH2.out.kp hk3 (by omega))
  have hz3 : w2.heap.size ≤ w3.heap.size := hk3.size
  have hgl := hs3.lt
  clear hc3 hs3 hk3 HS HK2 HBK2 HB2 HR2 HC2 HT2 HBH2 x0 x1 x2 x3
  have x0 := HBH3.out.cell 0
  have x1 := HBH3.out.cell 1
  have x2 := HBH3.out.cell 2
  have x3 := HBH3.out.cell 3
  simp at x0 x1 x2 x3
  go_upto_region 11 with fail
  have k4 : Kp (fun _ => False) w3 (w3.alloc (.cells #[.int .i64 c, .int .i64 t, .bool false, .slice none 0 0, .slice none 0 0] 25)) := (Kp.refl _ _).alloc _
  have HBX := Lib.hid (Blk.new w3 25 #[.int .i64 c, .int .i64 t, .bool false, .slice none 0 0, .slice none 0 0])
  have hz4 : (w3.alloc (.cells #[.int .i64 c, .int .i64 t, .bool false, .slice none 0 0, .slice none 0 0] 25)).heap.size = w3.heap.size + 1 := by rw [World.size_alloc]
  have HK4 := Lib.hid (HK3.out.then_ k4 (fun _ h => h.elim))
  have HBK4 := Lib.hid (HBK3.out.kp k4 (fun h => h))
  have HB4 := Lib.hid (HB3.out.kp k4 (fun _ _ h => h))
  have HR4 := Lib.hid (HR3.out.kp k4 (fun h => h))
  have HC4 := Lib.hid (HC3.out.kp k4 (fun _ _ h => h) (fun h => h))
  have HG4 := Lib.hid (HG3.out.kp k4 (fun _ _ h => h) (fun h => h))
  have HT4 := Lib.hid (HT3.out.kp0 k4)
  have HBH4 := Lib.hid (HBH3.out.kp k4 (fun h => h))
  clear k4 HK3 HBK3 HB3 HR3 HC3 HG3 HT3 HBH3 x0 x1 x2 x3
  generalize w3.alloc (.cells #[.int .i64 c, .int .i64 t, .bool false, .slice none 0 0, .slice none 0 0] 25) = W4 at HBX hz4 HK4 HBK4 HB4 HR4 HC4 HG4 HT4 HBH4 ⊢
  generalize w3.heap.size = bx at HBX hz3 hz4 hgl ⊢
  have x2 := HBH4.out.cell 2
  have x3 := HBH4.out.cell 3
  simp at x2 x3
  obtain ⟨A', dc, hsl, hNd, hown⟩ := slice_cutN (K := K) (N := N) HB4.out (by omega)
  have HO4 := Lib.hid hown
  clear HB4 hown
  have hol : ((b.drop K).take N).length = N := by rw [List.length_take]; omega
  have hmb : mayB c t false ((b.drop K).take N) = !decide (c = 0 ∧ checkR t ((b.drop K).take N) ≠ 0) := by
    rw [mayB]
    by_cases h1 : c = 0 <;> by_cases h2 : checkR t ((b.drop K).take N) = 0 <;> simp [h1, h2]
  have HBD := Lib.hid (show b.length - (b.drop (K + N)).length = K + N by rw [List.length_drop]; omega)
  have hdd : (b.drop K).drop N = b.drop (K + N) := by rw [List.drop_drop]
  rw [hdd] at HC4
  clear hdd
  generalize b.drop (K + N) = rest at HR HC4 HBD
  generalize (b.drop K).take N = own at HR HG4 HO4 hol hmb
  subst hol
  have HCL := Lib.hid (clone_any ok (.slice A' own.length dc) own W4 HO4.out (by omega))
  clear HO4
  go_upto_region 13 with fail
  go_upto_region 14 with (go_at_call 53; refine HCL.out.mono ?_; rintro e w5 ⟨A5, c5, rfl, ho5, hk5⟩; have hbx := HBX.out.kp hk5 (fun h => h); have f3 := hbx.frozen 3; have g3 := hbx.cell 3; simp at g3; have HO5 := Lib.hid ho5; have HK5 := Lib.hid hk5; have HX5 := Lib.hid hbx; clear ho5 hk5 hbx)
  have k6 : Kp (· = bx) w5 (w5.setCell ⟨bx, 3, none⟩ (.slice A5 own.length c5)) := (Kp.refl (· = bx) w5).setCell (p := ⟨bx, 3, none⟩) (.inl rfl) _
  have HBX6 := Lib.hid (show Blk (w5.setCell ⟨bx, 3, none⟩ (.slice A5 own.length c5)) bx 25 #[.int .i64 c, .int .i64 t, .bool false, .slice A5 own.length c5, .slice none 0 0] from by
    have := HX5.out.set_ 3 (.slice A5 own.length c5)
    simpa using this)
  have hz5 : bx + 1 ≤ w5.heap.size := by have := HK5.out.size; omega
  have HK6 := Lib.hid ((HK4.out.then_ HK5.out (fun _ h => h.elim)).then_ k6 (fun i hi => .inr (by omega)))
  have HBK6 := Lib.hid ((HBK4.out.kp HK5.out (fun h => h)).kp k6 (by omega))
  have HR6 := Lib.hid ((HR4.out.kp HK5.out (fun h => h)).kp k6 (by omega))
  have HC6 := Lib.hid ((HC4.out.kp HK5.out (fun _ _ h => h) (fun h => h)).kp k6 (fun i hi he => by have := HE.out.hokl i hi; omega) (by omega))
  have HG6 := Lib.hid ((HG4.out.kp HK5.out (fun _ _ h => h) (fun h => h)).kp k6 (fun i hi he => by have := HE.out.hokl i hi; omega) (by omega))
  have HT6 := Lib.hid ((HT4.out.kp0 HK5.out).kp k6 (fun i hi he => by have := HE.out.hokl i (HE.out.hog i hi); omega))
  have HV6 := Lib.hid (show BR (w5.setCell ⟨bx, 3, none⟩ (.slice A5 own.length c5)) (W4.heap.size ≤ ·) (.slice A5 own.length c5) own from (HO5.out.br rfl).kp k6 (fun i hi he => by omega))
  clear k6 HK4 HBK4 HR4 HC4 HG4 HT4 HO5 HX5 HBX f3 g3 HCL
  generalize w5.setCell ⟨bx, 3, none⟩ (.slice A5 own.length c5) = W6 at HBX6 HK6 HBK6 HR6 HC6 HG6 HT6 HV6 ⊢
  have g0 := HBX6.out.cell 0
  have g1 := HBX6.out.cell 1
  have g2 := HBX6.out.cell 2
  have g3 := HBX6.out.cell 3
  have g4 := HBX6.out.cell 4
  simp at g0 g1 g2 g3 g4
  have HM := Lib.hid (may_any (W4.heap.size ≤ ·) c t false own A5 none c5 0 0 W6 HCT.out.2 HV6.out (by omega) HT6.out)
  have HQ := Lib.hid (show ∀ W, Kp (fun _ => False) W6 W → Kp (S2n rg cg) w W ∧ Blk W w.heap.size 25 #[.int .i64 0, .int .i64 0, .bool false, .slice none 0 0, .slice none 0 0] ∧ RnB W rg 0 0 ∧ Cur W ok cg rest (a + K + own.length) ∧ Cur W ok gs own (a + K) ∧ Blk W bx 25 #[.int .i64 c, .int .i64 t, .bool false, .slice A5 own.length c5, .slice none 0 0] ∧ BR W (W4.heap.size ≤ ·) (.slice A5 own.length c5) own from
    fun W hk => ⟨HK6.out.then_ hk (fun _ h => h.elim), HBK6.out.kp hk (fun h => h), HR6.out.kp hk (fun h => h), HC6.out.kp hk (fun _ _ h => h) (fun h => h), HG6.out.kp hk (fun _ _ h => h) (fun h => h), HBX6.out.kp hk (fun h => h), HV6.out.kp hk (fun _ _ h => h)⟩)
  by_cases hck : c = 0 ∧ checkR t own ≠ 0
  · rw [if_pos hck] at HR
    rw [decide_eq_true hck] at hmb
    rw [hmb] at HM
    clear hck hmb HK6 HBK6 HR6 HC6 HG6 HT6 HV6 HBX6
    go_upto_region 15 with (go_at_call 52; refine HM.out.mono ?_; rintro e w7 ⟨rfl, hk7⟩; have HK7 := Lib.hid hk7; clear hk7)
    obtain ⟨q1, q2, q3, q4, q5, _, _⟩ := HQ.out _ HK7.out
    have HK8 := Lib.hid q1
    have HBK1 := Lib.hid q2
    have HAT := Lib.hid (at_any ok gs own (a + K) w7 q5)
    have HF := Lib.hid (failN_any rg 0 0 (a + K) 13 w7 q3)
    clear q1 q2 q3 q4 q5 HQ HM g0 g1 g2 g3 g4
    go_wp2_with (first | (go_at_call 39; refine HAT.out.mono ?_; rintro e w2 ⟨rfl, rfl⟩) | (go_at_call 61; refine HF.out.mono ?_; rintro e w9 ⟨rfl, hr9, hk9⟩; have hb9 := HBK1.out.kp hk9 (by omega); have y0 := hb9.cell 0; have y1 := hb9.cell 1; have y2 := hb9.cell 2; have y3 := hb9.cell 3; have y4 := hb9.cell 4; have z0 := hb9.frozen 0; have z1 := hb9.frozen 1; have z2 := hb9.frozen 2; have z3 := hb9.frozen 3; have z4 := hb9.frozen 4; simp at y0 y1 y2 y3 y4; have HR9 := Lib.hid hr9; have HK9 := Lib.hid hk9; clear hb9 hr9 hk9))
    refine bodyPost_ret (v := .agg #[.int .i64 0, .int .i64 0, .bool false, .slice none 0 0, .slice none 0 0]) (by simp [results, Tryd.results37, go_sem, y0, y1, y2, y3, y4]) rfl ?_
    refine one_fin (okn := fun _ => False) (HK8.out.then_ HK9.out (fun i hi => .inl (.inl hi))) (Nat.le_refl _) NdR.zero (fun i hi => hi.elim) (by omega) (by omega) (fun i hi => by have := HE.out.hokl i hi; omega) ?_
    rw [HR.out]
    exact ⟨HR9.out, by decide⟩
  · rw [if_neg hck] at HR
    rw [decide_eq_false hck] at hmb
    rw [hmb] at HM
    clear hck hmb HK6 HBK6 HR6 HC6 HG6 HT6 HV6 HBX6
    go_upto_region 16 with (go_at_call 52; refine HM.out.mono ?_; rintro e w7 ⟨rfl, hk7⟩; have HK7 := Lib.hid hk7; clear hk7)
    obtain ⟨q1, q2, q3, q4, q5, q6, q7⟩ := HQ.out _ HK7.out
    have HK8 := Lib.hid q1
    have HR8 := Lib.hid q3
    have HC8 := Lib.hid q4
    have HV8 := Lib.hid q7
    have y0 := q2.cell 0
    have y1 := q2.cell 1
    have y2 := q2.cell 2
    have y3 := q2.cell 3
    have y4 := q2.cell 4
    have z0 := q2.frozen 0
    have z1 := q2.frozen 1
    have z2 := q2.frozen 2
    have z3 := q2.frozen 3
    have z4 := q2.frozen 4
    have p0 := q6.cell 0
    have p1 := q6.cell 1
    have p2 := q6.cell 2
    have p3 := q6.cell 3
    have p4 := q6.cell 4
    simp at y0 y1 y2 y3 y4 p0 p1 p2 p3 p4
    clear q1 q2 q3 q4 q5 q6 q7 HQ HM g0 g1 g2 g3 g4
    go_wp2_with fail
    refine bodyPost_ret (v := .agg #[.int .i64 c, .int .i64 t, .bool false, .slice A5 own.length c5, .slice none 0 0]) (by simp [results, Tryd.results37, go_sem, y0, y1, y2, y3, y4]) rfl ?_
    refine one_fin (okn := (W4.heap.size ≤ ·)) HK8.out (Nat.le_refl _) (NdR.leaf HCT.out.1 HCT.out.2 HV8.out (by omega)) (fun i hi => by omega) (by omega) (by omega) (fun i hi => by have := HE.out.hokl i hi; omega) ?_
    rw [HR.out]
    refine ⟨rfl, HR8.out, ?_⟩
    rw [HBD.out, show a + ((K + own.length : Nat) : Int) = a + (K : Int) + (own.length : Int) by omega]
    exact HC8.out
end Go.Proofs.YtgjbfgkcbehjnaaDoor

namespace Go.Proofs.YtgjbfgkcbehjnaaDoor
open Go.RowKit

section
variable {α : Type}
/-- Cells that read as a list of trees, one behind the other. -/
def TRl (H : Head α) (n : Nat) (w : World) (ok : Nat → Prop) : List (RT α) → List Value → Prop
  | [], xs => xs = []
  | t :: l, xs => ∃ cs rest, xs = cs ++ rest ∧ cs.length = n ∧ (∀ u ∈ cs, u.oneCell' = true) ∧ TR H n w ok t cs ∧ TRl H n w ok l rest
theorem TRl.len {H : Head α} {n : Nat} {w : World} {ok : Nat → Prop} : ∀ {l : List (RT α)} {xs : List Value}, TRl H n w ok l xs → xs.length = l.length * n
  | [], xs, h => by rw [TRl] at h; simp [h]
  | t :: l, xs, h => by
    rw [TRl] at h
    obtain ⟨cs, rest, rfl, h1, _, _, h2⟩ := h
    rw [List.length_append, h1, TRl.len h2, List.length_cons, Nat.succ_mul]
    omega
theorem TRl.one {H : Head α} {n : Nat} {w : World} {ok : Nat → Prop} : ∀ {l : List (RT α)} {xs : List Value}, TRl H n w ok l xs → ∀ u ∈ xs, u.oneCell' = true
  | [], xs, h => by rw [TRl] at h; simp [h]
  | t :: l, xs, h => by
    rw [TRl] at h
    obtain ⟨cs, rest, rfl, _, h1, _, h2⟩ := h
    intro u hu
    rcases List.mem_append.1 hu with hu | hu
    · exact h1 u hu
    · exact TRl.one h2 u hu
theorem TRl.kp_ {H : Head α} (hH : HeadKp H) {n : Nat} {w w' : World} {ok ok' S : Nat → Prop} (hk : Kp S w w') (hd : ∀ i, ok i → ¬ S i) (hm : ∀ i, ok i → ok' i) : ∀ {l : List (RT α)} {xs : List Value}, TRl H n w ok l xs → TRl H n w' ok' l xs
  | [], xs, h => by rw [TRl] at h ⊢; exact h
  | t :: l, xs, h => by
    rw [TRl] at h ⊢
    obtain ⟨cs, rest, rfl, h1, h2, h3, h4⟩ := h
    exact ⟨cs, rest, rfl, h1, h2, TR.kp_ hH hk hd hm t cs h3, TRl.kp_ hH hk hd hm h4⟩
theorem TRl.snoc {H : Head α} {n : Nat} {w : World} {ok : Nat → Prop} {t : RT α} {cs : List Value} (hc : cs.length = n) (h1 : ∀ u ∈ cs, u.oneCell' = true) (ht : TR H n w ok t cs) : ∀ {l : List (RT α)} {xs : List Value}, TRl H n w ok l xs → TRl H n w ok (l ++ [t]) (xs ++ cs)
  | [], xs, h => by
    rw [TRl] at h
    subst h
    rw [List.nil_append, List.nil_append, TRl]
    exact ⟨cs, [], by simp, hc, h1, ht, by rw [TRl]⟩
  | t' :: l, xs, h => by
    rw [TRl] at h
    obtain ⟨cs', rest, rfl, g1, g2, g3, g4⟩ := h
    rw [List.cons_append, TRl]
    exact ⟨cs', rest ++ cs, by rw [List.append_assoc], g1, g2, g3, TRl.snoc hc h1 ht g4⟩
theorem TRl.trs {H : Head α} {n : Nat} {w : World} {ok : Nat → Prop} : ∀ {l : List (RT α)} {xs : List Value} {b off : Nat}, TRl H n w ok l xs → (∀ j u, xs[j]? = some u → w.cell? ⟨b, off + j, none⟩ = some u) → TRs H n w ok l b off
  | [], _, _, _, _, _ => by rw [TRs]; trivial
  | t :: l, xs, b, off, h, hc => by
    rw [TRl] at h
    obtain ⟨cs, rest, rfl, g1, g2, g3, g4⟩ := h
    rw [TRs]
    refine ⟨⟨cs, g3, fun j u hu => hc j u ?_⟩, TRl.trs g4 (fun j u hu => ?_)⟩
    · rw [List.getElem?_append_left (List.getElem?_eq_some_iff.1 hu).1]
      exact hu
    · have := hc (n + j) u (by rw [List.getElem?_append_right (by omega), ← hu, g1]; congr 1; omega)
      rw [show off + (n + j) = off + n + j from by omega] at this
      exact this
/-- Where such cells lie, a slice reads as the list. -/
theorem TRl.tl {H : Head α} {n : Nat} {w : World} {ok : Nat → Prop} {l : List (RT α)} {xs : List Value} {A : Option Addr} (h : TRl H n w ok l xs) (hr : Rd w ok n A l.length xs) : TL H n w ok l A := by
  intro h0
  obtain ⟨⟨b, off, sp⟩, rfl, hsp, hb, hc⟩ := hr.2 h0
  obtain rfl : sp = none := hsp
  exact ⟨b, off, rfl, hb, h.trs (fun j u hu => by rw [← add_spot]; exact hc j u hu)⟩
/-- A row of the call's own that reads as these trees: what they lead to lies elsewhere. -/
def OwnT (H : Head α) (n : Nat) (e : TypeId) (w : World) (ok : Nat → Prop) (v : Value) (l : List (RT α)) : Prop := ∃ xs, Own w ok e n v l.length xs ∧ TRl H n w (fun i => ok i ∧ v.ownBlock ≠ some i) l xs
theorem OwnT.nil {H : Head α} {n : Nat} {e : TypeId} {w : World} {ok : Nat → Prop} : OwnT H n e w ok (.slice none 0 0) [] := ⟨[], Own.nil, by rw [TRl]⟩
theorem OwnT.kp_ {H : Head α} (hH : HeadKp H) {n : Nat} {e : TypeId} {w w' : World} {ok S : Nat → Prop} {v : Value} {l : List (RT α)} (h : OwnT H n e w ok v l) (hk : Kp S w w') (hd : ∀ i, ok i → ¬ S i) : OwnT H n e w' ok v l := by
  obtain ⟨xs, h1, h2⟩ := h
  exact ⟨xs, h1.kp hk hd, h2.kp_ hH hk (fun i hi => hd i hi.1) (fun _ h => h)⟩
theorem OwnT.tl {H : Head α} (hH : HeadKp H) {n : Nat} {e : TypeId} {w : World} {ok : Nat → Prop} {A : Option Addr} {c : Nat} {l : List (RT α)} (h : OwnT H n e w ok (.slice A l.length c) l) : l.length ≤ c ∧ TL H n w ok l A := by
  obtain ⟨xs, h1, h2⟩ := h
  obtain ⟨A', c', e', hc⟩ := h1.shape
  injection e' with e1 e2 e3
  subst e1 e3
  exact ⟨hc, (h2.kp_ hH (Kp.refl (fun _ => False) w) (fun _ _ h => h) (ok' := ok) (fun i hi => hi.1)).tl h1.rd⟩
theorem OwnT.shape {H : Head α} {n : Nat} {e : TypeId} {w : World} {ok : Nat → Prop} {v : Value} {l : List (RT α)} (h : OwnT H n e w ok v l) : ∃ A c, v = .slice A l.length c ∧ l.length ≤ c := by
  obtain ⟨xs, h1, h2⟩ := h
  exact h1.shape
theorem OwnT.lt {H : Head α} {n : Nat} {e : TypeId} {w : World} {ok : Nat → Prop} {v : Value} {l : List (RT α)} (h : OwnT H n e w ok v l) {i : Nat} (hi : v.ownBlock = some i) : i < w.heap.size := by
  obtain ⟨xs, h1, h2⟩ := h
  exact h1.lt i hi
end
/-- append of one tree that was laid as a slice of its own, at a step of a region. -/
theorem wp_push {α : Type} {H : Head α} (hH : HeadKp H) (hL : HeadLt H) {P : Program} {w : World} {o : Oper} {a : Act} {K : Act → World → Prop} {Q : Exit → Act → World → Prop} (s x : Operand) (t : TypeId)
    (ho : o.op = .call { callee := .builtin .append, args := #[s, x], argTypes := #[t, t] }) (e : TypeId) (i : TypeInfo) (z : Value) (size bytes : Nat) (ht : P.underlying t = some (.slice e)) (hi : P.info? e = some i) (hz : i.zero = some z)
    (hsize : i.size = size) (hby : i.bytes = bytes) (hzs : z.cells.size = size) (hsz : 0 < size)
    (ok okt : Nat → Prop) (v : Value) (l : List (RT α)) (hs : a.eval s = v) (hown : OwnT H size e w ok v l) (Bx cx : Nat) (hx : a.eval x = .slice (some ⟨Bx, 0, none⟩) 1 cx) (cs : List Value) (hcs : cs.length = size) (hb : Blk w Bx e cs.toArray) (y : RT α) (hy : TR H size w okt y cs) (h1 : ∀ u ∈ cs, u.oneCell' = true)
    (hokt : ∀ i, okt i → ok i ∧ v.ownBlock ≠ some i) (hnew : ∀ i, w.heap.size ≤ i → ok i) (hn : l.length + 1 ≤ 4398046511104) (hby2 : (l.length + 1) * bytes ≤ 140737488355328)
    (h : ∀ v' w', OwnT H size e w' ok v' (l ++ [y]) → Kp (fun i => v.ownBlock = some i) w w' → (v'.ownBlock = v.ownBlock ∨ v'.ownBlock = some w.heap.size) → K (a.put o.dst v') w') : o.wp P a w K Q := by
  obtain ⟨xs, ho1, ho2⟩ := hown
  have hr : Rd w (fun j => j = Bx) size (some ⟨Bx, 0, none⟩) 1 cs := ⟨by omega, fun _ => ⟨_, rfl, rfl, rfl, fun j u hu => by
    rw [add_spot, Nat.zero_add, hb.cell]
    simpa using hu⟩⟩
  refine wp_append_any w s x t ho 0 e i z size bytes ht hi hz hsize hby hzs hsz v l.length xs hs ho1.1 _ (some ⟨Bx, 0, none⟩) 1 cx cs hx hr h1 (by simp only [maxLen]; omega) hby2 (Nat.zero_le _) ?_
  intro v' w' g1 g2 g3
  have hk : Kp (fun j => v.ownBlock = some j) w w' := (Kp.refl _ w).grown g2 (fun j hj => .inl hj)
  have hlt := ho1.lt
  refine h v' w' ⟨xs ++ cs, ⟨by rw [List.length_append, List.length_singleton]; exact g1, fun j hj => ?_⟩, ?_⟩ hk g3
  · rcases g3 with e1 | e1
    · exact ho1.2 j (e1 ▸ hj)
    · rw [e1] at hj
      injection hj with hj
      exact hnew j (by omega)
  · have hb' : ∀ j, (ok j ∧ v.ownBlock ≠ some j) ∧ j < w.heap.size → ok j ∧ v'.ownBlock ≠ some j := by
      intro j hj
      refine ⟨hj.1.1, fun he => ?_⟩
      rcases g3 with e1 | e1
      · exact hj.1.2 (e1 ▸ he)
      · rw [e1] at he
        injection he with he
        omega
    refine TRl.snoc hcs h1 ?_ ?_
    · exact TR.kp_ hH hk (fun j hj => (hokt j hj.1).2) (fun j hj => hb' j ⟨hokt j hj.1, hj.2⟩) y cs (TR.lt_ hL y cs hy)
    · have hlist : ∀ {l : List (RT α)} {xs : List Value}, TRl H size w (fun j => ok j ∧ v.ownBlock ≠ some j) l xs → TRl H size w (fun j => (ok j ∧ v.ownBlock ≠ some j) ∧ j < w.heap.size) l xs := by
        intro l
        induction l with
        | nil => intro xs h; rw [TRl] at h ⊢; exact h
        | cons t l ih =>
          intro xs h
          rw [TRl] at h ⊢
          obtain ⟨cs, rest, rfl, g1, g2, g3, g4⟩ := h
          exact ⟨cs, rest, rfl, g1, g2, TR.lt_ hL t cs g3, ih g4⟩
      exact (hlist ho2).kp_ hH hk (fun j hj => hj.1.2) hb'
theorem wpList_push {α : Type} {H : Head α} (hH : HeadKp H) (hL : HeadLt H) {P : Program} {w : World} {ops : Array Oper} {rest : List Oper} {o : Oper} {a : Act} {Q : Exit → Act → World → Prop} (hgd : o.guard = none) (s x : Operand) (t : TypeId)
    (ho : o.op = .call { callee := .builtin .append, args := #[s, x], argTypes := #[t, t] }) (e : TypeId) (i : TypeInfo) (z : Value) (size bytes : Nat) (ht : P.underlying t = some (.slice e)) (hi : P.info? e = some i) (hz : i.zero = some z)
    (hsize : i.size = size) (hby : i.bytes = bytes) (hzs : z.cells.size = size) (hsz : 0 < size)
    (ok okt : Nat → Prop) (v : Value) (l : List (RT α)) (hs : a.eval s = v) (hown : OwnT H size e w ok v l) (Bx cx : Nat) (hx : a.eval x = .slice (some ⟨Bx, 0, none⟩) 1 cx) (cs : List Value) (hcs : cs.length = size) (hb : Blk w Bx e cs.toArray) (y : RT α) (hy : TR H size w okt y cs) (h1 : ∀ u ∈ cs, u.oneCell' = true)
    (hokt : ∀ i, okt i → ok i ∧ v.ownBlock ≠ some i) (hnew : ∀ i, w.heap.size ≤ i → ok i) (hn : l.length + 1 ≤ 4398046511104) (hby2 : (l.length + 1) * bytes ≤ 140737488355328)
    (h : ∀ v' w', OwnT H size e w' ok v' (l ++ [y]) → Kp (fun i => v.ownBlock = some i) w w' → (v'.ownBlock = v.ownBlock ∨ v'.ownBlock = some w.heap.size) → wpList P ops Q rest (a.put o.dst v') w') : wpList P ops Q (o :: rest) a w := by
  exact wpList_plain hgd fun _ hK => wp_push hH hL s x t ho e i z size bytes ht hi hz hsize hby hzs hsz ok okt v l hs hown Bx cx hx cs hcs hb y hy h1 hokt hnew hn hby2 fun v' w' g1 g2 g3 => hK _ _ (h v' w' g1 g2 g3)
/-- The same in a region that draws. -/
theorem step_push {α : Type} {H : Head α} (hH : HeadKp H) (hL : HeadLt H) {P : Program} {w : World} {ops : Array Oper} {K : Act → World → Prop} {E : Prop} {o : Oper} {a : Act} {Q : Exit → Act → World → Prop} (hgd : o.guard = none) (s x : Operand) (t : TypeId)
    (ho : o.op = .call { callee := .builtin .append, args := #[s, x], argTypes := #[t, t] }) (e : TypeId) (i : TypeInfo) (z : Value) (size bytes : Nat) (ht : P.underlying t = some (.slice e)) (hi : P.info? e = some i) (hz : i.zero = some z)
    (hsize : i.size = size) (hby : i.bytes = bytes) (hzs : z.cells.size = size) (hsz : 0 < size)
    (ok okt : Nat → Prop) (v : Value) (l : List (RT α)) (hs : a.eval s = v) (hown : OwnT H size e w ok v l) (Bx cx : Nat) (hx : a.eval x = .slice (some ⟨Bx, 0, none⟩) 1 cx) (cs : List Value) (hcs : cs.length = size) (hb : Blk w Bx e cs.toArray) (y : RT α) (hy : TR H size w okt y cs) (h1 : ∀ u ∈ cs, u.oneCell' = true)
    (hokt : ∀ i, okt i → ok i ∧ v.ownBlock ≠ some i) (hnew : ∀ i, w.heap.size ≤ i → ok i) (hn : l.length + 1 ≤ 4398046511104) (hby2 : (l.length + 1) * bytes ≤ 140737488355328)
    (h : ∀ v' w', OwnT H size e w' ok v' (l ++ [y]) → Kp (fun i => v.ownBlock = some i) w w' → (v'.ownBlock = v.ownBlock ∨ v'.ownBlock = some w.heap.size) → K (a.put o.dst v') w') : if Region.wanted o (yielded ops a.tmps) = true then Oper.wp P o a w K Q else E := by
  have hw : Region.wanted o (yielded ops a.tmps) = true := by simp [Region.wanted, hgd]
  rw [if_pos hw]
  exact wp_push hH hL s x t ho e i z size bytes ht hi hz hsize hby hzs hsz ok okt v l hs hown Bx cx hx cs hcs hb y hy h1 hokt hnew hn hby2 h
end Go.Proofs.YtgjbfgkcbehjnaaDoor

namespace Go.Proofs.YtgjbfgkcbehjnaaDoor
open Go.RowKit

theorem BR.lt_ {w : World} {ok : Nat → Prop} {v : Value} {l : List UInt8} (h : BR w ok v l) : BR w (fun i => ok i ∧ i < w.heap.size) v l := by
  obtain ⟨A, c, e, hc, hl, hr⟩ := h
  refine ⟨A, c, e, hc, hl, fun h0 => ?_⟩
  obtain ⟨ad, e1, hsp, hb, hcell⟩ := hr h0
  refine ⟨ad, e1, hsp, ⟨hb, ?_⟩, hcell⟩
  have h1 : (bc l)[0]? = some ((bc l)[0]'(by rw [bc_length]; omega)) := List.getElem?_eq_getElem _
  have := cell_lt (hcell 0 _ h1)
  rwa [block_add] at this
theorem NHd_lt : HeadLt NHd := ⟨fun ⟨v, e, h0, h1, h2, h3⟩ => ⟨v, e, h0, h1, h2.lt_, h3⟩⟩
theorem node_info : (Tryd.prog.info? 25).map (fun i => (i.zero, i.size, i.bytes)) = some (some (.agg #[.int .i64 0, .int .i64 0, .bool false, .slice none 0 0, .slice none 0 0]), 5, 72) := by kernel_rfl
/-- 'b[q:]' of bytes: the value, told once. -/
theorem slice_fromN {W : World} {ok : Nat → Prop} {A : Option Addr} {cp N : Nat} {own : List UInt8} (hN : own.length = N) (hb : BR W ok (.slice A N cp) own) {q : Nat} (h : q ≤ N) :
    ∃ A' d, (∀ W', (Instr.slice 22 (.slice A N cp) (some (.int .i64 (q : Int))) none none).run Tryd.prog W' = .ok (.slice A' (N - q) d) W') ∧ BR W ok (.slice A' (N - q) d) (own.drop q) := by
  subst hN
  obtain ⟨A9, c9, e9, h9, hr9⟩ := hb
  injection e9 with e9 _ e10
  subst e9 e10
  have hs : ∀ W' : World, (sizeOf (Tryd.prog.elem 22)).run Tryd.prog W' = .ok 1 W' := fun W' => by kernel_rfl
  refine ⟨if cp = q then A else A.map (·.add q), cp - q, fun W' => ?_, ?_⟩
  · rw [run_slice_l W' 22 A own.length cp (by kernel_rfl) _ _ (by omega) (by omega), hs]
    simp only [Result.andThen, sliced]
    rw [show (q : Int).toNat = q by omega, Nat.mul_one]
  · have h1 := hr9.cut (k := q) (by omega) h9
    rw [Nat.mul_one, bc_drop] at h1
    have hl : (own.drop q).length = own.length - q := by rw [List.length_drop]
    exact ⟨_, _, by rw [hl], by rw [hl]; omega, by rw [hl]; exact h1⟩
/-- The loop: what holds at each round. 'gs': the cursor of its own; 'bx': the thing. -/
def MadeI (ok : Nat → Prop) (rg cg gs bx : Nat) (c t : Int) (f : List UInt8 → RnT) (KN : Nat) (vo : Value) (own rest : List UInt8) (a : Int) (R : RnT) (w : World) (gh : Nat) (wr : World) : Prop :=
  ∃ (acc : List Nd) (v : Value), BR wr ok vo own ∧ acc.length ≤ own.length ∧ Kp (S2n rg cg) w wr ∧ Blk wr w.heap.size 25 #[.int .i64 0, .int .i64 0, .bool false, .slice none 0 0, .slice none 0 0] ∧ Blk wr bx 25 #[.int .i64 c, .int .i64 t, .bool true, .slice none 0 0, v] ∧ OwnT NHd 5 25 wr (bx + 1 ≤ ·) v acc ∧ bx + 1 ≤ wr.heap.size ∧ Cur wr ok cg rest (a + KN) ∧ TabN wr ∧
    ((∃ (b' : List UInt8) (d fuel : Nat), gh = b'.length + 1 ∧ b'.length ≤ fuel ∧ iterN f fuel b' d acc = R ∧ d + b'.length = KN ∧ acc.length + b'.length ≤ own.length ∧ b' = own.drop (own.length - b'.length) ∧ RnB wr rg 0 0 ∧ Cur wr ok gs b' (a + d)) ∨
     (gh = 0 ∧ ∃ o er, R = .bad o er ∧ er ≠ 0 ∧ RnB wr rg (a + o) er))

/-- One thing more. -/
theorem made_next {ok : Nat → Prop} {rg cg gs bx k : Nat} {c t : Int} {KN : Nat} {vo : Value} {own rest : List UInt8} {a : Int} {R : RnT} {w wr : World} {acc : List Nd} {v : Value} {b' : List UInt8} {d fuel : Nat}
    (h0 : b'.length ≠ 0) (hfu : b'.length ≤ fuel) (E : EnvN ok rg gs b' (a + d) wr) (hcg : cg < w.heap.size) (hrc : rg ≠ cg) (hrw : rg < w.heap.size) (hokl : ∀ i, ok i → i < w.heap.size) (hog : ∀ i, Gl i → ok i) (hgs : w.heap.size < gs) (hgb : gs < bx)
    (hk : Kp (S2n rg cg) w wr) (hb1 : Blk wr w.heap.size 25 #[.int .i64 0, .int .i64 0, .bool false, .slice none 0 0, .slice none 0 0]) (hbv : Blk wr bx 25 #[.int .i64 c, .int .i64 t, .bool true, .slice none 0 0, v]) (ho : OwnT NHd 5 25 wr (bx + 1 ≤ ·) v acc) (hz : bx + 1 ≤ wr.heap.size)
    (hbo : BR wr ok vo own) (hcur : Cur wr ok cg rest (a + KN)) (htab : TabN wr) (hdn : d + b'.length = KN) (hacc : acc.length + b'.length ≤ own.length) (hdr : b' = own.drop (own.length - b'.length)) (hrow : iterN (oneN k) fuel b' d acc = R)
    {w2 w3 : World} {x : Nd} {v2 : Value} {o : Obj} (hk2 : Kp (S2n rg gs) wr w2) (hq : EndN ok rg gs b' (a + d) w2 x (oneN k b'))
    (ho3 : OwnT NHd 5 25 w3 (bx + 1 ≤ ·) v2 (acc ++ [x])) (hk3 : Kp (fun j => v.ownBlock = some j) (w2.alloc o) w3) :
    ∃ gn, gn < b'.length + 1 ∧ MadeI ok rg cg gs bx c t (oneN k) KN vo own rest a R w gn (w3.setCell ⟨bx, 4, none⟩ v2) := by
  have hw := hk.size
  have hz2 := hk2.size
  have hvl : ∀ j, v.ownBlock = some j → bx + 1 ≤ j := fun j hj => by
    obtain ⟨xs, h1, _⟩ := ho
    exact h1.2 j hj
  have hka : Kp (fun j => v.ownBlock = some j) w2 w3 := ((Kp.refl _ w2).alloc o).then_ hk3 (fun j hj => .inl hj)
  have hks : Kp (fun j => j = bx) w3 (w3.setCell ⟨bx, 4, none⟩ v2) := (Kp.refl (fun j => j = bx) w3).setCell (p := ⟨bx, 4, none⟩) (.inl rfl) v2
  have hz3 := hka.size
  have nS : ∀ j, w.heap.size ≤ j → j ≠ gs → ¬ S2n rg gs j := fun j hj hg hs => by
    rcases hs with rfl | rfl
    · omega
    · exact hg rfl
  have hk4 : Kp (S2n rg cg) w w3 := (hk.then_ hk2 (fun j hj => by
    rcases hj with rfl | rfl
    · exact .inl (.inl rfl)
    · exact .inr (by omega))).then_ hka (fun j hj => .inr (by have := hvl j hj; omega))
  have keepOk : ∀ j, ok j → ¬ v.ownBlock = some j := fun j hj he => by have := hokl j hj; have := hvl j he; omega
  have hbo4 : BR (w3.setCell ⟨bx, 4, none⟩ v2) ok vo own := ((hbo.kp hk2 (fun j hj => E.ok_S j hj)).kp hka keepOk).kp hks (fun j hj he => by have := hokl j hj; omega)
  have hb4 : Blk (w3.setCell ⟨bx, 4, none⟩ v2) w.heap.size 25 #[.int .i64 0, .int .i64 0, .bool false, .slice none 0 0, .slice none 0 0] := ((hb1.kp hk2 (nS _ (Nat.le_refl _) (by omega))).kp hka (fun he => by have := hvl _ he; omega)).kp hks (by omega)
  have hv3 : Blk w3 bx 25 #[.int .i64 c, .int .i64 t, .bool true, .slice none 0 0, v] := (hbv.kp hk2 (nS _ (by omega) (by omega))).kp hka (fun he => by have := hvl _ he; omega)
  have hv4 : Blk (w3.setCell ⟨bx, 4, none⟩ v2) bx 25 #[.int .i64 c, .int .i64 t, .bool true, .slice none 0 0, v2] := by
    have := hv3.set_ 4 v2
    simpa using this
  have hc4 : Cur (w3.setCell ⟨bx, 4, none⟩ v2) ok cg rest (a + KN) := ((hcur.kp hk2 (fun j hj => E.ok_S j hj) (fun hs => by
    rcases hs with rfl | rfl
    · exact hrc rfl
    · omega)).kp hka keepOk (fun he => by have := hvl cg he; omega)).kp hks (fun j hj he => by have := hokl j hj; omega) (by omega)
  have hrg : ∀ {a1 e1 : Int}, RnB w2 rg a1 e1 → RnB (w3.setCell ⟨bx, 4, none⟩ v2) rg a1 e1 := fun h1 => (h1.kp hka (fun he => by have := hvl rg he; omega)).kp hks (by omega)
  have ht4 : TabN (w3.setCell ⟨bx, 4, none⟩ v2) := ((htab.kp hk2 (fun i hi => E.gl_S i hi)).kp hka (fun i hi => keepOk i (hog i hi))).kp hks (fun i hi he => by have := hokl i (hog i hi); omega)
  have ho4 := ho3.kp_ NHd_kp hks (fun j hj he => by have : bx + 1 ≤ j := hj; omega)
  have hlen : (acc ++ [x]).length = acc.length + 1 := by simp
  have hzk := hks.size
  have hsnd := oneN_sound k b'
  obtain ⟨fl, rfl⟩ : ∃ fl, fuel = fl + 1 := ⟨fuel - 1, by omega⟩
  rw [iterN_step h0] at hrow
  cases hg : oneN k b' with
  | bad o2 er =>
    rw [hg] at hq hrow
    obtain ⟨hq1, hq2⟩ := hq
    simp only at hrow
    refine ⟨0, by omega, acc ++ [x], v2, hbo4, by omega, hk4.then_ hks (fun j hj => .inr (by omega)), hb4, hv4, ho4, by omega, hc4, ht4, .inr ⟨rfl, d + o2, er, hrow.symm, hq2, ?_⟩⟩
    have := hrg hq1
    rw [show a + (d : Int) + (o2 : Int) = a + ((d + o2 : Nat) : Int) by omega] at this
    exact this
  | got y r =>
    rw [hg] at hq hrow
    obtain ⟨rfl, hq2, hq3⟩ := hq
    simp only at hrow
    obtain ⟨u, hu, hu2⟩ := hsnd.1 _ _ hg
    have hul : b'.length = u.length + r.length := by rw [hu, List.length_append]
    refine ⟨r.length + 1, by omega, acc ++ [x], v2, hbo4, by omega, hk4.then_ hks (fun j hj => .inr (by omega)), hb4, hv4, ho4, by omega, hc4, ht4, .inl ⟨r, d + (b'.length - r.length), fl, rfl, by omega, hrow, by omega, by omega, ?_, hrg hq2, ?_⟩⟩
    · have h1 : r = b'.drop u.length := by rw [hu, List.drop_left]
      rw [h1, hdr, List.drop_drop, List.length_drop]
      congr 1
      omega
    · have := (hq3.kp hka keepOk (fun he => by have := hvl gs he; omega)).kp hks (fun j hj he => by have := hokl j hj; omega) (by omega)
      rw [show a + ((d + (b'.length - r.length) : Nat) : Int) = a + (d : Int) + ((b'.length - r.length : Nat) : Int) by omega]
      exact this

set_option maxRecDepth 100000 in
set_option maxHeartbeats 3200000 in
theorem one_made (ok : Nat → Prop) (rg cg k : Nat) (ih : OneC ok rg k) (b : List UInt8) (a : Int) (v : Value) (w : World) (dv : Int) (hdv : 0 ≤ dv ∧ dv ≤ 8) (hdk : dv + 1 + (k : Int) = 9) (c t : Int) (N K : Nat) (hq : rd b = ((c, t, true, (N : Int)), (K : Int), 0)) (hct : i64N c ∧ i64N t) (hK : K ≤ b.length) (hN : N ≤ 16777215) (hs : ¬ b.length - K < N) (E : EnvN ok rg cg b a w) (hb : BR w ok v b) (hr : RnB w rg 0 0) (hc : Cur w ok cg b a) (tab : TabN w) :
    Calls Tryd.prog 37 #[.pointer (some ⟨rg, 0, none⟩), .pointer (some ⟨cg, 0, none⟩), v, .int .i64 dv] w (OneP ok rg cg b a w (oneN (k + 1) b)) := by
  obtain ⟨hd1, hd2⟩ := hdv
  have HCT := Lib.hid hct
  have HIH := Lib.hid ih
  clear ih
  have HR := Lib.hid (oneN_good (k := k) hq)
  rw [bodyN, if_neg hs, if_pos rfl] at HR
  have ka : Kp (fun _ => False) w (w.alloc (.cells #[.int .i64 0, .int .i64 0, .bool false, .slice none 0 0, .slice none 0 0] 25)) := (Kp.refl _ _).alloc _
  have hblk := Blk.new w 25 #[.int .i64 0, .int .i64 0, .bool false, .slice none 0 0, .slice none 0 0]
  have hb0 := hb.kp ka (fun _ _ h => h)
  have hr0 := hr.kp ka (fun h => h)
  have hc0 := hc.kp ka (fun _ _ h => h) (fun h => h)
  have ht0 := tab.kp0 ka
  have hz0 : (w.alloc (.cells #[.int .i64 0, .int .i64 0, .bool false, .slice none 0 0, .slice none 0 0] 25)).heap.size = w.heap.size + 1 := by rw [World.size_alloc]
  obtain ⟨A, cp, rfl, hcp, _⟩ := id hb
  have HE := Lib.hid E
  have HKA := Lib.hid ka
  have HBK := Lib.hid hblk
  have HB0 := Lib.hid hb0
  have HR0 := Lib.hid hr0
  have HC0 := Lib.hid hc0
  have HT0 := Lib.hid ht0
  have hrl := E.hrl
  have hcl := E.hcl
  have hbl := E.hl
  have ha0 := E.ha
  have hal := E.hal
  clear ka hblk hb hr hc tab hb0 hr0 hc0 ht0 E
  go_enter Tryd.func37, Tryd.ntmps37
  go_upto_region 3 with fail
  generalize w.alloc (.cells #[.int .i64 0, .int .i64 0, .bool false, .slice none 0 0, .slice none 0 0] 25) = W0 at HKA HBK HB0 HR0 HC0 HT0 hz0 ⊢
  have hrd := read_any W0 ok (.slice A b.length cp) b HB0.out HT0.out.1 (by omega)
  rw [rdV_ofN hq] at hrd
  have HRD := Lib.hid hrd
  clear hrd hq
  go_upto_region 4 with (go_at_call 62; refine HRD.out.mono ?_; rintro e w1 ⟨rfl, hk1⟩; have HK1' := Lib.hid hk1; clear hk1)
  have k1 : Kp (fun _ => False) W0 (w1.alloc (.cells #[.int .i64 c, .int .i64 t, .bool true, .int .i64 (N : Int)] 85)) := HK1'.out.alloc _
  have HBH := Lib.hid (Blk.new w1 85 #[.int .i64 c, .int .i64 t, .bool true, .int .i64 (N : Int)])
  have hz1 : w.heap.size + 1 ≤ w1.heap.size := by have := HK1'.out.size; omega
  have hz1' : (w1.alloc (.cells #[.int .i64 c, .int .i64 t, .bool true, .int .i64 (N : Int)] 85)).heap.size = w1.heap.size + 1 := by rw [World.size_alloc]
  have HK1 := Lib.hid k1
  have HBK1 := Lib.hid (HBK.out.kp k1 (fun h => h))
  have HB1 := Lib.hid (HB0.out.kp k1 (fun _ _ h => h))
  have HR1 := Lib.hid (HR0.out.kp k1 (fun h => h))
  have HC1 := Lib.hid (HC0.out.kp k1 (fun _ _ h => h) (fun h => h))
  have HT1 := Lib.hid (HT0.out.kp0 k1)
  clear k1 HK1' HRD HBK HB0 HR0 HC0 HT0
  generalize w1.alloc (.cells #[.int .i64 c, .int .i64 t, .bool true, .int .i64 (N : Int)] 85) = W1 at HBH HK1 HBK1 HB1 HR1 HC1 HT1 hz1' ⊢
  generalize w1.heap.size = bh at HBH hz1 hz1' ⊢
  have hnx : nx b (K : Int) = (b.take K, 0) := by rw [nx_ok (by omega) (by omega)]; simp
  have htk : (b.take K).length = K := by rw [List.length_take]; omega
  have hdl : (b.drop K).length = b.length - K := by rw [List.length_drop]
  have HTK := Lib.hid (take_any ok cg b a (K : Int) W1 HC1.out HE.out.hoc (by omega) (by omega) (by omega))
  go_upto_region 7 with (go_at_call 63; refine HTK.out.mono ?_; rintro e w2 ⟨vt, rfl, hvt, hc2, hk2⟩)
  clear hvt HTK
  rw [hnx] at hc2
  simp only [htk] at hc2
  have HK2 := Lib.hid (show Kp (S2n rg cg) w w2 from ((HKA.out.then_ HK1.out (fun _ h => h.elim)).mono (fun _ _ h => h.elim)).then_ hk2 (fun i hi => .inl (.inr hi)))
  have HBK2 := Lib.hid (HBK1.out.kp hk2 (by omega))
  have HB2 := Lib.hid (HB1.out.kp hk2 (fun i hi he => HE.out.hoc (he ▸ hi)))
  have HR2 := Lib.hid (HR1.out.kp hk2 HE.out.hrc)
  have HC2 := Lib.hid hc2
  have HT2 := Lib.hid (HT1.out.kp hk2 (fun i hi he => HE.out.hoc (he ▸ HE.out.hog i hi)))
  have HBH2 := Lib.hid (HBH.out.kp hk2 (by omega))
  have hz2 : bh + 1 ≤ w2.heap.size := by have := hk2.size; omega
  clear hc2 hk2 HK1 HKA HBK1 HB1 HR1 HC1 HT1 HBH hz1' hnx
  have x0 := HBH2.out.cell 0
  have x1 := HBH2.out.cell 1
  have x2 := HBH2.out.cell 2
  have x3 := HBH2.out.cell 3
  simp at x0 x1 x2 x3
  have HS := Lib.hid (sub_ok ok cg (b.drop K) (a + K) N w2 HC2.out HE.out.hoc (by omega) (by omega) (by omega) (by omega))
  go_upto_region 8 with (go_at_call 64; refine HS.out.mono ?_; rintro e w3 ⟨gs, rfl, hgs, hs3, hc3, hk3⟩)
  have HK3 := Lib.hid (HK2.out.then_ hk3 (fun i hi => .inl (.inr hi)))
  have HBK3 := Lib.hid (HBK2.out.kp hk3 (by omega))
  have HB3 := Lib.hid (HB2.out.kp hk3 (fun i hi he => HE.out.hoc (he ▸ hi)))
  have HR3 := Lib.hid (HR2.out.kp hk3 HE.out.hrc)
  have HC3 := Lib.hid hc3
  have HG3 := Lib.hid hs3
  have HT3 := Lib.hid (HT2.out.kp hk3 (fun i hi he => HE.out.hoc (he ▸ HE.out.hog i hi)))
  have HBH3 := Lib.hid (HBH2.out.kp hk3 (by omega))
  have hz3 : w2.heap.size ≤ w3.heap.size := hk3.size
  have hgl := hs3.lt
  clear hc3 hs3 hk3 HS HK2 HBK2 HB2 HR2 HC2 HT2 HBH2 x0 x1 x2 x3
  have x0 := HBH3.out.cell 0
  have x1 := HBH3.out.cell 1
  have x2 := HBH3.out.cell 2
  have x3 := HBH3.out.cell 3
  simp at x0 x1 x2 x3
  go_upto_region 11 with fail
  have k4 : Kp (fun _ => False) w3 (w3.alloc (.cells #[.int .i64 c, .int .i64 t, .bool true, .slice none 0 0, .slice none 0 0] 25)) := (Kp.refl _ _).alloc _
  have HBX := Lib.hid (Blk.new w3 25 #[.int .i64 c, .int .i64 t, .bool true, .slice none 0 0, .slice none 0 0])
  have hz4 : (w3.alloc (.cells #[.int .i64 c, .int .i64 t, .bool true, .slice none 0 0, .slice none 0 0] 25)).heap.size = w3.heap.size + 1 := by rw [World.size_alloc]
  have HK4 := Lib.hid (HK3.out.then_ k4 (fun _ h => h.elim))
  have HBK4 := Lib.hid (HBK3.out.kp k4 (fun h => h))
  have HB4 := Lib.hid (HB3.out.kp k4 (fun _ _ h => h))
  have HR4 := Lib.hid (HR3.out.kp k4 (fun h => h))
  have HC4 := Lib.hid (HC3.out.kp k4 (fun _ _ h => h) (fun h => h))
  have HG4 := Lib.hid (HG3.out.kp k4 (fun _ _ h => h) (fun h => h))
  have HT4 := Lib.hid (HT3.out.kp0 k4)
  have HBH4 := Lib.hid (HBH3.out.kp k4 (fun h => h))
  clear k4 HK3 HBK3 HB3 HR3 HC3 HG3 HT3 HBH3 x0 x1 x2 x3
  generalize w3.alloc (.cells #[.int .i64 c, .int .i64 t, .bool true, .slice none 0 0, .slice none 0 0] 25) = W4 at HBX hz4 HK4 HBK4 HB4 HR4 HC4 HG4 HT4 HBH4 ⊢
  generalize w3.heap.size = bx at HBX hz3 hz4 hgl ⊢
  have x2 := HBH4.out.cell 2
  have x3 := HBH4.out.cell 3
  simp at x2 x3
  obtain ⟨A', dc, hsl, hNd, hown⟩ := slice_cutN (K := K) (N := N) HB4.out (by omega)
  have HO4 := Lib.hid hown
  clear HB4 hown
  have hol : ((b.drop K).take N).length = N := by rw [List.length_take]; omega
  have HBD := Lib.hid (show b.length - (b.drop (K + N)).length = K + N by rw [List.length_drop]; omega)
  have hdd : (b.drop K).drop N = b.drop (K + N) := by rw [List.drop_drop]
  rw [hdd] at HC4
  clear hdd
  obtain ⟨Rit, hit⟩ : ∃ Rit, iterN (oneN k) N ((b.drop K).take N) K [] = Rit := ⟨_, rfl⟩
  rw [hit] at HR
  generalize b.drop (K + N) = rest at HR HC4 HBD
  generalize (b.drop K).take N = own at HR HG4 HO4 hol hit
  have HI0 := Lib.hid (show MadeI ok rg cg gs bx c t (oneN k) (K + N) (.slice A' N dc) own rest a Rit w (N + 1) W4 from
    ⟨[], .slice none 0 0, HO4.out, Nat.zero_le _, HK4.out, HBK4.out, HBX.out, OwnT.nil, by omega, by
      have := HC4.out
      rw [show a + (K : Int) + (N : Int) = a + ((K + N : Nat) : Int) by omega] at this
      exact this, HT4.out, .inl ⟨own, K, N, by rw [hol], by omega, hit, by omega, by simp, by simp, HR4.out, HG4.out⟩⟩)
  have HOL := Lib.hid hol
  clear hit hol HK4 HBK4 HBX HC4 HT4 HR4 HG4
  go_upto_region 13 with fail
  go_wp2_with fail
  go_loopg [] (N + 1) (fun gh wr => MadeI ok rg cg gs bx c t (oneN k) (K + N) (.slice A' N dc) own rest a Rit w gh wr)
  case atStart => exact HI0.out
  case round =>
    clear HI0
    obtain ⟨acc, v, hbo, hacc, hk, hb1, hbv, ho, hzz, hco, htab, hst2⟩ := hrel
    obtain ⟨A, cc, rfl, hlc⟩ := ho.shape
    have y0 := hb1.cell 0
    have y1 := hb1.cell 1
    have y2 := hb1.cell 2
    have y3 := hb1.cell 3
    have y4 := hb1.cell 4
    have z0 := hb1.frozen 0
    have z1 := hb1.frozen 1
    have z2 := hb1.frozen 2
    have z3 := hb1.frozen 3
    have z4 := hb1.frozen 4
    have g0 := hbv.cell 0
    have g1 := hbv.cell 1
    have g2 := hbv.cell 2
    have g3 := hbv.cell 3
    have g4 := hbv.cell 4
    simp at y0 y1 y2 y3 y4 g0 g1 g2 g3 g4
    have HK := Lib.hid hk
    have HB1 := Lib.hid hb1
    have HBV := Lib.hid hbv
    have HO := Lib.hid ho
    have HCO := Lib.hid hco
    have HTB := Lib.hid htab
    have HX := Lib.hid (show EndN ok rg cg b a wr (.mk ⟨c, t, true, []⟩ acc) (oneN (k + 1) b) →
        OneP ok rg cg b a w (oneN (k + 1) b) (.returned (.agg #[.int .i64 c, .int .i64 t, .bool true, .slice none 0 0, .slice A acc.length cc])) (put5 wr w.heap.size (.int .i64 c) (.int .i64 t) (.bool true) (.slice none 0 0) (.slice A acc.length cc)) from fun hR => by
      have E := HE.out
      have e1 := HOL.out
      obtain ⟨_, htl2⟩ := OwnT.tl NHd_kp HO.out
      exact one_fin (okn := fun j => bx + 1 ≤ j) (x := .mk ⟨c, t, true, []⟩ acc) HK.out (Nat.le_refl _) ⟨_, _, rfl, HCT.out.1, HCT.out.2, BR.nil, by simp [RT.a], A, cc, rfl, hlc, by simp only [RT.l]; omega, htl2⟩ (fun i hi => by omega) (by omega) (by omega) (fun i hi => by have := E.hokl i hi; omega) hR)
    clear hk hb1 hbv ho hco htab
    rcases hst2 with ⟨b', d, fuel, rfl, hfu, hrow, hdn, had, hdr, hr, hc⟩ | ⟨rfl, o, er, hRb, her, hr⟩
    · have e1 := Blk.cell hr 1
      simp at e1
      have e1b : ((0 : Int) == 0) = true := rfl
      have HLF := Lib.hid (left_any ok gs b' (a + d) wr hc)
      by_cases h0 : b'.length = 0
      · have e4 : decide (0 < b'.length) = false := decide_eq_false (by omega)
        have hF : OneP ok rg cg b a w (oneN (k + 1) b) (.returned (.agg #[.int .i64 c, .int .i64 t, .bool true, .slice none 0 0, .slice A acc.length cc])) (put5 wr w.heap.size (.int .i64 c) (.int .i64 t) (.bool true) (.slice none 0 0) (.slice A acc.length cc)) := by
          refine HX.out ?_
          rw [iterN_end h0] at hrow
          have hR := HR.out
          rw [← hrow] at hR
          simp only [RT.l] at hR
          rw [hR]
          refine ⟨rfl, hr, ?_⟩
          rw [HBD.out]
          exact HCO.out
        have HF := Lib.hid hF
        clear hF hr hc hrow HX h0 hdr HR
        go_wp2_with (go_at_call 38; refine HLF.out.mono ?_; rintro e w2 ⟨rfl, rfl⟩)
        exact bodyPost_ret (v := .agg #[.int .i64 c, .int .i64 t, .bool true, .slice none 0 0, .slice A acc.length cc]) (by simp [results, Tryd.results37, go_sem, y0, y1, y2, y3, y4]) rfl HF.out
      · have e4 : decide (0 < b'.length) = true := decide_eq_true (by omega)
        have hD : Kp (fun _ => False) wr wr.drew := (Kp.refl _ wr).drew
        have hkD := HK.out.then_ hD (fun _ h => h.elim)
        have E := HE.out
        have hol2 := HOL.out
        have hgw : gs < wr.heap.size := by omega
        have E2 : EnvN ok rg gs b' (a + d) wr.drew := ⟨E.hor, fun h => by have := E.hokl gs h; omega, by omega, Nat.lt_of_lt_of_le E.hrl hkD.size, hgw, fun i hi => Nat.lt_of_lt_of_le (E.hokl i hi) hkD.size, E.hog, by omega, by omega, by omega⟩
        obtain ⟨q, hq⟩ : ∃ q, q = own.length - b'.length := ⟨_, rfl⟩
        rw [← hq] at hdr
        obtain ⟨A9, d9, hsl2, hbr9⟩ := slice_fromN (N := N) (q := q) hol2 hbo (by omega)
        rw [← hdr] at hbr9
        obtain ⟨n9, hn9⟩ : ∃ n9, N - q = n9 := ⟨_, rfl⟩
        rw [hn9] at hsl2 hbr9
        have hw4 : IntKind.i64.wrap (q : Int) = (q : Int) := by simp [IntKind.wrap, IntKind.bits, IntKind.signed]; omega
        have hw3 : (N : Int) - (b'.length : Int) = (q : Int) := by omega
        have hw2 : IntKind.i64.wrap (dv + 1) = dv + 1 := by simp [IntKind.wrap, IntKind.bits, IntKind.signed]; omega
        have hci := HIH.out gs b' (a + d) (.slice A9 n9 d9) wr.drew E2 (hbr9.kp hD (fun _ _ h => h)) (hr.kp hD (fun h => h)) (hc.kp hD (fun _ _ h => h) (fun h => h)) (HTB.out.kp0 hD)
        rw [show (9 : Int) - (k : Int) = dv + 1 by omega] at hci
        have HC := Lib.hid hci
        have HLD := Lib.hid (left_any ok gs b' (a + d) wr.drew (hc.kp hD (fun _ _ h => h) (fun h => h)))
        have HBV2 := Lib.hid (HBV.out.kp hD (fun h => h))
        have HO2 := Lib.hid (HO.out.kp_ NHd_kp hD (fun _ _ h => h))
        have HZ2 := Lib.hid (show bx + 1 ≤ wr.drew.heap.size from hzz)
        have g4D : wr.drew.cell? ⟨bx, 4, none⟩ = some (.slice A acc.length cc) := g4
        have gfD : wr.drew.frozen? ⟨bx, 4, none⟩ = false := HBV2.out.frozen 4
        have hnS : ∀ j, w.heap.size ≤ j → j ≠ gs → ¬ S2n rg gs j := fun j hj hg hs => by
          rcases hs with rfl | rfl
          · omega
          · exact hg rfl
        have HNV := Lib.hid (hnS bx (by omega) (by omega))
        have HNO := Lib.hid (fun j (hj : bx + 1 ≤ j) => hnS j (by omega) (by omega))
        have HAL := Lib.hid (show acc.length + 1 ≤ 1000000000 from by omega)
        obtain ⟨i0, hi0, hj0, hj1, hj2⟩ := info_parts node_info
        have HNX := Lib.hid (fun w2 w3 x v2 o => made_next (ok := ok) (rg := rg) (cg := cg) (gs := gs) (bx := bx) (k := k) (c := c) (t := t) (KN := K + N) (vo := .slice A' N dc) (own := own) (rest := rest) (a := a) (R := Rit) (w := w) (wr := wr.drew) h0 hfu E2 hcl E.hrc hrl E.hokl E.hog (by omega) (by omega) hkD (HB1.out.kp hD (fun h => h)) HBV2.out HO2.out hzz (hbo.kp hD (fun _ _ h => h)) (HCO.out.kp hD (fun _ _ h => h) (fun h => h)) (HTB.out.kp0 hD) hdn (by omega) (by rw [← hq]; exact hdr) hrow (w2 := w2) (w3 := w3) (x := x) (v2 := v2) (o := o))
        have HE2 := Lib.hid E2
        clear hD hkD E E2 hrow hr hc hbr9 hbo HBV HO HK HX HB1 HTB z0 z1 z2 z3 z4 y0 y1 y2 y3 y4 hnS HCO hci hdr hq HR hn9 g0 g1 g2 g3 hsl
        go_upto_region 18 with (go_at_call 38; refine HLF.out.mono ?_; rintro e w2 ⟨rfl, rfl⟩)
        refine wp_region_noPanic ?_
        refine wp_region_held_drew (S := (fun _ : World => True)) (by kernel_rfl) trivial (fun hHeld => ?_)
        refine wpAnyH_take (i := 0) (v := ?v0) (by simp only [List.getElem?_toArray, List.getElem?_cons_zero]; rfl) (by kernel_rfl) (by kernel_rfl) (by kernel_rfl) (fun _ _ _ h => h) (Or.inl ⟨by rfl, ?hy0⟩) (by assumption) ?rest0
        case hy0 => (intro w hSw; (try dsimp only at hSw); go_simp; (try with_reducible rfl))
        try simp only [Act.put, List.setIfInBounds_toArray, List.set_cons_zero, List.set_cons_succ]
        refine wpAnyH_take (i := 2) (v := ?v2) (by simp only [List.getElem?_toArray, List.getElem?_cons_succ, List.getElem?_cons_zero]; rfl) (by kernel_rfl) (by kernel_rfl) (by kernel_rfl) (fun _ _ _ h => h) (Or.inl ⟨by rfl, ?hy2⟩) (by assumption) ?rest2
        case hy2 => (intro w hSw; (try dsimp only at hSw); go_simp; (try with_reducible rfl))
        try simp only [Act.put, List.setIfInBounds_toArray, List.set_cons_zero, List.set_cons_succ]
        refine wpAnyH_take (i := 3) (v := ?v3) (by simp only [List.getElem?_toArray, List.getElem?_cons_succ, List.getElem?_cons_zero]; rfl) (by kernel_rfl) (by kernel_rfl) (by kernel_rfl) (fun _ _ _ h => h) (Or.inl ⟨by rfl, ?hy3⟩) (by assumption) ?rest3
        case hy3 => (intro w hSw; (try dsimp only at hSw); go_simp; (try with_reducible rfl))
        try simp only [Act.put, List.setIfInBounds_toArray, List.set_cons_zero, List.set_cons_succ]
        refine wpAnyH_take (i := 4) (v := ?v4) (by simp only [List.getElem?_toArray, List.getElem?_cons_succ, List.getElem?_cons_zero]; rfl) (by kernel_rfl) (by kernel_rfl) (by kernel_rfl) (fun _ _ _ h => h) (Or.inl ⟨by rfl, ?hy4⟩) (by assumption) ?rest4
        case hy4 => (intro w hSw; (try dsimp only at hSw); go_simp; (try with_reducible rfl))
        try simp only [Act.put, List.setIfInBounds_toArray, List.set_cons_zero, List.set_cons_succ]
        refine wpAnyH_take (i := 5) (v := ?v5) (by simp only [List.getElem?_toArray, List.getElem?_cons_succ, List.getElem?_cons_zero]; rfl) (by kernel_rfl) (by kernel_rfl) (by kernel_rfl) (fun _ _ _ h => h) (Or.inl ⟨by rfl, ?hy5⟩) (by assumption) ?rest5
        case hy5 => (intro w hSw; (try dsimp only at hSw); go_simp; (try with_reducible rfl))
        try simp only [Act.put, List.setIfInBounds_toArray, List.set_cons_zero, List.set_cons_succ]
        refine wpAnyH_take (i := 6) (v := ?v6) (by simp only [List.getElem?_toArray, List.getElem?_cons_succ, List.getElem?_cons_zero]; rfl) (by kernel_rfl) (by kernel_rfl) (by kernel_rfl) (fun _ _ _ h => h) (Or.inl ⟨by rfl, ?hy6⟩) (by assumption) ?rest6
        case hy6 => (intro w hSw; (try dsimp only at hSw); go_simp; (try with_reducible rfl))
        try simp only [Act.put, List.setIfInBounds_toArray, List.set_cons_zero, List.set_cons_succ]
        refine wpAnyH_take (i := 7) (v := ?v7) (by simp only [List.getElem?_toArray, List.getElem?_cons_succ, List.getElem?_cons_zero]; rfl) (by kernel_rfl) (by kernel_rfl) (by kernel_rfl) (fun _ _ _ h => h) (Or.inl ⟨by rfl, ?hy7⟩) (by assumption) ?rest7
        case hy7 => (intro w hSw; (try dsimp only at hSw); go_simp; (try with_reducible rfl))
        try simp only [Act.put, List.setIfInBounds_toArray, List.set_cons_zero, List.set_cons_succ]
        refine wpAnyH_take (i := 11) (v := ?v11) (by simp only [List.getElem?_toArray, List.getElem?_cons_succ, List.getElem?_cons_zero]; rfl) (by kernel_rfl) (by kernel_rfl) (by kernel_rfl) (fun _ _ _ h => h) (Or.inl ⟨by rfl, ?hy11⟩) (by assumption) ?rest11
        case hy11 => (intro w hSw; (try dsimp only at hSw); go_simp; (try with_reducible rfl))
        try simp only [Act.put, List.setIfInBounds_toArray, List.set_cons_zero, List.set_cons_succ]
        refine wpAnyH_take (i := 12) (v := ?v12) (by simp only [List.getElem?_toArray, List.getElem?_cons_succ, List.getElem?_cons_zero]; rfl) (by kernel_rfl) (by kernel_rfl) (by kernel_rfl) (fun _ _ _ h => h) (Or.inl ⟨by rfl, ?hy12⟩) (by assumption) ?rest12
        case hy12 => (intro w hSw; (try dsimp only at hSw); go_simp; (try with_reducible rfl))
        try simp only [Act.put, List.setIfInBounds_toArray, List.set_cons_zero, List.set_cons_succ]
        refine wpAnyH_ready (rs := [1, 8]) (by kernel_rfl) (by simp) ?_
        refine (AllReadyH.cons (o := _) rfl (fun K hK => ?_) (AllReadyH.cons (o := _) rfl (fun K hK => ?_) AllReadyH.nil))
        · go_simp
          refine hK.out _ _ (by assumption) (fun hHeld => ?_)
          clear hK K
          refine wpAnyH_ready (rs := [8]) (by kernel_rfl) (by simp) ?_
          refine (AllReadyH.cons (o := _) rfl (fun K hK => ?_) AllReadyH.nil)
          go_simp
          refine HLD.out.mono ?_
          rintro e w2 ⟨rfl, rfl⟩
          refine hK.out _ _ trivial (fun hHeld => ?_)
          clear hK K
          refine wpAnyH_take (i := 9) (v := ?vm1_9) (by simp only [List.getElem?_toArray, List.getElem?_cons_succ, List.getElem?_cons_zero]; rfl) (by kernel_rfl) (by kernel_rfl) (by kernel_rfl) (fun _ _ _ h => h) (Or.inl ⟨by rfl, ?hym1_9⟩) (by assumption) ?restm1_9
          case hym1_9 => (intro w hSw; (try dsimp only at hSw); go_simp; (try with_reducible rfl))
          try simp only [Act.put, List.setIfInBounds_toArray, List.set_cons_zero, List.set_cons_succ]
          refine wpAnyH_take (i := 10) (v := ?vm2_10) (by simp only [List.getElem?_toArray, List.getElem?_cons_succ, List.getElem?_cons_zero]; rfl) (by kernel_rfl) (by kernel_rfl) (by kernel_rfl) (fun _ _ _ h => h) (Or.inl ⟨by rfl, ?hym2_10⟩) (by assumption) ?restm2_10
          case hym2_10 => (intro w hSw; (try dsimp only at hSw); go_simp; (try with_reducible rfl))
          try simp only [Act.put, List.setIfInBounds_toArray, List.set_cons_zero, List.set_cons_succ]
          refine wpAnyH_ready (rs := [13]) (by kernel_rfl) (by simp) ?_
          refine (AllReadyH.cons (o := _) rfl (fun K hK => ?_) AllReadyH.nil)
          go_simp
          refine HC.out.mono ?_
          rintro e w2 ⟨v3, x, rfl, hvx, hk2, hen⟩
          obtain ⟨A5, c5, A6, c6, rfl, htr5⟩ := hvx.shape
          have gV2 := hk2.cell g4D HNV.out
          have gF2 := (HBV2.out.kp hk2 HNV.out).frozen 4
          have HQ := Lib.hid (And.intro hk2 (And.intro hen (And.intro hvx htr5)))
          clear hvx hen htr5
          try dsimp only
          refine hK.out _ _ trivial (fun hHeld => ?_)
          clear hK K
          refine wpAnyH_ready (rs := [14]) (by kernel_rfl) (by simp) ?_
          refine (AllReadyH.cons (o := _) rfl (fun K hK => ?_) AllReadyH.nil)
          go_simp
          have gV3 := ((Kp.refl (fun _ => False) w2).alloc (.cells #[.int .i64 x.a.c, .int .i64 x.a.t, .bool x.a.m, .slice A5 x.a.b.length c5, .slice A6 x.l.length c6] 25)).cell gV2 (fun h => h)
          try dsimp only
          refine hK.out _ _ trivial (fun hHeld => ?_)
          clear hK K
          refine wpAnyH_ready (rs := [15]) (by kernel_rfl) (by simp) ?_
          refine (AllReadyH.cons (o := _) rfl (fun K hK => ?_) AllReadyH.nil)
          refine step_push NHd_kp NHd_lt rfl (.tmp 92) (.tmp 105) _ rfl 25 i0 _ 5 72 Tryd.underlying23 hi0 hj0 hj1 hj2 rfl (by omega) (fun j => bx + 1 ≤ j) (fun j => wr.drew.heap.size ≤ j) (.slice A acc.length cc) acc (by simp [Act.eval]) (HO2.out.kp_ NHd_kp (HQ.out.1.alloc _) (fun j hj => HNO.out j hj)) w2.heap.size 1 (by simp [Act.eval]) [.int .i64 x.a.c, .int .i64 x.a.t, .bool x.a.m, .slice A5 x.a.b.length c5, .slice A6 x.l.length c6] rfl (Blk.new w2 _ _) x (TR.kp_ NHd_kp ((Kp.refl (fun _ => False) w2).alloc _) (fun _ _ h => h) (fun _ h => h) x _ HQ.out.2.2.2) (by intro u hu; simp at hu; rcases hu with rfl | rfl | rfl | rfl | rfl <;> rfl) (fun j hj => ⟨Nat.le_trans HZ2.out hj, fun he => by have := HO2.out.lt he; omega⟩) (fun j hj => by have := HQ.out.1.size; have := HZ2.out; rw [World.size_alloc] at hj; omega) (by have := HAL.out; omega) (by have := HAL.out; omega) ?_
          intro v4 w3 ho3 hk3 _
          obtain ⟨A4, c4, rfl, _⟩ := ho3.shape
          generalize hal4 : (acc ++ [x]).length = n4 at ho3 ⊢
          have hown9 : ¬ Value.ownBlock (.slice A acc.length cc) = some bx := (fun he => by obtain ⟨xs9, ho9, _⟩ := HO2.out; have : bx + 1 ≤ bx := ho9.2 _ he; omega)
          have gV4 := hk3.cell gV3 hown9
          have gF4 := (((HBV2.out.kp HQ.out.1 HNV.out).alloc _).kp hk3 hown9).frozen 4
          have HQ3 := Lib.hid (HNX.out w2 w3 x (.slice A4 n4 c4) _ HQ.out.1 HQ.out.2.1 ho3 hk3)
          clear ho3 hk3 hown9
          refine hK.out _ _ trivial (fun hHeld => ?_)
          clear hK K
          refine wpAnyH_ready (rs := [16]) (by kernel_rfl) (by simp) ?_
          refine (AllReadyH.cons (o := _) rfl (fun K hK => ?_) AllReadyH.nil)
          go_simp
          refine hK.out _ _ (by assumption) (fun hHeld => ?_)
          clear hK K
          refine wpAnyH_ready (rs := [17]) (by kernel_rfl) (by simp) ?_
          refine (AllReadyH.cons (o := _) rfl (fun K hK => ?_) AllReadyH.nil)
          go_simp
          try dsimp only
          refine hK.out _ _ trivial (fun hHeld => ?_)
          clear hK K
          refine wpAnyH_done (by kernel_rfl) ?_ _
          refine NoPanic.normal ?_
          go_wp2_with fail
          obtain ⟨gn, hgn, hli⟩ := HQ3.out
          go_roundg gn
          case rel => exact hli
          case measure => exact hgn
        · go_simp
          refine HLD.out.mono ?_
          rintro e w2 ⟨rfl, rfl⟩
          refine hK.out _ _ trivial (fun hHeld => ?_)
          clear hK K
          refine wpAnyH_take (i := 9) (v := ?vm3_9) (by simp only [List.getElem?_toArray, List.getElem?_cons_succ, List.getElem?_cons_zero]; rfl) (by kernel_rfl) (by kernel_rfl) (by kernel_rfl) (fun _ _ _ h => h) (Or.inl ⟨by rfl, ?hym3_9⟩) (by assumption) ?restm3_9
          case hym3_9 => (intro w hSw; (try dsimp only at hSw); go_simp; (try with_reducible rfl))
          try simp only [Act.put, List.setIfInBounds_toArray, List.set_cons_zero, List.set_cons_succ]
          refine wpAnyH_take (i := 10) (v := ?vm4_10) (by simp only [List.getElem?_toArray, List.getElem?_cons_succ, List.getElem?_cons_zero]; rfl) (by kernel_rfl) (by kernel_rfl) (by kernel_rfl) (fun _ _ _ h => h) (Or.inl ⟨by rfl, ?hym4_10⟩) (by assumption) ?restm4_10
          case hym4_10 => (intro w hSw; (try dsimp only at hSw); go_simp; (try with_reducible rfl))
          try simp only [Act.put, List.setIfInBounds_toArray, List.set_cons_zero, List.set_cons_succ]
          refine wpAnyH_ready (rs := [1, 13]) (by kernel_rfl) (by simp) ?_
          refine (AllReadyH.cons (o := _) rfl (fun K hK => ?_) (AllReadyH.cons (o := _) rfl (fun K hK => ?_) AllReadyH.nil))
          · go_simp
            refine hK.out _ _ (by assumption) (fun hHeld => ?_)
            clear hK K
            refine wpAnyH_ready (rs := [13]) (by kernel_rfl) (by simp) ?_
            refine (AllReadyH.cons (o := _) rfl (fun K hK => ?_) AllReadyH.nil)
            go_simp
            refine HC.out.mono ?_
            rintro e w2 ⟨v3, x, rfl, hvx, hk2, hen⟩
            obtain ⟨A5, c5, A6, c6, rfl, htr5⟩ := hvx.shape
            have gV2 := hk2.cell g4D HNV.out
            have gF2 := (HBV2.out.kp hk2 HNV.out).frozen 4
            have HQ := Lib.hid (And.intro hk2 (And.intro hen (And.intro hvx htr5)))
            clear hvx hen htr5
            try dsimp only
            refine hK.out _ _ trivial (fun hHeld => ?_)
            clear hK K
            refine wpAnyH_ready (rs := [14]) (by kernel_rfl) (by simp) ?_
            refine (AllReadyH.cons (o := _) rfl (fun K hK => ?_) AllReadyH.nil)
            go_simp
            have gV3 := ((Kp.refl (fun _ => False) w2).alloc (.cells #[.int .i64 x.a.c, .int .i64 x.a.t, .bool x.a.m, .slice A5 x.a.b.length c5, .slice A6 x.l.length c6] 25)).cell gV2 (fun h => h)
            try dsimp only
            refine hK.out _ _ trivial (fun hHeld => ?_)
            clear hK K
            refine wpAnyH_ready (rs := [15]) (by kernel_rfl) (by simp) ?_
            refine (AllReadyH.cons (o := _) rfl (fun K hK => ?_) AllReadyH.nil)
            refine step_push NHd_kp NHd_lt rfl (.tmp 92) (.tmp 105) _ rfl 25 i0 _ 5 72 Tryd.underlying23 hi0 hj0 hj1 hj2 rfl (by omega) (fun j => bx + 1 ≤ j) (fun j => wr.drew.heap.size ≤ j) (.slice A acc.length cc) acc (by simp [Act.eval]) (HO2.out.kp_ NHd_kp (HQ.out.1.alloc _) (fun j hj => HNO.out j hj)) w2.heap.size 1 (by simp [Act.eval]) [.int .i64 x.a.c, .int .i64 x.a.t, .bool x.a.m, .slice A5 x.a.b.length c5, .slice A6 x.l.length c6] rfl (Blk.new w2 _ _) x (TR.kp_ NHd_kp ((Kp.refl (fun _ => False) w2).alloc _) (fun _ _ h => h) (fun _ h => h) x _ HQ.out.2.2.2) (by intro u hu; simp at hu; rcases hu with rfl | rfl | rfl | rfl | rfl <;> rfl) (fun j hj => ⟨Nat.le_trans HZ2.out hj, fun he => by have := HO2.out.lt he; omega⟩) (fun j hj => by have := HQ.out.1.size; have := HZ2.out; rw [World.size_alloc] at hj; omega) (by have := HAL.out; omega) (by have := HAL.out; omega) ?_
            intro v4 w3 ho3 hk3 _
            obtain ⟨A4, c4, rfl, _⟩ := ho3.shape
            generalize hal4 : (acc ++ [x]).length = n4 at ho3 ⊢
            have hown9 : ¬ Value.ownBlock (.slice A acc.length cc) = some bx := (fun he => by obtain ⟨xs9, ho9, _⟩ := HO2.out; have : bx + 1 ≤ bx := ho9.2 _ he; omega)
            have gV4 := hk3.cell gV3 hown9
            have gF4 := (((HBV2.out.kp HQ.out.1 HNV.out).alloc _).kp hk3 hown9).frozen 4
            have HQ3 := Lib.hid (HNX.out w2 w3 x (.slice A4 n4 c4) _ HQ.out.1 HQ.out.2.1 ho3 hk3)
            clear ho3 hk3 hown9
            refine hK.out _ _ trivial (fun hHeld => ?_)
            clear hK K
            refine wpAnyH_ready (rs := [16]) (by kernel_rfl) (by simp) ?_
            refine (AllReadyH.cons (o := _) rfl (fun K hK => ?_) AllReadyH.nil)
            go_simp
            refine hK.out _ _ (by assumption) (fun hHeld => ?_)
            clear hK K
            refine wpAnyH_ready (rs := [17]) (by kernel_rfl) (by simp) ?_
            refine (AllReadyH.cons (o := _) rfl (fun K hK => ?_) AllReadyH.nil)
            go_simp
            try dsimp only
            refine hK.out _ _ trivial (fun hHeld => ?_)
            clear hK K
            refine wpAnyH_done (by kernel_rfl) ?_ _
            refine NoPanic.normal ?_
            go_wp2_with fail
            obtain ⟨gn, hgn, hli⟩ := HQ3.out
            go_roundg gn
            case rel => exact hli
            case measure => exact hgn
          · go_simp
            refine HC.out.mono ?_
            rintro e w2 ⟨v3, x, rfl, hvx, hk2, hen⟩
            obtain ⟨A5, c5, A6, c6, rfl, htr5⟩ := hvx.shape
            have gV2 := hk2.cell g4D HNV.out
            have gF2 := (HBV2.out.kp hk2 HNV.out).frozen 4
            have HQ := Lib.hid (And.intro hk2 (And.intro hen (And.intro hvx htr5)))
            clear hvx hen htr5
            try dsimp only
            refine hK.out _ _ trivial (fun hHeld => ?_)
            clear hK K
            refine wpAnyH_ready (rs := [1, 14]) (by kernel_rfl) (by simp) ?_
            refine (AllReadyH.cons (o := _) rfl (fun K hK => ?_) (AllReadyH.cons (o := _) rfl (fun K hK => ?_) AllReadyH.nil))
            · go_simp
              refine hK.out _ _ (by assumption) (fun hHeld => ?_)
              clear hK K
              refine wpAnyH_ready (rs := [14]) (by kernel_rfl) (by simp) ?_
              refine (AllReadyH.cons (o := _) rfl (fun K hK => ?_) AllReadyH.nil)
              go_simp
              have gV3 := ((Kp.refl (fun _ => False) w2).alloc (.cells #[.int .i64 x.a.c, .int .i64 x.a.t, .bool x.a.m, .slice A5 x.a.b.length c5, .slice A6 x.l.length c6] 25)).cell gV2 (fun h => h)
              try dsimp only
              refine hK.out _ _ trivial (fun hHeld => ?_)
              clear hK K
              refine wpAnyH_ready (rs := [15]) (by kernel_rfl) (by simp) ?_
              refine (AllReadyH.cons (o := _) rfl (fun K hK => ?_) AllReadyH.nil)
              refine step_push NHd_kp NHd_lt rfl (.tmp 92) (.tmp 105) _ rfl 25 i0 _ 5 72 Tryd.underlying23 hi0 hj0 hj1 hj2 rfl (by omega) (fun j => bx + 1 ≤ j) (fun j => wr.drew.heap.size ≤ j) (.slice A acc.length cc) acc (by simp [Act.eval]) (HO2.out.kp_ NHd_kp (HQ.out.1.alloc _) (fun j hj => HNO.out j hj)) w2.heap.size 1 (by simp [Act.eval]) [.int .i64 x.a.c, .int .i64 x.a.t, .bool x.a.m, .slice A5 x.a.b.length c5, .slice A6 x.l.length c6] rfl (Blk.new w2 _ _) x (TR.kp_ NHd_kp ((Kp.refl (fun _ => False) w2).alloc _) (fun _ _ h => h) (fun _ h => h) x _ HQ.out.2.2.2) (by intro u hu; simp at hu; rcases hu with rfl | rfl | rfl | rfl | rfl <;> rfl) (fun j hj => ⟨Nat.le_trans HZ2.out hj, fun he => by have := HO2.out.lt he; omega⟩) (fun j hj => by have := HQ.out.1.size; have := HZ2.out; rw [World.size_alloc] at hj; omega) (by have := HAL.out; omega) (by have := HAL.out; omega) ?_
              intro v4 w3 ho3 hk3 _
              obtain ⟨A4, c4, rfl, _⟩ := ho3.shape
              generalize hal4 : (acc ++ [x]).length = n4 at ho3 ⊢
              have hown9 : ¬ Value.ownBlock (.slice A acc.length cc) = some bx := (fun he => by obtain ⟨xs9, ho9, _⟩ := HO2.out; have : bx + 1 ≤ bx := ho9.2 _ he; omega)
              have gV4 := hk3.cell gV3 hown9
              have gF4 := (((HBV2.out.kp HQ.out.1 HNV.out).alloc _).kp hk3 hown9).frozen 4
              have HQ3 := Lib.hid (HNX.out w2 w3 x (.slice A4 n4 c4) _ HQ.out.1 HQ.out.2.1 ho3 hk3)
              clear ho3 hk3 hown9
              refine hK.out _ _ trivial (fun hHeld => ?_)
              clear hK K
              refine wpAnyH_ready (rs := [16]) (by kernel_rfl) (by simp) ?_
              refine (AllReadyH.cons (o := _) rfl (fun K hK => ?_) AllReadyH.nil)
              go_simp
              refine hK.out _ _ (by assumption) (fun hHeld => ?_)
              clear hK K
              refine wpAnyH_ready (rs := [17]) (by kernel_rfl) (by simp) ?_
              refine (AllReadyH.cons (o := _) rfl (fun K hK => ?_) AllReadyH.nil)
              go_simp
              try dsimp only
              refine hK.out _ _ trivial (fun hHeld => ?_)
              clear hK K
              refine wpAnyH_done (by kernel_rfl) ?_ _
              refine NoPanic.normal ?_
              go_wp2_with fail
              obtain ⟨gn, hgn, hli⟩ := HQ3.out
              go_roundg gn
              case rel => exact hli
              case measure => exact hgn
            · go_simp
              have gV3 := ((Kp.refl (fun _ => False) w2).alloc (.cells #[.int .i64 x.a.c, .int .i64 x.a.t, .bool x.a.m, .slice A5 x.a.b.length c5, .slice A6 x.l.length c6] 25)).cell gV2 (fun h => h)
              try dsimp only
              refine hK.out _ _ trivial (fun hHeld => ?_)
              clear hK K
              refine wpAnyH_ready (rs := [1]) (by kernel_rfl) (by simp) ?_
              refine (AllReadyH.cons (o := _) rfl (fun K hK => ?_) AllReadyH.nil)
              go_simp
              refine hK.out _ _ (by assumption) (fun hHeld => ?_)
              clear hK K
              refine wpAnyH_ready (rs := [15]) (by kernel_rfl) (by simp) ?_
              refine (AllReadyH.cons (o := _) rfl (fun K hK => ?_) AllReadyH.nil)
              refine step_push NHd_kp NHd_lt rfl (.tmp 92) (.tmp 105) _ rfl 25 i0 _ 5 72 Tryd.underlying23 hi0 hj0 hj1 hj2 rfl (by omega) (fun j => bx + 1 ≤ j) (fun j => wr.drew.heap.size ≤ j) (.slice A acc.length cc) acc (by simp [Act.eval]) (HO2.out.kp_ NHd_kp (HQ.out.1.alloc _) (fun j hj => HNO.out j hj)) w2.heap.size 1 (by simp [Act.eval]) [.int .i64 x.a.c, .int .i64 x.a.t, .bool x.a.m, .slice A5 x.a.b.length c5, .slice A6 x.l.length c6] rfl (Blk.new w2 _ _) x (TR.kp_ NHd_kp ((Kp.refl (fun _ => False) w2).alloc _) (fun _ _ h => h) (fun _ h => h) x _ HQ.out.2.2.2) (by intro u hu; simp at hu; rcases hu with rfl | rfl | rfl | rfl | rfl <;> rfl) (fun j hj => ⟨Nat.le_trans HZ2.out hj, fun he => by have := HO2.out.lt he; omega⟩) (fun j hj => by have := HQ.out.1.size; have := HZ2.out; rw [World.size_alloc] at hj; omega) (by have := HAL.out; omega) (by have := HAL.out; omega) ?_
              intro v4 w3 ho3 hk3 _
              obtain ⟨A4, c4, rfl, _⟩ := ho3.shape
              generalize hal4 : (acc ++ [x]).length = n4 at ho3 ⊢
              have hown9 : ¬ Value.ownBlock (.slice A acc.length cc) = some bx := (fun he => by obtain ⟨xs9, ho9, _⟩ := HO2.out; have : bx + 1 ≤ bx := ho9.2 _ he; omega)
              have gV4 := hk3.cell gV3 hown9
              have gF4 := (((HBV2.out.kp HQ.out.1 HNV.out).alloc _).kp hk3 hown9).frozen 4
              have HQ3 := Lib.hid (HNX.out w2 w3 x (.slice A4 n4 c4) _ HQ.out.1 HQ.out.2.1 ho3 hk3)
              clear ho3 hk3 hown9
              refine hK.out _ _ trivial (fun hHeld => ?_)
              clear hK K
              refine wpAnyH_ready (rs := [16]) (by kernel_rfl) (by simp) ?_
              refine (AllReadyH.cons (o := _) rfl (fun K hK => ?_) AllReadyH.nil)
              go_simp
              refine hK.out _ _ (by assumption) (fun hHeld => ?_)
              clear hK K
              refine wpAnyH_ready (rs := [17]) (by kernel_rfl) (by simp) ?_
              refine (AllReadyH.cons (o := _) rfl (fun K hK => ?_) AllReadyH.nil)
              go_simp
              try dsimp only
              refine hK.out _ _ trivial (fun hHeld => ?_)
              clear hK K
              refine wpAnyH_done (by kernel_rfl) ?_ _
              refine NoPanic.normal ?_
              go_wp2_with fail
              obtain ⟨gn, hgn, hli⟩ := HQ3.out
              go_roundg gn
              case rel => exact hli
              case measure => exact hgn
    · have e1 := Blk.cell hr 1
      simp at e1
      have e1b : (er == 0) = false := by simpa using her
      have HF := Lib.hid (HX.out (by
        have hR := HR.out
        rw [hRb] at hR
        simp only at hR
        rw [hR]
        exact ⟨hr, her⟩))
      clear hr HX hRb her HR
      go_wp2_with fail
      exact bodyPost_ret (v := .agg #[.int .i64 c, .int .i64 t, .bool true, .slice none 0 0, .slice A acc.length cc]) (by simp [results, Tryd.results37, go_sem, y0, y1, y2, y3, y4]) rfl HF.out
end Go.Proofs.YtgjbfgkcbehjnaaDoor
