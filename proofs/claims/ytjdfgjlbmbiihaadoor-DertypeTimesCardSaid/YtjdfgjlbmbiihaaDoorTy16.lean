/-
  dertype.Time (part 3): of fifteen characters.
-/
import Derived.Test.YtjdfgjlbmbiihaaDoorTy14
import Derived.StillTailTactics
import Derived.BigQuiet
namespace Go.Proofs.YtjdfgjlbmbiihaaDoor
open Go.RowKit

set_option maxRecDepth 100000 in
set_option maxHeartbeats 12800000 in
theorem time_b (ok : Nat → Prop) (v : Value) (l L : List UInt8) (w : World) (hv : BR w ok v l) (htab : Tab10 w) (h15 : L.length = 15) (hL : L = [49, 57] ++ l) (h53 : 53 ≤ bt l 0) (r : T6 × Int) (hr : resT (time15 L) = r) :
    Calls Tryd.prog 29 #[.int .i64 23, v] w fun e w' => e = .returned (.tuple #[r.1.v, .int .i64 r.2]) ∧ Kp (fun _ => False) w w' := by
  have hk : Kp (fun _ => False) w (w.alloc (.cells #[.int .i64 0, .int .i64 0, .int .i64 0, .int .i64 0, .int .i64 0, .int .i64 0] 56)) := (Kp.refl _ _).alloc _
  have hcv := run_str (P := Tryd.prog) (src := 22) (dst := 9) (e := 5) Tryd.underlying22 Tryd.underlying5 Tryd.underlying9 (hv.kp hk (fun _ _ h => h))
  have hl13 : l.length = 13 := by
    rw [hL] at h15
    simpa using h15
  have hadd : (⟨#[49, 57]⟩ : ByteArray) ++ str l = str L := by
    rw [hL, ← str_append]
    rfl
  have hsz0 : (str l).size = 13 := by rw [str_size, hl13]
  have hat0 : ∀ (hk : 0 < (str l).size), (str l)[0]'hk = l[0]'(by omega) := fun hk => by
    have := Lib.getD_at (str l) 0 hk
    rw [str_toList, List.getD_eq_getElem?_getD, List.getElem?_eq_getElem (by omega)] at this
    exact this
  rw [bt_at (by omega)] at h53
  have hsz : (str L).size = 15 := by rw [str_size, h15]
  have hat : ∀ k (hk : k < (str L).size) (hk' : k < L.length), (str L)[k]'hk = L[k]'hk' := fun k hk hk' => by
    have := Lib.getD_at (str L) k hk
    rw [str_toList, List.getD_eq_getElem?_getD, List.getElem?_eq_getElem hk'] at this
    exact this
  have hex : ∀ i j, ((str L).extract i j).data.toList = (L.drop i).take (j - i) := fun i j => by rw [Lib.extract_data, str_toList]
  generalize str L = S at hadd hsz hat hex
  generalize str l = S0 at hcv hsz0 hat0 hadd
  have hp0 : 0 < S0.size := by omega
  have hat1 := hat0 hp0
  obtain ⟨b0, hb0⟩ : ∃ b, l[0]'(by omega) = b := ⟨_, rfl⟩
  rw [hb0] at hat1 h53
  have hcb : decide ((53 : Int) ≤ (b0.toNat : Int)) = true := by simp; omega
  clear hv hat0 hL hb0 hl13 h53
  have hz := hat 14 (by omega) (by omega)
  have hbz := bt_at (l := L) (i := 14) (by omega)
  obtain ⟨z, hzz⟩ : ∃ z, L[14]'(by omega) = z := ⟨_, rfl⟩
  rw [hzz] at hz hbz
  have hlt14 : 14 < S.size := by omega
  clear hzz
  have HAT := Lib.hid hat
  have HEX := Lib.hid hex
  have HTAB := Lib.hid htab
  have HR := Lib.hid hr
  have H15 := Lib.hid h15
  have HBZ := Lib.hid hbz
  clear hat hex htab hr h15 hbz
  by_cases hz90 : z.toNat = 90
  case neg =>
    have g1 : ((z.toNat : Int) != 90) = true := by simp; omega
    have g2 : ((z.toNat : Int) == 90) = false := by simp; omega
    have HR2 := Lib.hid (show r = (T6.zero, 13) by
      rw [← HR.out, time15, if_neg (fun x => hz90 (by rw [← HBZ.out]; exact x.2.1))])
    clear hz90
    go_enter Tryd.func29, Tryd.ntmps29
    go_wp2_with fail
    refine bodyPost_ret (v := .tuple #[T6.zero.v, .int .i64 13]) (by simp [results, Tryd.results29, go_sem, T6.v, T6.zero]) rfl ⟨by rw [HR2.out], hk⟩
  have g1 : ((z.toNat : Int) != 90) = false := by simp; omega
  have g2 : ((z.toNat : Int) == 90) = true := by simp; omega
  have HZ := Lib.hid hz90
  clear hz90
  go_enter Tryd.func29, Tryd.ntmps29
  go_wp2_with fail
  go_loop [45] (fun i => ∃ k : Nat, k ≤ 14 ∧ i = .int .i64 k ∧ digs (L.take k) = true) (fun i => 14 - (intOf i).toNat)
  case atStart => exact ⟨0, Nat.zero_le _, rfl, rfl⟩
  case round =>
    obtain ⟨k, hk14, rfl, hdk⟩ := hrel
    have HDK := Lib.hid hdk
    clear hdk
    by_cases hlt : k < 14
    · have hkS : k < S.size := by omega
      have hkL : k < L.length := by have := H15.out; omega
      have hsk := HAT.out k hkS hkL
      have hts := Lib.hid (List.take_succ_eq_append_getElem hkL)
      obtain ⟨c, hc⟩ : ∃ c, L[k] = c := ⟨_, rfl⟩
      rw [hc] at hsk hts
      have hk15 : (k : Int) < 15 := by omega
      clear hc
      by_cases hd : isDig c = true
      · have hd2 := hd
        simp only [isDig, Bool.and_eq_true, decide_eq_true_eq] at hd2
        obtain ⟨hd3, hd4⟩ := hd2
        have d1 : decide ((c.toNat : Int) < 48) = false := by simp; omega
        have d2 : decide ((57 : Int) < (c.toNat : Int)) = false := by simp; omega
        have HD := Lib.hid hd
        clear hd hd3 hd4
        go_wp2_with fail
        go_round
        case rel => exact ⟨k + 1, by omega, by go_num, by rw [hts.out, digs_append, HDK.out]; simp [digs, HD.out]⟩
        case measure => simp [intOf]; omega
      · have HR2 := Lib.hid (show r = (T6.zero, 13) by
          rw [← HR.out, time15, if_neg (fun x => hd (by
            have h1 := x.2.2
            have h2 := List.all_eq_true.1 h1 c (List.mem_iff_getElem.2 ⟨k, by rw [List.length_take]; omega, by
              have : (L.take (k + 1))[k]'(by rw [List.length_take]; omega) = c := by
                have := hts.out
                simp only [this]
                rw [List.getElem_append_right (by rw [List.length_take]; omega)]
                simp
              simpa using this⟩)
            exact h2))])
        have hd2 : c.toNat < 48 ∨ 57 < c.toNat := by
          simp only [isDig, Bool.and_eq_true, decide_eq_true_eq] at hd
          omega
        have hd5 : (decide ((c.toNat : Int) < 48) = true) ∨ (decide ((c.toNat : Int) < 48) = false ∧ decide ((57 : Int) < (c.toNat : Int)) = true) := by
          rcases hd2 with h | h
          · exact .inl (by simp; omega)
          · exact .inr ⟨by simp; omega, by simp; omega⟩
        clear hd hd2
        rcases hd5 with d1 | ⟨d1, d2⟩
        · go_wp2_with fail
          refine bodyPost_ret (v := .tuple #[T6.zero.v, .int .i64 13]) (by simp [results, Tryd.results29, go_sem, T6.v, T6.zero]) rfl ⟨by rw [HR2.out], hk⟩
        · go_wp2_with fail
          refine bodyPost_ret (v := .tuple #[T6.zero.v, .int .i64 13]) (by simp [results, Tryd.results29, go_sem, T6.v, T6.zero]) rfl ⟨by rw [HR2.out], hk⟩
    · obtain rfl : k = 14 := by omega
      have AT : ∀ i m, 1 ≤ m → m ≤ 4 → i + m ≤ 14 → ∀ W, Calls Tryd.prog 42 #[.string (S.extract i (i + m))] W fun e w' => e = .returned (.tuple #[.int .i64 (num ((L.drop i).take m) : Int), .nilIface]) ∧ Kp (fun _ => False) W w' := by
        intro i m hm1 hm4 him W
        have hlen : ((L.drop i).take m).length = m := by rw [List.length_take, List.length_drop, H15.out]; omega
        refine atoi_any _ _ ?_ (by omega) (by omega) (digs_sub HDK.out him) W
        rw [HEX.out, show i + m - i = m by omega]
      have bx : ∀ i m, i + m ≤ 14 → num ((L.drop i).take m) < 10 ^ m := by
        intro i m him
        have hlen : ((L.drop i).take m).length = m := by rw [List.length_take, List.length_drop, H15.out]; omega
        have := num_lt _ (digs_sub HDK.out him)
        rwa [hlen] at this
      have HT := Lib.hid (show t15 L = ⟨num ((L.drop 0).take 4), num ((L.drop 4).take 2), num ((L.drop 6).take 2), num ((L.drop 8).take 2), num ((L.drop 10).take 2), num ((L.drop 12).take 2)⟩ from rfl)
      have x0b := bx 0 4 (by omega)
      have x1b := bx 4 2 (by omega)
      have x2b := bx 6 2 (by omega)
      have x3b := bx 8 2 (by omega)
      have x4b := bx 10 2 (by omega)
      have x5b := bx 12 2 (by omega)
      have AT0 := AT 0 4 (by omega) (by omega) (by omega)
      have AT1 := AT 4 2 (by omega) (by omega) (by omega)
      have AT2 := AT 6 2 (by omega) (by omega) (by omega)
      have AT3 := AT 8 2 (by omega) (by omega) (by omega)
      have AT4 := AT 10 2 (by omega) (by omega) (by omega)
      have AT5 := AT 12 2 (by omega) (by omega) (by omega)
      generalize num ((L.drop 0).take 4) = x0 at AT0 x0b HT
      generalize num ((L.drop 4).take 2) = x1 at AT1 x1b HT
      generalize num ((L.drop 6).take 2) = x2 at AT2 x2b HT
      generalize num ((L.drop 8).take 2) = x3 at AT3 x3b HT
      generalize num ((L.drop 10).take 2) = x4 at AT4 x4b HT
      generalize num ((L.drop 12).take 2) = x5 at AT5 x5b HT
      simp only [Nat.reduceAdd, Nat.reducePow] at AT0 AT1 AT2 AT3 AT4 AT5 x0b x1b x2b x3b x4b x5b
      have A0 := Lib.hid AT0
      have A1 := Lib.hid AT1
      have A2 := Lib.hid AT2
      have A3 := Lib.hid AT3
      have A4 := Lib.hid AT4
      have A5 := Lib.hid AT5
      have HTIME := Lib.hid (show time15 L = if okT ⟨x0, x1, x2, x3, x4, x5⟩ = true then some ⟨x0, x1, x2, x3, x4, x5⟩ else none by
        rw [time15, HT.out, if_pos ⟨H15.out, by rw [HBZ.out]; exact HZ.out, HDK.out⟩])
      clear AT bx AT0 AT1 AT2 AT3 AT4 AT5 HDK
      have hR := (Blk.new w 56 #[.int .i64 0, .int .i64 0, .int .i64 0, .int .i64 0, .int .i64 0, .int .i64 0]).alloc (.cells #[.int .i64 0, .int .i64 0, .int .i64 0, .int .i64 0, .int .i64 0, .int .i64 0] 56)
      have hB := Blk.new (w.alloc (.cells #[.int .i64 0, .int .i64 0, .int .i64 0, .int .i64 0, .int .i64 0, .int .i64 0] 56)) 56 #[.int .i64 0, .int .i64 0, .int .i64 0, .int .i64 0, .int .i64 0, .int .i64 0]
      have hk2 := hk.alloc (.cells #[.int .i64 0, .int .i64 0, .int .i64 0, .int .i64 0, .int .i64 0, .int .i64 0] 56)
      rw [World.size_alloc] at hB
      go_wp2_with fail
      refine (A0.out _).mono ?_
      rintro e w1 ⟨rfl, q1⟩
      have hR1 := hR.kp q1 (fun h => h)
      have hB1 := hB.kp q1 (fun h => h)
      have hk3 := hk2.then_ q1 (fun _ h => h.elim)
      clear hR hB hk2 hk q1
      have c1 := hB1.cell 0
      have f1 := hB1.frozen 0
      simp only [List.getElem?_toArray, List.getElem?_cons_zero] at c1
      have hB2 := hB1.set_ 0 (.int .i64 (x0 : Int))
      have hR2 := hR1.far (p := ⟨w.heap.size + 1, 0, none⟩) (by simp) (.int .i64 (x0 : Int))
      have hk4 := hk3.setCell (p := ⟨w.heap.size + 1, 0, none⟩) (.inr (by simp)) (.int .i64 (x0 : Int))
      clear hB1 hR1 hk3
      go_wp2_with fail
      refine wp_loop_rounds 6 ?_
      rw [rounds_succ]
      go_wp2_with fail
      refine (A1.out _).mono ?_
      rintro e w2 ⟨rfl, q2⟩
      have hR2a := hR2.kp q2 (fun h => h)
      have hB2a := hB2.kp q2 (fun h => h)
      have hk2a := hk4.then_ q2 (fun _ h => h.elim)
      clear hR2 hB2 hk4 q2
      have c2 := hB2a.cell 1
      have f2 := hB2a.frozen 1
      simp [Array.setIfInBounds] at c2
      have hB3 := hB2a.set_ 1 (.int .i64 (x1 : Int))
      have hR3 := hR2a.far (p := ⟨w.heap.size + 1, 1, none⟩) (by simp) (.int .i64 (x1 : Int))
      have hk5 := hk2a.setCell (p := ⟨w.heap.size + 1, 1, none⟩) (.inr (by simp)) (.int .i64 (x1 : Int))
      clear hB2a hR2a hk2a
      go_wp2_with fail
      rw [rounds_succ]
      go_wp2_with fail
      refine (A2.out _).mono ?_
      rintro e w3 ⟨rfl, q3⟩
      have hR3a := hR3.kp q3 (fun h => h)
      have hB3a := hB3.kp q3 (fun h => h)
      have hk3a := hk5.then_ q3 (fun _ h => h.elim)
      clear hR3 hB3 hk5 q3
      have c3 := hB3a.cell 2
      have f3 := hB3a.frozen 2
      simp [Array.setIfInBounds] at c3
      have hB4 := hB3a.set_ 2 (.int .i64 (x2 : Int))
      have hR4 := hR3a.far (p := ⟨w.heap.size + 1, 2, none⟩) (by simp) (.int .i64 (x2 : Int))
      have hk6 := hk3a.setCell (p := ⟨w.heap.size + 1, 2, none⟩) (.inr (by simp)) (.int .i64 (x2 : Int))
      clear hB3a hR3a hk3a
      go_wp2_with fail
      rw [rounds_succ]
      go_wp2_with fail
      refine (A3.out _).mono ?_
      rintro e w4 ⟨rfl, q4⟩
      have hR4a := hR4.kp q4 (fun h => h)
      have hB4a := hB4.kp q4 (fun h => h)
      have hk4a := hk6.then_ q4 (fun _ h => h.elim)
      clear hR4 hB4 hk6 q4
      have c4 := hB4a.cell 3
      have f4 := hB4a.frozen 3
      simp [Array.setIfInBounds] at c4
      have hB5 := hB4a.set_ 3 (.int .i64 (x3 : Int))
      have hR5 := hR4a.far (p := ⟨w.heap.size + 1, 3, none⟩) (by simp) (.int .i64 (x3 : Int))
      have hk7 := hk4a.setCell (p := ⟨w.heap.size + 1, 3, none⟩) (.inr (by simp)) (.int .i64 (x3 : Int))
      clear hB4a hR4a hk4a
      go_wp2_with fail
      rw [rounds_succ]
      go_wp2_with fail
      refine (A4.out _).mono ?_
      rintro e w5 ⟨rfl, q5⟩
      have hR5a := hR5.kp q5 (fun h => h)
      have hB5a := hB5.kp q5 (fun h => h)
      have hk5a := hk7.then_ q5 (fun _ h => h.elim)
      clear hR5 hB5 hk7 q5
      have c5 := hB5a.cell 4
      have f5 := hB5a.frozen 4
      simp [Array.setIfInBounds] at c5
      have hB6 := hB5a.set_ 4 (.int .i64 (x4 : Int))
      have hR6 := hR5a.far (p := ⟨w.heap.size + 1, 4, none⟩) (by simp) (.int .i64 (x4 : Int))
      have hk8 := hk5a.setCell (p := ⟨w.heap.size + 1, 4, none⟩) (.inr (by simp)) (.int .i64 (x4 : Int))
      clear hB5a hR5a hk5a
      go_wp2_with fail
      rw [rounds_succ]
      go_wp2_with fail
      refine (A5.out _).mono ?_
      rintro e w6 ⟨rfl, q6⟩
      have hR6a := hR6.kp q6 (fun h => h)
      have hB6a := hB6.kp q6 (fun h => h)
      have hk6a := hk8.then_ q6 (fun _ h => h.elim)
      clear hR6 hB6 hk8 q6
      have c6 := hB6a.cell 5
      have f6 := hB6a.frozen 5
      simp [Array.setIfInBounds] at c6
      have hB7 := hB6a.set_ 5 (.int .i64 (x5 : Int))
      have hR7 := hR6a.far (p := ⟨w.heap.size + 1, 5, none⟩) (by simp) (.int .i64 (x5 : Int))
      have hk9 := hk6a.setCell (p := ⟨w.heap.size + 1, 5, none⟩) (.inr (by simp)) (.int .i64 (x5 : Int))
      clear hB6a hR6a hk6a
      go_wp2_with fail
      rw [rounds_succ]
      go_wp2_with fail
      have hT7 := HTAB.out.kp hk9
      simp [Array.setIfInBounds] at hB7
      obtain ⟨W, hW⟩ : ∃ W, w6.setCell ⟨w.heap.size + 1, 5, none⟩ (.int .i64 (x5 : Int)) = W := ⟨_, rfl⟩
      rw [hW] at hT7 hB7 hR7 hk9 ⊢
      clear hW
      have d0 := hB7.cell 0
      have e0 := hR7.cell 0
      have g10 := hR7.frozen 0
      have d1 := hB7.cell 1
      have e1 := hR7.cell 1
      have g11 := hR7.frozen 1
      have d2 := hB7.cell 2
      have e2 := hR7.cell 2
      have g12 := hR7.frozen 2
      have d3 := hB7.cell 3
      have e3 := hR7.cell 3
      have g13 := hR7.frozen 3
      have d4 := hB7.cell 4
      have e4 := hR7.cell 4
      have g14 := hR7.frozen 4
      have d5 := hB7.cell 5
      have e5 := hR7.cell 5
      have g15 := hR7.frozen 5
      simp at d0 d1 d2 d3 d4 d5 e0 e1 e2 e3 e4 e5
      clear hB7 hR7
      have HK8 := Lib.hid hk9
      clear hk9
      have HNO := Lib.hid (show okT ⟨x0, x1, x2, x3, x4, x5⟩ = false → r = (T6.zero, 13) from fun h => by
        rw [← HR.out, HTIME.out, h]
        rfl)
      have HYES := Lib.hid (show okT ⟨x0, x1, x2, x3, x4, x5⟩ = true → r = (⟨x0, x1, x2, x3, x4, x5⟩, 0) from fun h => by
        rw [← HR.out, HTIME.out, h]
        rfl)
      clear HR HTIME A0 A1 A2 A3 A4 A5 HT
      by_cases b1 : x1 < 1
      · have t1 : decide ((x1 : Int) < 1) = true := by simp; omega
        have HR2 := Lib.hid (HNO.out (by simp [okT]; omega))
        clear b1 HNO HYES
        go_quiet (fail)
        go_wp2_with fail
        refine bodyPost_ret (v := .tuple #[T6.zero.v, .int .i64 13]) (by simp [results, Tryd.results29, go_sem, T6.v, T6.zero, e0, e1, e2, e3, e4, e5]) rfl ⟨by rw [HR2.out], ?_⟩
        exact (Kp.setCell (p := ⟨w.heap.size, 5, none⟩) (Kp.setCell (p := ⟨w.heap.size, 4, none⟩) (Kp.setCell (p := ⟨w.heap.size, 3, none⟩) (Kp.setCell (p := ⟨w.heap.size, 2, none⟩) (Kp.setCell (p := ⟨w.heap.size, 1, none⟩) (Kp.setCell (p := ⟨w.heap.size, 0, none⟩) (HK8.out.drewN _) (.inr (Nat.le_refl _)) _) (.inr (Nat.le_refl _)) _) (.inr (Nat.le_refl _)) _) (.inr (Nat.le_refl _)) _) (.inr (Nat.le_refl _)) _) (.inr (Nat.le_refl _)) _)
      obtain ⟨m, rfl⟩ : ∃ m, x1 = m + 1 := ⟨x1 - 1, by omega⟩
      have t1 : decide ((m : Int) + 1 < 1) = false := by simp; omega
      by_cases b2 : 12 < m + 1
      · have t2 : decide ((12 : Int) < (m : Int) + 1) = true := by simp; omega
        have HR2 := Lib.hid (HNO.out (by simp [okT]; omega))
        clear b1 b2 HNO HYES
        go_quiet (fail)
        go_wp2_with fail
        refine bodyPost_ret (v := .tuple #[T6.zero.v, .int .i64 13]) (by simp [results, Tryd.results29, go_sem, T6.v, T6.zero, e0, e1, e2, e3, e4, e5]) rfl ⟨by rw [HR2.out], ?_⟩
        exact (Kp.setCell (p := ⟨w.heap.size, 5, none⟩) (Kp.setCell (p := ⟨w.heap.size, 4, none⟩) (Kp.setCell (p := ⟨w.heap.size, 3, none⟩) (Kp.setCell (p := ⟨w.heap.size, 2, none⟩) (Kp.setCell (p := ⟨w.heap.size, 1, none⟩) (Kp.setCell (p := ⟨w.heap.size, 0, none⟩) (HK8.out.drewN _) (.inr (Nat.le_refl _)) _) (.inr (Nat.le_refl _)) _) (.inr (Nat.le_refl _)) _) (.inr (Nat.le_refl _)) _) (.inr (Nat.le_refl _)) _) (.inr (Nat.le_refl _)) _)
      have t2 : decide ((12 : Int) < (m : Int) + 1) = false := by simp; omega
      by_cases b3 : x2 < 1
      · have t3 : decide ((x2 : Int) < 1) = true := by simp; omega
        have HR2 := Lib.hid (HNO.out (by simp [okT]; omega))
        clear b1 b2 b3 HNO HYES
        go_quiet (fail)
        go_wp2_with fail
        refine bodyPost_ret (v := .tuple #[T6.zero.v, .int .i64 13]) (by simp [results, Tryd.results29, go_sem, T6.v, T6.zero, e0, e1, e2, e3, e4, e5]) rfl ⟨by rw [HR2.out], ?_⟩
        exact (Kp.setCell (p := ⟨w.heap.size, 5, none⟩) (Kp.setCell (p := ⟨w.heap.size, 4, none⟩) (Kp.setCell (p := ⟨w.heap.size, 3, none⟩) (Kp.setCell (p := ⟨w.heap.size, 2, none⟩) (Kp.setCell (p := ⟨w.heap.size, 1, none⟩) (Kp.setCell (p := ⟨w.heap.size, 0, none⟩) (HK8.out.drewN _) (.inr (Nat.le_refl _)) _) (.inr (Nat.le_refl _)) _) (.inr (Nat.le_refl _)) _) (.inr (Nat.le_refl _)) _) (.inr (Nat.le_refl _)) _) (.inr (Nat.le_refl _)) _)
      have t3 : decide ((x2 : Int) < 1) = false := by simp; omega
      obtain ⟨dd, hdd, hdim, hd31⟩ := dim_days x0 (m + 1) (by omega) (by omega)
      have dday := hT7 m (by omega)
      rw [show m + 1 - 1 = m by omega] at hdd
      rw [hdd] at dday
      have LEAP := fun W => leap_any x0 (m + 1) x0b x1b W
      have lv1 : leapI x0 (m + 1) ≤ 1 := by unfold leapI; split <;> omega
      generalize leapI x0 (m + 1) = lv at hdim LEAP lv1
      obtain ⟨D, hD⟩ : ∃ D, dd + lv = D := ⟨_, rfl⟩
      rw [hD] at hdim
      have s0 : IntKind.i64.wrap ((dd : Int) + (lv : Int)) = (D : Int) := by
        rw [show (dd : Int) + (lv : Int) = (D : Int) by omega]
        exact IntWalk.i64_in _ (by omega)
      have s1 : IntKind.i64.wrap ((m : Int) + 1 - 1) = (m : Int) := by
        rw [show (m : Int) + 1 - 1 = m by omega]
        exact IntWalk.i64_in _ (by omega)
      have s4 : IntKind.i64.wrap (m : Int) = (m : Int) := IntWalk.i64_in _ (by omega)
      have s2 : (0 : Int) ≤ (m : Int) := by omega
      have s3 : (m : Int) < 12 := by omega
      have HL := Lib.hid (show ∀ W, Calls Tryd.prog 43 #[.int .i64 (x0 : Int), .int .i64 ((m : Int) + 1)] W fun e w' => e = .returned (.int .i64 (lv : Int)) ∧ W = w' from fun W => by
        have := LEAP W
        rwa [show ((m + 1 : Nat) : Int) = (m : Int) + 1 from by omega] at this)
      clear LEAP hdd hD hd31 lv1 hT7
      by_cases b4 : D < x2
      · have t4 : decide (D < x2) = true := by simp; omega
        have HR2 := Lib.hid (HNO.out (by simp [okT, hdim]; omega))
        clear b1 b2 b3 b4 HNO HYES hdim
        go_quiet ((go_at_call 43; exact quiet_left (HL.out _)))
        go_wp2_with fail
        refine bodyPost_ret (v := .tuple #[T6.zero.v, .int .i64 13]) (by simp [results, Tryd.results29, go_sem, T6.v, T6.zero, e0, e1, e2, e3, e4, e5]) rfl ⟨by rw [HR2.out], ?_⟩
        exact (Kp.setCell (p := ⟨w.heap.size, 5, none⟩) (Kp.setCell (p := ⟨w.heap.size, 4, none⟩) (Kp.setCell (p := ⟨w.heap.size, 3, none⟩) (Kp.setCell (p := ⟨w.heap.size, 2, none⟩) (Kp.setCell (p := ⟨w.heap.size, 1, none⟩) (Kp.setCell (p := ⟨w.heap.size, 0, none⟩) (HK8.out.drewN _) (.inr (Nat.le_refl _)) _) (.inr (Nat.le_refl _)) _) (.inr (Nat.le_refl _)) _) (.inr (Nat.le_refl _)) _) (.inr (Nat.le_refl _)) _) (.inr (Nat.le_refl _)) _)
      have t4 : decide (D < x2) = false := by simp; omega
      by_cases b5 : 23 < x3
      · have t5 : decide ((23 : Int) < (x3 : Int)) = true := by simp; omega
        have HR2 := Lib.hid (HNO.out (by simp [okT, hdim]; omega))
        clear b1 b2 b3 b4 b5 HNO HYES hdim
        go_quiet ((go_at_call 43; exact quiet_left (HL.out _)))
        go_wp2_with fail
        refine bodyPost_ret (v := .tuple #[T6.zero.v, .int .i64 13]) (by simp [results, Tryd.results29, go_sem, T6.v, T6.zero, e0, e1, e2, e3, e4, e5]) rfl ⟨by rw [HR2.out], ?_⟩
        exact (Kp.setCell (p := ⟨w.heap.size, 5, none⟩) (Kp.setCell (p := ⟨w.heap.size, 4, none⟩) (Kp.setCell (p := ⟨w.heap.size, 3, none⟩) (Kp.setCell (p := ⟨w.heap.size, 2, none⟩) (Kp.setCell (p := ⟨w.heap.size, 1, none⟩) (Kp.setCell (p := ⟨w.heap.size, 0, none⟩) (HK8.out.drewN _) (.inr (Nat.le_refl _)) _) (.inr (Nat.le_refl _)) _) (.inr (Nat.le_refl _)) _) (.inr (Nat.le_refl _)) _) (.inr (Nat.le_refl _)) _) (.inr (Nat.le_refl _)) _)
      have t5 : decide ((23 : Int) < (x3 : Int)) = false := by simp; omega
      by_cases b6 : 59 < x4
      · have t6 : decide ((59 : Int) < (x4 : Int)) = true := by simp; omega
        have HR2 := Lib.hid (HNO.out (by simp [okT, hdim]; omega))
        clear b1 b2 b3 b4 b5 b6 HNO HYES hdim
        go_quiet ((go_at_call 43; exact quiet_left (HL.out _)))
        go_wp2_with fail
        refine bodyPost_ret (v := .tuple #[T6.zero.v, .int .i64 13]) (by simp [results, Tryd.results29, go_sem, T6.v, T6.zero, e0, e1, e2, e3, e4, e5]) rfl ⟨by rw [HR2.out], ?_⟩
        exact (Kp.setCell (p := ⟨w.heap.size, 5, none⟩) (Kp.setCell (p := ⟨w.heap.size, 4, none⟩) (Kp.setCell (p := ⟨w.heap.size, 3, none⟩) (Kp.setCell (p := ⟨w.heap.size, 2, none⟩) (Kp.setCell (p := ⟨w.heap.size, 1, none⟩) (Kp.setCell (p := ⟨w.heap.size, 0, none⟩) (HK8.out.drewN _) (.inr (Nat.le_refl _)) _) (.inr (Nat.le_refl _)) _) (.inr (Nat.le_refl _)) _) (.inr (Nat.le_refl _)) _) (.inr (Nat.le_refl _)) _) (.inr (Nat.le_refl _)) _)
      have t6 : decide ((59 : Int) < (x4 : Int)) = false := by simp; omega
      by_cases b7 : 59 < x5
      · have t7 : decide ((59 : Int) < (x5 : Int)) = true := by simp; omega
        have HR2 := Lib.hid (HNO.out (by simp [okT, hdim]; omega))
        clear b1 b2 b3 b4 b5 b6 b7 HNO HYES hdim
        go_quiet ((go_at_call 43; exact quiet_left (HL.out _)))
        go_wp2_with fail
        refine bodyPost_ret (v := .tuple #[T6.zero.v, .int .i64 13]) (by simp [results, Tryd.results29, go_sem, T6.v, T6.zero, e0, e1, e2, e3, e4, e5]) rfl ⟨by rw [HR2.out], ?_⟩
        exact (Kp.setCell (p := ⟨w.heap.size, 5, none⟩) (Kp.setCell (p := ⟨w.heap.size, 4, none⟩) (Kp.setCell (p := ⟨w.heap.size, 3, none⟩) (Kp.setCell (p := ⟨w.heap.size, 2, none⟩) (Kp.setCell (p := ⟨w.heap.size, 1, none⟩) (Kp.setCell (p := ⟨w.heap.size, 0, none⟩) (HK8.out.drewN _) (.inr (Nat.le_refl _)) _) (.inr (Nat.le_refl _)) _) (.inr (Nat.le_refl _)) _) (.inr (Nat.le_refl _)) _) (.inr (Nat.le_refl _)) _) (.inr (Nat.le_refl _)) _)
      have t7 : decide ((59 : Int) < (x5 : Int)) = false := by simp; omega
      have HR2 := Lib.hid (HYES.out (by simp [okT, hdim]; omega))
      clear b1 b2 b3 b4 b5 b6 b7 HNO HYES hdim
      go_quiet ((go_at_call 43; exact quiet_left (HL.out _)))
      go_wp2_with fail
      refine bodyPost_ret (v := .tuple #[T6.v ⟨x0, m + 1, x2, x3, x4, x5⟩, .int .i64 0]) (by simp [results, Tryd.results29, go_sem, T6.v, e0, e1, e2, e3, e4, e5]) rfl ⟨by rw [HR2.out], ?_⟩
      exact (Kp.setCell (p := ⟨w.heap.size, 5, none⟩) (Kp.setCell (p := ⟨w.heap.size, 4, none⟩) (Kp.setCell (p := ⟨w.heap.size, 3, none⟩) (Kp.setCell (p := ⟨w.heap.size, 2, none⟩) (Kp.setCell (p := ⟨w.heap.size, 1, none⟩) (Kp.setCell (p := ⟨w.heap.size, 0, none⟩) (HK8.out.drewN _) (.inr (Nat.le_refl _)) _) (.inr (Nat.le_refl _)) _) (.inr (Nat.le_refl _)) _) (.inr (Nat.le_refl _)) _) (.inr (Nat.le_refl _)) _) (.inr (Nat.le_refl _)) _)
end Go.Proofs.YtjdfgjlbmbiihaaDoor
