/-
  The document's Time (part 2).
-/
import Derived.Test.YtjdfgjlbmbiihaaDoorTy20
import Derived.BigQuiet
namespace Go.Proofs.YtjdfgjlbmbiihaaDoor
open Go.RowKit

set_option maxRecDepth 100000 in
set_option maxHeartbeats 12800000 in
theorem rtime_b (ok : Nat → Prop) (v : Value) (l : List UInt8) (w : World) (hv : BR w ok v l) :
    Calls Tryd.prog 30 #[.int .i64 23, v] w fun e w' => e = .returned (.tuple #[((timeD 2 l).getD T6.zero).v, .bool (timeD 2 l).isSome]) ∧ Kp (fun _ => False) w w' := by
  obtain ⟨A, c, rfl, hc, hr⟩ := id hv
  obtain ⟨r, hr0⟩ : ∃ r, timeD 2 l = r := ⟨_, rfl⟩
  rw [hr0]
  have HR := Lib.hid hr0
  clear hr0 hv
  by_cases hlen : l.length ≠ 13
  · have HR2 := Lib.hid (show r = none by rw [← HR.out, timeD, if_neg (fun x => hlen x.1)])
    have g1 : ((l.length : Int) != 13) = true := by simp; omega
    have g2 : ((l.length : Int) == 13) = false := by simp; omega
    clear hlen hr
    go_enter Tryd.func30, Tryd.ntmps30
    go_wp2_with fail
    refine bodyPost_ret (v := .tuple #[T6.zero.v, .bool false]) (by simp [results, Tryd.results30, go_sem, T6.v, T6.zero]) rfl ⟨by rw [HR2.out]; rfl, ((Kp.refl _ _).alloc _).alloc _⟩
  have hlen : l.length = 13 := by omega
  obtain ⟨g, off, rfl, _, hz⟩ := hr.byte (k := 2 + 10) (by omega)
  rw [← bt_at (l := l) (i := 2 + 10) (by omega)] at hz
  have hzb := bt_lt l (2 + 10)
  obtain ⟨z, hzz⟩ : ∃ z, bt l (2 + 10) = z := ⟨_, rfl⟩
  have HZ := Lib.hid hzz
  rw [hzz] at hz hzb
  simp only [Nat.reduceAdd] at hz
  have hz' : ∀ o1 o2, ((w.alloc o1).alloc o2).cell? ⟨g, off + 12, none⟩ = some (.int .u8 (z : Int)) := fun o1 o2 => (((Kp.refl (fun _ => False) w).alloc o1).alloc o2).cell hz (fun h => h)
  clear hz
  have hsub : ∀ i m, i + m ≤ 13 → ∀ W, Kp (fun _ => False) w W → BR W ok (.slice (some ⟨g, off + i, none⟩) m (c - i)) ((l.drop i).take m) := by
    intro i m him W hk
    have h := BR.sub (ok := ok) (hr.kp hk (fun _ _ h => h)) hc (i := i) (j := i + m) (by omega) (by omega)
    rw [show i + m - i = m by omega] at h
    by_cases hm : m = 0
    · subst hm
      rw [List.take_zero]
      exact ⟨_, _, rfl, Nat.zero_le _, ⟨rfl, fun h => absurd h (by simp)⟩⟩
    · rw [if_neg (by omega)] at h
      have e : (some ⟨g, off, none⟩ : Option Addr).map (·.add i) = some ⟨g, off + i, none⟩ := by
        simp only [Option.map_some, Addr.add]
        split
        · next h0 => rw [h0, Nat.add_zero]
        · rfl
      rw [e] at h
      exact h
  have hdg : ∀ i m, i + m ≤ 13 → m ≤ 4 → ∀ W, Kp (fun _ => False) w W → Calls Tryd.prog 44 #[.slice (some ⟨g, off + i, none⟩) m (c - i)] W fun e w' => e = .returned (.int .i64 (digitsR ((l.drop i).take m))) ∧ W = w' := by
    intro i m him hm W hk
    exact digits_any ok _ _ W (hsub i m him W hk) (by rw [List.length_take]; omega)
  have hnb : ∀ i m, digs ((l.drop i).take m) = true → num ((l.drop i).take m) < 10 ^ m := by
    intro i m h
    have h1 := num_lt _ h
    have h2 : 10 ^ ((l.drop i).take m).length ≤ 10 ^ m := Nat.pow_le_pow_right (by omega) (by rw [List.length_take]; omega)
    omega
  have HLEN := Lib.hid hlen
  rw [hlen] at hc ⊢
  by_cases hz90 : z ≠ 90
  · have HR2 := Lib.hid (show r = none by rw [← HR.out, timeD, if_neg (fun x => hz90 (by rw [← HZ.out]; exact x.2.1))])
    have g1 : ((z : Int) != 90) = true := by simp; omega
    have g2 : ((z : Int) == 90) = false := by simp; omega
    clear hz90 hlen hr hsub hdg hnb hzz
    go_enter Tryd.func30, Tryd.ntmps30
    go_wp2_with fail
    refine bodyPost_ret (v := .tuple #[T6.zero.v, .bool false]) (by simp [results, Tryd.results30, go_sem, T6.v, T6.zero]) rfl ⟨by rw [HR2.out]; rfl, ((Kp.refl _ _).alloc _).alloc _⟩
  have hz90 : z = 90 := by omega
  subst hz90
  have D0 := hdg 0 2 (by omega) (by omega)
  have B0 := hnb 0 2
  have D1 := hdg 2 2 (by omega) (by omega)
  have B1 := hnb 2 2
  have D2 := hdg 4 2 (by omega) (by omega)
  have B2 := hnb 4 2
  have D3 := hdg 6 2 (by omega) (by omega)
  have B3 := hnb 6 2
  have D4 := hdg 8 2 (by omega) (by omega)
  have B4 := hnb 8 2
  have D5 := hdg 10 2 (by omega) (by omega)
  have B5 := hnb 10 2
  have E0 : l.take 2 = (l.drop 0).take 2 := rfl
  have E1 : chunk l 2 1 = (l.drop 2).take 2 := rfl
  have E2 : chunk l 2 2 = (l.drop 4).take 2 := rfl
  have E3 : chunk l 2 3 = (l.drop 6).take 2 := rfl
  have E4 : chunk l 2 4 = (l.drop 8).take 2 := rfl
  have E5 : chunk l 2 5 = (l.drop 10).take 2 := rfl
  generalize (l.drop 0).take 2 = C0 at D0 B0 E0
  generalize (l.drop 2).take 2 = C1 at D1 B1 E1
  generalize (l.drop 4).take 2 = C2 at D2 B2 E2
  generalize (l.drop 6).take 2 = C3 at D3 B3 E3
  generalize (l.drop 8).take 2 = C4 at D4 B4 E4
  generalize (l.drop 10).take 2 = C5 at D5 B5 E5
  have HNO := Lib.hid (show ¬ (digs C0 = true ∧ digs C1 = true ∧ digs C2 = true ∧ digs C3 = true ∧ digs C4 = true ∧ digs C5 = true ∧ okT ⟨yearR 2 (num C0), num C1, num C2, num C3, num C4, num C5⟩ = true) → r = none from fun h => by
    rw [← HR.out, timeD, E0, E1, E2, E3, E4, E5, tR, E0, E1, E2, E3, E4, E5, if_neg (fun x => h x.2.2)])
  have HYES := Lib.hid (show (digs C0 = true ∧ digs C1 = true ∧ digs C2 = true ∧ digs C3 = true ∧ digs C4 = true ∧ digs C5 = true ∧ okT ⟨yearR 2 (num C0), num C1, num C2, num C3, num C4, num C5⟩ = true) → r = some ⟨yearR 2 (num C0), num C1, num C2, num C3, num C4, num C5⟩ from fun h => by
    rw [← HR.out, timeD, E0, E1, E2, E3, E4, E5, tR, E0, E1, E2, E3, E4, E5, if_pos ⟨HLEN.out, HZ.out, h⟩])
  have hc1 : (13 : Int) ≤ (c : Int) := by omega
  have nc2 : ¬ c = 2 := by omega
  have nc4 : ¬ c = 4 := by omega
  have nc6 : ¬ c = 6 := by omega
  have nc8 : ¬ c = 8 := by omega
  have nc10 : ¬ c = 10 := by omega
  have HD0 := Lib.hid D0
  have HD1 := Lib.hid D1
  have HD2 := Lib.hid D2
  have HD3 := Lib.hid D3
  have HD4 := Lib.hid D4
  have HD5 := Lib.hid D5
  clear hlen hr hsub hdg hnb hzz HR HLEN HZ E0 E1 E2 E3 E4 E5 D0 D1 D2 D3 D4 D5
  simp only [Nat.add_zero, Nat.sub_zero] at HD0
  go_enter Tryd.func30, Tryd.ntmps30
  go_wp2_with fail
  refine (HD0.out _ (((Kp.refl _ _).alloc _).alloc _)).mono ?_
  rintro e w1 ⟨rfl, rfl⟩
  by_cases h0 : digs C0 = true
  case neg =>
    have HR2 := Lib.hid (HNO.out (fun x => h0 x.1))
    rw [digitsR_no (by simpa using h0)]
    clear h0 HNO HYES
    go_wp2_with fail
    refine bodyPost_ret (v := .tuple #[T6.zero.v, .bool false]) (by simp [results, Tryd.results30, go_sem, T6.v, T6.zero]) rfl ⟨by rw [HR2.out]; rfl, ((Kp.refl _ _).alloc _).alloc _⟩
  rw [digitsR_yes h0]
  have y0b := B0 h0
  have H0 := Lib.hid h0
  clear h0 B0
  obtain ⟨y, hy⟩ : ∃ y, num C0 = y := ⟨_, rfl⟩
  obtain ⟨x0, hx0⟩ : ∃ x0, yearR 2 (num C0) = x0 := ⟨_, rfl⟩
  rw [hx0] at HNO HYES
  rw [hy] at hx0 y0b ⊢
  simp only [Nat.reducePow] at y0b
  have hx0b : x0 < 10000 := by rw [← hx0, yearR]; split <;> (try split) <;> omega
  clear hy
  by_cases h50 : 50 ≤ y
  all_goals
    have HX0 := Lib.hid hx0
    clear hx0
    have t50 : decide ((50 : Int) ≤ (y : Int)) = decide (50 ≤ y) := by rw [Bool.eq_iff_iff]; simp; omega
    first | rw [decide_eq_true h50] at t50 | rw [decide_eq_false h50] at t50
    have hyx : (x0 : Int) = (y : Int) + 1900 ∨ (x0 : Int) = (y : Int) + 2000 := by
      have := HX0.out
      rw [yearR, if_pos rfl] at this
      split at this <;> omega
    have sy1 : 50 ≤ y → IntKind.i64.wrap ((y : Int) + 1900) = (x0 : Int) := fun h => by
      have := HX0.out
      rw [yearR, if_pos rfl, if_pos h] at this
      rw [show (y : Int) + 1900 = x0 by omega]
      exact IntWalk.i64_in _ (by omega)
    have sy2 : ¬ 50 ≤ y → IntKind.i64.wrap ((y : Int) + 2000) = (x0 : Int) := fun h => by
      have := HX0.out
      rw [yearR, if_pos rfl, if_neg h] at this
      rw [show (y : Int) + 2000 = x0 by omega]
      exact IntWalk.i64_in _ (by omega)
    have sx : (50 ≤ y → (y : Int) + 1900 = (x0 : Int)) ∧ (¬ 50 ≤ y → (y : Int) + 2000 = (x0 : Int)) := by
      have := HX0.out
      rw [yearR, if_pos rfl] at this
      constructor <;> intro h
      · rw [if_pos h] at this; omega
      · rw [if_neg h] at this; omega
    first
      | (have sxx := sx.1 h50; clear sx sy1 sy2 hyx h50)
      | (have sxx := sx.2 h50; clear sx sy1 sy2 hyx h50)
    go_wp2_with fail
    refine wp_loop_rounds 6 ?_
    rw [rounds_succ]
    go_wp2_with fail
    refine (HD1.out _ (((Kp.refl _ _).alloc _).alloc _)).mono ?_
    rintro e w1 ⟨rfl, rfl⟩
    by_cases h1 : digs C1 = true
    case neg =>
      have HR2 := Lib.hid (HNO.out (fun x => h1 x.2.1))
      rw [digitsR_no (by simpa using h1)]
      clear h1 HNO HYES
      go_wp2_with fail
      refine bodyPost_ret (v := .tuple #[T6.zero.v, .bool false]) (by simp [results, Tryd.results30, go_sem, T6.v, T6.zero]) rfl ⟨by rw [HR2.out]; rfl, ((Kp.refl _ _).alloc _).alloc _⟩
    rw [digitsR_yes h1]
    have y1b := B1 h1
    have H1 := Lib.hid h1
    clear h1 B1
    obtain ⟨x1, hx1⟩ : ∃ x1, num C1 = x1 := ⟨_, rfl⟩
    rw [hx1] at HNO HYES y1b ⊢
    simp only [Nat.reducePow] at y1b
    clear hx1
    go_wp2_with fail
    rw [rounds_succ]
    go_wp2_with fail
    refine (HD2.out _ (((Kp.refl _ _).alloc _).alloc _)).mono ?_
    rintro e w1 ⟨rfl, rfl⟩
    by_cases h2 : digs C2 = true
    case neg =>
      have HR2 := Lib.hid (HNO.out (fun x => h2 x.2.2.1))
      rw [digitsR_no (by simpa using h2)]
      clear h2 HNO HYES
      go_wp2_with fail
      refine bodyPost_ret (v := .tuple #[T6.zero.v, .bool false]) (by simp [results, Tryd.results30, go_sem, T6.v, T6.zero]) rfl ⟨by rw [HR2.out]; rfl, ((Kp.refl _ _).alloc _).alloc _⟩
    rw [digitsR_yes h2]
    have y2b := B2 h2
    have H2 := Lib.hid h2
    clear h2 B2
    obtain ⟨x2, hx2⟩ : ∃ x2, num C2 = x2 := ⟨_, rfl⟩
    rw [hx2] at HNO HYES y2b ⊢
    simp only [Nat.reducePow] at y2b
    clear hx2
    go_wp2_with fail
    rw [rounds_succ]
    go_wp2_with fail
    refine (HD3.out _ (((Kp.refl _ _).alloc _).alloc _)).mono ?_
    rintro e w1 ⟨rfl, rfl⟩
    by_cases h3 : digs C3 = true
    case neg =>
      have HR2 := Lib.hid (HNO.out (fun x => h3 x.2.2.2.1))
      rw [digitsR_no (by simpa using h3)]
      clear h3 HNO HYES
      go_wp2_with fail
      refine bodyPost_ret (v := .tuple #[T6.zero.v, .bool false]) (by simp [results, Tryd.results30, go_sem, T6.v, T6.zero]) rfl ⟨by rw [HR2.out]; rfl, ((Kp.refl _ _).alloc _).alloc _⟩
    rw [digitsR_yes h3]
    have y3b := B3 h3
    have H3 := Lib.hid h3
    clear h3 B3
    obtain ⟨x3, hx3⟩ : ∃ x3, num C3 = x3 := ⟨_, rfl⟩
    rw [hx3] at HNO HYES y3b ⊢
    simp only [Nat.reducePow] at y3b
    clear hx3
    go_wp2_with fail
    rw [rounds_succ]
    go_wp2_with fail
    refine (HD4.out _ (((Kp.refl _ _).alloc _).alloc _)).mono ?_
    rintro e w1 ⟨rfl, rfl⟩
    by_cases h4 : digs C4 = true
    case neg =>
      have HR2 := Lib.hid (HNO.out (fun x => h4 x.2.2.2.2.1))
      rw [digitsR_no (by simpa using h4)]
      clear h4 HNO HYES
      go_wp2_with fail
      refine bodyPost_ret (v := .tuple #[T6.zero.v, .bool false]) (by simp [results, Tryd.results30, go_sem, T6.v, T6.zero]) rfl ⟨by rw [HR2.out]; rfl, ((Kp.refl _ _).alloc _).alloc _⟩
    rw [digitsR_yes h4]
    have y4b := B4 h4
    have H4 := Lib.hid h4
    clear h4 B4
    obtain ⟨x4, hx4⟩ : ∃ x4, num C4 = x4 := ⟨_, rfl⟩
    rw [hx4] at HNO HYES y4b ⊢
    simp only [Nat.reducePow] at y4b
    clear hx4
    go_wp2_with fail
    rw [rounds_succ]
    go_wp2_with fail
    refine (HD5.out _ (((Kp.refl _ _).alloc _).alloc _)).mono ?_
    rintro e w1 ⟨rfl, rfl⟩
    by_cases h5 : digs C5 = true
    case neg =>
      have HR2 := Lib.hid (HNO.out (fun x => h5 x.2.2.2.2.2.1))
      rw [digitsR_no (by simpa using h5)]
      clear h5 HNO HYES
      go_wp2_with fail
      refine bodyPost_ret (v := .tuple #[T6.zero.v, .bool false]) (by simp [results, Tryd.results30, go_sem, T6.v, T6.zero]) rfl ⟨by rw [HR2.out]; rfl, ((Kp.refl _ _).alloc _).alloc _⟩
    rw [digitsR_yes h5]
    have y5b := B5 h5
    have H5 := Lib.hid h5
    clear h5 B5
    obtain ⟨x5, hx5⟩ : ∃ x5, num C5 = x5 := ⟨_, rfl⟩
    rw [hx5] at HNO HYES y5b ⊢
    simp only [Nat.reducePow] at y5b
    clear hx5
    go_wp2_with fail
    rw [rounds_succ]
    go_wp2_with fail
    have hR := (Blk.new w 56 #[.int .i64 0, .int .i64 0, .int .i64 0, .int .i64 0, .int .i64 0, .int .i64 0]).alloc (.cells #[.int .i64 (x0 : Int), .int .i64 (x1 : Int), .int .i64 (x2 : Int), .int .i64 (x3 : Int), .int .i64 (x4 : Int), .int .i64 (x5 : Int)] 56)
    have hB := Blk.new (w.alloc (.cells #[.int .i64 0, .int .i64 0, .int .i64 0, .int .i64 0, .int .i64 0, .int .i64 0] 56)) 56 #[.int .i64 (x0 : Int), .int .i64 (x1 : Int), .int .i64 (x2 : Int), .int .i64 (x3 : Int), .int .i64 (x4 : Int), .int .i64 (x5 : Int)]
    rw [World.size_alloc] at hB
    have hk9 : Kp (fun _ => False) w ((w.alloc (.cells #[.int .i64 0, .int .i64 0, .int .i64 0, .int .i64 0, .int .i64 0, .int .i64 0] 56)).alloc (.cells #[.int .i64 (x0 : Int), .int .i64 (x1 : Int), .int .i64 (x2 : Int), .int .i64 (x3 : Int), .int .i64 (x4 : Int), .int .i64 (x5 : Int)] 56)) := ((Kp.refl _ _).alloc _).alloc _
    obtain ⟨W, hW⟩ : ∃ W, (w.alloc (.cells #[.int .i64 0, .int .i64 0, .int .i64 0, .int .i64 0, .int .i64 0, .int .i64 0] 56)).alloc (.cells #[.int .i64 (x0 : Int), .int .i64 (x1 : Int), .int .i64 (x2 : Int), .int .i64 (x3 : Int), .int .i64 (x4 : Int), .int .i64 (x5 : Int)] 56) = W := ⟨_, rfl⟩
    rw [hW] at hR hB hk9 ⊢
    clear hW
    have d0 := hB.cell 0
    have e10 := hR.cell 0
    have f0 := hR.frozen 0
    have d1 := hB.cell 1
    have e11 := hR.cell 1
    have f1 := hR.frozen 1
    have d2 := hB.cell 2
    have e12 := hR.cell 2
    have f2 := hR.frozen 2
    have d3 := hB.cell 3
    have e13 := hR.cell 3
    have f3 := hR.frozen 3
    have d4 := hB.cell 4
    have e14 := hR.cell 4
    have f4 := hR.frozen 4
    have d5 := hB.cell 5
    have e15 := hR.cell 5
    have f5 := hR.frozen 5
    simp at d0 d1 d2 d3 d4 d5 e10 e11 e12 e13 e14 e15
    have HK9 := Lib.hid hk9
    clear hB hR hk9
    by_cases b1 : x1 < 1
    case pos =>
      have t_ : decide ((x1 : Int) < 1) = true := by simp; omega
      have HR2 := Lib.hid (HNO.out (fun x => by have h := x.2.2.2.2.2.2; simp [okT] at h; omega))
      clear HNO HYES b1
      go_quiet (fail)
      go_wp2_with fail
      refine bodyPost_ret (v := .tuple #[T6.zero.v, .bool false]) (by simp [results, Tryd.results30, go_sem, T6.v, T6.zero, e10, e11, e12, e13, e14, e15]) rfl ⟨by rw [HR2.out]; rfl, ?_⟩
      exact (Kp.setCell (p := ⟨w.heap.size, 5, none⟩) (Kp.setCell (p := ⟨w.heap.size, 4, none⟩) (Kp.setCell (p := ⟨w.heap.size, 3, none⟩) (Kp.setCell (p := ⟨w.heap.size, 2, none⟩) (Kp.setCell (p := ⟨w.heap.size, 1, none⟩) (Kp.setCell (p := ⟨w.heap.size, 0, none⟩) (HK9.out.drewN _) (.inr (Nat.le_refl _)) _) (.inr (Nat.le_refl _)) _) (.inr (Nat.le_refl _)) _) (.inr (Nat.le_refl _)) _) (.inr (Nat.le_refl _)) _) (.inr (Nat.le_refl _)) _)
    have t1 : decide ((x1 : Int) < 1) = false := by simp; omega
    by_cases b2 : 12 < x1
    case pos =>
      have t_ : decide ((12 : Int) < (x1 : Int)) = true := by simp; omega
      have HR2 := Lib.hid (HNO.out (fun x => by have h := x.2.2.2.2.2.2; simp [okT] at h; omega))
      clear HNO HYES b1 b2
      go_quiet (fail)
      go_wp2_with fail
      refine bodyPost_ret (v := .tuple #[T6.zero.v, .bool false]) (by simp [results, Tryd.results30, go_sem, T6.v, T6.zero, e10, e11, e12, e13, e14, e15]) rfl ⟨by rw [HR2.out]; rfl, ?_⟩
      exact (Kp.setCell (p := ⟨w.heap.size, 5, none⟩) (Kp.setCell (p := ⟨w.heap.size, 4, none⟩) (Kp.setCell (p := ⟨w.heap.size, 3, none⟩) (Kp.setCell (p := ⟨w.heap.size, 2, none⟩) (Kp.setCell (p := ⟨w.heap.size, 1, none⟩) (Kp.setCell (p := ⟨w.heap.size, 0, none⟩) (HK9.out.drewN _) (.inr (Nat.le_refl _)) _) (.inr (Nat.le_refl _)) _) (.inr (Nat.le_refl _)) _) (.inr (Nat.le_refl _)) _) (.inr (Nat.le_refl _)) _) (.inr (Nat.le_refl _)) _)
    have t2 : decide ((12 : Int) < (x1 : Int)) = false := by simp; omega
    by_cases b3 : x2 < 1
    case pos =>
      have t_ : decide ((x2 : Int) < 1) = true := by simp; omega
      have HR2 := Lib.hid (HNO.out (fun x => by have h := x.2.2.2.2.2.2; simp [okT] at h; omega))
      clear HNO HYES b1 b2 b3
      go_quiet (fail)
      go_wp2_with fail
      refine bodyPost_ret (v := .tuple #[T6.zero.v, .bool false]) (by simp [results, Tryd.results30, go_sem, T6.v, T6.zero, e10, e11, e12, e13, e14, e15]) rfl ⟨by rw [HR2.out]; rfl, ?_⟩
      exact (Kp.setCell (p := ⟨w.heap.size, 5, none⟩) (Kp.setCell (p := ⟨w.heap.size, 4, none⟩) (Kp.setCell (p := ⟨w.heap.size, 3, none⟩) (Kp.setCell (p := ⟨w.heap.size, 2, none⟩) (Kp.setCell (p := ⟨w.heap.size, 1, none⟩) (Kp.setCell (p := ⟨w.heap.size, 0, none⟩) (HK9.out.drewN _) (.inr (Nat.le_refl _)) _) (.inr (Nat.le_refl _)) _) (.inr (Nat.le_refl _)) _) (.inr (Nat.le_refl _)) _) (.inr (Nat.le_refl _)) _) (.inr (Nat.le_refl _)) _)
    have t3 : decide ((x2 : Int) < 1) = false := by simp; omega
    have DAYS := fun W => rdays_any x0 x1 hx0b (by omega) W
    obtain ⟨D, hD⟩ : ∃ D, dim x0 x1 = D := ⟨_, rfl⟩
    rw [hD] at DAYS
    have HL := Lib.hid DAYS
    clear DAYS
    by_cases b4 : D < x2
    case pos =>
      have t_ : decide (D < x2) = true := by simp; omega
      have HR2 := Lib.hid (HNO.out (fun x => by have h := x.2.2.2.2.2.2; simp [okT, hD] at h; omega))
      clear HNO HYES b1 b2 b3 b4 hD
      go_quiet ((go_at_call 45; exact quiet_left (HL.out _)))
      go_wp2_with fail
      refine bodyPost_ret (v := .tuple #[T6.zero.v, .bool false]) (by simp [results, Tryd.results30, go_sem, T6.v, T6.zero, e10, e11, e12, e13, e14, e15]) rfl ⟨by rw [HR2.out]; rfl, ?_⟩
      exact (Kp.setCell (p := ⟨w.heap.size, 5, none⟩) (Kp.setCell (p := ⟨w.heap.size, 4, none⟩) (Kp.setCell (p := ⟨w.heap.size, 3, none⟩) (Kp.setCell (p := ⟨w.heap.size, 2, none⟩) (Kp.setCell (p := ⟨w.heap.size, 1, none⟩) (Kp.setCell (p := ⟨w.heap.size, 0, none⟩) (HK9.out.drewN _) (.inr (Nat.le_refl _)) _) (.inr (Nat.le_refl _)) _) (.inr (Nat.le_refl _)) _) (.inr (Nat.le_refl _)) _) (.inr (Nat.le_refl _)) _) (.inr (Nat.le_refl _)) _)
    have t4 : decide (D < x2) = false := by simp; omega
    by_cases b5 : 23 < x3
    case pos =>
      have t_ : decide ((23 : Int) < (x3 : Int)) = true := by simp; omega
      have HR2 := Lib.hid (HNO.out (fun x => by have h := x.2.2.2.2.2.2; simp [okT, hD] at h; omega))
      clear HNO HYES b1 b2 b3 b4 b5 hD
      go_quiet ((go_at_call 45; exact quiet_left (HL.out _)))
      go_wp2_with fail
      refine bodyPost_ret (v := .tuple #[T6.zero.v, .bool false]) (by simp [results, Tryd.results30, go_sem, T6.v, T6.zero, e10, e11, e12, e13, e14, e15]) rfl ⟨by rw [HR2.out]; rfl, ?_⟩
      exact (Kp.setCell (p := ⟨w.heap.size, 5, none⟩) (Kp.setCell (p := ⟨w.heap.size, 4, none⟩) (Kp.setCell (p := ⟨w.heap.size, 3, none⟩) (Kp.setCell (p := ⟨w.heap.size, 2, none⟩) (Kp.setCell (p := ⟨w.heap.size, 1, none⟩) (Kp.setCell (p := ⟨w.heap.size, 0, none⟩) (HK9.out.drewN _) (.inr (Nat.le_refl _)) _) (.inr (Nat.le_refl _)) _) (.inr (Nat.le_refl _)) _) (.inr (Nat.le_refl _)) _) (.inr (Nat.le_refl _)) _) (.inr (Nat.le_refl _)) _)
    have t5 : decide ((23 : Int) < (x3 : Int)) = false := by simp; omega
    by_cases b6 : 59 < x4
    case pos =>
      have t_ : decide ((59 : Int) < (x4 : Int)) = true := by simp; omega
      have HR2 := Lib.hid (HNO.out (fun x => by have h := x.2.2.2.2.2.2; simp [okT, hD] at h; omega))
      clear HNO HYES b1 b2 b3 b4 b5 b6 hD
      go_quiet ((go_at_call 45; exact quiet_left (HL.out _)))
      go_wp2_with fail
      refine bodyPost_ret (v := .tuple #[T6.zero.v, .bool false]) (by simp [results, Tryd.results30, go_sem, T6.v, T6.zero, e10, e11, e12, e13, e14, e15]) rfl ⟨by rw [HR2.out]; rfl, ?_⟩
      exact (Kp.setCell (p := ⟨w.heap.size, 5, none⟩) (Kp.setCell (p := ⟨w.heap.size, 4, none⟩) (Kp.setCell (p := ⟨w.heap.size, 3, none⟩) (Kp.setCell (p := ⟨w.heap.size, 2, none⟩) (Kp.setCell (p := ⟨w.heap.size, 1, none⟩) (Kp.setCell (p := ⟨w.heap.size, 0, none⟩) (HK9.out.drewN _) (.inr (Nat.le_refl _)) _) (.inr (Nat.le_refl _)) _) (.inr (Nat.le_refl _)) _) (.inr (Nat.le_refl _)) _) (.inr (Nat.le_refl _)) _) (.inr (Nat.le_refl _)) _)
    have t6 : decide ((59 : Int) < (x4 : Int)) = false := by simp; omega
    by_cases b7 : 59 < x5
    case pos =>
      have t_ : decide ((59 : Int) < (x5 : Int)) = true := by simp; omega
      have HR2 := Lib.hid (HNO.out (fun x => by have h := x.2.2.2.2.2.2; simp [okT, hD] at h; omega))
      clear HNO HYES b1 b2 b3 b4 b5 b6 b7 hD
      go_quiet ((go_at_call 45; exact quiet_left (HL.out _)))
      go_wp2_with fail
      refine bodyPost_ret (v := .tuple #[T6.zero.v, .bool false]) (by simp [results, Tryd.results30, go_sem, T6.v, T6.zero, e10, e11, e12, e13, e14, e15]) rfl ⟨by rw [HR2.out]; rfl, ?_⟩
      exact (Kp.setCell (p := ⟨w.heap.size, 5, none⟩) (Kp.setCell (p := ⟨w.heap.size, 4, none⟩) (Kp.setCell (p := ⟨w.heap.size, 3, none⟩) (Kp.setCell (p := ⟨w.heap.size, 2, none⟩) (Kp.setCell (p := ⟨w.heap.size, 1, none⟩) (Kp.setCell (p := ⟨w.heap.size, 0, none⟩) (HK9.out.drewN _) (.inr (Nat.le_refl _)) _) (.inr (Nat.le_refl _)) _) (.inr (Nat.le_refl _)) _) (.inr (Nat.le_refl _)) _) (.inr (Nat.le_refl _)) _) (.inr (Nat.le_refl _)) _)
    have t7 : decide ((59 : Int) < (x5 : Int)) = false := by simp; omega
    have HR2 := Lib.hid (HYES.out ⟨H0.out, H1.out, H2.out, H3.out, H4.out, H5.out, by simp [okT, hD]; omega⟩)
    clear HNO HYES b1 b2 b3 b4 b5 b6 b7 hD
    go_quiet ((go_at_call 45; exact quiet_left (HL.out _)))
    go_wp2_with fail
    refine bodyPost_ret (v := .tuple #[T6.v ⟨x0, x1, x2, x3, x4, x5⟩, .bool true]) (by simp [results, Tryd.results30, go_sem, T6.v, e10, e11, e12, e13, e14, e15]) rfl ⟨by rw [HR2.out]; rfl, ?_⟩
    exact (Kp.setCell (p := ⟨w.heap.size, 5, none⟩) (Kp.setCell (p := ⟨w.heap.size, 4, none⟩) (Kp.setCell (p := ⟨w.heap.size, 3, none⟩) (Kp.setCell (p := ⟨w.heap.size, 2, none⟩) (Kp.setCell (p := ⟨w.heap.size, 1, none⟩) (Kp.setCell (p := ⟨w.heap.size, 0, none⟩) (HK9.out.drewN _) (.inr (Nat.le_refl _)) _) (.inr (Nat.le_refl _)) _) (.inr (Nat.le_refl _)) _) (.inr (Nat.le_refl _)) _) (.inr (Nat.le_refl _)) _) (.inr (Nat.le_refl _)) _)
end Go.Proofs.YtjdfgjlbmbiihaaDoor
