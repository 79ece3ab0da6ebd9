/-
  DertagPuts: the walk.
-/
import Derived.Test.YtjdfgjlbmbiihaaDoorL09
import Derived.Test.YtjdfgjlbmbiihaaDoorDrp
import Derived.Test.YtjdfgjlbmbiihaaDoorOpen09
import Derived.Deep.RegionHeld3
namespace Go.Proofs.YtjdfgjlbmbiihaaDoor
open Go.RowKit
set_option linter.unusedSimpArgs false

theorem wpAnyH_more {P : Program} {md : Region.Mode} {ops : Array Oper} {Q : Exit → Go.Act → World → Prop} {S S' : World → Prop} (hs : ∀ w, S' w → S w) :
    ∀ {fuel : Nat} {listed : Array Bool} {a : Go.Act} {w : World}, wpAnyH P md ops Q S' fuel listed a w → wpAnyH P md ops Q S fuel listed a w
  | 0, _, _, _, h => h
  | _ + 1, _, _, _, h => ⟨h.1, fun i hi => wpOp_mono (fun _ _ h' => ⟨hs _ h'.1, wpAnyH_more hs h'.2⟩) (h.2 i hi)⟩

set_option maxRecDepth 100000 in
set_option maxHeartbeats 1600000 in
theorem dputs_walk (w : World) (ht : Tab w) (c t : Int) (m : Bool) (n : Int) :
    Calls Tryd.prog 5 #[.agg #[.int .i64 c, .int .i64 t, .bool m, .int .i64 n]] w fun e w' => e = .returned (.bool true) ∧ Below w.heap.size w w' := by
  have k0 : Kp (fun _ => False) w (w.alloc (.cells #[.int .i64 c, .int .i64 t, .bool m, .int .i64 n] 24)) := (Kp.refl _ _).alloc _
  have b0 := Blk.new w 24 #[.int .i64 c, .int .i64 t, .bool m, .int .i64 n]
  have hput := fun W hW => put_any W hW c t m n
  have HK := Lib.hid (fun W hW => kind_any c t m W hW)
  have HRK := Lib.hid (fun W => rkind_any c t m W)
  unfold PutP at hput
  cases hk : kindB c t m
  · have hpt : pt c t m n = ([], 13) := by rw [pt, hk]; rfl
    simp only [hpt] at hput
    rw [hk] at HK HRK
    have HP := Lib.hid hput
    have K0 := Lib.hid k0
    have B0 := Lib.hid b0
    clear hput hpt hk k0 b0
    go_enter Tryd.func5, Tryd.ntmps5
    go_wp2_with fail
    refine (HP.out _ (ht.kp K0.out)).mono ?_
    rintro e w1 ⟨A1, c1, rfl, hb1, hk1⟩
    have k1 := K0.out.then_ hk1 (fun _ h => h.elim)
    have b1 := B0.out.kp hk1 (fun h => h)
    obtain ⟨d0, d1, d2, d3⟩ := b1.cells4
    have BB1 := Lib.hid b1
    clear hb1 b1
    go_wp2_with fail
    refine (HRK.out _).mono ?_
    rintro e w' ⟨rfl, rfl⟩
    go_wp2_with fail
    refine (alive09 _ (ht.kp k1)).mono ?_
    rintro e w2 ⟨rfl, hk2⟩
    have k2 := k1.then_ hk2 (fun _ h => h.elim)
    have b2 := BB1.out.kp hk2 (fun h => h)
    obtain ⟨f0, f1, f2, f3⟩ := b2.cells4
    clear d0 d1 d2 d3 b2
    go_wp2_with fail
    refine (HK.out _ (ht.kp k2)).mono ?_
    rintro e w' ⟨rfl, rfl⟩
    go_wp2_with fail
    refine (HK.out _ (ht.kp k2)).mono ?_
    rintro e w' ⟨rfl, rfl⟩
    go_wp2_with fail
    go_ret
    exact ⟨by simp, k2.below⟩
  by_cases hn : n < 0 ∨ 16777215 < n
  · have hpt : pt c t m n = ([], 5) := by rw [pt, hk, if_pos rfl, if_pos hn]
    have hn2 : n < 0 ∨ (decide (n < 0) = false ∧ 16777215 < n) := by
      by_cases h : n < 0
      · exact .inl h
      · exact .inr ⟨by simpa using h, by omega⟩
    simp only [hpt] at hput
    rw [hk] at HK HRK
    have HP := Lib.hid hput
    have K0 := Lib.hid k0
    have B0 := Lib.hid b0
    clear hput hpt hk k0 b0 hn
    rcases hn2 with h1 | ⟨h1, h2⟩
    all_goals
      go_enter Tryd.func5, Tryd.ntmps5
      go_wp2_with fail
      refine (HP.out _ (ht.kp K0.out)).mono ?_
      rintro e w1 ⟨A1, c1, rfl, hb1, hk1⟩
      have k1 := K0.out.then_ hk1 (fun _ h => h.elim)
      have b1 := B0.out.kp hk1 (fun h => h)
      obtain ⟨d0, d1, d2, d3⟩ := b1.cells4
      have BB1 := Lib.hid b1
      clear hb1 b1
      go_wp2_with fail
      refine (HRK.out _).mono ?_
      rintro e w' ⟨rfl, rfl⟩
      go_wp2_with fail
      refine (alive09 _ (ht.kp k1)).mono ?_
      rintro e w2 ⟨rfl, hk2⟩
      have k2 := k1.then_ hk2 (fun _ h => h.elim)
      have b2 := BB1.out.kp hk2 (fun h => h)
      obtain ⟨f0, f1, f2, f3⟩ := b2.cells4
      clear d0 d1 d2 d3 b2
      go_wp2_with fail
      refine (HK.out _ (ht.kp k2)).mono ?_
      rintro e w' ⟨rfl, rfl⟩
      go_wp2_with fail
      go_ret
      exact ⟨by simp, k2.below⟩
  · obtain ⟨q, hq⟩ : ∃ q, (pt c t m n).1 = q := ⟨_, rfl⟩
    have hpt : pt c t m n = (q, 0) := by rw [← hq, pt, hk, if_pos rfl, if_neg hn]
    have hrput : ∀ W, Calls Tryd.prog 20 #[.agg #[.int .i64 c, .int .i64 t, .bool m, .int .i64 n]] W (RPutP c t m n W) := by
      intro W
      obtain ⟨N, rfl⟩ := Int.eq_ofNat_of_zero_le (show 0 ≤ n by omega)
      exact rput_any W c t m N hk (by omega)
    unfold RPutP at hrput
    simp only [hpt] at hput hrput
    rw [hk] at HK HRK
    have HP := Lib.hid hput
    have HRP := Lib.hid hrput
    have K0 := Lib.hid k0
    have B0 := Lib.hid b0
    have h1 : decide (n < 0) = false := by simp; omega
    have h2 : decide (16777215 < n) = false := by simp; omega
    clear hput hrput hpt hk k0 b0 hn hq
    go_enter Tryd.func5, Tryd.ntmps5
    go_wp2_with fail
    refine (HP.out _ (ht.kp K0.out)).mono ?_
    rintro e w1 ⟨A1, c1, rfl, hb1, hk1⟩
    have k1 := K0.out.then_ hk1 (fun _ h => h.elim)
    have b1 := B0.out.kp hk1 (fun h => h)
    obtain ⟨d0, d1, d2, d3⟩ := b1.cells4
    have BB1 := Lib.hid b1
    have HB1 := Lib.hid hb1
    clear hb1 b1
    go_wp2_with fail
    refine (HRK.out _).mono ?_
    rintro e w' ⟨rfl, rfl⟩
    go_wp2_with fail
    refine (alive09 _ (ht.kp k1)).mono ?_
    rintro e w2 ⟨rfl, hk2⟩
    have k2 := k1.then_ hk2 (fun _ h => h.elim)
    have b2 := BB1.out.kp hk2 (fun h => h)
    obtain ⟨f0, f1, f2, f3⟩ := b2.cells4
    have HB2 := Lib.hid b2
    clear d0 d1 d2 d3 b2
    go_wp2_with fail
    refine (HK.out _ (ht.kp k2)).mono ?_
    rintro e w' ⟨rfl, rfl⟩
    have hS1 : ∀ W, Kp (fun _ => False) w2 W → (convert 22 9 (.slice A1 q.length c1)).run Tryd.prog W = .ok (.string (str q)) W := fun W hk => run_str (e := 5) Tryd.underlying22 Tryd.underlying5 Tryd.underlying9 ((HB1.out.kp hk2 (fun _ _ h => h)).kp hk (fun _ _ h => h))
    have HS1 := Lib.hid hS1
    have hC : ∀ W, Kp (fun _ => False) w2 W → W.cell? ⟨w.heap.size, 0, none⟩ = some (.int .i64 c) ∧ W.cell? ⟨w.heap.size, 1, none⟩ = some (.int .i64 t) ∧ W.cell? ⟨w.heap.size, 2, none⟩ = some (.bool m) ∧ W.cell? ⟨w.heap.size, 3, none⟩ = some (.int .i64 n) := fun W hk => (HB2.out.kp hk (fun h => h)).cells4
    have HC := Lib.hid hC
    clear hS1 hC
    go_wp2_with fail
    have hd0 : Kp (fun _ => False) w2 w2.drew := (Kp.refl _ _).drew
    refine wp_region_noPanic ?_
    refine wp_region_held_drew (S := (fun w' : World => (w'.cell? ⟨w.heap.size, 0, none⟩ = some (.int .i64 c) ∧ w'.cell? ⟨w.heap.size, 1, none⟩ = some (.int .i64 t) ∧ w'.cell? ⟨w.heap.size, 2, none⟩ = some (.bool m) ∧ w'.cell? ⟨w.heap.size, 3, none⟩ = some (.int .i64 n)) ∧ (convert 22 9 (.slice A1 q.length c1)).run Tryd.prog w' = .ok (.string (str q)) w')) (by kernel_rfl) ⟨HC.out _ hd0, HS1.out _ hd0⟩ (fun hHeld => ?_)
    refine wpAnyH_take (i := 0) (oi := _) (v := ?v0) rfl (by kernel_rfl) (by kernel_rfl) (by kernel_rfl) (fun _ _ _ h => h) (Or.inl ⟨by rfl, ?hy0⟩) (by assumption) ?rest0
    case hy0 => (intro w hSw; (try dsimp only at hSw); go_simp; (try with_reducible rfl))
    try simp only [Act.put, List.setIfInBounds_toArray, List.set_cons_zero, List.set_cons_succ]
    refine wpAnyH_take (i := 1) (oi := _) (v := ?v1) rfl (by kernel_rfl) (by kernel_rfl) (by kernel_rfl) (fun _ _ _ h => h) (Or.inl ⟨by rfl, ?hy1⟩) (by assumption) ?rest1
    case hy1 => (intro w hSw; (try dsimp only at hSw); go_simp; (try with_reducible rfl))
    try simp only [Act.put, List.setIfInBounds_toArray, List.set_cons_zero, List.set_cons_succ]
    refine wpAnyH_take (i := 2) (oi := _) (v := ?v2) rfl (by kernel_rfl) (by kernel_rfl) (by kernel_rfl) (fun _ _ _ h => h) (Or.inl ⟨by rfl, ?hy2⟩) (by assumption) ?rest2
    case hy2 => (intro w hSw; (try dsimp only at hSw); go_simp; (try with_reducible rfl))
    try simp only [Act.put, List.setIfInBounds_toArray, List.set_cons_zero, List.set_cons_succ]
    refine wpAnyH_take (i := 3) (oi := _) (v := ?v3) rfl (by kernel_rfl) (by kernel_rfl) (by kernel_rfl) (fun _ _ _ h => h) (Or.inl ⟨by rfl, ?hy3⟩) (by assumption) ?rest3
    case hy3 => (intro w hSw; (try dsimp only at hSw); go_simp; (try with_reducible rfl))
    try simp only [Act.put, List.setIfInBounds_toArray, List.set_cons_zero, List.set_cons_succ]
    refine wpAnyH_take (i := 4) (oi := _) (v := ?v4) rfl (by kernel_rfl) (by kernel_rfl) (by kernel_rfl) (fun _ _ _ h => h) (Or.inl ⟨by rfl, ?hy4⟩) (by assumption) ?rest4
    case hy4 => (intro w hSw; (try dsimp only at hSw); go_simp; (try with_reducible rfl))
    try simp only [Act.put, List.setIfInBounds_toArray, List.set_cons_zero, List.set_cons_succ]
    refine wpAnyH_take (i := 5) (oi := _) (v := ?v5) rfl (by kernel_rfl) (by kernel_rfl) (by kernel_rfl) (fun _ _ _ h => h) (Or.inl ⟨by rfl, ?hy5⟩) (by assumption) ?rest5
    case hy5 => (intro w hSw; (try dsimp only at hSw); go_simp; (try with_reducible rfl))
    try simp only [Act.put, List.setIfInBounds_toArray, List.set_cons_zero, List.set_cons_succ]
    refine wpAnyH_ready (rs := [6]) (by kernel_rfl) (by simp) ?_
    refine AllReadyH.cons (o := _) rfl (fun K hK => ?_) AllReadyH.nil
    go_simp
    refine (HRP.out _).mono ?_
    rintro e w3 ⟨A3, c3, rfl, hb3, hk3⟩
    have hk4 : Kp (fun _ => False) w2 w3 := ((Kp.refl _ _).drew).then_ hk3 (fun _ h => h.elim)
    have hs3 := Lib.hid (run_str (P := Tryd.prog) (src := 22) (dst := 9) (e := 5) Tryd.underlying22 Tryd.underlying5 Tryd.underlying9 hb3)
    have he := Lib.hid (And.intro (HC.out w3 hk4) (HS1.out w3 hk4))
    clear hb3
    dsimp only
    refine hK.out _ _ he.out (fun hHeld => ?_)
    clear hK K
    refine wpAnyH_more (S' := (fun w' : World => ((w'.cell? ⟨w.heap.size, 0, none⟩ = some (.int .i64 c) ∧ w'.cell? ⟨w.heap.size, 1, none⟩ = some (.int .i64 t) ∧ w'.cell? ⟨w.heap.size, 2, none⟩ = some (.bool m) ∧ w'.cell? ⟨w.heap.size, 3, none⟩ = some (.int .i64 n)) ∧ (convert 22 9 (.slice A1 q.length c1)).run Tryd.prog w' = .ok (.string (str q)) w') ∧ (convert 22 9 (.slice A3 q.length c3)).run Tryd.prog w' = .ok (.string (str q)) w')) (fun _ h => h.1) ?_
    have hHeld2 : ((fun w' : World => ((w'.cell? ⟨w.heap.size, 0, none⟩ = some (.int .i64 c) ∧ w'.cell? ⟨w.heap.size, 1, none⟩ = some (.int .i64 t) ∧ w'.cell? ⟨w.heap.size, 2, none⟩ = some (.bool m) ∧ w'.cell? ⟨w.heap.size, 3, none⟩ = some (.int .i64 n)) ∧ (convert 22 9 (.slice A1 q.length c1)).run Tryd.prog w' = .ok (.string (str q)) w') ∧ (convert 22 9 (.slice A3 q.length c3)).run Tryd.prog w' = .ok (.string (str q)) w')) _ := ⟨hHeld, hs3.out⟩
    clear hHeld
    refine wpAnyH_take (i := 7) (oi := _) (v := ?v7) rfl (by kernel_rfl) (by kernel_rfl) (by kernel_rfl) (fun _ _ _ h => h) (Or.inl ⟨by rfl, ?hy7⟩) (by assumption) ?rest7
    case hy7 => (intro w hSw; (try dsimp only at hSw); go_simp; (try with_reducible rfl))
    try simp only [Act.put, List.setIfInBounds_toArray, List.set_cons_zero, List.set_cons_succ]
    refine wpAnyH_take (i := 8) (oi := _) (v := ?v8) rfl (by kernel_rfl) (by kernel_rfl) (by kernel_rfl) (fun _ _ _ h => h) (Or.inl ⟨by rfl, ?hy8⟩) (by assumption) ?rest8
    case hy8 => (intro w hSw; (try dsimp only at hSw); go_simp; (try with_reducible rfl))
    try simp only [Act.put, List.setIfInBounds_toArray, List.set_cons_zero, List.set_cons_succ]
    refine wpAnyH_take (i := 9) (oi := _) (v := ?v9) rfl (by kernel_rfl) (by kernel_rfl) (by kernel_rfl) (fun _ _ _ h => h) (Or.inl ⟨by rfl, ?hy9⟩) (by assumption) ?rest9
    case hy9 => (intro w hSw; (try dsimp only at hSw); go_simp; (try with_reducible rfl))
    try simp only [Act.put, List.setIfInBounds_toArray, List.set_cons_zero, List.set_cons_succ]
    refine wpAnyH_take (i := 10) (oi := _) (v := ?v10) rfl (by kernel_rfl) (by kernel_rfl) (by kernel_rfl) (fun _ _ _ h => h) (Or.inl ⟨by rfl, ?hy10⟩) (by assumption) ?rest10
    case hy10 => (intro w hSw; (try dsimp only at hSw); go_simp; (try with_reducible rfl))
    try simp only [Act.put, List.setIfInBounds_toArray, List.set_cons_zero, List.set_cons_succ]
    refine wpAnyH_done (by kernel_rfl) ?_ _
    refine NoPanic.normal ?_
    go_wp2_with fail
    go_ret
    exact ⟨by simp, (k2.then_ hk4 (fun _ h => h.elim)).below⟩

theorem dputs_walk2 (w : World) (ht : Tab w) (v : Value) (x : Int × Int × Bool × Int) (hv : v = headV x) :
    Calls Tryd.prog 5 #[v] w fun e w' => e = .returned (.bool true) ∧ Below w.heap.size w w' := by
  subst hv
  exact dputs_walk w ht _ _ _ _
end Go.Proofs.YtjdfgjlbmbiihaaDoor
