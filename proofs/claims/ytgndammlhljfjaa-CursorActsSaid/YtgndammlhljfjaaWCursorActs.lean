/-
  CursorActs: the walk.
-/
import Derived.Test.YtgndammlhljfjaaL01
import Derived.Test.YtgndammlhljfjaaR01
namespace Go.Proofs.Ytgndammlhljfjaa
open Go.RowKit

set_option maxRecDepth 100000 in
set_option maxHeartbeats 1600000 in
theorem acts_walk (w : World) (v : Value) (l : List UInt8) (hv : BR w (· < w.heap.size) v l) (hl : l.length ≤ 140737488351232) (base : Int) (_hb : (Lit.int .i64 base).wf = true) (va : Value) (acts : List (Int × Int)) (ha : AR w (· < w.heap.size) va acts) :
    Calls Try.prog 4 #[v, .int .i64 base, va] w fun e w' => e = .returned (.bool true) ∧ Below w.heap.size w w' := by
  obtain ⟨A, c, rfl, hlc, hr⟩ := id hv
  obtain ⟨B, d, rfl, hbd, hra⟩ := id ha
  by_cases hlong : 200 < acts.length
  · go_enter Try.func4, Try.ntmps4
    go_wp2_with fail
    refine (alive01 _).mono ?_
    rintro e w1 ⟨rfl, hk1⟩
    go_wp2_with fail
    refine (alive01 _).mono ?_
    rintro e w2 ⟨rfl, hk2⟩
    go_wp2_with fail
    go_ret
    exact ⟨rfl, (hk1.then_ hk2 (fun _ h => h.elim)).below⟩
  · go_enter Try.func4, Try.ntmps4
    go_wp2_with fail
    refine (alive01 _).mono ?_
    rintro e w1 ⟨rfl, hk1⟩
    go_wp2_with fail
    refine (place_any _ _).mono ?_
    rintro e w' ⟨p, rfl, hp, rfl⟩
    go_wp2_with fail
    refine (new_any _ _ _ p _ (hv.kp hk1 (fun _ _ h => h))).mono ?_
    rintro e w2 ⟨x, rfl, hx, hx2, hk2⟩
    have hy3 : RCur (w2.alloc (.cells #[.slice A l.length c, .int .i64 p, .int .i64 0] 37)) (· < w.heap.size) w2.heap.size l p 0 :=
      ⟨_, ((hv.kp hk1 (fun _ _ h => h)).kp hk2 (fun _ _ h => h)).kp ((Kp.refl (fun _ => False) w2).alloc _) (fun _ _ h => h), Blk.new _ _ _⟩
    have hka : Kp (fun _ => False) w2 (w2.alloc (.cells #[.slice A l.length c, .int .i64 p, .int .i64 0] 37)) := (Kp.refl _ _).alloc _
    have hx3 := hx2.kp hka (fun _ _ h => h) (fun h => h)
    have hkk := (hk1.then_ hk2 (fun _ h => h.elim)).then_ hka (fun _ h => h.elim)
    have hwx : w.heap.size ≤ x := by have := hk1.size; omega
    have hwy : w.heap.size ≤ w2.heap.size := by have := hk1.size; have := hk2.size; omega
    have hxy : x < w2.heap.size := hx2.lt
    clear hk1 hk2 hka hx2 hx
    go_wp2_with fail
    obtain ⟨y, hy⟩ : ∃ y, y = w2.heap.size := ⟨_, rfl⟩
    generalize hw3 : w2.alloc (.cells #[.slice A l.length c, .int .i64 p, .int .i64 0] 37) = w3 at hy3 hx3 hkk
    rw [← hy] at hy3 hwy hxy
    rw [← hy]
    clear hw3 hy
    go_loopw [47] (fun i wr => ∃ k n : Nat, k ≤ acts.length ∧ i = .int .i64 k ∧ n ≤ l.length ∧ Cur wr (· < w.heap.size) x (l.drop n) (p + n) ∧ RCur wr (· < w.heap.size) y l p n ∧ Kp (fun _ => False) w wr) (fun i _ => acts.length - (intOf i).toNat)
    case atStart => exact ⟨0, 0, Nat.zero_le _, rfl, Nat.zero_le _, by simpa using hx3, hy3, hkk⟩
    case round =>
      obtain ⟨k, n, hk, rfl, hn, hxr, hyr, hkr⟩ := hrel
      by_cases hlt : k < acts.length
      · have hra' := hra.kp hkr (fun _ _ h => h)
        obtain ⟨b, off, rfl, hb, hcell⟩ := hra'.row (fun _ => rfl) hlt
        have hc0 : wr.cell? ⟨b, off + k * 2, none⟩ = some (.int .i64 acts[k].1) := hcell 0 _ rfl
        have hc1 : wr.cell? ⟨b, off + k * 2 + 1, none⟩ = some (.int .i64 acts[k].2) := hcell 1 _ rfl
        clear hcell
        obtain ⟨vy0, _, hby0⟩ := id hyr
        have hcy0 : wr.cell? ⟨y, 2, none⟩ = some (.int .i64 n) := hby0.cell 2
        clear hby0
        have hxl := hxr.lt
        have hyl := hyr.lt
        have hBk : Blk (wr.alloc (.cells #[.int .i64 acts[k].1, .int .i64 acts[k].2] 39)) wr.heap.size 39 #[.int .i64 acts[k].1, .int .i64 acts[k].2] := Blk.new _ _ _
        have hka : Kp (fun _ => False) wr (wr.alloc (.cells #[.int .i64 acts[k].1, .int .i64 acts[k].2] 39)) := (Kp.refl _ _).alloc _
        have hxa := hxr.kp hka (fun _ _ h => h) (fun h => h)
        have hya := hyr.kp hka (fun _ _ h => h) (fun h => h)
        have hkra := hkr.then_ hka (fun _ h => h.elim)
        have hdl : (l.drop n).length = l.length - n := by simp
        obtain ⟨gn, en, hgn⟩ : ∃ gn en, nn (l.drop n) acts[k].2 = (gn, en) := ⟨_, _, rfl⟩
        obtain ⟨gt, et, hgt⟩ : ∃ gt et, nx (l.drop n) acts[k].2 = (gt, et) := ⟨_, _, rfl⟩
        have hgnl : gn.length ≤ l.length - n := by have := nn_len (l.drop n) acts[k].2; rw [hgn, hdl] at this; exact this
        have hgtl : gt.length ≤ l.length - n := by have := nx_len (l.drop n) acts[k].2; rw [hgt, hdl] at this; exact this
        have hgc := nx_cases (l.drop n) acts[k].2
        rw [hgt] at hgc
        have HC := Lib.hid hgc
        have HN := Lib.hid hgn
        have HT := Lib.hid hgt
        clear hgn hgt hka hxr hyr hgc
        generalize hW : wr.alloc (.cells #[.int .i64 acts[k].1, .int .i64 acts[k].2] 39) = W at hBk hxa hya hkra
        have HW := Lib.hid hW
        clear hW
        by_cases hK0 : acts[k].1 = 0
        · have hq0 : (acts[k].1 == 0) = true := by simpa using hK0
          clear hK0
          go_wp2_with fail
          rw [HW.out]
          refine (number_at _ _ _ _ acts[k].2 _ hxa (by omega) (by omega) (by omega) (by omega) gn (l.drop (n + gn.length)) en (be gn) (p + (n + gn.length : Nat)) HN.out rfl (by simp) (by omega)).mono ?_
          rintro e w5 ⟨rfl, hx5, hk5⟩
          have hB5 := hBk.kp hk5 (by omega)
          have hc5 : w5.cell? ⟨wr.heap.size, 1, none⟩ = some (.int .i64 acts[k].2) := hB5.cell 1
          have hy5 := hya.kp hk5 (fun i hi hj => by omega) (by omega)
          have hkr5 := hkra.then_ hk5 (fun i hi => .inr (by omega))
          go_wp2_with fail
          refine (rnumber_at _ _ _ _ _ acts[k].2 _ hy5 (by omega) hn hl gn en (be gn) (n + gn.length) HN.out rfl rfl).mono ?_
          rintro e w6 ⟨rfl, hy6, hk6⟩
          have hx6 := hx5.kp hk6 (fun i hi hj => by omega) (by omega)
          have hkr6 := hkr5.then_ hk6 (fun i hi => .inr (by omega))
          have hrest : (l.drop (n + gn.length)).length = l.length - (n + gn.length) := by simp
          have hbe1 : (((l.drop (n + gn.length)).length : Int) != (l.length : Int) - (((n + gn.length) : Nat) : Int)) = false := by rw [bne_eq_false_iff_eq]; omega
          have hbe2 : ((p : Int) + (((n + gn.length) : Nat) : Int) + ((l.drop (n + gn.length)).length : Int) != (p : Int) + (l.length : Int)) = false := by rw [bne_eq_false_iff_eq]; omega
          have hLeq : (n + gn.length) ≤ l.length := by omega
          generalize hD : l.drop (n + gn.length) = D at hx6 hbe1 hbe2 hrest
          have HD := Lib.hid hD
          generalize hM : (n + gn.length) = M at hx6 hy6 hbe1 hbe2 hLeq
          have HM := Lib.hid hM
          clear hD hM hrest
          obtain ⟨vy, _, hby⟩ := id hy6
          have hcy : w6.cell? ⟨y, 2, none⟩ = some (.int .i64 M) := hby.cell 2
          go_wp2_with fail
          go_quiet (first
            | (go_at_call 18; exact quiet_left (at_any _ x _ _ _ (hx6.kp ((Kp.refl (fun _ => False) w6).drewN _) (fun _ _ h => h) (fun h => h))))
            | (go_at_call 25; exact quiet_left (left_any _ x _ _ _ (hx6.kp ((Kp.refl (fun _ => False) w6).drewN _) (fun _ _ h => h) (fun h => h))))
            | (go_at_call 24; exact quiet_left (end_any _ x _ _ _ (hx6.kp ((Kp.refl (fun _ => False) w6).drewN _) (fun _ _ h => h) (fun h => h)) (by omega) (by rw [← HD.out]; simp; omega))))
          go_wp2_with fail
          go_roundw
          case rel => exact ⟨k + 1, M, by omega, by go_num, hLeq, by rw [show l.drop M = D from by rw [← HM.out]; exact HD.out]; exact hx6.kp ((Kp.refl (fun _ => False) w6).drewN _) (fun _ _ h => h) (fun h => h), hy6.kp ((Kp.refl (fun _ => False) w6).drewN _) (fun _ _ h => h) (fun h => h), hkr6.drewN _⟩
          case measure => simp [intOf]; omega
        by_cases hK1 : acts[k].1 = 1
        · have hq0 : (acts[k].1 == 0) = false := by simpa using hK0
          have hq1 : (acts[k].1 == 1) = true := by simpa using hK1
          clear hK0 hK1
          go_wp2_with fail
          rw [HW.out]
          refine (take_at _ _ _ _ acts[k].2 _ hxa (by omega) (by omega) (by omega) (by omega) gt (l.drop (n + gt.length)) et (p + (n + gt.length : Nat)) gt.length HT.out rfl (by simp) (by omega)).mono ?_
          rintro e w5 ⟨A5, c5, rfl, hlc5, hb5, hx5, hk5⟩
          have hB5 := hBk.kp hk5 (by omega)
          have hc5 : w5.cell? ⟨wr.heap.size, 1, none⟩ = some (.int .i64 acts[k].2) := hB5.cell 1
          have hy5 := hya.kp hk5 (fun i hi hj => by omega) (by omega)
          have hkr5 := hkra.then_ hk5 (fun i hi => .inr (by omega))
          go_wp2_with fail
          refine (rtake_at _ _ _ _ _ acts[k].2 _ hy5 (by omega) hn hl gt et gt.length (n + gt.length) HT.out rfl rfl).mono ?_
          rintro e w6 ⟨A6, c6, rfl, hb6, hy6, hk6⟩
          have hx6 := hx5.kp hk6 (fun i hi hj => by omega) (by omega)
          have hkr6 := hkr5.then_ hk6 (fun i hi => .inr (by omega))
          have hsA5 : (convert 22 9 (.slice A5 gt.length c5)).run Try.prog w6 = .ok (.string (str gt)) w6 := run_str (e := 5) Try.underlying22 Try.underlying5 Try.underlying9 (hb5.kp hk6 (fun i hi hj => by have := hBk.lt; omega))
          have hsA6 : (convert 22 9 (.slice A6 gt.length c6)).run Try.prog w6 = .ok (.string (str gt)) w6 := run_str (e := 5) Try.underlying22 Try.underlying5 Try.underlying9 (hb6)
          have hrest : (l.drop (n + gt.length)).length = l.length - (n + gt.length) := by simp
          have hbe1 : (((l.drop (n + gt.length)).length : Int) != (l.length : Int) - (((n + gt.length) : Nat) : Int)) = false := by rw [bne_eq_false_iff_eq]; omega
          have hbe2 : ((p : Int) + (((n + gt.length) : Nat) : Int) + ((l.drop (n + gt.length)).length : Int) != (p : Int) + (l.length : Int)) = false := by rw [bne_eq_false_iff_eq]; omega
          have hLeq : (n + gt.length) ≤ l.length := by omega
          generalize hD : l.drop (n + gt.length) = D at hx6 hbe1 hbe2 hrest
          have HD := Lib.hid hD
          generalize hM : (n + gt.length) = M at hx6 hy6 hbe1 hbe2 hLeq
          have HM := Lib.hid hM
          clear hD hM hrest
          obtain ⟨vy, _, hby⟩ := id hy6
          have hcy : w6.cell? ⟨y, 2, none⟩ = some (.int .i64 M) := hby.cell 2
          go_wp2_with fail
          go_quiet (first
            | (go_at_call 18; exact quiet_left (at_any _ x _ _ _ (hx6.kp ((Kp.refl (fun _ => False) w6).drewN _) (fun _ _ h => h) (fun h => h))))
            | (go_at_call 25; exact quiet_left (left_any _ x _ _ _ (hx6.kp ((Kp.refl (fun _ => False) w6).drewN _) (fun _ _ h => h) (fun h => h))))
            | (go_at_call 24; exact quiet_left (end_any _ x _ _ _ (hx6.kp ((Kp.refl (fun _ => False) w6).drewN _) (fun _ _ h => h) (fun h => h)) (by omega) (by rw [← HD.out]; simp; omega))))
          go_wp2_with fail
          go_roundw
          case rel => exact ⟨k + 1, M, by omega, by go_num, hLeq, by rw [show l.drop M = D from by rw [← HM.out]; exact HD.out]; exact hx6.kp ((Kp.refl (fun _ => False) w6).drewN _) (fun _ _ h => h) (fun h => h), hy6.kp ((Kp.refl (fun _ => False) w6).drewN _) (fun _ _ h => h) (fun h => h), hkr6.drewN _⟩
          case measure => simp [intOf]; omega
        by_cases hK2 : acts[k].1 = 2
        · have hq0 : (acts[k].1 == 0) = false := by simpa using hK0
          have hq1 : (acts[k].1 == 1) = false := by simpa using hK1
          have hq2 : (acts[k].1 == 2) = true := by simpa using hK2
          clear hK0 hK1 hK2
          rcases HC.out with ⟨he0, hn0, hnl, hgot⟩ | ⟨hne, hbad, hgot⟩
          · simp only at he0 hgot
            subst he0
            obtain ⟨m, hm⟩ := Int.eq_ofNat_of_zero_le hn0
            have hgl : gt.length = m := by rw [hgot, hm]; simp; omega
            have HM2 := Lib.hid hm
            have HG := Lib.hid hgot
            clear hm hgot hn0
            subst hgl
            go_wp2_with fail
            rw [HW.out, HM2.out]
            refine (sub_ok _ _ _ _ gt.length _ hxa (by omega) (by omega) (by omega) (by omega) (by omega)).mono ?_
            rintro e w5 ⟨s, rfl, hs, hs5, hx5, hk5⟩
            have hB5 := hBk.kp hk5 (by omega)
            have hc5 : w5.cell? ⟨wr.heap.size, 1, none⟩ = some (.int .i64 acts[k].2) := hB5.cell 1
            have hy5 := hya.kp hk5 (fun i hi hj => by omega) (by omega)
            have hkr5 := hkra.then_ hk5 (fun i hi => .inr (by omega))
            have hWl := hBk.lt
            go_wp2_with fail
            refine (rtake_at _ _ _ _ _ acts[k].2 _ hy5 (by omega) hn hl gt 0 gt.length (n + gt.length) HT.out rfl rfl).mono ?_
            rintro e w6' ⟨A6, c6, rfl, hb6', hy6', hk6⟩
            have hx6' := hx5.kp hk6 (fun i hi hj => by omega) (by omega)
            have hs6 := hs5.kp hk6 (fun i hi hj => by omega) (by omega)
            have hkr6' := hkr5.then_ hk6 (fun i hi => .inr (by omega))
            have hG2 : (l.drop n).take gt.length = gt := by have := HG.out; rw [HM2.out] at this; simpa using this.symm
            rw [hG2] at hs6
            clear hG2
            go_wp2_with (first
              | (go_at_call 18; ((with_reducible refine (at_any _ s _ _ _ hs6).mono ?_); rintro e w' ⟨rfl, rfl⟩))
              | (go_at_call 25; ((with_reducible refine (left_any _ s _ _ _ hs6).mono ?_); rintro e w' ⟨rfl, rfl⟩))
              | (go_at_call 24; ((with_reducible refine (end_any _ s _ _ _ hs6 (by omega) (by omega)).mono ?_); rintro e w' ⟨rfl, rfl⟩)))
            refine (take_at _ _ _ _ gt.length _ hs6 (by omega) (by omega) (by omega) (by omega) gt [] 0 (p + n + gt.length) gt.length (by rw [nx_ok (by omega) (by omega)]; simp) rfl (by simp) (by omega)).mono ?_
            rintro e w6 ⟨A7, c7, rfl, hlc7, hb7, hs7, hk7⟩
            have hx6 := hx6'.kp hk7 (fun i hi hj => by omega) (by omega)
            have hy6 := hy6'.kp hk7 (fun i hi hj => by omega) (by omega)
            have hkr6 := hkr6'.then_ hk7 (fun i hi => .inr (by omega))
            have hsA7 : (convert 22 9 (.slice A7 gt.length c7)).run Try.prog w6 = .ok (.string (str gt)) w6 := run_str (e := 5) Try.underlying22 Try.underlying5 Try.underlying9 (hb7)
            have hsA6 : (convert 22 9 (.slice A6 gt.length c6)).run Try.prog w6 = .ok (.string (str gt)) w6 := run_str (e := 5) Try.underlying22 Try.underlying5 Try.underlying9 (hb6'.kp hk7 (fun i hi hj => by omega))
            have hx6 : Cur w6 (· < w.heap.size) x (l.drop (n + gt.length)) (p + (n + gt.length : Nat)) := by
              have e1 : (l.drop n).drop gt.length = l.drop (n + gt.length) := by simp
              have e2 : (p : Int) + n + gt.length = p + (n + gt.length : Nat) := by omega
              rw [← e1, ← e2]; exact hx6
            have hrest : (l.drop (n + gt.length)).length = l.length - (n + gt.length) := by simp
            have hbe1 : (((l.drop (n + gt.length)).length : Int) != (l.length : Int) - (((n + gt.length) : Nat) : Int)) = false := by rw [bne_eq_false_iff_eq]; omega
            have hbe2 : ((p : Int) + (((n + gt.length) : Nat) : Int) + ((l.drop (n + gt.length)).length : Int) != (p : Int) + (l.length : Int)) = false := by rw [bne_eq_false_iff_eq]; omega
            have hLeq : (n + gt.length) ≤ l.length := by omega
            generalize hD : l.drop (n + gt.length) = D at hx6 hbe1 hbe2 hrest
            have HD := Lib.hid hD
            generalize hM : (n + gt.length) = M at hx6 hy6 hbe1 hbe2 hLeq
            have HM := Lib.hid hM
            clear hD hM hrest
            obtain ⟨vy, _, hby⟩ := id hy6
            have hcy : w6.cell? ⟨y, 2, none⟩ = some (.int .i64 M) := hby.cell 2
            go_wp2_with fail
            go_quiet (first
              | (go_at_call 18; exact quiet_left (at_any _ x _ _ _ (hx6.kp ((Kp.refl (fun _ => False) w6).drewN _) (fun _ _ h => h) (fun h => h))))
              | (go_at_call 25; exact quiet_left (left_any _ x _ _ _ (hx6.kp ((Kp.refl (fun _ => False) w6).drewN _) (fun _ _ h => h) (fun h => h))))
              | (go_at_call 24; exact quiet_left (end_any _ x _ _ _ (hx6.kp ((Kp.refl (fun _ => False) w6).drewN _) (fun _ _ h => h) (fun h => h)) (by omega) (by rw [← HD.out]; simp; omega))))
            go_wp2_with fail
            go_roundw
            case rel => exact ⟨k + 1, M, by omega, by go_num, hLeq, by rw [show l.drop M = D from by rw [← HM.out]; exact HD.out]; exact hx6.kp ((Kp.refl (fun _ => False) w6).drewN _) (fun _ _ h => h) (fun h => h), hy6.kp ((Kp.refl (fun _ => False) w6).drewN _) (fun _ _ h => h) (fun h => h), hkr6.drewN _⟩
            case measure => simp [intOf]; omega
          · simp only at hne hgot
            subst hgot
            have hne1 : (et != 0) = true := by simpa using hne
            have hne2 : (et == 0) = false := by simpa using hne
            clear hne
            go_wp2_with fail
            rw [HW.out]
            refine (sub_err _ _ _ _ acts[k].2 _ hxa (by omega) (by omega) (by omega) (by omega) hbad).mono ?_
            rintro e w5 ⟨he, hx5, hk5⟩
            rw [HT.out] at he
            subst he
            have hB5 := hBk.kp hk5 (by omega)
            have hc5 : w5.cell? ⟨wr.heap.size, 1, none⟩ = some (.int .i64 acts[k].2) := hB5.cell 1
            have hy5 := hya.kp hk5 (fun i hi hj => by omega) (by omega)
            have hkr5 := hkra.then_ hk5 (fun i hi => .inr (by omega))
            go_wp2_with fail
            refine (rtake_at _ _ _ _ _ acts[k].2 _ hy5 (by omega) hn hl [] et 0 n HT.out rfl rfl).mono ?_
            rintro e w6 ⟨A6, c6, rfl, hb6, hy6, hk6⟩
            have hx6 := hx5.kp hk6 (fun i hi hj => by omega) (by omega)
            have hkr6 := hkr5.then_ hk6 (fun i hi => .inr (by omega))
            have hrest : (l.drop (n)).length = l.length - (n) := by simp
            have hbe1 : (((l.drop (n)).length : Int) != (l.length : Int) - (((n) : Nat) : Int)) = false := by rw [bne_eq_false_iff_eq]; omega
            have hbe2 : ((p : Int) + (((n) : Nat) : Int) + ((l.drop (n)).length : Int) != (p : Int) + (l.length : Int)) = false := by rw [bne_eq_false_iff_eq]; omega
            have hLeq : (n) ≤ l.length := by omega
            generalize hD : l.drop (n) = D at hx6 hbe1 hbe2 hrest
            have HD := Lib.hid hD
            generalize hM : (n) = M at hx6 hy6 hbe1 hbe2 hLeq
            have HM := Lib.hid hM
            clear hD hM hrest
            obtain ⟨vy, _, hby⟩ := id hy6
            have hcy : w6.cell? ⟨y, 2, none⟩ = some (.int .i64 M) := hby.cell 2
            go_wp2_with fail
            go_quiet (first
              | (go_at_call 18; exact quiet_left (at_any _ x _ _ _ (hx6.kp ((Kp.refl (fun _ => False) w6).drewN _) (fun _ _ h => h) (fun h => h))))
              | (go_at_call 25; exact quiet_left (left_any _ x _ _ _ (hx6.kp ((Kp.refl (fun _ => False) w6).drewN _) (fun _ _ h => h) (fun h => h))))
              | (go_at_call 24; exact quiet_left (end_any _ x _ _ _ (hx6.kp ((Kp.refl (fun _ => False) w6).drewN _) (fun _ _ h => h) (fun h => h)) (by omega) (by rw [← HD.out]; simp; omega))))
            go_wp2_with fail
            go_roundw
            case rel => exact ⟨k + 1, M, by omega, by go_num, hLeq, by rw [show l.drop M = D from by rw [← HM.out]; exact HD.out]; exact hx6.kp ((Kp.refl (fun _ => False) w6).drewN _) (fun _ _ h => h) (fun h => h), hy6.kp ((Kp.refl (fun _ => False) w6).drewN _) (fun _ _ h => h) (fun h => h), hkr6.drewN _⟩
            case measure => simp [intOf]; omega
        · have hq0 : (acts[k].1 == 0) = false := by simpa using hK0
          have hq1 : (acts[k].1 == 1) = false := by simpa using hK1
          have hq2 : (acts[k].1 == 2) = false := by simpa using hK2
          clear hK0 hK1 hK2
          obtain ⟨w6, hw6⟩ : ∃ w6, w6 = W := ⟨_, rfl⟩
          have hx6 := hxa
          have hy6 := hya
          have hkr6 := hkra
          rw [← hw6] at hx6 hy6 hkr6
          go_wp2_with fail
          rw [HW.out, ← hw6]
          clear hw6
          have hrest : (l.drop (n)).length = l.length - (n) := by simp
          have hbe1 : (((l.drop (n)).length : Int) != (l.length : Int) - (((n) : Nat) : Int)) = false := by rw [bne_eq_false_iff_eq]; omega
          have hbe2 : ((p : Int) + (((n) : Nat) : Int) + ((l.drop (n)).length : Int) != (p : Int) + (l.length : Int)) = false := by rw [bne_eq_false_iff_eq]; omega
          have hLeq : (n) ≤ l.length := by omega
          generalize hD : l.drop (n) = D at hx6 hbe1 hbe2 hrest
          have HD := Lib.hid hD
          generalize hM : (n) = M at hx6 hy6 hbe1 hbe2 hLeq
          have HM := Lib.hid hM
          clear hD hM hrest
          obtain ⟨vy, _, hby⟩ := id hy6
          have hcy : w6.cell? ⟨y, 2, none⟩ = some (.int .i64 M) := hby.cell 2
          go_wp2_with fail
          go_quiet (first
            | (go_at_call 18; exact quiet_left (at_any _ x _ _ _ (hx6.kp ((Kp.refl (fun _ => False) w6).drewN _) (fun _ _ h => h) (fun h => h))))
            | (go_at_call 25; exact quiet_left (left_any _ x _ _ _ (hx6.kp ((Kp.refl (fun _ => False) w6).drewN _) (fun _ _ h => h) (fun h => h))))
            | (go_at_call 24; exact quiet_left (end_any _ x _ _ _ (hx6.kp ((Kp.refl (fun _ => False) w6).drewN _) (fun _ _ h => h) (fun h => h)) (by omega) (by rw [← HD.out]; simp; omega))))
          go_wp2_with fail
          go_roundw
          case rel => exact ⟨k + 1, M, by omega, by go_num, hLeq, by rw [show l.drop M = D from by rw [← HM.out]; exact HD.out]; exact hx6.kp ((Kp.refl (fun _ => False) w6).drewN _) (fun _ _ h => h) (fun h => h), hy6.kp ((Kp.refl (fun _ => False) w6).drewN _) (fun _ _ h => h) (fun h => h), hkr6.drewN _⟩
          case measure => simp [intOf]; omega
      · obtain rfl : k = acts.length := by omega
        go_wp2_with fail
        go_ret
        exact ⟨rfl, hkr.below⟩

end Go.Proofs.Ytgndammlhljfjaa
