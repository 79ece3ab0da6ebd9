/-
  CursorBases: the walk.
-/
import Derived.Test.YtgndammlhljfjaaL01
namespace Go.Proofs.Ytgndammlhljfjaa
open Go.RowKit

set_option maxRecDepth 100000 in
theorem bases_walk (w : World) (v : Value) (l : List UInt8) (hv : BR w (· < w.heap.size) v l) (hl : l.length ≤ 140737488351232) (base : Int) (_hb : (Lit.int .i64 base).wf = true) (va : Value) (acts : List (Int × Int)) (ha : AR w (· < w.heap.size) va acts) :
    Calls Try.prog 8 #[v, .int .i64 base, va] w fun e w' => e = .returned (.bool true) ∧ Below w.heap.size w w' := by
  obtain ⟨A, c, rfl, hlc, hr⟩ := id hv
  obtain ⟨B, d, rfl, hbd, hra⟩ := id ha
  by_cases hlong : 100 < acts.length
  · go_enter Try.func8, Try.ntmps8
    go_wp2_with fail
    refine (alive01 _).mono ?_
    rintro e w1 ⟨rfl, hk1⟩
    go_wp2_with fail
    refine (alive01 _).mono ?_
    rintro e w2 ⟨rfl, hk2⟩
    go_wp2_with fail
    go_ret
    exact ⟨rfl, (hk1.then_ hk2 (fun _ h => h.elim)).below⟩
  · go_enter Try.func8, Try.ntmps8
    go_wp2_with fail
    refine (alive01 _).mono ?_
    rintro e w1 ⟨rfl, hk1⟩
    go_wp2_with fail
    refine (place_any _ _).mono ?_
    rintro e w' ⟨p, rfl, hp, rfl⟩
    go_wp2_with fail
    refine (new_any _ _ _ 0 _ (hv.kp hk1 (fun _ _ h => h))).mono ?_
    rintro e w2 ⟨x, rfl, hx, hx2, hk2⟩
    go_wp2_with fail
    refine (new_any _ _ _ p _ ((hv.kp hk1 (fun _ _ h => h)).kp hk2 (fun _ _ h => h))).mono ?_
    rintro e w3 ⟨y, rfl, hy, hy3, hk3⟩
    have hx3 := hx2.kp hk3 (fun _ _ h => h) (fun h => h)
    have hxy : x ≠ y := by have := hx2.lt; omega
    have hkk := (hk1.then_ hk2 (fun _ h => h.elim)).then_ hk3 (fun _ h => h.elim)
    have hwx : w.heap.size ≤ x := by have := hk1.size; omega
    have hwy : w.heap.size ≤ y := by have := hk1.size; have := hk2.size; omega
    clear hk1 hk2 hk3 hx2 hx hy
    go_wp2_with fail
    go_loopw [42] (fun i wr => ∃ k n : Nat, k ≤ acts.length ∧ i = .int .i64 k ∧ n ≤ l.length ∧ Cur wr (· < w.heap.size) x (l.drop n) n ∧ Cur wr (· < w.heap.size) y (l.drop n) (p + n) ∧ Kp (fun _ => False) w wr) (fun i _ => acts.length - (intOf i).toNat)
    case atStart => exact ⟨0, 0, Nat.zero_le _, rfl, Nat.zero_le _, by simpa using hx3, by simpa using hy3, hkk⟩
    case round =>
      obtain ⟨k, n, hk, rfl, hn, hxr, hyr, hkr⟩ := hrel
      by_cases hlt : k < acts.length
      · have hra' := hra.kp hkr (fun _ _ h => h)
        obtain ⟨b, off, rfl, hb, hcell⟩ := hra'.row (fun _ => rfl) hlt
        have hc0 : wr.cell? ⟨b, off + k * 2, none⟩ = some (.int .i64 acts[k].1) := hcell 0 _ rfl
        have hc1 : wr.cell? ⟨b, off + k * 2 + 1, none⟩ = some (.int .i64 acts[k].2) := hcell 1 _ rfl
        clear hcell
        have hxl := hxr.lt
        have hyl := hyr.lt
        have hBk : Blk (wr.alloc (.cells #[.int .i64 acts[k].1, .int .i64 acts[k].2] 39)) wr.heap.size 39 #[.int .i64 acts[k].1, .int .i64 acts[k].2] := Blk.new _ _ _
        have hka : Kp (fun _ => False) wr (wr.alloc (.cells #[.int .i64 acts[k].1, .int .i64 acts[k].2] 39)) := (Kp.refl _ _).alloc _
        have hxa := hxr.kp hka (fun _ _ h => h) (fun h => h)
        have hya := hyr.kp hka (fun _ _ h => h) (fun h => h)
        have hkra := hkr.then_ hka (fun _ h => h.elim)
        have hdl : (l.drop n).length = l.length - n := by simp
        obtain ⟨gn, en, hgn⟩ : ∃ gn en, nn (l.drop n) acts[k].2 = (gn, en) := ⟨_, _, rfl⟩
        obtain ⟨gt, et, hgt⟩ : ∃ gt et, nx (l.drop n) acts[k].2 = (gt, et) := ⟨_, _, rfl⟩
        have hgnl : gn.length ≤ l.length - n := by have := nn_len (l.drop n) acts[k].2; rw [hgn, hdl] at this; exact this
        have hgtl : gt.length ≤ l.length - n := by have := nx_len (l.drop n) acts[k].2; rw [hgt, hdl] at this; exact this
        have HN := Lib.hid hgn
        have HT := Lib.hid hgt
        clear hgn hgt hka hxr hyr
        generalize hW : wr.alloc (.cells #[.int .i64 acts[k].1, .int .i64 acts[k].2] 39) = W at hBk hxa hya hkra
        have HW := Lib.hid hW
        clear hW
        go_wp2_with fail
        · rw [HW.out]
          refine (number_at _ _ _ _ acts[k].2 _ hxa (by omega) (by omega) (by omega) (by omega) gn (l.drop (n + gn.length)) en (be gn) (n + gn.length : Nat) HN.out rfl (by simp) (by omega)).mono ?_
          rintro e w5 ⟨rfl, hx5, hk5⟩
          have hB5 := hBk.kp hk5 (by omega)
          have hc5 : w5.cell? ⟨wr.heap.size, 1, none⟩ = some (.int .i64 acts[k].2) := hB5.cell 1
          have hy5 := hya.kp hk5 (fun i hi hj => by omega) (by omega)
          have hkr5 := hkra.then_ hk5 (fun i hi => .inr (by omega))
          go_wp2_with fail
          refine (number_at _ _ _ _ acts[k].2 _ hy5 (by omega) (by omega) (by omega) (by omega) gn (l.drop (n + gn.length)) en (be gn) (p + (n + gn.length : Nat)) HN.out rfl (by simp) (by omega)).mono ?_
          rintro e w6 ⟨rfl, hy6, hk6⟩
          have hx6 := hx5.kp hk6 (fun i hi hj => by omega) (by omega)
          have hkr6 := hkr5.then_ hk6 (fun i hi => .inr (by omega))
          have hrest : (l.drop (n + gn.length)).length = l.length - (n + gn.length) := by simp
          go_wp2_with (first
            | (go_at_call_of 18 (Value.pointer (some ⟨x, 0, none⟩)); ((with_reducible refine (at_any _ x _ _ _ hx6).mono ?_); rintro e w' ⟨rfl, rfl⟩))
            | (go_at_call_of 18 (Value.pointer (some ⟨y, 0, none⟩)); ((with_reducible refine (at_any _ y _ _ _ hy6).mono ?_); rintro e w' ⟨rfl, rfl⟩))
            | (go_at_call_of 24 (Value.pointer (some ⟨x, 0, none⟩)); ((with_reducible refine (end_any _ x _ _ _ hx6 (by omega) (by omega)).mono ?_); rintro e w' ⟨rfl, rfl⟩))
            | (go_at_call_of 24 (Value.pointer (some ⟨y, 0, none⟩)); ((with_reducible refine (end_any _ y _ _ _ hy6 (by omega) (by omega)).mono ?_); rintro e w' ⟨rfl, rfl⟩))
            | (go_at_call_of 25 (Value.pointer (some ⟨x, 0, none⟩)); ((with_reducible refine (left_any _ x _ _ _ hx6).mono ?_); rintro e w' ⟨rfl, rfl⟩))
            | (go_at_call_of 25 (Value.pointer (some ⟨y, 0, none⟩)); ((with_reducible refine (left_any _ y _ _ _ hy6).mono ?_); rintro e w' ⟨rfl, rfl⟩)))
          go_roundw
          case rel => exact ⟨k + 1, n + gn.length, by omega, by go_num, by omega, hx6, hy6, hkr6⟩
          case measure => simp [intOf]; omega
        · rw [HW.out]
          refine (take_at _ _ _ _ acts[k].2 _ hxa (by omega) (by omega) (by omega) (by omega) gt (l.drop (n + gt.length)) et (n + gt.length : Nat) gt.length HT.out rfl (by simp) (by omega)).mono ?_
          rintro e w5 ⟨A5, c5, rfl, hlc5, hb5, hx5, hk5⟩
          have hB5 := hBk.kp hk5 (by omega)
          have hc5 : w5.cell? ⟨wr.heap.size, 1, none⟩ = some (.int .i64 acts[k].2) := hB5.cell 1
          have hy5 := hya.kp hk5 (fun i hi hj => by omega) (by omega)
          have hkr5 := hkra.then_ hk5 (fun i hi => .inr (by omega))
          go_wp2_with fail
          refine (take_at _ _ _ _ acts[k].2 _ hy5 (by omega) (by omega) (by omega) (by omega) gt (l.drop (n + gt.length)) et (p + (n + gt.length : Nat)) gt.length HT.out rfl (by simp) (by omega)).mono ?_
          rintro e w6 ⟨A6, c6, rfl, hlc6, hb6, hy6, hk6⟩
          have hx6 := hx5.kp hk6 (fun i hi hj => by omega) (by omega)
          have hkr6 := hkr5.then_ hk6 (fun i hi => .inr (by omega))
          have hs5 : (convert 22 9 (.slice A5 gt.length c5)).run Try.prog w6 = .ok (.string (str gt)) w6 := run_str (e := 5) Try.underlying22 Try.underlying5 Try.underlying9 (hb5.kp hk6 (fun i hi hj => by have := hBk.lt; omega))
          have hs6 : (convert 22 9 (.slice A6 gt.length c6)).run Try.prog w6 = .ok (.string (str gt)) w6 := run_str (e := 5) Try.underlying22 Try.underlying5 Try.underlying9 hb6
          have hrest : (l.drop (n + gt.length)).length = l.length - (n + gt.length) := by simp
          go_wp2_with (first
            | (go_at_call_of 18 (Value.pointer (some ⟨x, 0, none⟩)); ((with_reducible refine (at_any _ x _ _ _ hx6).mono ?_); rintro e w' ⟨rfl, rfl⟩))
            | (go_at_call_of 18 (Value.pointer (some ⟨y, 0, none⟩)); ((with_reducible refine (at_any _ y _ _ _ hy6).mono ?_); rintro e w' ⟨rfl, rfl⟩))
            | (go_at_call_of 24 (Value.pointer (some ⟨x, 0, none⟩)); ((with_reducible refine (end_any _ x _ _ _ hx6 (by omega) (by omega)).mono ?_); rintro e w' ⟨rfl, rfl⟩))
            | (go_at_call_of 24 (Value.pointer (some ⟨y, 0, none⟩)); ((with_reducible refine (end_any _ y _ _ _ hy6 (by omega) (by omega)).mono ?_); rintro e w' ⟨rfl, rfl⟩))
            | (go_at_call_of 25 (Value.pointer (some ⟨x, 0, none⟩)); ((with_reducible refine (left_any _ x _ _ _ hx6).mono ?_); rintro e w' ⟨rfl, rfl⟩))
            | (go_at_call_of 25 (Value.pointer (some ⟨y, 0, none⟩)); ((with_reducible refine (left_any _ y _ _ _ hy6).mono ?_); rintro e w' ⟨rfl, rfl⟩)))
          go_roundw
          case rel => exact ⟨k + 1, n + gt.length, by omega, by go_num, by omega, hx6, hy6, hkr6⟩
          case measure => simp [intOf]; omega
      · obtain rfl : k = acts.length := by omega
        go_wp2_with fail
        go_ret
        exact ⟨rfl, hkr.below⟩

end Go.Proofs.Ytgndammlhljfjaa
