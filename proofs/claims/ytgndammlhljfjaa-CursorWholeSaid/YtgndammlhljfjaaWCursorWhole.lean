/-
  CursorWhole: the walk.
-/
import Derived.Test.YtgndammlhljfjaaL01
import Derived.Test.YtgndammlhljfjaaOpen
namespace Go.Proofs.Ytgndammlhljfjaa
open Go.RowKit

set_option maxRecDepth 100000 in
set_option maxHeartbeats 800000 in
theorem whole_walk (w : World) (v : Value) (l : List UInt8) (hv : BR w (· < w.heap.size) v l) (hl : l.length ≤ 140737488351232) (vn : Value) (ns : List Int) (hns : IR .i64 w (· < w.heap.size) vn ns) (_hwf : ∀ n ∈ ns, (Lit.int .i64 n).wf = true) (_hnl : ns.length ≤ 140737488351232) :
    Calls Try.prog 6 #[v, vn] w fun e w' => e = .returned (.bool true) ∧ Below w.heap.size w w' := by
  obtain ⟨A, c, rfl, hlc, hr⟩ := id hv
  obtain ⟨B, d, rfl, hbd, hri⟩ := id hns
  obtain ⟨xs, hxs, hxl, hx100⟩ : ∃ xs : List Int, Rd w (· < w.heap.size) 1 B xs.length (ic .i64 xs) ∧ xs.length ≤ 100 ∧ (xs = ns ∨ (xs.length = 100 ∧ 100 < ns.length)) := by
    rcases Nat.lt_or_ge 100 ns.length with h | h
    · refine ⟨ns.take 100, ?_, by simp; omega, .inr ⟨by simp; omega, h⟩⟩
      have := hri.take (k := 100) (by omega)
      rw [Nat.mul_one, ic_take] at this
      rw [show (ns.take 100).length = 100 from by simp; omega]
      exact this
    · exact ⟨ns, hri, h, .inl rfl⟩
  rcases hx100 with rfl | ⟨hx100, hgt⟩
  all_goals
    go_enter Try.func6, Try.ntmps6
    go_wp2_with fail
    refine (new_any _ _ _ 7 _ hv).mono ?_
    rintro e w1 ⟨g, rfl, hg, hc1, hk1⟩
    go_wp2_with fail
    refine (alive01 _).mono ?_
    rintro e w2 ⟨rfl, hk2⟩
    have hc2 := hc1.kp hk2 (fun _ _ h => h) (fun h => h)
    have hk := hk1.then_ hk2 (fun _ h => h.elim)
    clear hk1 hk2 hc1
    go_wp2_with fail
    go_loopw [6, 29] (fun s i wr => ∃ k n : Nat, k ≤ xs.length ∧ i = .int .i64 k ∧ n ≤ l.length ∧ s = .string (str (l.take n)) ∧ Cur wr (· < w.heap.size) g (l.drop n) (7 + n) ∧ Kp (fun _ => False) w wr) (fun _ i _ => xs.length - (intOf i).toNat)
    case atStart => exact ⟨0, 0, Nat.zero_le _, rfl, Nat.zero_le _, rfl, by simpa using hc2, hk⟩
    case round =>
      obtain ⟨k, n, hkl, rfl, hn, rfl, hcr, hkr⟩ := hrel
      have hSz : (str (l.take n)).size = n := by rw [str_size]; simp; omega
      generalize hS : str (l.take n) = S at hSz
      have HS := Lib.hid hS
      clear hS
      by_cases hlt : k < xs.length
      · obtain ⟨b, off, hB, hb, hcell⟩ := (hxs.kp hkr (fun _ _ h => h)).int hlt
        subst hB
        have hdl : (l.drop n).length = l.length - n := by simp
        obtain ⟨gt, et, hgt⟩ : ∃ gt et, nx (l.drop n) xs[k] = (gt, et) := ⟨_, _, rfl⟩
        have hgc := nx_cases (l.drop n) xs[k]
        rw [hgt, hdl] at hgc
        have HT := Lib.hid hgt
        clear hgt
        rcases hgc with ⟨he0, hn0, hnl2, hgot⟩ | ⟨hne, hbad, hgot⟩
        · simp only at he0 hgot
          subst he0
          obtain ⟨m, hm⟩ := Int.eq_ofNat_of_zero_le hn0
          have hgl : gt.length = m := by rw [hgot, hm]; simp; omega
          have HG := Lib.hid hgot
          generalize hy : xs[k] = y at hcell HT hm hn0 hnl2 HG
          subst hm hgl
          clear hy hgot
          go_wp2_with (go_at_call 18; ((with_reducible refine (at_any _ g _ _ _ hcr).mono ?_); rintro e w' ⟨rfl, rfl⟩))
          refine (take_at _ _ _ _ gt.length _ hcr (by omega) (by omega) (by omega) (by omega) gt (l.drop (n + gt.length)) 0 (7 + n + gt.length) gt.length HT.out rfl (by simp) rfl).mono ?_
          rintro e w6 ⟨A6, c6, rfl, hlc6, hb6, hc6, hk6⟩
          have hkr6 := hkr.then_ hk6 (fun i hi => .inr (by omega))
          have hs6 : (convert 22 9 (.slice A6 gt.length c6)).run Try.prog w6 = .ok (.string (str gt)) w6 := run_str (e := 5) Try.underlying22 Try.underlying5 Try.underlying9 hb6
          have hz6 : (str gt).size ≤ 140737488351232 := by rw [str_size]; omega
          have hcut : (gt.length : Int) ≤ (l.length : Int) - (n : Int) := by omega
          go_wp2_with (go_at_call 18; ((with_reducible refine (at_any _ g _ _ _ hc6).mono ?_); rintro e w' ⟨rfl, rfl⟩))
          have hfin : S ++ str gt = str (l.take (n + gt.length)) := by
            rw [← HS.out, str_append]
            congr 1
            have := HG.out
            rw [Int.toNat_natCast] at this
            rw [List.take_add, ← this]
          go_roundw
          case rel => exact ⟨k + 1, n + gt.length, by omega, by go_num, by omega, by rw [hfin], by rw [show (7 : Int) + ((n + gt.length : Nat) : Int) = 7 + n + gt.length from by omega]; exact hc6, hkr6⟩
          case measure => simp [intOf]; omega
        · simp only at hne hgot
          subst hgot
          have hne1 : (et != 0) = true := by simpa using hne
          have hne2 : (et == 0) = false := by simpa using hne
          generalize hy : xs[k] = y at hcell HT hbad
          clear hne hy
          rcases hbad with hbad | hbad
          all_goals
            go_wp2_with (go_at_call 18; ((with_reducible refine (at_any _ g _ _ _ hcr).mono ?_); rintro e w' ⟨rfl, rfl⟩))
            refine (take_at _ _ _ _ y _ hcr (by omega) (by omega) (by omega) (by omega) [] (l.drop n) et (7 + n) 0 HT.out rfl rfl (by omega)).mono ?_
            rintro e w6 ⟨A6, c6, rfl, hlc6, hb6, hc6, hk6⟩
            have hkr6 := hkr.then_ hk6 (fun i hi => .inr (by omega))
            have hs6 : (convert 22 9 (.slice A6 0 c6)).run Try.prog w6 = .ok (.string (str [])) w6 := run_str (e := 5) Try.underlying22 Try.underlying5 Try.underlying9 hb6
            have hz6 : (str []).size ≤ 140737488351232 := by rw [str_size]; simp
            go_wp2_with (go_at_call 18; ((with_reducible refine (at_any _ g _ _ _ hc6).mono ?_); rintro e w' ⟨rfl, rfl⟩))
            have hfin : S ++ str [] = str (l.take n) := by
              rw [← HS.out, str_append, List.append_nil]
            go_roundw
            case rel => exact ⟨k + 1, n, by omega, by go_num, by omega, by rw [hfin], hc6, hkr6⟩
            case measure => simp [intOf]; omega
      · obtain rfl : k = xs.length := by omega
        have hdl : (l.drop n).length = l.length - n := by simp
        generalize hD : l.drop n = D at hcr hdl
        have HD := Lib.hid hD
        clear hD
        have HL := Lib.hid hdl
        clear hdl
        go_wp2_with (go_at_call 25; ((with_reducible refine (left_any _ g _ _ _ hcr).mono ?_); rintro e w' ⟨rfl, rfl⟩))
        refine (take_at _ _ _ _ D.length _ hcr (by omega) (by have := HL.out; omega) (by omega) (by have := HL.out; omega) D [] 0 (7 + n + D.length) D.length (by rw [nx_ok (by omega) (by omega)]; simp) rfl (by simp) rfl).mono ?_
        rintro e w6 ⟨A6, c6, rfl, hlc6, hb6, hc6, hk6⟩
        have hkr6 := hkr.then_ hk6 (fun i hi => .inr (by omega))
        have hs6 : (convert 22 9 (.slice A6 D.length c6)).run Try.prog w6 = .ok (.string (str D)) w6 := run_str (e := 5) Try.underlying22 Try.underlying5 Try.underlying9 hb6
        have hsl : (convert 22 9 (.slice A l.length c)).run Try.prog w6 = .ok (.string (str l)) w6 := run_str (e := 5) Try.underlying22 Try.underlying5 Try.underlying9 (hv.kp hkr6 (fun _ _ h => h))
        have hz6 : (str D).size ≤ 140737488351232 := by rw [str_size, HL.out]; omega
        have hfin : ((S ++ str D).toList == (str l).toList) = true := by
          rw [← HS.out, str_append, ← HD.out, List.take_append_drop]
          exact str_beq l
        go_wp2_with (first
          | (go_at_call 18; ((with_reducible refine (at_any _ g _ _ _ hc6).mono ?_); rintro e w' ⟨rfl, rfl⟩))
          | (go_at_call 25; ((with_reducible refine (left_any _ g _ _ _ hc6).mono ?_); rintro e w' ⟨rfl, rfl⟩))
          | (go_at_call 24; ((with_reducible refine (end_any _ g _ _ _ hc6 (by omega) (by have := HL.out; simp; omega)).mono ?_); rintro e w' ⟨rfl, rfl⟩)))
        go_ret
        exact ⟨by simp, hkr6.below⟩

end Go.Proofs.Ytgndammlhljfjaa
