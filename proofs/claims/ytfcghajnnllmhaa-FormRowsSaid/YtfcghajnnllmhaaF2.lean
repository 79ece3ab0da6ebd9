/-
  layout.own; Open; span.
-/
import Derived.Test.YtfcghajnnllmhaaF1
import Derived.BigQuiet
import Derived.Deep.QuietTactic
namespace Go.Proofs.Ytfcghajnnllmhaa
open Go.RowKit

theorem FmR.parts {w : World} {ok : Nat → Prop} {v : Value} {k s lo hi st : Int} {ps : List Fm} (h : FmR w ok v (.mk ⟨k, s, lo, hi, st⟩ ps)) :
    ∃ A c, v = .agg #[.int .i64 k, .int .i64 s, .int .i64 lo, .int .i64 hi, .int .i64 st, .slice A ps.length c] ∧ ps.length ≤ c ∧ ps.length ≤ 140737488355328 ∧ i64B k ∧ i64B s ∧ i64B lo ∧ i64B hi ∧ i64B st ∧ FsR w ok (.slice A ps.length c) ps := by
  obtain ⟨sv, rfl, ⟨h1, h2, h3, h4, h5⟩, A, c, rfl, h6, h7, h8⟩ := h
  exact ⟨A, c, rfl, h6, h7, h1, h2, h3, h4, h5, A, c, rfl, h6, h7, h8⟩

set_option maxRecDepth 100000 in
set_option maxHeartbeats 6400000 in
theorem own_len (k : Int) (hk : k = 1 ∨ k = 2) (ok : Nat → Prop) (v : Value) (s lo hi st : Int) (ps : List Fm) (w : World) (hv : FmR w ok v (.mk ⟨k, s, lo, hi, st⟩ ps)) :
    Calls Try.prog 63 #[v] w fun e w' => e = .returned (.int .i64 (ownR (.mk ⟨k, s, lo, hi, st⟩ ps))) ∧ Kp (fun _ => False) w w' := by
  obtain ⟨r, hr⟩ : ∃ r, ownR (.mk ⟨k, s, lo, hi, st⟩ ps) = r := ⟨_, rfl⟩
  rw [hr]
  have hr' : (if s < 1 ∨ 3 < s then 3 else if boundsR lo hi (256 ^ s.toNat - 1) ≠ 0 ∨ st < 1 ∨ 65536 < st then 5 else if k = 2 ∧ ps.length ≠ 1 then 15 else 0) = r := by
    rw [← hr]
    show _ = ownN k s lo hi st ps.length
    rw [ownN, if_neg (show ¬ k = 0 by omega), if_pos (show k = 2 ∨ k = 1 by omega)]
  clear hr
  obtain ⟨A, c, rfl, h1, h2, _, hs, hlo, hhi, hst, _⟩ := hv.parts
  clear hv
  have hk1 := (Kp.refl (fun _ => False) w).alloc (.cells #[.int .i64 k, .int .i64 s, .int .i64 lo, .int .i64 hi, .int .i64 st, .slice A ps.length c] 27)
  have HK := Lib.hid (fun n => hk1.drewN n)
  have HK0 := Lib.hid hk1
  clear hk1
  obtain ⟨hlo1, hlo2⟩ := hlo
  obtain ⟨hhi1, hhi2⟩ := hhi
  obtain ⟨hst1, hst2⟩ := hst
  by_cases s1 : s < 1
  · have t1 : decide (s < 1) = true := decide_eq_true s1
    rw [if_pos (.inl s1)] at hr'
    subst hr'
    clear s1
    rcases hk with rfl | rfl
    all_goals
      go_enter Try.func63, Try.ntmps63
      go_wp2_with fail
      go_ret
      exact ⟨rfl, HK0.out⟩
  have t1 : decide (s < 1) = false := decide_eq_false s1
  by_cases s3 : 3 < s
  · have t2 : decide (3 < s) = true := decide_eq_true s3
    rw [if_pos (.inr s3)] at hr'
    subst hr'
    clear s1 s3
    rcases hk with rfl | rfl
    all_goals
      go_enter Try.func63, Try.ntmps63
      go_wp2_with fail
      go_ret
      exact ⟨rfl, HK0.out⟩
  rw [if_neg (by omega)] at hr'
  have hs3 : s = 1 ∨ s = 2 ∨ s = 3 := by omega
  clear t1 s1 s3 hs
  obtain ⟨M, hM⟩ : ∃ M : Int, (256 : Int) ^ s.toNat - 1 = M := ⟨_, rfl⟩
  rw [hM] at hr'
  have HB := Lib.hid (fun W => bounds_any lo hi M W)
  generalize hb : boundsR lo hi M = b at HB hr'
  have hb5 : b = 0 ∨ b = 5 := by rw [← hb, boundsR]; split <;> simp
  clear hb
  have hlen : ((ps.length : Int) != 1) = decide (ps.length ≠ 1) := by rw [Bool.eq_iff_iff]; simp; omega
  have hcase : (b = 5) ∨ (b = 0 ∧ decide (st < 1) = true) ∨ (b = 0 ∧ decide (st < 1) = false ∧ decide (65536 < st) = true) ∨ (b = 0 ∧ decide (st < 1) = false ∧ decide (65536 < st) = false) := by
    rcases hb5 with h | h
    · by_cases p1 : st < 1
      · exact .inr (.inl ⟨h, decide_eq_true p1⟩)
      · by_cases p2 : 65536 < st
        · exact .inr (.inr (.inl ⟨h, decide_eq_false p1, decide_eq_true p2⟩))
        · exact .inr (.inr (.inr ⟨h, decide_eq_false p1, decide_eq_false p2⟩))
    · exact .inl h
  rcases hcase with rfl | ⟨rfl, g1⟩ | ⟨rfl, g1, g2⟩ | ⟨rfl, g1, g2⟩
  · rw [if_pos (.inl (by omega))] at hr'
    subst hr'
    clear hlen hb5
    rcases hk with rfl | rfl
    all_goals
      rcases hs3 with rfl | rfl | rfl
      all_goals
        have HB2 := Lib.hid (by rw [← hM] at HB; simpa using HB.out)
        clear HB hM
        go_enter Try.func63, Try.ntmps63
        go_wp2_with fail
        go_quiet ((go_at_call 68; exact quiet_left (HB2.out _)))
        go_wp2_with fail
        go_ret
        exact ⟨rfl, HK.out _⟩
  · rw [if_pos (.inr (.inl (of_decide_eq_true g1)))] at hr'
    subst hr'
    clear hlen hb5
    rcases hk with rfl | rfl
    all_goals
      rcases hs3 with rfl | rfl | rfl
      all_goals
        have HB2 := Lib.hid (by rw [← hM] at HB; simpa using HB.out)
        clear HB hM
        go_enter Try.func63, Try.ntmps63
        go_wp2_with fail
        go_quiet ((go_at_call 68; exact quiet_left (HB2.out _)))
        go_wp2_with fail
        go_ret
        exact ⟨rfl, HK.out _⟩
  · rw [if_pos (.inr (.inr (of_decide_eq_true g2)))] at hr'
    subst hr'
    clear hlen hb5
    rcases hk with rfl | rfl
    all_goals
      rcases hs3 with rfl | rfl | rfl
      all_goals
        have HB2 := Lib.hid (by rw [← hM] at HB; simpa using HB.out)
        clear HB hM
        go_enter Try.func63, Try.ntmps63
        go_wp2_with fail
        go_quiet ((go_at_call 68; exact quiet_left (HB2.out _)))
        go_wp2_with fail
        go_ret
        exact ⟨rfl, HK.out _⟩
  · have g1' := of_decide_eq_false g1
    have g2' := of_decide_eq_false g2
    rw [if_neg (by omega)] at hr'
    clear hb5 g1' g2'
    rcases hk with rfl | rfl
    · rw [if_neg (by omega)] at hr'
      subst hr'
      clear hlen
      rcases hs3 with rfl | rfl | rfl
      all_goals
        have HB2 := Lib.hid (by rw [← hM] at HB; simpa using HB.out)
        clear HB hM
        go_enter Try.func63, Try.ntmps63
        go_wp2_with fail
        go_quiet ((go_at_call 68; exact quiet_left (HB2.out _)))
        go_wp2_with fail
        go_ret
        exact ⟨rfl, HK.out _⟩
    · by_cases hl : ps.length ≠ 1
      · rw [if_pos ⟨rfl, hl⟩] at hr'
        rw [decide_eq_true hl] at hlen
        subst hr'
        clear hl
        rcases hs3 with rfl | rfl | rfl
        all_goals
          have HB2 := Lib.hid (by rw [← hM] at HB; simpa using HB.out)
          clear HB hM
          go_enter Try.func63, Try.ntmps63
          go_wp2_with fail
          go_quiet ((go_at_call 68; exact quiet_left (HB2.out _)))
          go_wp2_with fail
          go_ret
          exact ⟨rfl, HK.out _⟩
      · rw [if_neg (fun x => hl x.2)] at hr'
        rw [decide_eq_false hl] at hlen
        subst hr'
        clear hl
        rcases hs3 with rfl | rfl | rfl
        all_goals
          have HB2 := Lib.hid (by rw [← hM] at HB; simpa using HB.out)
          clear HB hM
          go_enter Try.func63, Try.ntmps63
          go_wp2_with fail
          go_quiet ((go_at_call 68; exact quiet_left (HB2.out _)))
          go_wp2_with fail
          go_ret
          exact ⟨rfl, HK.out _⟩

set_option maxRecDepth 100000 in
set_option maxHeartbeats 6400000 in
theorem own_any (ok : Nat → Prop) (v : Value) (f : Fm) (w : World) (hv : FmR w ok v f) :
    Calls Try.prog 63 #[v] w fun e w' => e = .returned (.int .i64 (ownR f)) ∧ Kp (fun _ => False) w w' := by
  obtain ⟨⟨k, s, lo, hi, st⟩, ps⟩ := f
  by_cases h12 : k = 1 ∨ k = 2
  · exact own_len k h12 ok v s lo hi st ps w hv
  obtain ⟨r, hr⟩ : ∃ r, ownR (.mk ⟨k, s, lo, hi, st⟩ ps) = r := ⟨_, rfl⟩
  rw [hr]
  have hr' : (if k = 0 then (if s < 1 ∨ (4 < s ∧ s ≠ 8) then 3 else 0) else if k = 3 then (if 32 < ps.length then 15 else 0) else if k = 4 then boundsR lo hi 16777215 else if k = 5 then boundsR lo lo 16777215 else (2 : Int)) = r := by
    rw [← hr]
    show _ = ownN k s lo hi st ps.length
    rw [ownN, if_neg (show ¬ (k = 2 ∨ k = 1) by omega)]
  clear hr
  obtain ⟨A, c, rfl, h1, h2, hk, hs, hlo, hhi, hst, _⟩ := hv.parts
  clear hv
  have hk1 := (Kp.refl (fun _ => False) w).alloc (.cells #[.int .i64 k, .int .i64 s, .int .i64 lo, .int .i64 hi, .int .i64 st, .slice A ps.length c] 27)
  have HK0 := Lib.hid hk1
  clear hk1
  have HB := Lib.hid (fun (a b : Int) W => bounds_any a b 16777215 W)
  by_cases k0 : k = 0
  · subst k0
    rw [if_pos rfl] at hr'
    by_cases s1 : s < 1
    · have t1 : decide (s < 1) = true := decide_eq_true s1
      rw [if_pos (.inl s1)] at hr'
      subst hr'
      clear s1
      go_enter Try.func63, Try.ntmps63
      go_wp2_with fail
      go_ret
      exact ⟨rfl, HK0.out⟩
    have t1 : decide (s < 1) = false := decide_eq_false s1
    by_cases s4 : 4 < s
    · have t2 : decide (4 < s) = true := decide_eq_true s4
      by_cases s8 : s = 8
      · subst s8
        rw [if_neg (by omega)] at hr'
        subst hr'
        clear s1 s4 t1 t2
        go_enter Try.func63, Try.ntmps63
        go_wp2_with fail
        go_ret
        exact ⟨rfl, HK0.out⟩
      · have t3 : (s != 8) = true := by simpa using s8
        rw [if_pos (.inr ⟨s4, s8⟩)] at hr'
        subst hr'
        clear s1 s4 s8
        go_enter Try.func63, Try.ntmps63
        go_wp2_with fail
        go_ret
        exact ⟨rfl, HK0.out⟩
    · have t2 : decide (4 < s) = false := decide_eq_false s4
      rw [if_neg (by omega)] at hr'
      subst hr'
      clear s1 s4
      go_enter Try.func63, Try.ntmps63
      go_wp2_with fail
      go_ret
      exact ⟨rfl, HK0.out⟩
  rw [if_neg k0] at hr'
  by_cases k3 : k = 3
  · subst k3
    rw [if_pos rfl] at hr'
    by_cases l32 : 32 < ps.length
    · have t1 : decide ((32 : Int) < (ps.length : Int)) = true := by simp; omega
      rw [if_pos l32] at hr'
      subst hr'
      clear l32
      go_enter Try.func63, Try.ntmps63
      go_wp2_with fail
      go_ret
      exact ⟨rfl, HK0.out⟩
    · have t1 : decide ((32 : Int) < (ps.length : Int)) = false := by simp; omega
      rw [if_neg l32] at hr'
      subst hr'
      clear l32
      go_enter Try.func63, Try.ntmps63
      go_wp2_with fail
      go_ret
      exact ⟨rfl, HK0.out⟩
  rw [if_neg k3] at hr'
  by_cases k4 : k = 4
  · subst k4
    rw [if_pos rfl] at hr'
    subst hr'
    go_enter Try.func63, Try.ntmps63
    go_wp2_with fail
    refine (HB.out _ _ _).mono ?_
    rintro e w1 ⟨rfl, rfl⟩
    go_wp2_with fail
    go_ret
    exact ⟨rfl, HK0.out⟩
  rw [if_neg k4] at hr'
  by_cases k5 : k = 5
  · subst k5
    rw [if_pos rfl] at hr'
    subst hr'
    go_enter Try.func63, Try.ntmps63
    go_wp2_with fail
    refine (HB.out _ _ _).mono ?_
    rintro e w1 ⟨rfl, rfl⟩
    go_wp2_with fail
    go_ret
    exact ⟨rfl, HK0.out⟩
  rw [if_neg k5] at hr'
  subst hr'
  have n0 : (k == 0) = false := by simpa using k0
  have n1 : (k == 1) = false := by simp; omega
  have n2 : (k == 2) = false := by simp; omega
  have n3 : (k == 3) = false := by simpa using k3
  have n4 : (k == 4) = false := by simpa using k4
  have n5 : (k == 5) = false := by simpa using k5
  clear k0 k3 k4 k5 h12
  go_enter Try.func63, Try.ntmps63
  go_wp2_with fail
  go_ret
  exact ⟨rfl, HK0.out⟩
end Go.Proofs.Ytfcghajnnllmhaa
