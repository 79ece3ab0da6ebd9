/-
  BuilderNumbers: the walk.
-/
import Derived.Test.YtgndammlhljfjaaL02
import Derived.OpenShut
namespace Go.Proofs.Ytgndammlhljfjaa
open Go.RowKit

set_option maxRecDepth 100000 in
set_option maxHeartbeats 3200000 in
theorem bnumbers_walk (w : World) (size : Int) (_h0 : (Lit.int .i64 size).wf = true) (x : Int) (hwf : (Lit.int .u64 x).wf = true) :
    Calls Try.prog 10 #[.int .i64 size, .int .u64 x] w fun e w' => e = .returned (.bool true) ∧ Below w.heap.size w w' := by
  have h2 := bounds_u64 hwf
  clear hwf
  obtain ⟨x, rfl⟩ := Int.eq_ofNat_of_zero_le h2.1
  have hx : x < 18446744073709551616 := by omega
  clear h2
  cases hs : szB size
  · have h := szB_false hs
    have HS := Lib.hid hs
    clear hs
    rcases h with h | ⟨h, h'⟩
    all_goals
      try have hb : (size != 8) = true := by simpa using h'
      go_enter Try.func10, Try.ntmps10
      go_wp2_with fail
      refine (bnew_ok 100 (by omega) _).mono ?_
      rintro e w1 ⟨a, rfl, ha, ha1, hk1⟩
      go_wp2_with fail
      refine (bnew_ok 100 (by omega) _).mono ?_
      rintro e w2 ⟨b, rfl, hb', hb2, hk2⟩
      go_wp2_with fail
      refine (alive02 _).mono ?_
      rintro e w3 ⟨rfl, hk3⟩
      have ha3 := (ha1.kp hk2 (fun _ _ h => h)).kp hk3 (fun _ _ h => h)
      have hk := (hk1.then_ hk2 (fun _ h => h.elim)).then_ hk3 (fun _ h => h.elim)
      go_wp2_with (first
        | (go_at_call 29; ((with_reducible refine (bnumber_size a size x _ HS.out).mono ?_); rintro e w' ⟨rfl, rfl⟩))
        | (go_at_call 32; ((with_reducible refine (blen_any _ a _ _ _ _ ha3).mono ?_); rintro e w' ⟨rfl, rfl⟩)))
      go_ret
      exact ⟨rfl, hk.below⟩
  · rcases szB_cases' hs with rfl | rfl | rfl | rfl | rfl
    · clear hs
      by_cases hbig : 256 ≤ x
      · go_enter Try.func10, Try.ntmps10
        go_wp2_with fail
        refine (bnew_ok 100 (by omega) _).mono ?_
        rintro e w1 ⟨a, rfl, ha, ha1, hk1⟩
        go_wp2_with fail
        refine (bnew_ok 100 (by omega) _).mono ?_
        rintro e w2 ⟨b, rfl, hb', hb2, hk2⟩
        go_wp2_with fail
        refine (alive02 _).mono ?_
        rintro e w3 ⟨rfl, hk3⟩
        have ha3 := (ha1.kp hk2 (fun _ _ h => h)).kp hk3 (fun _ _ h => h)
        have hb3 := hb2.kp hk3 (fun _ _ h => h)
        have hk := (hk1.then_ hk2 (fun _ h => h.elim)).then_ hk3 (fun _ h => h.elim)
        have hz1 := hk1.size
        have hz2 := hk2.size
        have hz3 := hk3.size
        have hal := ha1.lt
        have hbl := hb2.lt
        go_wp2_with fail
        refine (bnumber_range a 1 x hx _ (by decide) (by simpa using hbig)).mono ?_
        rintro e w' ⟨rfl, rfl⟩
        go_wp2_with (go_at_call 32; ((with_reducible refine (blen_any _ a _ _ _ _ ha3).mono ?_); rintro e w' ⟨rfl, rfl⟩))
        go_ret
        exact ⟨rfl, hk.below⟩
      have hfit : x < 256 := by omega
      clear hbig
      go_enter Try.func10, Try.ntmps10
      go_wp2_with fail
      refine (bnew_ok 100 (by omega) _).mono ?_
      rintro e w1 ⟨a, rfl, ha, ha1, hk1⟩
      go_wp2_with fail
      refine (bnew_ok 100 (by omega) _).mono ?_
      rintro e w2 ⟨b, rfl, hb', hb2, hk2⟩
      go_wp2_with fail
      refine (alive02 _).mono ?_
      rintro e w3 ⟨rfl, hk3⟩
      have ha3 := (ha1.kp hk2 (fun _ _ h => h)).kp hk3 (fun _ _ h => h)
      have hb3 := hb2.kp hk3 (fun _ _ h => h)
      have hk := (hk1.then_ hk2 (fun _ h => h.elim)).then_ hk3 (fun _ h => h.elim)
      have hz1 := hk1.size
      have hz2 := hk2.size
      have hz3 := hk3.size
      have hal := ha1.lt
      have hbl := hb2.lt
      go_wp2_with fail
      refine (bnumber_ok _ a [] 100 [] 1 x hx _ ha3 (by decide) (by simpa using hfit) (by decide)).mono ?_
      rintro e w4 ⟨rfl, ha4, hk4⟩
      have hz4 := hk4.size
      have ha4 := ha4.mono (ok' := fun i => (i = a ∨ w3.heap.size ≤ i) ∧ i < w4.heap.size) (fun i hi h => ⟨h, hi⟩)
      have hb4 := (hb3.kp hk4 (fun i hi h => by omega)).mono (ok' := fun i => i = b ∨ w4.heap.size ≤ i) (fun i _ h => .inl h)
      have hkk4 := hk.then_ hk4 (fun i hi => .inr (by omega))
      go_wp2_with fail
      refine wp_loop_rounds (1 + 1) ?_
      rw [rounds_succ]
      go_wp2_with fail
      rw [and_255 (x : Int) x (by omega) (by omega)]
      refine (bnumber_ok _ b [] 100 [] 1 (x % 256) (by omega) _ hb4 (by decide) (by omega) (Nat.le_of_ble_eq_true rfl)).mono ?_
      intro e w5 hst
      obtain ⟨rfl, hb5, hk5⟩ := hst.up (fun i hi => .inr (by omega))
      have hz5 := hk5.size
      have ha5 := ha4.kp hk5 (fun i hi h => by omega)
      have hkk5 := hkk4.then_ hk5 (fun i hi => .inr (by omega))
      go_wp2_with fail
      have hbs : ([] ++ beB 1 (x % 256)) = [] ++ beB 1 x := by
        simp only [beB_one]
        simp only [beB, List.nil_append]
      have HBS := Lib.hid hbs
      clear hbs
      rw [rounds_succ]
      go_wp2_with fail
      refine (bdone_at _ a _ 100 1 _ ha5 rfl).mono ?_
      rintro e v1 ⟨A1, c1, rfl, hl1, hy1, ha', hm1⟩
      have hbx := hb5.kp hm1 (fun _ _ h => h)
      go_wp2_with fail
      refine (bdone_at _ b _ 100 1 _ hbx (by rw [HBS.out]; rfl)).mono ?_
      rintro e v2 ⟨A2, c2, rfl, hl2, hy2, hb'', hm2⟩
      rw [HBS.out] at hy2
      have hs1 : (convert 22 9 (.slice A1 1 c1)).run Try.prog v2 = .ok (.string (str ([] ++ beB 1 x))) v2 := run_str (e := 5) Try.underlying22 Try.underlying5 Try.underlying9 (hy1.kp hm2 (fun _ _ h => h))
      have hs2 : (convert 22 9 (.slice A2 1 c2)).run Try.prog v2 = .ok (.string (str ([] ++ beB 1 x))) v2 := run_str (e := 5) Try.underlying22 Try.underlying5 Try.underlying9 hy2
      have hkk := (hkk5.then_ hm1 (fun _ h => h.elim)).then_ hm2 (fun _ h => h.elim)
      generalize hgs : str ([] ++ beB 1 x) = gs at hs1 hs2
      clear hgs
      go_wp2_with fail
      go_ret
      exact ⟨by simp, hkk.below⟩
    · clear hs
      by_cases hbig : 65536 ≤ x
      · go_enter Try.func10, Try.ntmps10
        go_wp2_with fail
        refine (bnew_ok 100 (by omega) _).mono ?_
        rintro e w1 ⟨a, rfl, ha, ha1, hk1⟩
        go_wp2_with fail
        refine (bnew_ok 100 (by omega) _).mono ?_
        rintro e w2 ⟨b, rfl, hb', hb2, hk2⟩
        go_wp2_with fail
        refine (alive02 _).mono ?_
        rintro e w3 ⟨rfl, hk3⟩
        have ha3 := (ha1.kp hk2 (fun _ _ h => h)).kp hk3 (fun _ _ h => h)
        have hb3 := hb2.kp hk3 (fun _ _ h => h)
        have hk := (hk1.then_ hk2 (fun _ h => h.elim)).then_ hk3 (fun _ h => h.elim)
        have hz1 := hk1.size
        have hz2 := hk2.size
        have hz3 := hk3.size
        have hal := ha1.lt
        have hbl := hb2.lt
        go_wp2_with fail
        refine (bnumber_range a 2 x hx _ (by decide) (by simpa using hbig)).mono ?_
        rintro e w' ⟨rfl, rfl⟩
        go_wp2_with (go_at_call 32; ((with_reducible refine (blen_any _ a _ _ _ _ ha3).mono ?_); rintro e w' ⟨rfl, rfl⟩))
        go_ret
        exact ⟨rfl, hk.below⟩
      have hfit : x < 65536 := by omega
      clear hbig
      go_enter Try.func10, Try.ntmps10
      go_wp2_with fail
      refine (bnew_ok 100 (by omega) _).mono ?_
      rintro e w1 ⟨a, rfl, ha, ha1, hk1⟩
      go_wp2_with fail
      refine (bnew_ok 100 (by omega) _).mono ?_
      rintro e w2 ⟨b, rfl, hb', hb2, hk2⟩
      go_wp2_with fail
      refine (alive02 _).mono ?_
      rintro e w3 ⟨rfl, hk3⟩
      have ha3 := (ha1.kp hk2 (fun _ _ h => h)).kp hk3 (fun _ _ h => h)
      have hb3 := hb2.kp hk3 (fun _ _ h => h)
      have hk := (hk1.then_ hk2 (fun _ h => h.elim)).then_ hk3 (fun _ h => h.elim)
      have hz1 := hk1.size
      have hz2 := hk2.size
      have hz3 := hk3.size
      have hal := ha1.lt
      have hbl := hb2.lt
      go_wp2_with fail
      refine (bnumber_ok _ a [] 100 [] 2 x hx _ ha3 (by decide) (by simpa using hfit) (by decide)).mono ?_
      rintro e w4 ⟨rfl, ha4, hk4⟩
      have hz4 := hk4.size
      have ha4 := ha4.mono (ok' := fun i => (i = a ∨ w3.heap.size ≤ i) ∧ i < w4.heap.size) (fun i hi h => ⟨h, hi⟩)
      have hb4 := (hb3.kp hk4 (fun i hi h => by omega)).mono (ok' := fun i => i = b ∨ w4.heap.size ≤ i) (fun i _ h => .inl h)
      have hkk4 := hk.then_ hk4 (fun i hi => .inr (by omega))
      go_wp2_with fail
      refine wp_loop_rounds (2 + 1) ?_
      rw [rounds_succ]
      go_wp2_with fail
      rw [and_255 ((x : Int) / 256) (x / 256) (by omega) (by omega)]
      refine (bnumber_ok _ b [] 100 [] 1 ((x / 256) % 256) (by omega) _ hb4 (by decide) (by omega) (Nat.le_of_ble_eq_true rfl)).mono ?_
      intro e w5 hst
      obtain ⟨rfl, hb5, hk5⟩ := hst.up (fun i hi => .inr (by omega))
      have hz5 := hk5.size
      have ha5 := ha4.kp hk5 (fun i hi h => by omega)
      have hkk5 := hkk4.then_ hk5 (fun i hi => .inr (by omega))
      go_wp2_with fail
      rw [rounds_succ]
      go_wp2_with fail
      rw [and_255 (x : Int) x (by omega) (by omega)]
      refine (bnumber_ok _ b ([] ++ beB 1 ((x / 256) % 256)) 100 [] 1 (x % 256) (by omega) _ hb5 (by decide) (by omega) (Nat.le_of_ble_eq_true rfl)).mono ?_
      intro e w6 hst
      obtain ⟨rfl, hb6, hk6⟩ := hst.up (fun i hi => .inr (by omega))
      have hz6 := hk6.size
      have ha6 := ha5.kp hk6 (fun i hi h => by omega)
      have hkk6 := hkk5.then_ hk6 (fun i hi => .inr (by omega))
      go_wp2_with fail
      have hbs : (([] ++ beB 1 ((x / 256) % 256)) ++ beB 1 (x % 256)) = [] ++ beB 2 x := by
        simp only [beB_one]
        simp only [beB, List.nil_append, List.cons_append]
      have HBS := Lib.hid hbs
      clear hbs
      rw [rounds_succ]
      go_wp2_with fail
      refine (bdone_at _ a _ 100 2 _ ha6 rfl).mono ?_
      rintro e v1 ⟨A1, c1, rfl, hl1, hy1, ha', hm1⟩
      have hbx := hb6.kp hm1 (fun _ _ h => h)
      go_wp2_with fail
      refine (bdone_at _ b _ 100 2 _ hbx (by rw [HBS.out]; rfl)).mono ?_
      rintro e v2 ⟨A2, c2, rfl, hl2, hy2, hb'', hm2⟩
      rw [HBS.out] at hy2
      have hs1 : (convert 22 9 (.slice A1 2 c1)).run Try.prog v2 = .ok (.string (str ([] ++ beB 2 x))) v2 := run_str (e := 5) Try.underlying22 Try.underlying5 Try.underlying9 (hy1.kp hm2 (fun _ _ h => h))
      have hs2 : (convert 22 9 (.slice A2 2 c2)).run Try.prog v2 = .ok (.string (str ([] ++ beB 2 x))) v2 := run_str (e := 5) Try.underlying22 Try.underlying5 Try.underlying9 hy2
      have hkk := (hkk6.then_ hm1 (fun _ h => h.elim)).then_ hm2 (fun _ h => h.elim)
      generalize hgs : str ([] ++ beB 2 x) = gs at hs1 hs2
      clear hgs
      go_wp2_with fail
      go_ret
      exact ⟨by simp, hkk.below⟩
    · clear hs
      by_cases hbig : 16777216 ≤ x
      · go_enter Try.func10, Try.ntmps10
        go_wp2_with fail
        refine (bnew_ok 100 (by omega) _).mono ?_
        rintro e w1 ⟨a, rfl, ha, ha1, hk1⟩
        go_wp2_with fail
        refine (bnew_ok 100 (by omega) _).mono ?_
        rintro e w2 ⟨b, rfl, hb', hb2, hk2⟩
        go_wp2_with fail
        refine (alive02 _).mono ?_
        rintro e w3 ⟨rfl, hk3⟩
        have ha3 := (ha1.kp hk2 (fun _ _ h => h)).kp hk3 (fun _ _ h => h)
        have hb3 := hb2.kp hk3 (fun _ _ h => h)
        have hk := (hk1.then_ hk2 (fun _ h => h.elim)).then_ hk3 (fun _ h => h.elim)
        have hz1 := hk1.size
        have hz2 := hk2.size
        have hz3 := hk3.size
        have hal := ha1.lt
        have hbl := hb2.lt
        go_wp2_with fail
        refine (bnumber_range a 3 x hx _ (by decide) (by simpa using hbig)).mono ?_
        rintro e w' ⟨rfl, rfl⟩
        go_wp2_with (go_at_call 32; ((with_reducible refine (blen_any _ a _ _ _ _ ha3).mono ?_); rintro e w' ⟨rfl, rfl⟩))
        go_ret
        exact ⟨rfl, hk.below⟩
      have hfit : x < 16777216 := by omega
      clear hbig
      go_enter Try.func10, Try.ntmps10
      go_wp2_with fail
      refine (bnew_ok 100 (by omega) _).mono ?_
      rintro e w1 ⟨a, rfl, ha, ha1, hk1⟩
      go_wp2_with fail
      refine (bnew_ok 100 (by omega) _).mono ?_
      rintro e w2 ⟨b, rfl, hb', hb2, hk2⟩
      go_wp2_with fail
      refine (alive02 _).mono ?_
      rintro e w3 ⟨rfl, hk3⟩
      have ha3 := (ha1.kp hk2 (fun _ _ h => h)).kp hk3 (fun _ _ h => h)
      have hb3 := hb2.kp hk3 (fun _ _ h => h)
      have hk := (hk1.then_ hk2 (fun _ h => h.elim)).then_ hk3 (fun _ h => h.elim)
      have hz1 := hk1.size
      have hz2 := hk2.size
      have hz3 := hk3.size
      have hal := ha1.lt
      have hbl := hb2.lt
      go_wp2_with fail
      refine (bnumber_ok _ a [] 100 [] 3 x hx _ ha3 (by decide) (by simpa using hfit) (by decide)).mono ?_
      rintro e w4 ⟨rfl, ha4, hk4⟩
      have hz4 := hk4.size
      have ha4 := ha4.mono (ok' := fun i => (i = a ∨ w3.heap.size ≤ i) ∧ i < w4.heap.size) (fun i hi h => ⟨h, hi⟩)
      have hb4 := (hb3.kp hk4 (fun i hi h => by omega)).mono (ok' := fun i => i = b ∨ w4.heap.size ≤ i) (fun i _ h => .inl h)
      have hkk4 := hk.then_ hk4 (fun i hi => .inr (by omega))
      go_wp2_with fail
      refine wp_loop_rounds (3 + 1) ?_
      rw [rounds_succ]
      go_wp2_with fail
      rw [and_255 ((x : Int) / 65536) (x / 65536) (by omega) (by omega)]
      refine (bnumber_ok _ b [] 100 [] 1 ((x / 65536) % 256) (by omega) _ hb4 (by decide) (by omega) (Nat.le_of_ble_eq_true rfl)).mono ?_
      intro e w5 hst
      obtain ⟨rfl, hb5, hk5⟩ := hst.up (fun i hi => .inr (by omega))
      have hz5 := hk5.size
      have ha5 := ha4.kp hk5 (fun i hi h => by omega)
      have hkk5 := hkk4.then_ hk5 (fun i hi => .inr (by omega))
      go_wp2_with fail
      rw [rounds_succ]
      go_wp2_with fail
      rw [and_255 ((x : Int) / 256) (x / 256) (by omega) (by omega)]
      refine (bnumber_ok _ b ([] ++ beB 1 ((x / 65536) % 256)) 100 [] 1 ((x / 256) % 256) (by omega) _ hb5 (by decide) (by omega) (Nat.le_of_ble_eq_true rfl)).mono ?_
      intro e w6 hst
      obtain ⟨rfl, hb6, hk6⟩ := hst.up (fun i hi => .inr (by omega))
      have hz6 := hk6.size
      have ha6 := ha5.kp hk6 (fun i hi h => by omega)
      have hkk6 := hkk5.then_ hk6 (fun i hi => .inr (by omega))
      go_wp2_with fail
      rw [rounds_succ]
      go_wp2_with fail
      rw [and_255 (x : Int) x (by omega) (by omega)]
      refine (bnumber_ok _ b (([] ++ beB 1 ((x / 65536) % 256)) ++ beB 1 ((x / 256) % 256)) 100 [] 1 (x % 256) (by omega) _ hb6 (by decide) (by omega) (Nat.le_of_ble_eq_true rfl)).mono ?_
      intro e w7 hst
      obtain ⟨rfl, hb7, hk7⟩ := hst.up (fun i hi => .inr (by omega))
      have hz7 := hk7.size
      have ha7 := ha6.kp hk7 (fun i hi h => by omega)
      have hkk7 := hkk6.then_ hk7 (fun i hi => .inr (by omega))
      go_wp2_with fail
      have hbs : ((([] ++ beB 1 ((x / 65536) % 256)) ++ beB 1 ((x / 256) % 256)) ++ beB 1 (x % 256)) = [] ++ beB 3 x := by
        simp only [beB_one]
        simp only [beB, List.nil_append, List.cons_append, Nat.div_div_eq_div_mul, Nat.reduceMul]
      have HBS := Lib.hid hbs
      clear hbs
      rw [rounds_succ]
      go_wp2_with fail
      refine (bdone_at _ a _ 100 3 _ ha7 rfl).mono ?_
      rintro e v1 ⟨A1, c1, rfl, hl1, hy1, ha', hm1⟩
      have hbx := hb7.kp hm1 (fun _ _ h => h)
      go_wp2_with fail
      refine (bdone_at _ b _ 100 3 _ hbx (by rw [HBS.out]; rfl)).mono ?_
      rintro e v2 ⟨A2, c2, rfl, hl2, hy2, hb'', hm2⟩
      rw [HBS.out] at hy2
      have hs1 : (convert 22 9 (.slice A1 3 c1)).run Try.prog v2 = .ok (.string (str ([] ++ beB 3 x))) v2 := run_str (e := 5) Try.underlying22 Try.underlying5 Try.underlying9 (hy1.kp hm2 (fun _ _ h => h))
      have hs2 : (convert 22 9 (.slice A2 3 c2)).run Try.prog v2 = .ok (.string (str ([] ++ beB 3 x))) v2 := run_str (e := 5) Try.underlying22 Try.underlying5 Try.underlying9 hy2
      have hkk := (hkk7.then_ hm1 (fun _ h => h.elim)).then_ hm2 (fun _ h => h.elim)
      generalize hgs : str ([] ++ beB 3 x) = gs at hs1 hs2
      clear hgs
      go_wp2_with fail
      go_ret
      exact ⟨by simp, hkk.below⟩
    · clear hs
      by_cases hbig : 4294967296 ≤ x
      · go_enter Try.func10, Try.ntmps10
        go_wp2_with fail
        refine (bnew_ok 100 (by omega) _).mono ?_
        rintro e w1 ⟨a, rfl, ha, ha1, hk1⟩
        go_wp2_with fail
        refine (bnew_ok 100 (by omega) _).mono ?_
        rintro e w2 ⟨b, rfl, hb', hb2, hk2⟩
        go_wp2_with fail
        refine (alive02 _).mono ?_
        rintro e w3 ⟨rfl, hk3⟩
        have ha3 := (ha1.kp hk2 (fun _ _ h => h)).kp hk3 (fun _ _ h => h)
        have hb3 := hb2.kp hk3 (fun _ _ h => h)
        have hk := (hk1.then_ hk2 (fun _ h => h.elim)).then_ hk3 (fun _ h => h.elim)
        have hz1 := hk1.size
        have hz2 := hk2.size
        have hz3 := hk3.size
        have hal := ha1.lt
        have hbl := hb2.lt
        go_wp2_with fail
        refine (bnumber_range a 4 x hx _ (by decide) (by simpa using hbig)).mono ?_
        rintro e w' ⟨rfl, rfl⟩
        go_wp2_with (go_at_call 32; ((with_reducible refine (blen_any _ a _ _ _ _ ha3).mono ?_); rintro e w' ⟨rfl, rfl⟩))
        go_ret
        exact ⟨rfl, hk.below⟩
      have hfit : x < 4294967296 := by omega
      clear hbig
      go_enter Try.func10, Try.ntmps10
      go_wp2_with fail
      refine (bnew_ok 100 (by omega) _).mono ?_
      rintro e w1 ⟨a, rfl, ha, ha1, hk1⟩
      go_wp2_with fail
      refine (bnew_ok 100 (by omega) _).mono ?_
      rintro e w2 ⟨b, rfl, hb', hb2, hk2⟩
      go_wp2_with fail
      refine (alive02 _).mono ?_
      rintro e w3 ⟨rfl, hk3⟩
      have ha3 := (ha1.kp hk2 (fun _ _ h => h)).kp hk3 (fun _ _ h => h)
      have hb3 := hb2.kp hk3 (fun _ _ h => h)
      have hk := (hk1.then_ hk2 (fun _ h => h.elim)).then_ hk3 (fun _ h => h.elim)
      have hz1 := hk1.size
      have hz2 := hk2.size
      have hz3 := hk3.size
      have hal := ha1.lt
      have hbl := hb2.lt
      go_wp2_with fail
      refine (bnumber_ok _ a [] 100 [] 4 x hx _ ha3 (by decide) (by simpa using hfit) (by decide)).mono ?_
      rintro e w4 ⟨rfl, ha4, hk4⟩
      have hz4 := hk4.size
      have ha4 := ha4.mono (ok' := fun i => (i = a ∨ w3.heap.size ≤ i) ∧ i < w4.heap.size) (fun i hi h => ⟨h, hi⟩)
      have hb4 := (hb3.kp hk4 (fun i hi h => by omega)).mono (ok' := fun i => i = b ∨ w4.heap.size ≤ i) (fun i _ h => .inl h)
      have hkk4 := hk.then_ hk4 (fun i hi => .inr (by omega))
      go_wp2_with fail
      refine wp_loop_rounds (4 + 1) ?_
      rw [rounds_succ]
      go_wp2_with fail
      rw [and_255 ((x : Int) / 16777216) (x / 16777216) (by omega) (by omega)]
      refine (bnumber_ok _ b [] 100 [] 1 ((x / 16777216) % 256) (by omega) _ hb4 (by decide) (by omega) (Nat.le_of_ble_eq_true rfl)).mono ?_
      intro e w5 hst
      obtain ⟨rfl, hb5, hk5⟩ := hst.up (fun i hi => .inr (by omega))
      have hz5 := hk5.size
      have ha5 := ha4.kp hk5 (fun i hi h => by omega)
      have hkk5 := hkk4.then_ hk5 (fun i hi => .inr (by omega))
      go_wp2_with fail
      rw [rounds_succ]
      go_wp2_with fail
      rw [and_255 ((x : Int) / 65536) (x / 65536) (by omega) (by omega)]
      refine (bnumber_ok _ b ([] ++ beB 1 ((x / 16777216) % 256)) 100 [] 1 ((x / 65536) % 256) (by omega) _ hb5 (by decide) (by omega) (Nat.le_of_ble_eq_true rfl)).mono ?_
      intro e w6 hst
      obtain ⟨rfl, hb6, hk6⟩ := hst.up (fun i hi => .inr (by omega))
      have hz6 := hk6.size
      have ha6 := ha5.kp hk6 (fun i hi h => by omega)
      have hkk6 := hkk5.then_ hk6 (fun i hi => .inr (by omega))
      go_wp2_with fail
      rw [rounds_succ]
      go_wp2_with fail
      rw [and_255 ((x : Int) / 256) (x / 256) (by omega) (by omega)]
      refine (bnumber_ok _ b (([] ++ beB 1 ((x / 16777216) % 256)) ++ beB 1 ((x / 65536) % 256)) 100 [] 1 ((x / 256) % 256) (by omega) _ hb6 (by decide) (by omega) (Nat.le_of_ble_eq_true rfl)).mono ?_
      intro e w7 hst
      obtain ⟨rfl, hb7, hk7⟩ := hst.up (fun i hi => .inr (by omega))
      have hz7 := hk7.size
      have ha7 := ha6.kp hk7 (fun i hi h => by omega)
      have hkk7 := hkk6.then_ hk7 (fun i hi => .inr (by omega))
      go_wp2_with fail
      rw [rounds_succ]
      go_wp2_with fail
      rw [and_255 (x : Int) x (by omega) (by omega)]
      refine (bnumber_ok _ b ((([] ++ beB 1 ((x / 16777216) % 256)) ++ beB 1 ((x / 65536) % 256)) ++ beB 1 ((x / 256) % 256)) 100 [] 1 (x % 256) (by omega) _ hb7 (by decide) (by omega) (Nat.le_of_ble_eq_true rfl)).mono ?_
      intro e w8 hst
      obtain ⟨rfl, hb8, hk8⟩ := hst.up (fun i hi => .inr (by omega))
      have hz8 := hk8.size
      have ha8 := ha7.kp hk8 (fun i hi h => by omega)
      have hkk8 := hkk7.then_ hk8 (fun i hi => .inr (by omega))
      go_wp2_with fail
      have hbs : (((([] ++ beB 1 ((x / 16777216) % 256)) ++ beB 1 ((x / 65536) % 256)) ++ beB 1 ((x / 256) % 256)) ++ beB 1 (x % 256)) = [] ++ beB 4 x := by
        simp only [beB_one]
        simp only [beB, List.nil_append, List.cons_append, Nat.div_div_eq_div_mul, Nat.reduceMul]
      have HBS := Lib.hid hbs
      clear hbs
      rw [rounds_succ]
      go_wp2_with fail
      refine (bdone_at _ a _ 100 4 _ ha8 rfl).mono ?_
      rintro e v1 ⟨A1, c1, rfl, hl1, hy1, ha', hm1⟩
      have hbx := hb8.kp hm1 (fun _ _ h => h)
      go_wp2_with fail
      refine (bdone_at _ b _ 100 4 _ hbx (by rw [HBS.out]; rfl)).mono ?_
      rintro e v2 ⟨A2, c2, rfl, hl2, hy2, hb'', hm2⟩
      rw [HBS.out] at hy2
      have hs1 : (convert 22 9 (.slice A1 4 c1)).run Try.prog v2 = .ok (.string (str ([] ++ beB 4 x))) v2 := run_str (e := 5) Try.underlying22 Try.underlying5 Try.underlying9 (hy1.kp hm2 (fun _ _ h => h))
      have hs2 : (convert 22 9 (.slice A2 4 c2)).run Try.prog v2 = .ok (.string (str ([] ++ beB 4 x))) v2 := run_str (e := 5) Try.underlying22 Try.underlying5 Try.underlying9 hy2
      have hkk := (hkk8.then_ hm1 (fun _ h => h.elim)).then_ hm2 (fun _ h => h.elim)
      generalize hgs : str ([] ++ beB 4 x) = gs at hs1 hs2
      clear hgs
      go_wp2_with fail
      go_ret
      exact ⟨by simp, hkk.below⟩
    · clear hs
      have hfit : x < 18446744073709551616 := hx
      go_enter Try.func10, Try.ntmps10
      go_wp2_with fail
      refine (bnew_ok 100 (by omega) _).mono ?_
      rintro e w1 ⟨a, rfl, ha, ha1, hk1⟩
      go_wp2_with fail
      refine (bnew_ok 100 (by omega) _).mono ?_
      rintro e w2 ⟨b, rfl, hb', hb2, hk2⟩
      go_wp2_with fail
      refine (alive02 _).mono ?_
      rintro e w3 ⟨rfl, hk3⟩
      have ha3 := (ha1.kp hk2 (fun _ _ h => h)).kp hk3 (fun _ _ h => h)
      have hb3 := hb2.kp hk3 (fun _ _ h => h)
      have hk := (hk1.then_ hk2 (fun _ h => h.elim)).then_ hk3 (fun _ h => h.elim)
      have hz1 := hk1.size
      have hz2 := hk2.size
      have hz3 := hk3.size
      have hal := ha1.lt
      have hbl := hb2.lt
      go_wp2_with fail
      refine (bnumber_ok _ a [] 100 [] 8 x hx _ ha3 (by decide) (by simpa using hfit) (by decide)).mono ?_
      rintro e w4 ⟨rfl, ha4, hk4⟩
      have hz4 := hk4.size
      have ha4 := ha4.mono (ok' := fun i => (i = a ∨ w3.heap.size ≤ i) ∧ i < w4.heap.size) (fun i hi h => ⟨h, hi⟩)
      have hb4 := (hb3.kp hk4 (fun i hi h => by omega)).mono (ok' := fun i => i = b ∨ w4.heap.size ≤ i) (fun i _ h => .inl h)
      have hkk4 := hk.then_ hk4 (fun i hi => .inr (by omega))
      go_wp2_with fail
      refine wp_loop_rounds (8 + 1) ?_
      rw [rounds_succ]
      go_wp2_with fail
      rw [and_255 ((x : Int) / 72057594037927936) (x / 72057594037927936) (by omega) (by omega)]
      refine (bnumber_ok _ b [] 100 [] 1 ((x / 72057594037927936) % 256) (by omega) _ hb4 (by decide) (by omega) (Nat.le_of_ble_eq_true rfl)).mono ?_
      intro e w5 hst
      obtain ⟨rfl, hb5, hk5⟩ := hst.up (fun i hi => .inr (by omega))
      have hz5 := hk5.size
      have ha5 := ha4.kp hk5 (fun i hi h => by omega)
      have hkk5 := hkk4.then_ hk5 (fun i hi => .inr (by omega))
      go_wp2_with fail
      rw [rounds_succ]
      go_wp2_with fail
      rw [and_255 ((x : Int) / 281474976710656) (x / 281474976710656) (by omega) (by omega)]
      refine (bnumber_ok _ b ([] ++ beB 1 ((x / 72057594037927936) % 256)) 100 [] 1 ((x / 281474976710656) % 256) (by omega) _ hb5 (by decide) (by omega) (Nat.le_of_ble_eq_true rfl)).mono ?_
      intro e w6 hst
      obtain ⟨rfl, hb6, hk6⟩ := hst.up (fun i hi => .inr (by omega))
      have hz6 := hk6.size
      have ha6 := ha5.kp hk6 (fun i hi h => by omega)
      have hkk6 := hkk5.then_ hk6 (fun i hi => .inr (by omega))
      go_wp2_with fail
      rw [rounds_succ]
      go_wp2_with fail
      rw [and_255 ((x : Int) / 1099511627776) (x / 1099511627776) (by omega) (by omega)]
      refine (bnumber_ok _ b (([] ++ beB 1 ((x / 72057594037927936) % 256)) ++ beB 1 ((x / 281474976710656) % 256)) 100 [] 1 ((x / 1099511627776) % 256) (by omega) _ hb6 (by decide) (by omega) (Nat.le_of_ble_eq_true rfl)).mono ?_
      intro e w7 hst
      obtain ⟨rfl, hb7, hk7⟩ := hst.up (fun i hi => .inr (by omega))
      have hz7 := hk7.size
      have ha7 := ha6.kp hk7 (fun i hi h => by omega)
      have hkk7 := hkk6.then_ hk7 (fun i hi => .inr (by omega))
      go_wp2_with fail
      rw [rounds_succ]
      go_wp2_with fail
      rw [and_255 ((x : Int) / 4294967296) (x / 4294967296) (by omega) (by omega)]
      refine (bnumber_ok _ b ((([] ++ beB 1 ((x / 72057594037927936) % 256)) ++ beB 1 ((x / 281474976710656) % 256)) ++ beB 1 ((x / 1099511627776) % 256)) 100 [] 1 ((x / 4294967296) % 256) (by omega) _ hb7 (by decide) (by omega) (Nat.le_of_ble_eq_true rfl)).mono ?_
      intro e w8 hst
      obtain ⟨rfl, hb8, hk8⟩ := hst.up (fun i hi => .inr (by omega))
      have hz8 := hk8.size
      have ha8 := ha7.kp hk8 (fun i hi h => by omega)
      have hkk8 := hkk7.then_ hk8 (fun i hi => .inr (by omega))
      go_wp2_with fail
      rw [rounds_succ]
      go_wp2_with fail
      rw [and_255 ((x : Int) / 16777216) (x / 16777216) (by omega) (by omega)]
      refine (bnumber_ok _ b (((([] ++ beB 1 ((x / 72057594037927936) % 256)) ++ beB 1 ((x / 281474976710656) % 256)) ++ beB 1 ((x / 1099511627776) % 256)) ++ beB 1 ((x / 4294967296) % 256)) 100 [] 1 ((x / 16777216) % 256) (by omega) _ hb8 (by decide) (by omega) (Nat.le_of_ble_eq_true rfl)).mono ?_
      intro e w9 hst
      obtain ⟨rfl, hb9, hk9⟩ := hst.up (fun i hi => .inr (by omega))
      have hz9 := hk9.size
      have ha9 := ha8.kp hk9 (fun i hi h => by omega)
      have hkk9 := hkk8.then_ hk9 (fun i hi => .inr (by omega))
      go_wp2_with fail
      rw [rounds_succ]
      go_wp2_with fail
      rw [and_255 ((x : Int) / 65536) (x / 65536) (by omega) (by omega)]
      refine (bnumber_ok _ b ((((([] ++ beB 1 ((x / 72057594037927936) % 256)) ++ beB 1 ((x / 281474976710656) % 256)) ++ beB 1 ((x / 1099511627776) % 256)) ++ beB 1 ((x / 4294967296) % 256)) ++ beB 1 ((x / 16777216) % 256)) 100 [] 1 ((x / 65536) % 256) (by omega) _ hb9 (by decide) (by omega) (Nat.le_of_ble_eq_true rfl)).mono ?_
      intro e w10 hst
      obtain ⟨rfl, hb10, hk10⟩ := hst.up (fun i hi => .inr (by omega))
      have hz10 := hk10.size
      have ha10 := ha9.kp hk10 (fun i hi h => by omega)
      have hkk10 := hkk9.then_ hk10 (fun i hi => .inr (by omega))
      go_wp2_with fail
      rw [rounds_succ]
      go_wp2_with fail
      rw [and_255 ((x : Int) / 256) (x / 256) (by omega) (by omega)]
      refine (bnumber_ok _ b (((((([] ++ beB 1 ((x / 72057594037927936) % 256)) ++ beB 1 ((x / 281474976710656) % 256)) ++ beB 1 ((x / 1099511627776) % 256)) ++ beB 1 ((x / 4294967296) % 256)) ++ beB 1 ((x / 16777216) % 256)) ++ beB 1 ((x / 65536) % 256)) 100 [] 1 ((x / 256) % 256) (by omega) _ hb10 (by decide) (by omega) (Nat.le_of_ble_eq_true rfl)).mono ?_
      intro e w11 hst
      obtain ⟨rfl, hb11, hk11⟩ := hst.up (fun i hi => .inr (by omega))
      have hz11 := hk11.size
      have ha11 := ha10.kp hk11 (fun i hi h => by omega)
      have hkk11 := hkk10.then_ hk11 (fun i hi => .inr (by omega))
      go_wp2_with fail
      rw [rounds_succ]
      go_wp2_with fail
      rw [and_255 (x : Int) x (by omega) (by omega)]
      refine (bnumber_ok _ b ((((((([] ++ beB 1 ((x / 72057594037927936) % 256)) ++ beB 1 ((x / 281474976710656) % 256)) ++ beB 1 ((x / 1099511627776) % 256)) ++ beB 1 ((x / 4294967296) % 256)) ++ beB 1 ((x / 16777216) % 256)) ++ beB 1 ((x / 65536) % 256)) ++ beB 1 ((x / 256) % 256)) 100 [] 1 (x % 256) (by omega) _ hb11 (by decide) (by omega) (Nat.le_of_ble_eq_true rfl)).mono ?_
      intro e w12 hst
      obtain ⟨rfl, hb12, hk12⟩ := hst.up (fun i hi => .inr (by omega))
      have hz12 := hk12.size
      have ha12 := ha11.kp hk12 (fun i hi h => by omega)
      have hkk12 := hkk11.then_ hk12 (fun i hi => .inr (by omega))
      go_wp2_with fail
      have hbs : (((((((([] ++ beB 1 ((x / 72057594037927936) % 256)) ++ beB 1 ((x / 281474976710656) % 256)) ++ beB 1 ((x / 1099511627776) % 256)) ++ beB 1 ((x / 4294967296) % 256)) ++ beB 1 ((x / 16777216) % 256)) ++ beB 1 ((x / 65536) % 256)) ++ beB 1 ((x / 256) % 256)) ++ beB 1 (x % 256)) = [] ++ beB 8 x := by
        simp only [beB_one]
        simp only [beB, List.nil_append, List.cons_append, Nat.div_div_eq_div_mul, Nat.reduceMul]
      have HBS := Lib.hid hbs
      clear hbs
      rw [rounds_succ]
      go_wp2_with fail
      refine (bdone_at _ a _ 100 8 _ ha12 rfl).mono ?_
      rintro e v1 ⟨A1, c1, rfl, hl1, hy1, ha', hm1⟩
      have hbx := hb12.kp hm1 (fun _ _ h => h)
      go_wp2_with fail
      refine (bdone_at _ b _ 100 8 _ hbx (by rw [HBS.out]; rfl)).mono ?_
      rintro e v2 ⟨A2, c2, rfl, hl2, hy2, hb'', hm2⟩
      rw [HBS.out] at hy2
      have hs1 : (convert 22 9 (.slice A1 8 c1)).run Try.prog v2 = .ok (.string (str ([] ++ beB 8 x))) v2 := run_str (e := 5) Try.underlying22 Try.underlying5 Try.underlying9 (hy1.kp hm2 (fun _ _ h => h))
      have hs2 : (convert 22 9 (.slice A2 8 c2)).run Try.prog v2 = .ok (.string (str ([] ++ beB 8 x))) v2 := run_str (e := 5) Try.underlying22 Try.underlying5 Try.underlying9 hy2
      have hkk := (hkk12.then_ hm1 (fun _ h => h.elim)).then_ hm2 (fun _ h => h.elim)
      generalize hgs : str ([] ++ beB 8 x) = gs at hs1 hs2
      clear hgs
      go_wp2_with fail
      go_ret
      exact ⟨by simp, hkk.below⟩

end Go.Proofs.Ytgndammlhljfjaa
