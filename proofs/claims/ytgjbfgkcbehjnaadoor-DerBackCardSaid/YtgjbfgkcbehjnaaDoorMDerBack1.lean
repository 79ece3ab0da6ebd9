/-
  The law DerBack: for every input it returns true, and its arguments read behind the call as before it. No condition.
-/
import Derived.Test.YtgjbfgkcbehjnaaDoorRows
import Derived.Test.YtgjbfgkcbehjnaaDoorCards
import Derived.Test.YtgjbfgkcbehjnaaDoorTie
import Derived.SevenTiedAt
import Derived.ProofKit
import Derived.LaidMore
import Derived.Stop.Joined
import Derived.Test.YtgjbfgkcbehjnaaDoorBX1
import Derived.Test.YtgjbfgkcbehjnaaDoorBY1

set_option linter.unusedVariables false
set_option linter.unusedSimpArgs false
namespace Go.Proofs.YtgjbfgkcbehjnaaDoor
open Go.RowKit

theorem rd_putN {c t : Int} {m : Bool} {N : Nat} (h : kindB c t m = true) (hN : N ≤ 16777215) (r : List UInt8) :
    rd ((hb c t m :: lenB N) ++ r) = ((c, t, m, (N : Int)), (((hb c t m :: lenB N).length : Nat) : Int), 0) := by
  rw [List.cons_append, rd_put h hN r, List.length_cons]
/-- All bytes of these. -/
def flatN (l : List Nd) : List UInt8 := l.flatMap fun y => (wrN y).1
theorem wrNs_ok : ∀ (l : List Nd) (acc : List UInt8), (wrNs l acc).2 = 0 → (wrNs l acc).1 = acc ++ flatN l ∧ ∀ y ∈ l, (wrN y).2 = 0 := by
  intro l
  induction l with
  | nil => intro acc _; rw [wrNs]; simp [flatN]
  | cons x l ih =>
    intro acc h
    rw [wrNs] at h ⊢
    by_cases hx : (wrN x).2 = 0
    · rw [if_neg (by simpa using hx)] at h ⊢
      obtain ⟨h1, h2⟩ := ih _ h
      refine ⟨by rw [h1, List.append_assoc]; rfl, fun y hy => ?_⟩
      rcases List.mem_cons.1 hy with rfl | hy
      · exact hx
      · exact h2 y hy
    · rw [if_pos hx] at h
      exact absurd h hx
theorem wrNs_all : ∀ (l : List Nd) (acc : List UInt8), (∀ y ∈ l, (wrN y).2 = 0) → wrNs l acc = (acc ++ flatN l, 0) := by
  intro l
  induction l with
  | nil => intro acc _; rw [wrNs]; simp [flatN]
  | cons x l ih =>
    intro acc h
    rw [wrNs, if_neg (by simpa using h x (by simp)), ih _ (fun y hy => h y (by simp [hy])), List.append_assoc]
    rfl
/-- What a thing that is right is. -/
theorem wrN_parts {c t : Int} {m : Bool} {B : List UInt8} {l : List Nd} (h : (wrN (.mk ⟨c, t, m, B⟩ l)).2 = 0) :
    kindB c t m = true ∧ (m = true → B = []) ∧ (m = false → l = []) ∧ mayB c t m B = true ∧ (∀ y ∈ l, (wrN y).2 = 0) ∧
      (wrN (.mk ⟨c, t, m, B⟩ l)).1 = hb c t m :: lenB (B ++ flatN l).length ++ (B ++ flatN l) := by
  rw [wrN_mk] at h ⊢
  simp only at h ⊢
  by_cases h1 : kindB c t m = false
  · rw [if_pos h1] at h; simp at h
  by_cases h2 : ((m && decide (0 < B.length)) || (!m && decide (0 < l.length))) = true
  · rw [if_neg h1, if_pos h2] at h; simp at h
  by_cases h3 : mayB c t m B = false
  · rw [if_neg h1, if_neg h2, if_pos h3] at h; simp at h
  by_cases h4 : (wrNs l B).2 ≠ 0
  · rw [if_neg h1, if_neg h2, if_neg h3, if_pos h4] at h; exact absurd h h4
  · rw [if_neg h1, if_neg h2, if_neg h3, if_neg h4]
    obtain ⟨h5, h6⟩ := wrNs_ok l B (by simpa using h4)
    refine ⟨by simpa using h1, ?_, ?_, by simpa using h3, h6, by rw [h5]⟩
    · rintro rfl
      simp at h2
      exact h2
    · rintro rfl
      simp at h2
      exact h2
/-- A thing that is right, put together. -/
theorem wrN_make {c t : Int} {m : Bool} {B : List UInt8} {l : List Nd} (h1 : kindB c t m = true) (h2 : m = true → B = []) (h3 : m = false → l = []) (h4 : mayB c t m B = true) (h5 : ∀ y ∈ l, (wrN y).2 = 0) :
    wrN (.mk ⟨c, t, m, B⟩ l) = (hb c t m :: lenB (B ++ flatN l).length ++ (B ++ flatN l), 0) := by
  rw [wrN_mk]
  simp only
  have hf : ¬ (((m && decide (0 < B.length)) || (!m && decide (0 < l.length))) = true) := by
    cases m
    · rw [h3 rfl]; simp
    · rw [h2 rfl]; simp
  rw [if_neg (by simp [h1]), if_neg hf, if_neg (by simp [h4]), wrNs_all l B h5, if_neg (fun h => h rfl)]
theorem flatN_cons (x : Nd) (l : List Nd) : flatN (x :: l) = (wrN x).1 ++ flatN l := rfl
/-- As many bytes at least as it counts. -/
theorem tot_len : ∀ x : Nd, (wrN x).2 = 0 → totN x + 1 ≤ (wrN x).1.length := by
  intro x
  induction x using RT.induct with
  | h a l ih =>
  intro h
  obtain ⟨c, t, m, B⟩ := a
  obtain ⟨_, _, _, _, h5, h6⟩ := wrN_parts h
  rw [h6, totN_mk]
  have key : ∀ l' : List Nd, (∀ y ∈ l', totN y ≤ (wrN y).1.length) → totNs l' ≤ (flatN l').length := by
    intro l'
    induction l' with
    | nil => intro _; rw [totNs]; exact Nat.zero_le _
    | cons y l' ih2 =>
      intro hy
      rw [totNs, flatN_cons, List.length_append]
      have h1 := hy y (by simp)
      have h2 := ih2 (fun z hz => hy z (by simp [hz]))
      omega
  have hk := key l (fun y hy => by have := ih y hy (h5 y hy); omega)
  have hl := lenB_len (B ++ flatN l).length
  simp only [List.cons_append, List.length_cons, List.length_append] at hl ⊢
  omega
theorem flat_len : ∀ l : List Nd, (∀ y ∈ l, (wrN y).2 = 0) → l.length ≤ (flatN l).length
  | [], _ => Nat.zero_le _
  | x :: l, h => by
    rw [flatN_cons, List.length_append, List.length_cons]
    have h1 := tot_len x (h x (by simp))
    have h2 := flat_len l (fun y hy => h y (by simp [hy]))
    have h3 := totN_pos x
    omega
theorem iter_back {f : List UInt8 → RnT} : ∀ (l : List Nd) (n d : Nat) (acc : List Nd), (∀ y ∈ l, ∀ r, f ((wrN y).1 ++ r) = .got y r) → (∀ y ∈ l, (wrN y).2 = 0) → l.length ≤ n →
    iterN f n (flatN l) d acc = .got (.mk ⟨0, 0, false, []⟩ (acc ++ l)) []
  | [], n, d, acc, _, _, _ => by rw [iterN_end (by rfl), List.append_nil]; rfl
  | x :: l, n, d, acc, hf, he, hn => by
    obtain ⟨n, rfl⟩ : ∃ q, n = q + 1 := ⟨n - 1, by rw [List.length_cons] at hn; omega⟩
    have h1 := tot_len x (he x (by simp))
    have h2 := totN_pos x
    rw [flatN_cons, iterN_step (by rw [List.length_append]; omega), hf x (by simp) (flatN l)]
    simp only
    rw [iter_back l n _ _ (fun y hy => hf y (by simp [hy])) (fun y hy => he y (by simp [hy])) (by rw [List.length_cons] at hn; omega), List.append_assoc]
    rfl
/-- What is written is read as it was, and what stands behind it is left. -/
theorem one_back : ∀ (x : Nd) (k : Nat) (r : List UInt8), depN x ≤ k → (wrN x).2 = 0 → 5 * totN x ≤ 16777215 → oneN k ((wrN x).1 ++ r) = .got x r := by
  intro x
  induction x using RT.induct with
  | h a l ih =>
  intro k r hk h htot
  obtain ⟨c, t, m, B⟩ := a
  obtain ⟨h1, h2, h3, h4, h5, h6⟩ := wrN_parts h
  have hlen := wrN_len (.mk ⟨c, t, m, B⟩ l)
  have hall : (B ++ flatN l).length ≤ 16777215 := by
    rw [h6] at hlen
    simp only [List.cons_append, List.length_cons, List.length_append] at hlen ⊢
    omega
  obtain ⟨k, rfl⟩ : ∃ q, k = q + 1 := ⟨k - 1, by rw [depN_mk] at hk; omega⟩
  generalize hA : B ++ flatN l = A at h6 hall
  have hq := rd_putN h1 hall (A ++ r)
  rw [h6, List.append_assoc]
  generalize hb c t m :: lenB A.length = H at hq
  rw [oneN_good hq, bodyN]
  have hd1 : (H ++ (A ++ r)).drop H.length = A ++ r := List.drop_left
  have hd2 : (H ++ (A ++ r)).drop (H.length + A.length) = r := by rw [← List.drop_drop, hd1, List.drop_left]
  rw [if_neg (by simp only [List.length_append]; omega), hd1, hd2, List.take_left]
  cases m
  · rw [if_neg (by decide)]
    have hl := h3 rfl
    subst hl
    have hBA : A = B := by rw [← hA]; simp [flatN]
    rw [hBA, if_neg ?_]
    rintro ⟨hc, hck⟩
    rw [mayB] at h4
    simp [hc, hck] at h4
  · rw [if_pos rfl]
    have hB := h2 rfl
    subst hB
    rw [List.nil_append] at hA
    subst hA
    rw [iter_back l _ _ [] (fun y hy r' => ih y hy k r' (by have := depN_kid (a := ⟨c, t, true, []⟩) hy; omega) (h5 y hy) (by have := totNs_mem hy; rw [totN_mk] at htot; omega)) h5 (flat_len l h5)]
    rfl
theorem write_ok {x : Nd} (h : (writeN x).2 = 0) : depN x ≤ 8 ∧ (wrN x).2 = 0 ∧ writeN x = wrN x := by
  by_cases hd : 8 < depN x
  · rw [writeN_deep hd] at h
    simp at h
  · rw [writeN_flat hd] at h
    exact ⟨by omega, h, writeN_flat hd⟩
theorem write_read {x : Nd} (h : (writeN x).2 = 0) (htot : totN x ≤ 100000) : readN (writeN x).1 = (x, (writeN x).1.length, 0) := by
  obtain ⟨h1, h2, h3⟩ := write_ok h
  have hb := one_back x 8 [] h1 h2 (by omega)
  rw [List.append_nil] at hb
  rw [h3, readN, hb]
  rfl
end Go.Proofs.YtgjbfgkcbehjnaaDoor

namespace Go.Proofs.YtgjbfgkcbehjnaaDoor
open Go.RowKit

/-- A read whose answer is known. -/
theorem readD_got (ok : Nat → Prop) (v : Value) (b : List UInt8) (x : Nd) (k : Nat) (er : Int) (hr : readN b = (x, k, er)) (W : World) (hb : BR W ok v b) (hl : b.length ≤ 1000000) (tab : TabN W) :
    Calls Tryd.prog 21 #[v, .int .i64 0] W fun e w' => ∃ A1 c1 A2 c2, e = .returned (.tuple #[.agg #[.int .i64 x.a.c, .int .i64 x.a.t, .bool x.a.m, .slice A1 x.a.b.length c1, .slice A2 x.l.length c2], .int .i64 (k : Int), .int .i64 er]) ∧
      NdR w' (fun _ => True) (.agg #[.int .i64 x.a.c, .int .i64 x.a.t, .bool x.a.m, .slice A1 x.a.b.length c1, .slice A2 x.l.length c2]) x ∧ Kp (fun _ => False) W w' := by
  refine (readD_any ok v b 0 W hb tab (by omega) (by decide) (by omega)).mono ?_
  rintro e w' ⟨u, rfl, hv, hk⟩
  rw [hr] at hv
  obtain ⟨A1, c1, A2, c2, rfl, _⟩ := hv.shape
  refine ⟨A1, c1, A2, c2, ?_, hv.mono (fun _ _ => trivial), hk⟩
  rw [hr, Int.zero_add]
end Go.Proofs.YtgjbfgkcbehjnaaDoor

namespace Go.Proofs.YtgjbfgkcbehjnaaDoor
open Go.RowKit

/-- A thing twice in one more. -/
def twiceN (X : Nd) : Nd := .mk ⟨2, 3, true, []⟩ [X, X]
theorem twice_dep (X : Nd) : depN (twiceN X) = depN X + 1 := by
  rw [twiceN, depN_mk, depNs, depNs, depNs]
  omega
theorem twice_tot (X : Nd) : totN (twiceN X) = 1 + 2 * totN X := by
  rw [twiceN, totN_mk, totNs, totNs, totNs]
  simp only [List.length_nil]
  omega
theorem twice_deep {X : Nd} (h : depN X = 8) : writeN (twiceN X) = ([], 14) := writeN_deep (by rw [twice_dep]; omega)
theorem twice_ok {X : Nd} (h : depN X ≤ 7) (hw : (wrN X).2 = 0) : (writeN (twiceN X)).2 = 0 := by
  rw [writeN_flat (by rw [twice_dep]; omega), twiceN, wrN_make (by decide) (fun _ => rfl) (by simp) (by simp [mayB]) (fun y hy => by
    simp only [List.mem_cons, List.not_mem_nil, or_false, or_self] at hy
    rw [hy]
    exact hw)]

set_option maxRecDepth 100000 in
set_option maxHeartbeats 3200000 in
theorem dback_walk (w : World) (tab : TabN w) (v : Value) (x : Nd) (hv : NdR w (· < w.heap.size) v x) :
    Calls Tryd.prog 13 #[v] w fun e w' => e = .returned (.bool true) ∧ Below w.heap.size w w' := by
  refine Calls.mono (R := fun e w' => e = .returned (.bool true) ∧ Kp (fun _ => False) w w') ?_ fun _ _ ⟨h1, h2⟩ => ⟨h1, h2.below⟩
  obtain ⟨⟨c, t, m, B⟩, l⟩ := x
  obtain ⟨A1, c1, A2, c2, rfl, _⟩ := hv.parts
  have ka : Kp (fun _ => False) w (w.alloc (.cells #[.int .i64 c, .int .i64 t, .bool m, .slice A1 B.length c1, .slice A2 l.length c2] 25)) := (Kp.refl _ _).alloc _
  have hq1 := Blk.new w 25 #[.int .i64 c, .int .i64 t, .bool m, .slice A1 B.length c1, .slice A2 l.length c2]
  have HT := Lib.hid (fun W (hk : Kp (fun _ => False) w W) => tab.kp0 hk)
  have HV := Lib.hid (fun W (hk : Kp (fun _ => False) w W) => hv.kp hk (fun _ _ h => h))
  have HKA := Lib.hid ka
  have HQ1 := Lib.hid hq1
  have HGR := Lib.hid (fun W (hk : Kp (fun _ => False) w W) => great_anyN (fun _ => True) (.slice (some ⟨W.heap.size, 0, none⟩) 1 1) [.mk ⟨c, t, m, B⟩ l] (W.alloc (.cells #[.int .i64 c, .int .i64 t, .bool m, .slice A1 B.length c1, .slice A2 l.length c2] 25))
    (NsR.one (vs := [.int .i64 c, .int .i64 t, .bool m, .slice A1 B.length c1, .slice A2 l.length c2]) (Blk.new W 25 _) (TR.kp_ NHd_kp ((Kp.refl (fun _ => False) W).alloc _) (fun _ _ h => h) (fun _ h => h) _ _ (hv.kp hk (fun _ _ h => h)).tr5)))
  have hgt := great_tot (l := [.mk ⟨c, t, m, B⟩ l])
  have HGT := Lib.hid hgt
  generalize greatN [.mk ⟨c, t, m, B⟩ l] = gr at HGR HGT
  obtain ⟨X, hX⟩ : ∃ X, RT.mk (⟨c, t, m, B⟩ : NH) l = X := ⟨_, rfl⟩
  rw [hX] at HV HGT
  clear ka hq1 tab hv hX hgt
  go_enter Tryd.func13, Tryd.ntmps13
  go_upto_region 1 with fail
  generalize w.alloc (.cells #[.int .i64 c, .int .i64 t, .bool m, .slice A1 B.length c1, .slice A2 l.length c2] 25) = W0 at HKA HQ1 ⊢
  have HA0 := Lib.hid (alive11 W0 (HT.out _ HKA.out))
  go_wp2_with fail
  refine HA0.out.mono ?_
  rintro e w1 ⟨rfl, hk1⟩
  have HK1 := Lib.hid (HKA.out.then_ hk1 (fun _ h => h.elim))
  have HQ11 := Lib.hid (HQ1.out.kp hk1 (fun h => h))
  have HG1 := Lib.hid (HGR.out _ HK1.out)
  clear hk1 HA0 HKA HQ1 HGR
  have p0 := HQ11.out.cell 0
  have p1 := HQ11.out.cell 1
  have p2 := HQ11.out.cell 2
  have p3 := HQ11.out.cell 3
  have p4 := HQ11.out.cell 4
  simp at p0 p1 p2 p3 p4
  go_wp2_with fail
  refine HG1.out.mono ?_
  rintro e w2 ⟨rfl, hk2⟩
  have k2 : Kp (fun _ => False) w1 w2 := ((Kp.refl (fun _ => False) w1).alloc _).then_ hk2 (fun _ h => h.elim)
  have HK2 := Lib.hid (HK1.out.then_ k2 (fun _ h => h.elim))
  have HQ12 := Lib.hid (HQ11.out.kp k2 (fun h => h))
  clear k2 hk2 HG1 HQ11 HK1 p0 p1 p2 p3 p4
  cases gr with
  | true =>
    have HA2 := Lib.hid (alive11 w2 (HT.out _ HK2.out))
    simp only [if_true]
    go_wp2_with fail
    refine HA2.out.mono ?_
    rintro e w3 ⟨rfl, hk3⟩
    have HK3 := Lib.hid (HK2.out.then_ hk3 (fun _ h => h.elim))
    clear hk3
    go_wp2_with fail
    go_ret
    exact ⟨rfl, HK3.out⟩
  | false =>
    have htot : totN X ≤ 3000 := HGT.out rfl X (by simp)
    have hdep := dep_tot X
    simp only [if_neg (show ¬ (false = true) by decide)]
    clear HGT
    have p0 := HQ12.out.cell 0
    have p1 := HQ12.out.cell 1
    have p2 := HQ12.out.cell 2
    have p3 := HQ12.out.cell 3
    have p4 := HQ12.out.cell 4
    simp at p0 p1 p2 p3 p4
    have hc1 := write_any _ X _ w2 (HV.out _ HK2.out) (by omega) (HT.out _ HK2.out)
    unfold WrP at hc1
    have HCD := Lib.hid (fun W (hk : Kp (fun _ => False) w W) => checkD_any _ X _ W (HV.out W hk) (by omega) (HT.out W hk))
    have HDP := Lib.hid (fun W (hk : Kp (fun _ => False) w W) => depth_anyN _ X _ W (HV.out W hk) (by omega))
    obtain ⟨rb, re, hR⟩ : ∃ rb re, writeN X = (rb, re) := ⟨_, _, rfl⟩
    rw [hR] at hc1 HCD
    simp only at hc1 HCD
    have HC1 := Lib.hid hc1
    clear hc1
    by_cases hre : re = 0
    · subst hre
      have hok := write_ok (x := X) (by rw [hR])
      have hrd := write_read (x := X) (by rw [hR]) (by omega)
      rw [hR] at hrd
      simp only at hrd
      have hrl : rb.length ≤ 15000 := by
        have h1 := wrN_len X
        rw [← hok.2.2, hR] at h1
        simp only at h1
        omega
      have htw := twice_tot X
      have hbig : (depN X = 8 ∧ writeN (twiceN X) = ([], 14)) ∨ (depN X ≠ 8 ∧ ∃ cb, writeN (twiceN X) = (cb, 0) ∧ cb.length ≤ 40000 ∧ readN cb = (twiceN X, cb.length, 0)) := by
        by_cases h8 : depN X = 8
        · exact .inl ⟨h8, twice_deep h8⟩
        · right
          refine ⟨h8, (writeN (twiceN X)).1, ?_, ?_, ?_⟩
          · have h1 := twice_ok (X := X) (by omega) hok.2.1
            exact Prod.ext rfl h1
          · have h1 := wrN_len (twiceN X)
            rw [writeN_flat (by rw [twice_dep]; omega)]
            omega
          · exact write_read (twice_ok (by omega) hok.2.1) (by omega)
      have hbg := fun W v (hv : NdR W (fun _ => True) v (twiceN X)) (ht : TabN W) => write_any _ (twiceN X) v W hv (by omega) ht
      unfold WrP at hbg
      have HBG := Lib.hid hbg
      have HBIG := Lib.hid hbig
      have HRD := Lib.hid (fun W A3 c3 (hk : Kp (fun _ => False) w W) (hb : BR W (fun _ => True) (.slice A3 rb.length c3) rb) => readD_got _ _ rb _ _ _ hrd W hb (by omega) (HT.out W hk))
      clear hbg hbig hrd hok hR
      go_upto_region 4 with (go_at_call 29; refine HC1.out.mono ?_; rintro e w3 ⟨A3, c3, rfl, ho3, hk3⟩; have HO3 := Lib.hid ho3; have HK3' := Lib.hid hk3; clear ho3 hk3)
      have HK3 := Lib.hid (HK2.out.then_ HK3'.out (fun _ h => h.elim))
      have HQ3 := Lib.hid (HQ12.out.kp HK3'.out (fun h => h))
      have HRD3 := Lib.hid (HRD.out w3 A3 c3 HK3.out ((HO3.out.br rfl).mono (fun _ _ => trivial)))
      clear HC1 HK3' HO3 HK2 HQ12 HRD HCD p0 p1 p2 p3 p4
      go_upto_region 7 with (go_at_call 21; refine HRD3.out.mono ?_; rintro e w4 ⟨A5, c5, A6, c6, rfl, hvx, hk4⟩; have HVX := Lib.hid hvx; have HK4' := Lib.hid hk4; clear hvx hk4)
      have ka : Kp (fun _ => False) w4 (w4.alloc (.cells #[.int .i64 X.a.c, .int .i64 X.a.t, .bool X.a.m, .slice A5 X.a.b.length c5, .slice A6 X.l.length c6] 25)) := (Kp.refl _ _).alloc _
      have HX5 := Lib.hid (Blk.new w4 25 #[.int .i64 X.a.c, .int .i64 X.a.t, .bool X.a.m, .slice A5 X.a.b.length c5, .slice A6 X.l.length c6])
      have k5 := HK4'.out.then_ ka (fun _ h => h.elim)
      have HK5 := Lib.hid (HK3.out.then_ k5 (fun _ h => h.elim))
      have HQ5 := Lib.hid (HQ3.out.kp k5 (fun h => h))
      have HV5 := Lib.hid (HVX.out.kp ka (fun _ _ h => h))
      clear ka k5 HVX HK4' HK3 HQ3 HRD3
      generalize w4.alloc (.cells #[.int .i64 X.a.c, .int .i64 X.a.t, .bool X.a.m, .slice A5 X.a.b.length c5, .slice A6 X.l.length c6] 25) = W5 at HX5 HK5 HQ5 HV5 ⊢
      generalize w4.heap.size = bx at HX5 ⊢
      have q0 := HX5.out.cell 0
      have q1 := HX5.out.cell 1
      have q2 := HX5.out.cell 2
      have q3 := HX5.out.cell 3
      have q4 := HX5.out.cell 4
      simp at q0 q1 q2 q3 q4
      have p0 := HQ5.out.cell 0
      have p1 := HQ5.out.cell 1
      have p2 := HQ5.out.cell 2
      have p3 := HQ5.out.cell 3
      have p4 := HQ5.out.cell 4
      simp at p0 p1 p2 p3 p4
      have hsm := rsame_anyN _ _ X X _ _ W5 HV5.out (HV.out W5 HK5.out)
      rw [sameN_refl] at hsm
      have HSM := Lib.hid hsm
      have hnn : ((rb.length : Int) != (rb.length : Int)) = false := by simp
      clear hsm HV5
      go_upto_region 9 with (go_at_call 23; refine HSM.out.mono ?_; rintro e w6 ⟨rfl, hk6⟩; have HK6' := Lib.hid hk6; clear hk6)
      have HK6 := Lib.hid (HK5.out.then_ HK6'.out (fun _ h => h.elim))
      have HQ6 := Lib.hid (HQ5.out.kp HK6'.out (fun h => h))
      clear HSM HK5 HQ5 HX5 HK6' hnn p0 p1 p2 p3 p4 q0 q1 q2 q3 q4
      have p0 := HQ6.out.cell 0
      have p1 := HQ6.out.cell 1
      have p2 := HQ6.out.cell 2
      have p3 := HQ6.out.cell 3
      have p4 := HQ6.out.cell 4
      simp at p0 p1 p2 p3 p4
      -- the thing, twice in one more
      have HTR := Lib.hid (show NdR (w6.alloc (.cells #[.int .i64 c, .int .i64 t, .bool m, .slice A1 B.length c1, .slice A2 l.length c2, .int .i64 c, .int .i64 t, .bool m, .slice A1 B.length c1, .slice A2 l.length c2] 25)) (fun _ => True) (.agg #[.int .i64 2, .int .i64 3, .bool true, .slice none 0 0, .slice (some ⟨w6.heap.size, 0, none⟩) 2 2]) (twiceN X) from by
        have hb := Blk.new w6 25 #[.int .i64 c, .int .i64 t, .bool m, .slice A1 B.length c1, .slice A2 l.length c2, .int .i64 c, .int .i64 t, .bool m, .slice A1 B.length c1, .slice A2 l.length c2]
        have h0 := HV.out _ (HK6.out.alloc (.cells #[.int .i64 c, .int .i64 t, .bool m, .slice A1 B.length c1, .slice A2 l.length c2, .int .i64 c, .int .i64 t, .bool m, .slice A1 B.length c1, .slice A2 l.length c2] 25))
        have ht := TR.kp_ NHd_kp (Kp.refl (fun _ => False) _) (fun _ _ h => h) (ok' := fun _ => True) (fun _ _ => trivial) X [.int .i64 c, .int .i64 t, .bool m, .slice A1 B.length c1, .slice A2 l.length c2] (by
          obtain ⟨bv, sv, e, h1⟩ := h0.tr
          injection e with e
          have e2 : [.int .i64 c, .int .i64 t, .bool m, .slice A1 B.length c1, .slice A2 l.length c2] = [.int .i64 X.a.c, .int .i64 X.a.t, .bool X.a.m, bv, sv] := congrArg Array.toList e
          rw [e2]
          exact h1)
        refine ⟨_, _, rfl, show i64N 2 from i64N_small (by decide) (by decide), show i64N 3 from i64N_small (by decide) (by decide), BR.nil, by simp [twiceN, RT.a], ?_⟩
        exact NsR.two (vs := [.int .i64 c, .int .i64 t, .bool m, .slice A1 B.length c1, .slice A2 l.length c2]) (us := [.int .i64 c, .int .i64 t, .bool m, .slice A1 B.length c1, .slice A2 l.length c2]) hb ht ht rfl)
      have hba := HBG.out _ _ HTR.out (HT.out _ (HK6.out.alloc (.cells #[.int .i64 c, .int .i64 t, .bool m, .slice A1 B.length c1, .slice A2 l.length c2, .int .i64 c, .int .i64 t, .bool m, .slice A1 B.length c1, .slice A2 l.length c2] 25)))
      have HB0 := Lib.hid hba
      clear hba HTR HBG
      have hcases := HBIG.out
      clear HBIG
      rcases hcases with ⟨h8, hw8⟩ | ⟨h8, cb, hw8, hcl, hcr⟩
      · rw [hw8] at HB0
        simp only [List.length_nil] at HB0
        rw [h8] at HDP
        clear hw8 h8 htw hdep
        go_upto_region 10 with (go_at_call 29; refine HB0.out.mono ?_; rintro e w7 ⟨A9, c9, rfl, _, hk7⟩; have HK7' := Lib.hid (((Kp.refl (fun _ => False) w6).alloc (.cells #[.int .i64 c, .int .i64 t, .bool m, .slice A1 B.length c1, .slice A2 l.length c2, .int .i64 c, .int .i64 t, .bool m, .slice A1 B.length c1, .slice A2 l.length c2] 25)).then_ hk7 (fun _ h => h.elim)); clear hk7)
        have HK7 := Lib.hid (HK6.out.then_ HK7'.out (fun _ h => h.elim))
        have HQ7 := Lib.hid (HQ6.out.kp HK7'.out (fun h => h))
        clear HB0 HK7' HK6 HQ6 p0 p1 p2 p3 p4
        have p0 := HQ7.out.cell 0
        have p1 := HQ7.out.cell 1
        have p2 := HQ7.out.cell 2
        have p3 := HQ7.out.cell 3
        have p4 := HQ7.out.cell 4
        simp at p0 p1 p2 p3 p4
        have HD7 := Lib.hid (HDP.out w7 HK7.out)
        go_wp2_with (go_at_call 24; refine HD7.out.mono ?_; rintro e w8 ⟨rfl, hk8⟩; have HK8 := Lib.hid (HK7.out.then_ hk8 (fun _ h => h.elim)); clear hk8)
        go_ret
        exact ⟨rfl, HK8.out⟩
      · rw [hw8] at HB0
        simp only at HB0
        have hd8 : ((depN X : Int) == 8) = false := by simp; omega
        have HRC := Lib.hid (fun W A9 c9 (hk : Kp (fun _ => False) w W) (hb : BR W (fun _ => True) (.slice A9 cb.length c9) cb) => readD_got _ _ cb _ _ _ hcr W hb (by omega) (HT.out W hk))
        simp only [twiceN, RT.a, RT.l, List.length_nil, List.length_cons, Nat.zero_add] at HRC
        generalize depN X = dp at HDP hd8
        clear hw8 h8 hcr htw hdep
        go_upto_region 10 with (go_at_call 29; refine HB0.out.mono ?_; rintro e w7 ⟨A9, c9, rfl, ho7, hk7⟩; have HK7' := Lib.hid (((Kp.refl (fun _ => False) w6).alloc (.cells #[.int .i64 c, .int .i64 t, .bool m, .slice A1 B.length c1, .slice A2 l.length c2, .int .i64 c, .int .i64 t, .bool m, .slice A1 B.length c1, .slice A2 l.length c2] 25)).then_ hk7 (fun _ h => h.elim)); have HO7 := Lib.hid ho7; clear hk7 ho7)
        have HK7 := Lib.hid (HK6.out.then_ HK7'.out (fun _ h => h.elim))
        have HQ7 := Lib.hid (HQ6.out.kp HK7'.out (fun h => h))
        have HB7 := Lib.hid ((HO7.out.br rfl).mono (ok' := fun _ => True) (fun _ _ => trivial))
        clear HB0 HK7' HK6 HQ6 HO7 p0 p1 p2 p3 p4
        have p0 := HQ7.out.cell 0
        have p1 := HQ7.out.cell 1
        have p2 := HQ7.out.cell 2
        have p3 := HQ7.out.cell 3
        have p4 := HQ7.out.cell 4
        simp at p0 p1 p2 p3 p4
        have HD7 := Lib.hid (HDP.out w7 HK7.out)
        go_upto_region 12 with (go_at_call 24; refine HD7.out.mono ?_; rintro e w8 ⟨rfl, hk8⟩; have HK8' := Lib.hid hk8; clear hk8)
        have HK8 := Lib.hid (HK7.out.then_ HK8'.out (fun _ h => h.elim))
        have HQ8 := Lib.hid (HQ7.out.kp HK8'.out (fun h => h))
        have HR8 := Lib.hid (HRC.out w8 A9 c9 HK8.out (HB7.out.kp HK8'.out (fun _ _ h => h)))
        clear HD7 HDP HRC HK8' HK7 HQ7 HB7 p0 p1 p2 p3 p4 hd8
        go_upto_region 13 with (go_at_call 21; refine HR8.out.mono ?_; rintro e w9 ⟨A7, c7, A8, c8, rfl, hvx, hk9⟩; have HVX := Lib.hid hvx; have HK9' := Lib.hid hk9; clear hvx hk9)
        have ka : Kp (fun _ => False) w9 (w9.alloc (.cells #[.int .i64 2, .int .i64 3, .bool true, .slice A7 0 c7, .slice A8 2 c8] 25)) := (Kp.refl _ _).alloc _
        have HX9 := Lib.hid (Blk.new w9 25 #[.int .i64 2, .int .i64 3, .bool true, .slice A7 0 c7, .slice A8 2 c8])
        have k9 := HK9'.out.then_ ka (fun _ h => h.elim)
        have HK9 := Lib.hid (HK8.out.then_ k9 (fun _ h => h.elim))
        have HQ9 := Lib.hid (HQ8.out.kp k9 (fun h => h))
        have HV9 := Lib.hid (HVX.out.kp ka (fun _ _ h => h))
        clear ka k9 HVX HK9' HK8 HQ8 HR8
        generalize w9.alloc (.cells #[.int .i64 2, .int .i64 3, .bool true, .slice A7 0 c7, .slice A8 2 c8] 25) = W9 at HX9 HK9 HQ9 HV9 ⊢
        generalize w9.heap.size = by_ at HX9 ⊢
        obtain ⟨_, _, _, _, e9, _, _, _, _, _, _, _, hns⟩ := HV9.out.parts
        injection e9 with e9
        simp only [Array.mk.injEq, List.cons.injEq, Value.slice.injEq, and_true, true_and, List.length_cons, List.length_nil, Nat.zero_add] at e9
        obtain ⟨-, rfl, rfl⟩ := e9
        obtain ⟨bo, of, B1, d1, B2, d2, rfl, _, hn0, u0, u1, u2, u3, u4⟩ := hns.at_ (i := 0) (by simp)
        obtain ⟨bo', of', B3, d3, B4, d4, e10, _, hn1, t0, t1, t2, t3, t4⟩ := hns.at_ (i := 1) (by simp)
        injection e10 with e10
        injection e10 with e10 e11
        subst e10 e11
        simp only [List.getElem_cons_zero, List.getElem_cons_succ, Nat.zero_mul, Nat.one_mul, Nat.add_zero] at hn0 hn1 u0 u1 u2 u3 u4 t0 t1 t2 t3 t4
        have HCE := Lib.hid (fun W (hk : Kp (fun _ => False) W9 W) => show (fun w' : World => w'.cell? ⟨w.heap.size, 0, none⟩ = some (.int .i64 c) ∧ w'.cell? ⟨w.heap.size, 1, none⟩ = some (.int .i64 t) ∧ w'.cell? ⟨w.heap.size, 2, none⟩ = some (.bool m) ∧ w'.cell? ⟨w.heap.size, 3, none⟩ = some (.slice A1 B.length c1) ∧ w'.cell? ⟨w.heap.size, 4, none⟩ = some (.slice A2 l.length c2) ∧ w'.cell? ⟨by_, 4, none⟩ = some (.slice (some ⟨bo, of, none⟩) 2 c8) ∧ w'.cell? ⟨bo, of, none⟩ = some (.int .i64 X.a.c) ∧ w'.cell? ⟨bo, of + 1, none⟩ = some (.int .i64 X.a.t) ∧ w'.cell? ⟨bo, of + 2, none⟩ = some (.bool X.a.m) ∧ w'.cell? ⟨bo, of + 3, none⟩ = some (.slice B1 X.a.b.length d1) ∧ w'.cell? ⟨bo, of + 4, none⟩ = some (.slice B2 X.l.length d2) ∧ w'.cell? ⟨bo, of + 5, none⟩ = some (.int .i64 X.a.c) ∧ w'.cell? ⟨bo, of + 5 + 1, none⟩ = some (.int .i64 X.a.t) ∧ w'.cell? ⟨bo, of + 5 + 2, none⟩ = some (.bool X.a.m) ∧ w'.cell? ⟨bo, of + 5 + 3, none⟩ = some (.slice B3 X.a.b.length d3) ∧ w'.cell? ⟨bo, of + 5 + 4, none⟩ = some (.slice B4 X.l.length d4)) W from by
          have h1 := HQ9.out.kp hk (fun h => h)
          have h2 := HX9.out.kp hk (fun h => h)
          exact ⟨h1.cell 0, h1.cell 1, h1.cell 2, h1.cell 3, h1.cell 4, h2.cell 4, hk.cell u0 (fun h => h), hk.cell u1 (fun h => h), hk.cell u2 (fun h => h), hk.cell u3 (fun h => h), hk.cell u4 (fun h => h), hk.cell t0 (fun h => h), hk.cell t1 (fun h => h), hk.cell t2 (fun h => h), hk.cell t3 (fun h => h), hk.cell t4 (fun h => h)⟩)
        have HKZ := Lib.hid (Kp.refl (fun _ => False) W9)
        have HSM := Lib.hid (show ∀ (v : Value), (v = .agg #[.int .i64 X.a.c, .int .i64 X.a.t, .bool X.a.m, .slice B1 X.a.b.length d1, .slice B2 X.l.length d2] ∨ v = .agg #[.int .i64 X.a.c, .int .i64 X.a.t, .bool X.a.m, .slice B3 X.a.b.length d3, .slice B4 X.l.length d4]) → ∀ W, Kp (fun _ => False) W9 W →
            Calls Tryd.prog 23 #[v, .agg #[.int .i64 c, .int .i64 t, .bool m, .slice A1 B.length c1, .slice A2 l.length c2]] W fun e w' => e = .returned (.bool true) ∧ Kp (fun _ => False) W w' from by
          intro v h W hk
          have h2 := HV.out W (HK9.out.then_ hk (fun _ h => h.elim))
          rcases h with rfl | rfl
          · have h := rsame_anyN _ _ X X _ _ W (hn0.kp hk (fun _ _ h => h)) h2
            rw [sameN_refl] at h
            exact h
          · have h := rsame_anyN _ _ X X _ _ W (hn1.kp hk (fun _ _ h => h)) h2
            rw [sameN_refl] at h
            exact h)
        clear hns hn0 hn1 u0 u1 u2 u3 u4 t0 t1 t2 t3 t4 HV9 HX9 HQ9 HV
        go_cut [2] (fun cv wx => cv = .bool true ∧ Kp (fun _ => False) W9 wx)
        case first =>
          go_region_held3 (fun w' : World => w'.cell? ⟨w.heap.size, 0, none⟩ = some (.int .i64 c) ∧ w'.cell? ⟨w.heap.size, 1, none⟩ = some (.int .i64 t) ∧ w'.cell? ⟨w.heap.size, 2, none⟩ = some (.bool m) ∧ w'.cell? ⟨w.heap.size, 3, none⟩ = some (.slice A1 B.length c1) ∧ w'.cell? ⟨w.heap.size, 4, none⟩ = some (.slice A2 l.length c2) ∧ w'.cell? ⟨by_, 4, none⟩ = some (.slice (some ⟨bo, of, none⟩) 2 c8) ∧ w'.cell? ⟨bo, of, none⟩ = some (.int .i64 X.a.c) ∧ w'.cell? ⟨bo, of + 1, none⟩ = some (.int .i64 X.a.t) ∧ w'.cell? ⟨bo, of + 2, none⟩ = some (.bool X.a.m) ∧ w'.cell? ⟨bo, of + 3, none⟩ = some (.slice B1 X.a.b.length d1) ∧ w'.cell? ⟨bo, of + 4, none⟩ = some (.slice B2 X.l.length d2) ∧ w'.cell? ⟨bo, of + 5, none⟩ = some (.int .i64 X.a.c) ∧ w'.cell? ⟨bo, of + 5 + 1, none⟩ = some (.int .i64 X.a.t) ∧ w'.cell? ⟨bo, of + 5 + 2, none⟩ = some (.bool X.a.m) ∧ w'.cell? ⟨bo, of + 5 + 3, none⟩ = some (.slice B3 X.a.b.length d3) ∧ w'.cell? ⟨bo, of + 5 + 4, none⟩ = some (.slice B4 X.l.length d4)) (first | exact HCE.out _ HKZ.out | exact HCE.out _ HKZ.out.drew) (first
            | (go_at_call 23; refine (HSM.out _ (by first | exact .inl rfl | exact .inr rfl) _ (by first | exact HKZ.out | exact HKZ.out.drew)).mono ?_; rintro e w5 ⟨rfl, hk5⟩; have hq := Kp.then_ (a := W9) (S := fun _ => False) (by first | exact HKZ.out | exact HKZ.out.drew) hk5 (fun _ h => h.elim); clear HKZ; have HKZ := Lib.hid hq; clear hq hk5))
          go_wp2_with fail
          go_meet
          exact ⟨rfl, HKZ.out⟩
        case rest =>
        obtain ⟨rfl, hkc⟩ := hcut
        have HKF := Lib.hid (HK9.out.then_ hkc (fun _ h => h.elim))
        clear hkc HCE HSM HKZ
        go_wp2_with fail
        go_ret
        exact ⟨rfl, HKF.out⟩
    · have hreb : (re != 0) = true := by simpa using hre
      have hnil : rb = [] := by
        have hx : writeN X = ([], 14) ∨ writeN X = wrN X := by
          by_cases h : 8 < depN X
          · exact .inl (writeN_deep h)
          · exact .inr (writeN_flat h)
        rcases hx with h | h
        · rw [hR] at h
          simp only [Prod.mk.injEq] at h
          exact h.1
        · have h1 := wrN_nil (x := X) (by rw [← h, hR]; exact hre)
          rw [← h, hR] at h1
          exact h1
      subst hnil
      have hrr : (re == re) = true := by simp
      simp only [List.length_nil] at HC1
      clear hre hR hdep
      go_upto_region 5 with (go_at_call 29; refine HC1.out.mono ?_; rintro e w3 ⟨A3, c3, rfl, _, hk3⟩; have HK3' := Lib.hid hk3; clear hk3)
      have HK3 := Lib.hid (HK2.out.then_ HK3'.out (fun _ h => h.elim))
      have HQ3 := Lib.hid (HQ12.out.kp HK3'.out (fun h => h))
      have HC3 := Lib.hid (HCD.out w3 HK3.out)
      clear HC1 HK3' HK2 HQ12 HCD p0 p1 p2 p3 p4
      have p0 := HQ3.out.cell 0
      have p1 := HQ3.out.cell 1
      have p2 := HQ3.out.cell 2
      have p3 := HQ3.out.cell 3
      have p4 := HQ3.out.cell 4
      simp at p0 p1 p2 p3 p4
      go_wp2_with (go_at_call 30; refine HC3.out.mono ?_; rintro e w4 ⟨rfl, hk4⟩; have HK4 := Lib.hid (HK3.out.then_ hk4 (fun _ h => h.elim)); clear hk4)
      go_ret
      exact ⟨rfl, HK4.out⟩
end Go.Proofs.YtgjbfgkcbehjnaaDoor

namespace Go.Proofs.YtgjbfgkcbehjnaaDoor.derBack
open Go.ChangeShapes Go.WideShapes Go.ChangeAt Go.RowKit
set_option linter.unusedVariables false

theorem own : ownKnob Tryd.prog.godebug = none := by kernel_rfl
theorem laidOut : laidOutB Tryd.prog = true := by kernel_rfl

theorem door_met (os : Os) (args : Array Value) : laidMetH Tryd.prog Rows.derBackRow.laid ((World.doorLaid Tryd.prog 77 os).forCall (fun _ _ => 0) ⟨#[], args, []⟩).memory :=
  laidMetH_of_parts3 (fuel := 8) (laidMet_of_run' 8 (by kernel_rfl) (by kernel_rfl)) (by kernel_rfl) (by kernel_rfl)

set_option maxRecDepth 100000 in
theorem lifted (os : Os) (started : os.Started) (H : Type) (enc : TypeId × Value → H) :
    ReturnsInHanded {} Tryd.checked os 13 .any (fun w args => (Rows.derBackSpec.pre enc Tryd.prog Tryd.f13 [] false w args ∧ laidMetH Tryd.prog Rows.derBackRow.laid w) ∧ sizedMet enc Tryd.prog Tryd.f13 (OpenSpec.ofChange Rows.derBackSpec) false w args) (Rows.derBackSpec.post enc Tryd.prog Tryd.f13 false true false false) := by
  refine returnsInHanded_of_change_and (C := Tryd.checked) (X := fun w _ => laidMetH Tryd.prog Rows.derBackRow.laid w) (fun _ _ _ hh h => h.of_heap hh) own started (by kernel_rfl) Tryd.func13
    (ChangeSpec.witness_shaped (enc := enc) (C := Tryd.checked) (os := os) (X := fun w _ => laidMetH Tryd.prog Rows.derBackRow.laid w) false (World.doorLaid Tryd.prog 77 os) #[.agg #[.int .i64 0, .int .i64 0, .bool false, .slice none 0 0, .slice none 0 0]] 8 rfl (World.shaped_of_RefB (by kernel_rfl) (by kernel_rfl)) (by kernel_rfl) (by kernel_rfl) (by kernel_rfl) (door_met os _)) ?_
  intro W base args ds gs before hval0 hW hcnd hsz0 hL _
  have tab := tabN (hf := by kernel_rfl) (hg := by kernel_rfl) hL
  have hval : ∀ (j : Nat) t v, Tryd.f13.params[j]? = some t → args[j]? = some v → Value.okWide Tryd.prog W .any base t v := hval0
  have hW' := hW
  obtain ⟨p, q, hA0, hV, rfl, hfz, hnd⟩ := hW
  have hA : DataW.TrodAll enc Tryd.prog W 0 (fun _ => true) true Tryd.f13.params.toList args.toList ds p := hA0
  obtain ⟨rfl, rfl⟩ := trodVars_none hV
  have hsz : (DataW.weightsEach Tryd.prog (Tryd.f13.params.toList ++ []) (ds ++ [])).all (· ≤ reachBytes) = true := hsz0
  rw [List.append_nil, List.append_nil] at hsz
  rw [Tryd.params13] at hA hval hsz
  obtain ⟨v0, vs0, d0, ds0, p0, q0, hargs, rfl, rfl, h0, r0⟩ := trodAll_cons hA
  obtain ⟨rfl, rfl, rfl⟩ := trodAll_nil r0
  obtain rfl : args = #[v0] := by cases args; simp_all
  have k0 := h0
  have lt0 : ∀ x ∈ p0, x.block < W.heap.size := by obtain ⟨m, hm⟩ := k0; exact DataW.trod_lt m _ _ _ hm
  obtain ⟨l0, b0⟩ := open_node (hval 0 25 v0 rfl rfl) h0 (_hsz := hsz) (j := 0) rfl rfl
  clear hA0 hval0 hsz0
  refine (dback_walk W tab v0 l0 b0).mono fun e W' ⟨he, bel⟩ => ?_
  subst he
  exact ⟨_, rfl, _, _, _, [], _, [], hW', trodAll_mk1 (shut_bool Tryd.underlying4 _), (trodAll_cons_mk (Below.trod laidOut (by kernel_rfl) (of_decide_eq_true (by kernel_rfl)) k0 bel lt0) trodAll_mk0), rfl, bel.frame _, fun h => by cases h⟩

theorem over : Rows.derBackRow.holds Tryd.pinned (OpenSpec.ofChange Rows.derBackSpec) :=
  OpenClaim.holds_of_wide 13 Tryd.f13 rfl rfl rfl rfl rfl rfl rfl ⟨rfl, rfl, rfl, rfl, rfl⟩ rfl rfl rfl rfl rfl (by kernel_rfl) Tryd.func13 (by kernel_rfl)
    (of_decide_eq_true (by kernel_rfl)) (by unfold Func.isWrapper; first | (rw [if_pos (by decide +kernel)]; kernel_rfl) | (rw [if_neg (by decide +kernel)]; exact ⟨rfl, rfl⟩))
    (fun os started H enc _ => lifted os started H enc)

/-- The tied card. -/
theorem proved : Rows.DerBackCardSaid :=
  Claim7.holds_tied_plain_at .later [] [.data, .data, .data, .sentinel, .sentinel, .widerDeep, .widerDeep, .data] true (true, "0ab74d96bed3506d8a76af22bf9d6f6d114eadcc4072f4d921186855ad1623b7") true
    over (fun _ h => by cases h) (by kernel_rfl) (fun _ h => by cases h) derBack_row_tie rfl ⟨rfl, rfl⟩ (by kernel_rfl) rfl
    (fun f fn hf hfn => by
      obtain rfl : f = 13 := Option.some.inj ((show Tryd.prog.funcNamed "passepartout/passepartoutlaw11.DerBack" = some 13 by kernel_rfl).symm.trans hf) |>.symm
      obtain rfl : fn = Tryd.f13 := (Option.some.inj (Tryd.func13.symm.trans hfn)).symm
      exact ⟨by kernel_rfl, fun j t ht => by
        rw [Tryd.params13] at ht
        have hm : t ∈ [25] := by simpa using Array.mem_of_getElem? ht
        have hall : ([25].all fun u => !Tryd.prog.wantsStandIn u) = true := by kernel_rfl
        exact (show Tryd.prog.wantsStandIn t = false by simpa using List.all_eq_true.1 hall t hm)⟩)
    (by kernel_rfl)
#print axioms proved
end Go.Proofs.YtgjbfgkcbehjnaaDoor.derBack
