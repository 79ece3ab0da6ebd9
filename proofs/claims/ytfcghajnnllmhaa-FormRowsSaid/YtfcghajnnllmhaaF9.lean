/-
  The document's forms: parts, Count, Depth.
-/
import Derived.Test.YtfcghajnnllmhaaF6
import Derived.Deep.CutRange
namespace Go.Proofs.Ytfcghajnnllmhaa
open Go.RowKit

set_option maxRecDepth 100000 in
theorem rparts_any (ok : Nat → Prop) (v : Value) (f : Fm) (w : World) (hv : FmR w ok v f) :
    Calls Try.prog 47 #[v] w fun e w' => ∃ A n c, e = .returned (.slice A n c) ∧ n = (partsF f).length ∧ FsR w' ok (.slice A n c) (partsF f) ∧ Kp (fun _ => False) w w' := by
  obtain ⟨sv, rfl, hok, hs⟩ := hv
  have hka : ∀ o, Kp (fun _ => False) w (w.alloc o) := fun o => (Kp.refl _ _).alloc o
  have HS := Lib.hid (fun o => hs.kp (hka o) (fun _ _ h => h))
  have HK := Lib.hid hka
  obtain ⟨A, c, rfl, h1, h2, _⟩ := id hs
  obtain ⟨P, hP⟩ : ∃ P, partsF f = P := ⟨_, rfl⟩
  have HP := Lib.hid hP
  rw [hP]
  have hk := hok.k
  by_cases h2' : f.a.k = 2
  · have hP2 : P = f.l := by rw [← hP, partsF, if_pos (.inl h2')]
    have t : (f.a.k == 2) = true := by simpa using h2'
    subst hP2
    clear hka hs hP h2' HP hok hk
    go_enter Try.func47, Try.ntmps47
    go_wp2_with fail
    go_ret
    exact ⟨_, _, _, rfl, rfl, HS.out _, HK.out _⟩
  · by_cases h3 : f.a.k = 3
    · have hP2 : P = f.l := by rw [← hP, partsF, if_pos (.inr h3)]
      have t : (f.a.k == 2) = false := by simpa using h2'
      have t2 : (f.a.k == 3) = true := by simpa using h3
      subst hP2
      clear hka hs hP h2' h3 HP hok hk
      go_enter Try.func47, Try.ntmps47
      go_wp2_with fail
      go_ret
      exact ⟨_, _, _, rfl, rfl, HS.out _, HK.out _⟩
    · have hP2 : P = [] := by rw [← hP, partsF, if_neg (by omega)]
      have t : (f.a.k == 2) = false := by simpa using h2'
      have t2 : (f.a.k == 3) = false := by simpa using h3
      subst hP2
      clear hka hs hP h2' h3 HP hok hk
      go_enter Try.func47, Try.ntmps47
      go_wp2_with fail
      go_ret
      exact ⟨_, _, _, rfl, rfl, FsR.nil, HK.out _⟩


mutual
/-- How many forms there are; no more than so many (and one) are told. -/
def cntR : Nat → Fm → Nat
  | m, .mk a l => if a.k = 2 ∨ a.k = 3 then cntL m 1 l else 1
def cntL : Nat → Nat → List Fm → Nat
  | _, n, [] => n
  | m, n, f :: t => if n ≤ m then cntL m (n + cntR (m - n) f) t else n
end
theorem cntR_parts (m : Nat) (f : Fm) : cntR m f = cntL m 1 (partsF f) := by
  obtain ⟨a, l⟩ := f
  rw [cntR]
  show _ = cntL m 1 (if a.k = 2 ∨ a.k = 3 then l else [])
  split
  · rfl
  · rw [cntL]
theorem cntL_drop {l : List Fm} {k m n : Nat} (hk : k < l.length) : cntL m n (l.drop k) = if n ≤ m then cntL m (n + cntR (m - n) l[k]) (l.drop (k + 1)) else n := by
  rw [List.drop_eq_getElem_cons hk, cntL]
theorem cntL_end {l : List Fm} {k m n : Nat} (hk : ¬ (k < l.length ∧ n ≤ m)) : cntL m n (l.drop k) = n := by
  by_cases h : k < l.length
  · rw [cntL_drop h, if_neg (by omega)]
  · rw [List.drop_of_length_le (by omega), cntL]
theorem cnt_bound (f : Fm) : ∀ m, 1 ≤ cntR m f ∧ cntR m f ≤ m + 1 := by
  induction f using RT.induct with
  | h a l ih =>
  intro m
  rw [cntR]
  split
  · have key : ∀ (t : List Fm), (∀ f ∈ t, ∀ m, 1 ≤ cntR m f ∧ cntR m f ≤ m + 1) → ∀ n, n ≤ m + 1 → n ≤ cntL m n t ∧ cntL m n t ≤ m + 1 := by
      intro t
      induction t with
      | nil => intro _ n hn; rw [cntL]; omega
      | cons f t ih2 =>
        intro hf n hn
        rw [cntL]
        split
        · have h1 := hf f (by simp) (m - n)
          have h2 := ih2 (fun g hg => hf g (by simp [hg])) (n + cntR (m - n) f) (by omega)
          omega
        · omega
    exact key l ih 1 (by omega)
  · omega

set_option maxRecDepth 100000 in
set_option maxHeartbeats 3200000 in
theorem count_any (ok : Nat → Prop) : ∀ (f : Fm) (m : Nat) (v : Value) (w : World), m ≤ 100000 → FmR w ok v f →
    Calls Try.prog 45 #[v, .int .i64 (m : Int)] w fun e w' => e = .returned (.int .i64 (cntR m f : Nat)) ∧ Kp (fun _ => False) w w' := by
  intro f
  induction f using RT.induct with
  | h a l ih =>
  intro m v w hm hv
  obtain ⟨r, hr⟩ : ∃ r, cntR m (.mk a l) = r := ⟨_, rfl⟩
  rw [hr]
  rw [cntR_parts] at hr
  have hka : ∀ o, Kp (fun _ => False) w (w.alloc o) := fun o => (Kp.refl _ _).alloc o
  have HPA := Lib.hid (fun o => rparts_any ok v (.mk a l) (w.alloc o) (hv.kp (hka o) (fun _ _ h => h)))
  have IH := Lib.hid (fun f (hmm : f ∈ partsF (.mk a l)) => ih f (partsF_mem hmm))
  generalize partsF (.mk a l) = P at hr HPA IH
  obtain ⟨k, s, lo, hi, st⟩ := a
  obtain ⟨A, c, rfl, h1, h2, _, _, _, _, _, _⟩ := hv.parts
  have HK := Lib.hid hka
  have HR := Lib.hid hr
  have HM := Lib.hid hm
  clear hv ih hr hka hm
  go_enter Try.func45, Try.ntmps45
  go_wp2_with fail
  refine (HPA.out _).mono ?_
  rintro e w1 ⟨A2, n, cp, rfl, hn, hs1, hk1⟩
  have HK1 := Lib.hid ((HK.out _).then_ hk1 (fun _ h => h.elim))
  have HS1 := Lib.hid hs1
  have hnc : n ≤ cp ∧ n ≤ 140737488355328 := by
    obtain ⟨A', c', e, q1, q2, _⟩ := hs1
    injection e with _ e2 e3
    omega
  obtain ⟨hn1, hn2⟩ := hnc
  have HN := Lib.hid hn
  clear hk1 hs1 hn
  go_wp2_with fail
  go_loopw [7, 5] (fun i nv wr => ∃ (j q : Nat), j ≤ n ∧ i = .int .i64 j ∧ nv = .int .i64 q ∧ cntL m 1 P = cntL m q (P.drop j) ∧ 1 ≤ q ∧ q ≤ m + 1 ∧ Kp (fun _ => False) w1 wr) (fun i _ _ => n - (intOf i).toNat)
  case atStart => exact ⟨0, 1, Nat.zero_le _, rfl, rfl, rfl, Nat.le_refl _, by omega, Kp.refl _ _⟩
  case round =>
    obtain ⟨j, q, hj, rfl, rfl, he, hq1, hq2, hkr⟩ := hrel
    have HKR := Lib.hid hkr
    have HE := Lib.hid he
    have hm5 := HM.out
    clear he
    by_cases hlt : j < n
    · by_cases hqm : q ≤ m
      · have hjP : j < P.length := by have := HN.out; omega
        obtain ⟨b, off, A3, c3, rfl, hb, hf, q0, q1, q2, q3, q4, q5⟩ := (HS1.out.kp hkr (fun _ _ h => h)).at_ hjP
        have hmem : P[j] ∈ P := List.getElem_mem hjP
        have hdr := cntL_drop (m := m) (n := q) hjP
        rw [if_pos hqm] at hdr
        obtain ⟨f, hfe⟩ : ∃ f, P[j] = f := ⟨_, rfl⟩
        rw [hfe] at hf q0 q1 q2 q3 q4 q5 hmem hdr
        have hbd := cnt_bound f (m - q)
        have hi0 : (0 : Int) ≤ (j : Int) := by omega
        have hi1 : (j : Int) < (n : Int) := by omega
        have hqm' : decide ((q : Int) ≤ (m : Int)) = true := by simp; omega
        have HC := Lib.hid (fun W (hk : Kp (fun _ => False) wr W) => IH.out f hmem (m - q) _ W (by omega) (hf.kp hk (fun _ _ h => h)))
        generalize cntR (m - q) f = x at hdr HC hbd
        have HD := Lib.hid (show cntL m 1 P = cntL m (q + x) (P.drop (j + 1)) by rw [HE.out, hdr])
        have hsub : IntKind.i64.wrap ((m : Int) - (q : Int)) = ((m - q : Nat) : Int) := by
          rw [show (m : Int) - (q : Int) = ((m - q : Nat) : Int) by omega]
          exact IntWalk.i64_in _ (by omega)
        have hadd : IntKind.i64.wrap ((q : Int) + (x : Int)) = ((q + x : Nat) : Int) := by
          rw [show (q : Int) + (x : Int) = ((q + x : Nat) : Int) by omega]
          exact IntWalk.i64_in _ (by omega)
        have hqq : q + x ≤ m + 1 := by omega
        clear hdr hf hfe hmem hkr hbd
        go_wp2_with fail
        refine (HC.out _ (Kp.refl _ _)).mono ?_
        rintro e w3 ⟨rfl, hk3⟩
        have HK3 := Lib.hid (HKR.out.then_ hk3 (fun _ h => h.elim))
        clear hk3
        go_wp2_with fail
        go_roundw
        case rel => exact ⟨j + 1, q + x, by omega, by go_num, by first | rfl | rw [hadd], HD.out, by omega, hqq, HK3.out⟩
        case measure => simp [intOf]; omega
      · have hend := cntL_end (l := P) (k := j) (m := m) (n := q) (by omega)
        have HX := Lib.hid (show q = r by rw [← HR.out, HE.out, hend])
        have hqm' : decide ((q : Int) ≤ (m : Int)) = false := by simp; omega
        have hi1 : (j : Int) < (n : Int) := by omega
        clear hend hkr
        go_wp2_with fail
        go_ret
        exact ⟨by rw [HX.out]; rfl, HK1.out.then_ HKR.out (fun _ h => h.elim)⟩
    · have hend := cntL_end (l := P) (k := j) (m := m) (n := q) (by have := HN.out; omega)
      have HX := Lib.hid (show q = r by rw [← HR.out, HE.out, hend])
      have hi1 : decide ((j : Int) < (n : Int)) = false := by simp; omega
      clear hend hkr
      go_wp2_with fail
      go_ret
      exact ⟨by rw [HX.out]; rfl, HK1.out.then_ HKR.out (fun _ h => h.elim)⟩

set_option maxRecDepth 100000 in
/-- Are there more forms in one than are looked at? -/
theorem great04 (ok : Nat → Prop) (f : Fm) (v : Value) (w : World) (hv : FmR w ok v f) :
    Calls Try.prog 20 #[v] w fun e w' => e = .returned (.bool (decide (500 < cntR 500 f))) ∧ Kp (fun _ => False) w w' := by
  have hka : ∀ o, Kp (fun _ => False) w (w.alloc o) := fun o => (Kp.refl _ _).alloc o
  have HK := Lib.hid hka
  have HC := Lib.hid (fun o => count_any ok f 500 v (w.alloc o) (by omega) (hv.kp (hka o) (fun _ _ h => h)))
  obtain ⟨sv, rfl, hok, A, c, rfl, _, _, _⟩ := hv
  generalize cntR 500 f = x at HC ⊢
  clear hka hok
  go_enter Try.func20, Try.ntmps20
  go_wp2_with fail
  refine (HC.out _).mono ?_
  rintro e w1 ⟨rfl, hk1⟩
  have hk := (HK.out _).then_ hk1 (fun _ h => h.elim)
  have t : decide ((500 : Int) < (x : Int)) = decide (500 < x) := by rw [Bool.eq_iff_iff]; simp only [decide_eq_true_eq]; omega
  clear hk1
  go_wp2_with fail
  go_ret
  exact ⟨by first | rfl | rw [t], hk⟩
/-- Not too many: so few parts. -/
theorem cnt_parts {f : Fm} (h : ¬ 500 < cntR 500 f) : (partsF f).length ≤ 500 := by
  rw [cntR_parts] at h
  have key : ∀ (t : List Fm) (n : Nat), cntL 500 n t ≤ 500 → n + t.length ≤ cntL 500 n t := by
    intro t
    induction t with
    | nil => intro n _; rw [cntL]; simp
    | cons f t ih =>
      intro n hn
      rw [cntL] at hn ⊢
      by_cases hq : n ≤ 500
      · rw [if_pos hq] at hn ⊢
        have h1 := ih _ hn
        have h2 := (cnt_bound f (500 - n)).1
        rw [List.length_cons]
        omega
      · rw [if_neg hq] at hn
        omega
  have := key (partsF f) 1 (by omega)
  omega
end Go.Proofs.Ytfcghajnnllmhaa
