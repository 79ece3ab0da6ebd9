/-
  layout.parts, bounds, deep.
-/
import Derived.Test.YtfcghajnnllmhaaTrF
import Derived.IntWalk
namespace Go.Proofs.Ytfcghajnnllmhaa
open Go.RowKit

set_option maxRecDepth 100000 in
theorem parts_any (ok : Nat → Prop) (v : Value) (f : Fm) (w : World) (hv : FmR w ok v f) :
    Calls Try.prog 54 #[v] w fun e w' => ∃ A n c, e = .returned (.slice A n c) ∧ n = (partsF f).length ∧ FsR w' ok (.slice A n c) (partsF f) ∧ Kp (fun _ => False) w w' := by
  obtain ⟨sv, rfl, hok, hs⟩ := hv
  have hka : ∀ o, Kp (fun _ => False) w (w.alloc o) := fun o => (Kp.refl _ _).alloc o
  have HS := Lib.hid (fun o => hs.kp (hka o) (fun _ _ h => h))
  have HK := Lib.hid hka
  obtain ⟨A, c, rfl, h1, h2, _⟩ := id hs
  obtain ⟨P, hP⟩ : ∃ P, partsF f = P := ⟨_, rfl⟩
  have HP := Lib.hid hP
  rw [hP]
  have hk := hok.k
  by_cases h2' : f.a.k = 2
  · have hP2 : P = f.l := by rw [← hP, partsF, if_pos (.inl h2')]
    have t : (f.a.k == 2) = true := by simpa using h2'
    subst hP2
    clear hka hs hP h2' HP hok hk
    go_enter Try.func54, Try.ntmps54
    go_wp2_with fail
    go_ret
    exact ⟨_, _, _, rfl, rfl, HS.out _, HK.out _⟩
  · by_cases h3 : f.a.k = 3
    · have hP2 : P = f.l := by rw [← hP, partsF, if_pos (.inr h3)]
      have t : (f.a.k == 2) = false := by simpa using h2'
      have t2 : (f.a.k == 3) = true := by simpa using h3
      subst hP2
      clear hka hs hP h2' h3 HP hok hk
      go_enter Try.func54, Try.ntmps54
      go_wp2_with fail
      go_ret
      exact ⟨_, _, _, rfl, rfl, HS.out _, HK.out _⟩
    · have hP2 : P = [] := by rw [← hP, partsF, if_neg (by omega)]
      have t : (f.a.k == 2) = false := by simpa using h2'
      have t2 : (f.a.k == 3) = false := by simpa using h3
      subst hP2
      clear hka hs hP h2' h3 HP hok hk
      go_enter Try.func54, Try.ntmps54
      go_wp2_with fail
      go_ret
      exact ⟨_, _, _, rfl, rfl, FsR.nil, HK.out _⟩

set_option maxRecDepth 100000 in
theorem bounds_any (lo hi most : Int) (w : World) : Calls Try.prog 68 #[.int .i64 lo, .int .i64 hi, .int .i64 most] w fun e w' => e = .returned (.int .i64 (boundsR lo hi most)) ∧ w = w' := by
  by_cases h0 : lo < 0
  · have e : boundsR lo hi most = 5 := by rw [boundsR, if_pos (.inl h0)]
    have t : decide (lo < 0) = true := decide_eq_true h0
    rw [e]
    clear e h0
    go_enter Try.func68, Try.ntmps68
    go_wp2_with fail
    go_ret
    exact ⟨rfl, rfl⟩
  have t : decide (lo < 0) = false := decide_eq_false h0
  by_cases h1 : hi < lo
  · have e : boundsR lo hi most = 5 := by rw [boundsR, if_pos (.inr (.inl h1))]
    have t1 : decide (hi < lo) = true := decide_eq_true h1
    rw [e]
    clear e h0 h1
    go_enter Try.func68, Try.ntmps68
    go_wp2_with fail
    go_ret
    exact ⟨rfl, rfl⟩
  have t1 : decide (hi < lo) = false := decide_eq_false h1
  by_cases h2 : most < hi
  · have e : boundsR lo hi most = 5 := by rw [boundsR, if_pos (.inr (.inr h2))]
    have t2 : decide (most < hi) = true := decide_eq_true h2
    rw [e]
    clear e h0 h1 h2
    go_enter Try.func68, Try.ntmps68
    go_wp2_with fail
    go_ret
    exact ⟨rfl, rfl⟩
  · have e : boundsR lo hi most = 0 := by rw [boundsR, if_neg (by omega)]
    have t2 : decide (most < hi) = false := decide_eq_false h2
    rw [e]
    clear e h0 h1 h2
    go_enter Try.func68, Try.ntmps68
    go_wp2_with fail
    go_ret
    exact ⟨rfl, rfl⟩

/-- How an element is reached. -/
def Each (w : World) (ok : Nat → Prop) (F : Nat) (cv : Value) (p : Fm → Bool) (l : List Fm) : Prop :=
  ∀ f, f ∈ l → ∀ (v : Value) (W : World), FmR W ok v f → Kp (fun _ => False) w W → Calls Try.prog F #[v, cv] W fun e w' => e = .returned (.bool (p f)) ∧ Kp (fun _ => False) W w'

set_option maxRecDepth 100000 in
set_option maxHeartbeats 1600000 in
theorem index_any (ok : Nat → Prop) (v : Value) (l : List Fm) (p : Fm → Bool) (cv : Value) (w : World) (hv : FsR w ok v l) (hE : Each w ok 62 cv p l) :
    Calls Try.prog 67 #[v, .func (.func 62) #[] #[cv]] w fun e w' => ∃ n : Int, e = .returned (.int .i64 n) ∧ -1 ≤ n ∧ n ≤ 140737488355328 ∧ (0 ≤ n ↔ l.any p = true) ∧ Kp (fun _ => False) w w' := by
  obtain ⟨A, c, rfl, h1, h2, _⟩ := id hv
  have HV := Lib.hid hv
  have HE := Lib.hid hE
  clear hv hE
  go_enter Try.func67, Try.ntmps67
  go_wp2_with fail
  go_loopw [8] (fun i wr => ∃ k : Nat, k ≤ l.length ∧ i = .int .i64 k ∧ (l.take k).any p = false ∧ Kp (fun _ => False) w wr) (fun i _ => l.length - (intOf i).toNat)
  case atStart => exact ⟨0, Nat.zero_le _, rfl, rfl, Kp.refl _ _⟩
  case round =>
    obtain ⟨k, hk, rfl, hno, hkr⟩ := hrel
    have HNO := Lib.hid hno
    have HKR := Lib.hid hkr
    clear hno
    by_cases hlt : k < l.length
    · obtain ⟨b, off, A2, c2, rfl, hb, hf, q0, q1, q2, q3, q4, q5⟩ := (HV.out.kp hkr (fun _ _ h => h)).at_ hlt
      have hmem : l[k] ∈ l := List.getElem_mem hlt
      have hts := Lib.hid (List.take_succ_eq_append_getElem hlt)
      obtain ⟨f, hfe⟩ : ∃ f, l[k] = f := ⟨_, rfl⟩
      rw [hfe] at hf q0 q1 q2 q3 q4 q5 hmem hts
      have HC := Lib.hid (HE.out f hmem _ wr hf hkr)
      have hi0 : (0 : Int) ≤ (k : Int) := by omega
      have hi1 : (k : Int) < (l.length : Int) := by omega
      cases hp : p f
      · rw [hp] at HC
        have HN2 := Lib.hid (show (l.take (k + 1)).any p = false by rw [hts.out, List.any_append, HNO.out]; simp [hp])
        clear hf hfe hmem hkr hp
        go_wp2_with fail
        refine HC.out.mono ?_
        rintro e w2 ⟨rfl, hk2⟩
        have HK2 := Lib.hid (HKR.out.then_ hk2 (fun _ h => h.elim))
        clear hk2
        go_wp2_with fail
        go_roundw
        case rel => exact ⟨k + 1, by omega, by go_num, HN2.out, HK2.out⟩
        case measure => simp [intOf]; omega
      · rw [hp] at HC
        have HY := Lib.hid (show l.any p = true from List.any_eq_true.2 ⟨f, hmem, hp⟩)
        clear hf hfe hmem hkr hp
        go_wp2_with fail
        refine HC.out.mono ?_
        rintro e w2 ⟨rfl, hk2⟩
        have HK2 := Lib.hid (HKR.out.then_ hk2 (fun _ h => h.elim))
        clear hk2
        go_wp2_with fail
        go_ret
        exact ⟨(k : Int), rfl, by omega, by omega, by rw [HY.out]; simp, HK2.out⟩
    · obtain rfl : k = l.length := by omega
      rw [List.take_of_length_le (Nat.le_refl _)] at HNO
      clear hkr
      go_wp2_with fail
      go_ret
      exact ⟨-1, rfl, by omega, by omega, by rw [HNO.out]; simp, HKR.out⟩

set_option maxRecDepth 100000 in
theorem contains_any (ok : Nat → Prop) (v : Value) (l : List Fm) (p : Fm → Bool) (cv : Value) (w : World) (hv : FsR w ok v l) (hE : Each w ok 62 cv p l) :
    Calls Try.prog 61 #[v, .func (.func 62) #[] #[cv]] w fun e w' => e = .returned (.bool (l.any p)) ∧ Kp (fun _ => False) w w' := by
  have HI := Lib.hid (index_any ok v l p cv w hv hE)
  generalize l.any p = r at HI ⊢
  clear hE hv
  go_enter Try.func61, Try.ntmps61
  go_wp2_with fail
  refine HI.out.mono ?_
  rintro e w1 ⟨n, rfl, h1, h2, h3, hk1⟩
  have t : decide (0 ≤ n) = r := by
    rw [Bool.eq_iff_iff, ← h3]
    simp
  clear h3
  go_wp2_with fail
  go_ret
  exact ⟨rfl, hk1⟩

set_option maxRecDepth 100000 in
/-- The closure: one level less. -/
theorem deep1_any (n : Nat) (hn : n ≤ 1000) (ok : Nat → Prop) (v : Value) (f : Fm) (B : Nat) (w : World) (hv : FmR w ok v f) (hc : w.cell? ⟨B, 0, none⟩ = some (.int .i64 ((n : Int) + 1)))
    (hrec : ∀ W, Kp (fun _ => False) w W → Calls Try.prog 43 #[v, .int .i64 (n : Int)] W fun e w' => e = .returned (.bool (deepB n f)) ∧ Kp (fun _ => False) W w') :
    Calls Try.prog 62 #[v, .pointer (some ⟨B, 0, none⟩)] w fun e w' => e = .returned (.bool (deepB n f)) ∧ Kp (fun _ => False) w w' := by
  obtain ⟨sv, rfl, hok, A, c, rfl, _, _, _⟩ := hv
  have hka : ∀ o, Kp (fun _ => False) w (w.alloc o) := fun o => (Kp.refl _ _).alloc o
  have hc2 : ∀ o, (w.alloc o).cell? ⟨B, 0, none⟩ = some (.int .i64 ((n : Int) + 1)) := fun o => (hka o).cell hc (fun h => h)
  have HK := Lib.hid hka
  have HR := Lib.hid hrec
  have s1 : IntKind.i64.wrap ((n : Int) + 1 - 1) = (n : Int) := by
    rw [show (n : Int) + 1 - 1 = n by omega]
    exact IntWalk.i64_in _ (by omega)
  clear hka hrec hc hok
  go_enter Try.func62, Try.ntmps62
  go_wp2_with fail
  refine (HR.out _ (HK.out _)).mono ?_
  rintro e w1 ⟨rfl, hk1⟩
  have hk := (HK.out _).then_ hk1 (fun _ h => h.elim)
  go_wp2_with fail
  go_ret
  exact ⟨rfl, hk⟩

set_option maxRecDepth 100000 in
theorem deep_any (n : Nat) (hn : n ≤ 1000) : ∀ (ok : Nat → Prop) (v : Value) (f : Fm) (w : World), FmR w ok v f →
    Calls Try.prog 43 #[v, .int .i64 (n : Int)] w fun e w' => e = .returned (.bool (deepB n f)) ∧ Kp (fun _ => False) w w' := by
  induction n with
  | zero =>
    intro ok v f w hv
    obtain ⟨sv, rfl, hok, hs⟩ := hv
    have hka : ∀ o o2, Kp (fun _ => False) w ((w.alloc o).alloc o2) := fun o o2 => ((Kp.refl _ _).alloc o).alloc o2
    have HK := Lib.hid hka
    obtain ⟨A, c, rfl, h1, h2, _⟩ := hs
    have e : deepB 0 f = true := rfl
    rw [e]
    clear e hka hok
    go_enter Try.func43, Try.ntmps43
    go_wp2_with fail
    go_ret
    exact ⟨rfl, HK.out _ _⟩
  | succ n ih =>
    intro ok v f w hv
    have e : deepB (n + 1) f = (partsF f).any (deepB n) := rfl
    rw [e]
    have HKA := Lib.hid (show ∀ o o2, Kp (fun _ => False) w ((w.alloc o).alloc o2) from fun o o2 => ((Kp.refl _ _).alloc o).alloc o2)
    have HP := Lib.hid (fun o o2 => parts_any ok v f ((w.alloc o).alloc o2) (hv.kp (((Kp.refl (fun _ => False) w).alloc o).alloc o2) (fun _ _ h => h)))
    have HMC := Lib.hid (show ∀ o, ((w.alloc o).alloc (.cells #[.int .i64 ((n : Int) + 1)] 3)).cell? ⟨w.heap.size + 1, 0, none⟩ = some (.int .i64 ((n : Int) + 1)) from fun o => by
      have h := (Blk.new (w.alloc o) 3 #[.int .i64 ((n : Int) + 1)]).cell 0
      rw [World.size_alloc] at h
      exact h)
    have IH := Lib.hid (ih (by omega))
    obtain ⟨sv, rfl, hok, A, c, rfl, _, _, _⟩ := id hv
    have t0 : ((n : Int) + 1 == 0) = false := by simp; omega
    clear hv hok ih e
    go_enter Try.func43, Try.ntmps43
    go_wp2_with fail
    refine (HP.out _ _).mono ?_
    rintro e w1 ⟨A1, n1, c1, rfl, hn1, hs1, hk1⟩
    have HK1 := Lib.hid ((HKA.out _ _).then_ hk1 (fun _ h => h.elim))
    have HMC1 := Lib.hid (hk1.cell (HMC.out _) (fun h => h))
    have HC := Lib.hid (contains_any ok _ _ (deepB n) (.pointer (some ⟨w.heap.size + 1, 0, none⟩)) w1 hs1 (fun f' _ v' W hv' hk' => deep1_any n (by omega) ok v' f' (w.heap.size + 1) W hv' (hk'.cell HMC1.out (fun h => h)) (fun W' hk'' => IH.out ok v' f' W' (hv'.kp hk'' (fun _ _ h => h)))))
    clear hn1 hs1 hk1
    go_wp2_with fail
    refine HC.out.mono ?_
    rintro e w2 ⟨rfl, hk2⟩
    have HK2 := Lib.hid (HK1.out.then_ hk2 (fun _ h => h.elim))
    clear hk2
    go_wp2_with fail
    go_ret
    exact ⟨rfl, HK2.out⟩
end Go.Proofs.Ytfcghajnnllmhaa
