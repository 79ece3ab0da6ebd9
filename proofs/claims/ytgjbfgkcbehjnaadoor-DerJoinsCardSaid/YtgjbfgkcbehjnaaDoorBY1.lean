/-
  Texts that several laws share.
-/
import Derived.Test.YtgjbfgkcbehjnaaDoorBX1
import Derived.Test.YtgjbfgkcbehjnaaDoorBX2
import Derived.Test.YtgjbfgkcbehjnaaDoorBX3

set_option linter.unusedVariables false
set_option linter.unusedSimpArgs false
namespace Go.Proofs.YtgjbfgkcbehjnaaDoor
open Go.RowKit

mutual
def depN : Nd → Nat
  | .mk _ l => depNs l 0 + 1
def depNs : List Nd → Nat → Nat
  | [], d => d
  | x :: l, d => depNs l (max d (depN x))
end
theorem depN_mk (a : NH) (l : List Nd) : depN (.mk a l) = depNs l 0 + 1 := by rw [depN]
theorem depNs_ge : ∀ (l : List Nd) (d : Nat), d ≤ depNs l d
  | [], d => by rw [depNs]; exact Nat.le_refl _
  | x :: l, d => by rw [depNs]; exact Nat.le_trans (Nat.le_max_left _ _) (depNs_ge l _)
theorem depNs_mem : ∀ (l : List Nd) (d : Nat) (x : Nd), x ∈ l → depN x ≤ depNs l d
  | y :: l, d, x, h => by
    rw [depNs]
    rcases List.mem_cons.1 h with rfl | h
    · exact Nat.le_trans (Nat.le_max_right _ _) (depNs_ge l _)
    · exact depNs_mem l _ x h
theorem depN_kid {a : NH} {l : List Nd} {x : Nd} (h : x ∈ l) : depN x < depN (.mk a l) := by
  rw [depN_mk]
  have := depNs_mem l 0 x h
  omega
theorem depNs_drop {l : List Nd} {j d : Nat} (h : j < l.length) : depNs (l.drop j) d = depNs (l.drop (j + 1)) (max d (depN l[j])) := by
  rw [List.drop_eq_getElem_cons h, depNs]
theorem depNs_end {l : List Nd} {j d : Nat} (h : l.length ≤ j) : depNs (l.drop j) d = d := by rw [List.drop_of_length_le h, depNs]

set_option maxRecDepth 100000 in
set_option maxHeartbeats 3200000 in
theorem depth_anyN (ok : Nat → Prop) : ∀ (x : Nd) (v : Value) (w : World), NdR w ok v x → depN x ≤ 1000000 →
    Calls Tryd.prog 24 #[v] w fun e w' => e = .returned (.int .i64 (depN x : Nat)) ∧ Kp (fun _ => False) w w' := by
  intro x
  induction x using RT.induct with
  | h a l ih =>
  intro v w hv hd
  have hkid : ∀ y ∈ l, depN y ≤ 1000000 := fun y hy => by have := depN_kid (a := a) hy; omega
  have hkd : ∀ y ∈ l, depN y ≤ depNs l 0 := fun y hy => depNs_mem l 0 y hy
  obtain ⟨c, t, m, B⟩ := a
  obtain ⟨A1, c1, A2, c2, rfl, _, _, hc1, hl1, hb, hc2, hl2, hs⟩ := hv.parts
  have hk0 : Kp (fun _ => False) w (w.alloc (.cells #[.int .i64 c, .int .i64 t, .bool m, .slice A1 B.length c1, .slice A2 l.length c2] 25)) := (Kp.refl _ _).alloc _
  have hq1 := Blk.new w 25 #[.int .i64 c, .int .i64 t, .bool m, .slice A1 B.length c1, .slice A2 l.length c2]
  rw [depN_mk] at hd ⊢
  obtain ⟨r, hr⟩ : ∃ r, depNs l 0 = r := ⟨_, rfl⟩
  rw [hr] at hd hkd ⊢
  have HK := Lib.hid hk0
  have HQ1 := Lib.hid hq1
  have HS := Lib.hid (hs.kp hk0 (fun _ _ h => h))
  have HIH := Lib.hid ih
  have HKD := Lib.hid (fun y hy => And.intro (hkid y hy) (hkd y hy))
  have HR0 := Lib.hid (show depNs (l.drop 0) 0 = r from hr)
  clear hv hb hs hk0 hq1 ih hr hkid hkd
  go_enter Tryd.func24, Tryd.ntmps24
  go_upto_region 1 with fail
  generalize w.alloc (.cells #[.int .i64 c, .int .i64 t, .bool m, .slice A1 B.length c1, .slice A2 l.length c2] 25) = W0 at HK HQ1 HS ⊢
  have x4 := HQ1.out.cell 4
  simp at x4
  go_upto_region 3 with fail
  clear x4
  go_loopw [3, 9] (fun kv i wr => ∃ j d : Nat, j ≤ l.length ∧ i = .int .i64 j ∧ kv = .int .i64 d ∧ d ≤ r ∧ depNs (l.drop j) d = r ∧ Kp (fun _ => False) W0 wr) (fun _ i _ => l.length - (intOf i).toNat)
  case atStart => exact ⟨0, 0, Nat.zero_le _, rfl, rfl, Nat.zero_le _, HR0.out, Kp.refl _ _⟩
  case round =>
    obtain ⟨j, d, hj, rfl, rfl, hdr, he, hkr⟩ := hrel
    have HJ := Lib.hid he
    have HKR := Lib.hid hkr
    clear he hkr
    by_cases hlt : j < l.length
    · obtain ⟨bo, of, A5, c5, A6, c6, rfl, _, hf5, p0, p1, p2, p3, p4⟩ := (HS.out.kp HKR.out (fun _ _ h => h)).at_ hlt
      have hst := depNs_drop (d := d) hlt
      have hmem : l[j] ∈ l := List.getElem_mem hlt
      generalize hp : l[j] = y at hf5 p0 p1 p2 p3 p4 hst hmem
      clear hp
      have hka : ∀ o, Kp (fun _ => False) wr (wr.alloc o) := fun o => (Kp.refl _ _).alloc o
      have HKA := Lib.hid hka
      obtain ⟨hy1, hy2⟩ := HKD.out y hmem
      have HC := Lib.hid (fun o => HIH.out y hmem _ (wr.alloc o) (hf5.kp (hka o) (fun _ _ h => h)) hy1)
      have HD := Lib.hid hst
      generalize depN y = q at HC HD hy1 hy2
      have hm0 : (0 : Int) ≤ (j : Int) := by omega
      have hm1 : (j : Int) < (l.length : Int) := by omega
      clear hst hmem hf5 hka
      by_cases hdq : d < q
      · have hmx : max d q = q := by omega
        rw [hmx] at HD
        go_wp2_with (go_at_call 24; refine (HC.out _).mono ?_; rintro e w5 ⟨rfl, hk5⟩; have HK5 := Lib.hid (HKR.out.then_ ((HKA.out _).then_ hk5 (fun _ h => h.elim)) (fun _ h => h.elim)); clear hk5)
        go_roundw
        case rel => exact ⟨j + 1, q, by omega, by go_num, by go_num, by omega, by rw [← HD.out]; exact HJ.out, HK5.out⟩
        case measure => simp [intOf]; omega
      · have hmx : max d q = d := by omega
        have hqd : q ≤ d := by omega
        rw [hmx] at HD
        clear hdq
        go_wp2_with (go_at_call 24; refine (HC.out _).mono ?_; rintro e w5 ⟨rfl, hk5⟩; have HK5 := Lib.hid (HKR.out.then_ ((HKA.out _).then_ hk5 (fun _ h => h.elim)) (fun _ h => h.elim)); clear hk5)
        go_roundw
        case rel => exact ⟨j + 1, d, by omega, by go_num, by go_num, by omega, by rw [← HD.out]; exact HJ.out, HK5.out⟩
        case measure => simp [intOf]; omega
    · have HX := Lib.hid (show d = r by rw [← HJ.out, depNs_end (by omega)])
      have hle : l.length ≤ j := by omega
      clear hlt
      go_wp2_with fail
      go_ret
      exact ⟨by rw [← HX.out]; rfl, HK.out.then_ HKR.out (fun _ h => h.elim)⟩
end Go.Proofs.YtgjbfgkcbehjnaaDoor

namespace Go.Proofs.YtgjbfgkcbehjnaaDoor
open Go.RowKit

/-- Is a thing deeper than so much? -/
def deepBN : Nat → Nd → Bool
  | 0, _ => true
  | n + 1, f => f.l.any (deepBN n)
theorem depNs_lt : ∀ (l : List Nd) (d n : Nat), d ≤ n → (n < depNs l d ↔ ∃ x ∈ l, n < depN x)
  | [], d, n, h => by rw [depNs]; simp; omega
  | x :: l, d, n, h => by
    rw [depNs]
    by_cases hx : depN x ≤ n
    · rw [depNs_lt l _ n (by omega)]
      simp
      omega
    · have := depNs_ge l (max d (depN x))
      simp
      constructor
      · intro _; exact .inl (by omega)
      · intro _; omega
theorem deepBN_eq : ∀ (n : Nat) (f : Nd), deepBN n f = decide (n < depN f) := by
  intro n
  induction n with
  | zero =>
    intro f
    obtain ⟨a, l⟩ := f
    rw [depN_mk]
    rfl
  | succ n ih =>
    intro f
    obtain ⟨a, l⟩ := f
    rw [depN_mk]
    have h := depNs_lt l 0 n (Nat.zero_le _)
    rw [deepBN, Bool.eq_iff_iff, List.any_eq_true]
    simp only [RT.l, ih, decide_eq_true_eq]
    rw [← h]
    omega
/-- How an element is reached. -/
def EachN (w : World) (ok : Nat → Prop) (F : Nat) (cv : Value) (p : Nd → Bool) (l : List Nd) : Prop :=
  ∀ f, f ∈ l → ∀ (v : Value) (W : World), NdR W ok v f → Kp (fun _ => False) w W → Calls Tryd.prog F #[v, cv] W fun e w' => e = .returned (.bool (p f)) ∧ Kp (fun _ => False) W w'

set_option maxRecDepth 100000 in
set_option maxHeartbeats 1600000 in
theorem indexN_any (ok : Nat → Prop) (v : Value) (l : List Nd) (p : Nd → Bool) (cv : Value) (w : World) (hv : NsR w ok v l) (hE : EachN w ok 70 cv p l) :
    Calls Tryd.prog 88 #[v, .func (.func 70) #[] #[cv]] w fun e w' => ∃ n : Int, e = .returned (.int .i64 n) ∧ -1 ≤ n ∧ n ≤ 140737488355328 ∧ (0 ≤ n ↔ l.any p = true) ∧ Kp (fun _ => False) w w' := by
  obtain ⟨A, c, rfl, h1, h2, _⟩ := id hv
  have HV := Lib.hid hv
  have HE := Lib.hid hE
  clear hv hE
  go_enter Tryd.func88, Tryd.ntmps88
  go_wp2_with fail
  go_loopw [8] (fun i wr => ∃ k : Nat, k ≤ l.length ∧ i = .int .i64 k ∧ (l.take k).any p = false ∧ Kp (fun _ => False) w wr) (fun i _ => l.length - (intOf i).toNat)
  case atStart => exact ⟨0, Nat.zero_le _, rfl, rfl, Kp.refl _ _⟩
  case round =>
    obtain ⟨k, hk, rfl, hno, hkr⟩ := hrel
    have HNO := Lib.hid hno
    have HKR := Lib.hid hkr
    clear hno
    by_cases hlt : k < l.length
    · obtain ⟨b, off, A3, c3, A2, c2, rfl, hb, hf, q0, q1, q2, q3, q4⟩ := (HV.out.kp hkr (fun _ _ h => h)).at_ hlt
      have hmem : l[k] ∈ l := List.getElem_mem hlt
      have hts := Lib.hid (List.take_succ_eq_append_getElem hlt)
      obtain ⟨f, hfe⟩ : ∃ f, l[k] = f := ⟨_, rfl⟩
      rw [hfe] at hf q0 q1 q2 q3 q4 hmem hts
      have HC := Lib.hid (HE.out f hmem _ wr hf hkr)
      have hi0 : (0 : Int) ≤ (k : Int) := by omega
      have hi1 : (k : Int) < (l.length : Int) := by omega
      cases hp : p f
      · rw [hp] at HC
        have HN2 := Lib.hid (show (l.take (k + 1)).any p = false by rw [hts.out, List.any_append, HNO.out]; simp [hp])
        clear hf hfe hmem hkr hp
        go_wp2_with fail
        refine HC.out.mono ?_
        rintro e w2 ⟨rfl, hk2⟩
        have HK2 := Lib.hid (HKR.out.then_ hk2 (fun _ h => h.elim))
        clear hk2
        go_wp2_with fail
        go_roundw
        case rel => exact ⟨k + 1, by omega, by go_num, HN2.out, HK2.out⟩
        case measure => simp [intOf]; omega
      · rw [hp] at HC
        have HY := Lib.hid (show l.any p = true from List.any_eq_true.2 ⟨f, hmem, hp⟩)
        clear hf hfe hmem hkr hp
        go_wp2_with fail
        refine HC.out.mono ?_
        rintro e w2 ⟨rfl, hk2⟩
        have HK2 := Lib.hid (HKR.out.then_ hk2 (fun _ h => h.elim))
        clear hk2
        go_wp2_with fail
        go_ret
        exact ⟨(k : Int), rfl, by omega, by omega, by rw [HY.out]; simp, HK2.out⟩
    · obtain rfl : k = l.length := by omega
      rw [List.take_of_length_le (Nat.le_refl _)] at HNO
      clear hkr
      go_wp2_with fail
      go_ret
      exact ⟨-1, rfl, by omega, by omega, by rw [HNO.out]; simp, HKR.out⟩

set_option maxRecDepth 100000 in
theorem containsN_any (ok : Nat → Prop) (v : Value) (l : List Nd) (p : Nd → Bool) (cv : Value) (w : World) (hv : NsR w ok v l) (hE : EachN w ok 70 cv p l) :
    Calls Tryd.prog 69 #[v, .func (.func 70) #[] #[cv]] w fun e w' => e = .returned (.bool (l.any p)) ∧ Kp (fun _ => False) w w' := by
  have HI := Lib.hid (indexN_any ok v l p cv w hv hE)
  generalize l.any p = r at HI ⊢
  clear hE hv
  go_enter Tryd.func69, Tryd.ntmps69
  go_wp2_with fail
  refine HI.out.mono ?_
  rintro e w1 ⟨n, rfl, h1, h2, h3, hk1⟩
  have t : decide (0 ≤ n) = r := by
    rw [Bool.eq_iff_iff, ← h3]
    simp
  clear h3
  go_wp2_with fail
  go_ret
  exact ⟨rfl, hk1⟩

set_option maxRecDepth 100000 in
/-- The closure: one level less. -/
theorem deep1N_any (n : Nat) (hn : n ≤ 1000) (ok : Nat → Prop) (v : Value) (f : Nd) (B : Nat) (w : World) (hv : NdR w ok v f) (hc : w.cell? ⟨B, 0, none⟩ = some (.int .i64 ((n : Int) + 1)))
    (hrec : ∀ W, Kp (fun _ => False) w W → Calls Tryd.prog 49 #[v, .int .i64 (n : Int)] W fun e w' => e = .returned (.bool (deepBN n f)) ∧ Kp (fun _ => False) W w') :
    Calls Tryd.prog 70 #[v, .pointer (some ⟨B, 0, none⟩)] w fun e w' => e = .returned (.bool (deepBN n f)) ∧ Kp (fun _ => False) w w' := by
  obtain ⟨bv, sv, rfl, _, _, ⟨Ab, cb, rfl, _, _⟩, _, A, c, rfl, _, _, _⟩ := hv
  have hka : ∀ o, Kp (fun _ => False) w (w.alloc o) := fun o => (Kp.refl _ _).alloc o
  have hc2 : ∀ o, (w.alloc o).cell? ⟨B, 0, none⟩ = some (.int .i64 ((n : Int) + 1)) := fun o => (hka o).cell hc (fun h => h)
  have HK := Lib.hid hka
  have HR := Lib.hid hrec
  have s1 : IntKind.i64.wrap ((n : Int) + 1 - 1) = (n : Int) := by
    rw [show (n : Int) + 1 - 1 = n by omega]
    exact IntWalk.i64_in _ (by omega)
  clear hka hrec hc
  go_enter Tryd.func70, Tryd.ntmps70
  go_wp2_with fail
  refine (HR.out _ (HK.out _)).mono ?_
  rintro e w1 ⟨rfl, hk1⟩
  have hk := (HK.out _).then_ hk1 (fun _ h => h.elim)
  go_wp2_with fail
  go_ret
  exact ⟨rfl, hk⟩

set_option maxRecDepth 100000 in
theorem deepN_any (n : Nat) (hn : n ≤ 1000) : ∀ (ok : Nat → Prop) (v : Value) (f : Nd) (w : World), NdR w ok v f →
    Calls Tryd.prog 49 #[v, .int .i64 (n : Int)] w fun e w' => e = .returned (.bool (deepBN n f)) ∧ Kp (fun _ => False) w w' := by
  induction n with
  | zero =>
    intro ok v f w hv
    obtain ⟨bv, sv, rfl, _, _, ⟨Ab, cb, rfl, _, _⟩, _, A, c, rfl, _, _, _⟩ := hv
    have hka : ∀ o o2, Kp (fun _ => False) w ((w.alloc o).alloc o2) := fun o o2 => ((Kp.refl _ _).alloc o).alloc o2
    have HK := Lib.hid hka
    have e : deepBN 0 f = true := rfl
    rw [e]
    clear e hka
    go_enter Tryd.func49, Tryd.ntmps49
    go_wp2_with fail
    go_ret
    exact ⟨rfl, HK.out _ _⟩
  | succ n ih =>
    intro ok v f w hv
    have e : deepBN (n + 1) f = f.l.any (deepBN n) := rfl
    rw [e]
    obtain ⟨⟨c, t, m, B⟩, l⟩ := f
    obtain ⟨A1, c1, A2, c2, rfl, _, _, hc1, hl1, hb, hc2, hl2, hs⟩ := hv.parts
    have hkk : Kp (fun _ => False) w ((w.alloc (.cells #[.int .i64 c, .int .i64 t, .bool m, .slice A1 B.length c1, .slice A2 l.length c2] 25)).alloc (.cells #[.int .i64 ((n : Int) + 1)] 3)) := ((Kp.refl _ _).alloc _).alloc _
    have hq1 := (Blk.new w 25 #[.int .i64 c, .int .i64 t, .bool m, .slice A1 B.length c1, .slice A2 l.length c2]).alloc (.cells #[.int .i64 ((n : Int) + 1)] 3)
    have hq2 := Blk.new (w.alloc (.cells #[.int .i64 c, .int .i64 t, .bool m, .slice A1 B.length c1, .slice A2 l.length c2] 25)) 3 #[.int .i64 ((n : Int) + 1)]
    rw [World.size_alloc] at hq2
    have HK := Lib.hid hkk
    have HQ1 := Lib.hid hq1
    have HQ2 := Lib.hid hq2
    have HS := Lib.hid (hs.kp hkk (fun _ _ h => h))
    have IH := Lib.hid (ih (by omega))
    have t0 : ((n : Int) + 1 == 0) = false := by simp; omega
    simp only [RT.l]
    clear hv hb hs hkk hq1 hq2 ih e
    go_enter Tryd.func49, Tryd.ntmps49
    go_upto_region 1 with fail
    generalize (w.alloc (.cells #[.int .i64 c, .int .i64 t, .bool m, .slice A1 B.length c1, .slice A2 l.length c2] 25)).alloc (.cells #[.int .i64 ((n : Int) + 1)] 3) = W0 at HK HQ1 HQ2 HS ⊢
    have hm := HQ2.out.cell 0
    have x4 := HQ1.out.cell 4
    simp at hm x4
    have HMC1 := Lib.hid hm
    have HC := Lib.hid (containsN_any ok _ _ (deepBN n) (.pointer (some ⟨w.heap.size + 1, 0, none⟩)) W0 HS.out (fun f' _ v' W hv' hk' => deep1N_any n (by omega) ok v' f' (w.heap.size + 1) W hv' (hk'.cell HMC1.out (fun h => h)) (fun W' hk'' => IH.out ok v' f' W' (hv'.kp hk'' (fun _ _ h => h)))))
    go_wp2_with (go_at_call 69; refine HC.out.mono ?_; rintro e w2 ⟨rfl, hk2⟩; have HK2 := Lib.hid (HK.out.then_ hk2 (fun _ h => h.elim)); clear hk2)
    go_ret
    exact ⟨rfl, HK2.out⟩

/-- Depth, no more than most is told. -/
theorem rdep_step (d y most : Nat) : max d (min y (most + 1)) = max d (min y (most + 1)) := rfl
def rdepNs (most : Nat) : List Nd → Nat → Nat
  | [], d => d
  | x :: l, d => rdepNs most l (max d (min (depN x) most))
theorem rdepNs_eq (most : Nat) : ∀ (l : List Nd) (d : Nat), d ≤ most → rdepNs most l d = min (depNs l d) most
  | [], d, h => by rw [rdepNs, depNs]; omega
  | x :: l, d, h => by
    rw [rdepNs, depNs, rdepNs_eq most l _ (by omega)]
    have key : ∀ (l : List Nd) (a b : Nat), min a most = min b most → min (depNs l a) most = min (depNs l b) most := by
      intro l
      induction l with
      | nil => intro a b h; rw [depNs, depNs]; exact h
      | cons y l ih => intro a b h; rw [depNs, depNs]; exact ih _ _ (by omega)
    exact key l _ _ (by omega)
theorem rdepNs_drop {most : Nat} {l : List Nd} {j d : Nat} (h : j < l.length) : rdepNs most (l.drop j) d = rdepNs most (l.drop (j + 1)) (max d (min (depN l[j]) most)) := by
  rw [List.drop_eq_getElem_cons h, rdepNs]
theorem rdepNs_end {most : Nat} {l : List Nd} {j d : Nat} (h : l.length ≤ j) : rdepNs most (l.drop j) d = d := by rw [List.drop_of_length_le h, rdepNs]

set_option maxRecDepth 100000 in
set_option maxHeartbeats 3200000 in
theorem rdepth_anyN (ok : Nat → Prop) : ∀ (x : Nd) (v : Value) (w : World) (most : Nat), NdR w ok v x → most ≤ 1099511627776 →
    Calls Tryd.prog 31 #[v, .int .i64 (most : Int)] w fun e w' => e = .returned (.int .i64 ((min (depN x) (most + 1) : Nat) : Int)) ∧ Kp (fun _ => False) w w' := by
  intro x
  induction x using RT.induct with
  | h a l ih =>
  intro v w most hv hmost
  obtain ⟨c, t, m, B⟩ := a
  obtain ⟨A1, c1, A2, c2, rfl, _, _, hc1, hl1, hb, hc2, hl2, hs⟩ := hv.parts
  have hk0 : Kp (fun _ => False) w (w.alloc (.cells #[.int .i64 c, .int .i64 t, .bool m, .slice A1 B.length c1, .slice A2 l.length c2] 25)) := (Kp.refl _ _).alloc _
  have hq1 := Blk.new w 25 #[.int .i64 c, .int .i64 t, .bool m, .slice A1 B.length c1, .slice A2 l.length c2]
  have HK := Lib.hid hk0
  have HQ1 := Lib.hid hq1
  have HS := Lib.hid (hs.kp hk0 (fun _ _ h => h))
  have HIH := Lib.hid ih
  clear hv hb hs hk0 hq1 ih
  by_cases hz : most = 0
  · subst hz
    have hx : min (depN (.mk ⟨c, t, m, B⟩ l)) (0 + 1) = 1 := by rw [depN_mk]; omega
    rw [hx]
    clear hx HIH
    have hlz : (0 : Int) < (l.length : Int) ∨ l.length = 0 := by omega
    go_enter Tryd.func31, Tryd.ntmps31
    go_upto_region 1 with fail
    generalize w.alloc (.cells #[.int .i64 c, .int .i64 t, .bool m, .slice A1 B.length c1, .slice A2 l.length c2] 25) = W0 at HK HQ1 HS ⊢
    have x4 := HQ1.out.cell 4
    simp at x4
    refine Classical.byCases (p := 0 < l.length) (fun hpos => ?_) (fun hneg => ?_)
    · have hpI : (0 : Int) < (l.length : Int) := by omega
      go_wp2_with fail
      refine wp_loop_rounds 1 ?_
      rw [rounds_succ]
      go_wp2_with fail
      go_ret
      exact ⟨rfl, HK.out⟩
    · have hpI : l.length = 0 := by omega
      have hpJ : ¬ ((0 : Int) < (l.length : Int)) := by omega
      go_wp2_with fail
      refine wp_loop_rounds 1 ?_
      rw [rounds_succ]
      go_wp2_with fail
      go_ret
      exact ⟨rfl, HK.out⟩
  · obtain ⟨M, hM⟩ : ∃ M, M + 1 = most := ⟨most - 1, by omega⟩
    have hmp : (0 : Int) < (most : Int) := by omega
    have hms : (most : Int) - 1 = (M : Int) := by omega
    have hx : min (depN (.mk ⟨c, t, m, B⟩ l)) (most + 1) = rdepNs most l 0 + 1 := by
      rw [depN_mk, rdepNs_eq _ _ _ (Nat.zero_le _)]
      omega
    rw [hx]
    clear hx
    obtain ⟨r, hr⟩ : ∃ r, rdepNs most l 0 = r := ⟨_, rfl⟩
    have hrm : r ≤ most := by rw [← hr, rdepNs_eq _ _ _ (Nat.zero_le _)]; omega
    rw [hr]
    have HR0 := Lib.hid (show rdepNs most (l.drop 0) 0 = r from hr)
    clear hr hz
    have HM := Lib.hid hM
    have hMle : M ≤ most := by omega
    clear hM
    go_enter Tryd.func31, Tryd.ntmps31
    go_upto_region 1 with fail
    generalize w.alloc (.cells #[.int .i64 c, .int .i64 t, .bool m, .slice A1 B.length c1, .slice A2 l.length c2] 25) = W0 at HK HQ1 HS ⊢
    go_upto_region 3 with fail
    go_loopw [5, 6] (fun kv i wr => ∃ j d : Nat, j ≤ l.length ∧ i = .int .i64 j ∧ kv = .int .i64 d ∧ d ≤ most ∧ rdepNs most (l.drop j) d = r ∧ Kp (fun _ => False) W0 wr) (fun _ i _ => l.length - (intOf i).toNat)
    case atStart => exact ⟨0, 0, Nat.zero_le _, rfl, rfl, Nat.zero_le _, HR0.out, Kp.refl _ _⟩
    case round =>
      obtain ⟨j, d, hj, rfl, rfl, hdm, he, hkr⟩ := hrel
      have HJ := Lib.hid he
      have HKR := Lib.hid hkr
      clear he hkr
      have x4 := (HQ1.out.kp HKR.out (fun h => h)).cell 4
      simp at x4
      by_cases hlt : j < l.length
      · obtain ⟨bo, of, A5, c5, A6, c6, rfl, _, hf5, p0, p1, p2, p3, p4⟩ := (HS.out.kp HKR.out (fun _ _ h => h)).at_ hlt
        have hst := rdepNs_drop (most := most) (d := d) hlt
        have hmem : l[j] ∈ l := List.getElem_mem hlt
        generalize hp : l[j] = y at hf5 p0 p1 p2 p3 p4 hst hmem
        clear hp
        have hci := HIH.out y hmem _ wr M hf5 (by omega)
        rw [HM.out] at hci
        have HC := Lib.hid hci
        have HD := Lib.hid hst
        have hqm : min (depN y) most ≤ most := by omega
        generalize min (depN y) most = q at HC HD hqm
        have hm0 : (0 : Int) ≤ (j : Int) := by omega
        have hm1 : (j : Int) < (l.length : Int) := by omega
        clear hst hmem hf5 hci
        by_cases hdq : d < q
        · have hmx : max d q = q := by omega
          rw [hmx] at HD
          go_wp2_with (go_at_call 31; refine HC.out.mono ?_; rintro e w5 ⟨rfl, hk5⟩; have HK5 := Lib.hid (HKR.out.then_ hk5 (fun _ h => h.elim)); clear hk5)
          go_roundw
          case rel => exact ⟨j + 1, q, by omega, by go_num, by go_num, by omega, by rw [← HD.out]; exact HJ.out, HK5.out⟩
          case measure => simp [intOf]; omega
        · have hmx : max d q = d := by omega
          have hqd : q ≤ d := by omega
          rw [hmx] at HD
          clear hdq
          go_wp2_with (go_at_call 31; refine HC.out.mono ?_; rintro e w5 ⟨rfl, hk5⟩; have HK5 := Lib.hid (HKR.out.then_ hk5 (fun _ h => h.elim)); clear hk5)
          go_roundw
          case rel => exact ⟨j + 1, d, by omega, by go_num, by go_num, by omega, by rw [← HD.out]; exact HJ.out, HK5.out⟩
          case measure => simp [intOf]; omega
      · have HX := Lib.hid (show d = r by rw [← HJ.out, rdepNs_end (by omega)])
        have hle : l.length ≤ j := by omega
        clear hlt
        go_wp2_with fail
        go_ret
        exact ⟨by rw [← HX.out]; rfl, HK.out.then_ HKR.out (fun _ h => h.elim)⟩
end Go.Proofs.YtgjbfgkcbehjnaaDoor

namespace Go.Proofs.YtgjbfgkcbehjnaaDoor
open Go.RowKit

mutual
/-- How many things, and bytes. -/
def totN : Nd → Nat
  | .mk a l => 1 + a.b.length + totNs l
def totNs : List Nd → Nat
  | [] => 0
  | x :: l => totN x + totNs l
end
mutual
/-- The bytes of a thing, or what is wrong. -/
def wrN : Nd → List UInt8 × Int
  | .mk a l =>
    if kindB a.c a.t a.m = false then ([], 13)
    else if (a.m && decide (0 < a.b.length)) || (!a.m && decide (0 < l.length)) then ([], 15)
    else if mayB a.c a.t a.m a.b = false then ([], 13)
    else if (wrNs l a.b).2 ≠ 0 then ([], (wrNs l a.b).2)
    else (hb a.c a.t a.m :: lenB (wrNs l a.b).1.length ++ (wrNs l a.b).1, 0)
def wrNs : List Nd → List UInt8 → List UInt8 × Int
  | [], acc => (acc, 0)
  | x :: l, acc => if (wrN x).2 ≠ 0 then ([], (wrN x).2) else wrNs l (acc ++ (wrN x).1)
end
/-- All of Write. -/
def writeN (x : Nd) : List UInt8 × Int := if 8 < depN x then ([], 14) else wrN x

theorem wrN_mk (a : NH) (l : List Nd) : wrN (.mk a l) =
    if kindB a.c a.t a.m = false then ([], 13)
    else if (a.m && decide (0 < a.b.length)) || (!a.m && decide (0 < l.length)) then ([], 15)
    else if mayB a.c a.t a.m a.b = false then ([], 13)
    else if (wrNs l a.b).2 ≠ 0 then ([], (wrNs l a.b).2)
    else (hb a.c a.t a.m :: lenB (wrNs l a.b).1.length ++ (wrNs l a.b).1, 0) := by rw [wrN]
theorem totN_mk (a : NH) (l : List Nd) : totN (.mk a l) = 1 + a.b.length + totNs l := by rw [totN]
theorem totNs_mem {l : List Nd} {x : Nd} (h : x ∈ l) : totN x ≤ totNs l := by
  induction l with
  | nil => simp at h
  | cons y l ih =>
    rw [totNs]
    rcases List.mem_cons.1 h with rfl | h
    · omega
    · have := ih h; omega
theorem totN_pos (x : Nd) : 1 ≤ totN x := by
  obtain ⟨a, l⟩ := x
  rw [totN_mk]
  omega
/-- What isn't great is counted whole. -/
theorem cnt_tot : ∀ (x : Nd) (most : Nat), cntN x most ≤ most → cntN x most = totN x := by
  intro x
  induction x using RT.induct with
  | h a l ih =>
  intro most h
  rw [cntN_mk] at h ⊢
  rw [totN_mk]
  have key : ∀ (l' : List Nd) (k : Nat), (∀ y ∈ l', ∀ m, cntN y m ≤ m → cntN y m = totN y) → cntNs l' most k ≤ most → cntNs l' most k = k + totNs l' := by
    intro l'
    induction l' with
    | nil => intro k _ _; rw [cntNs, totNs]; rfl
    | cons y l' ih2 =>
      intro k hy hk
      rw [cntNs] at hk ⊢
      rw [totNs]
      by_cases hkm : k ≤ most
      · rw [if_pos hkm] at hk ⊢
        have h2 := ih2 (k + cntN y (most - k)) (fun z hz => hy z (by simp [hz])) hk
        rw [h2]
        have h3 : cntN y (most - k) ≤ most - k := by
          rw [h2] at hk
          omega
        rw [hy y (by simp) _ h3]
        omega
      · rw [if_neg hkm] at hk
        omega
  exact key l _ (fun y hy m => ih y hy m) h
theorem great_tot {l : List Nd} (h : greatN l = false) : ∀ x ∈ l, totN x ≤ 3000 := by
  intro x hx
  have h1 : decide (3000 < cntN x 3000) = false := by
    rw [greatN, List.any_eq_false] at h
    simpa using h x hx
  have h2 : cntN x 3000 ≤ 3000 := by simpa using h1
  rw [← cnt_tot x 3000 h2]
  exact h2
theorem dep_tot : ∀ x : Nd, depN x ≤ totN x := by
  intro x
  induction x using RT.induct with
  | h a l ih =>
  rw [depN_mk, totN_mk]
  have key : ∀ (l' : List Nd) (d : Nat), (∀ y ∈ l', depN y ≤ totN y) → depNs l' d ≤ d + totNs l' := by
    intro l'
    induction l' with
    | nil => intro d _; rw [depNs, totNs]; exact Nat.le_refl _
    | cons y l' ih2 =>
      intro d hy
      rw [depNs, totNs]
      have h1 := ih2 (max d (depN y)) (fun z hz => hy z (by simp [hz]))
      have h2 := hy y (by simp)
      omega
  have := key l 0 ih
  omega
theorem lenB_len' (N : Nat) : 1 ≤ (lenB N).length ∧ (lenB N).length ≤ 4 := lenB_len N
/-- The bytes are at most five times as many. -/
theorem wrN_len : ∀ x : Nd, (wrN x).1.length ≤ 5 * totN x := by
  intro x
  induction x using RT.induct with
  | h a l ih =>
  have key : ∀ (l' : List Nd) (acc : List UInt8), (∀ y ∈ l', (wrN y).1.length ≤ 5 * totN y) → (wrNs l' acc).1.length ≤ acc.length + 5 * totNs l' := by
    intro l'
    induction l' with
    | nil => intro acc _; rw [wrNs, totNs]; exact Nat.le_refl _
    | cons y l' ih2 =>
      intro acc hy
      rw [wrNs, totNs]
      split
      · simp
      · have h1 := ih2 (acc ++ (wrN y).1) (fun z hz => hy z (by simp [hz]))
        have h2 := hy y (by simp)
        rw [List.length_append] at h1
        omega
  rw [wrN, totN_mk]
  have hk := key l a.b ih
  have hl := lenB_len (wrNs l a.b).1.length
  split
  · simp
  split
  · simp
  split
  · simp
  split
  · simp
  · simp only [List.cons_append, List.length_cons, List.length_append]
    omega
theorem wrNs_len (l : List Nd) (acc : List UInt8) : (wrNs l acc).1.length ≤ acc.length + 5 * totNs l := by
  induction l generalizing acc with
  | nil => rw [wrNs, totNs]; exact Nat.le_refl _
  | cons y l ih =>
    rw [wrNs, totNs]
    split
    · simp
    · have h1 := ih (acc ++ (wrN y).1)
      have h2 := wrN_len y
      rw [List.length_append] at h1
      omega
theorem wrNs_drop {l : List Nd} {j : Nat} {acc : List UInt8} (h : j < l.length) : wrNs (l.drop j) acc = if (wrN l[j]).2 ≠ 0 then ([], (wrN l[j]).2) else wrNs (l.drop (j + 1)) (acc ++ (wrN l[j]).1) := by
  rw [List.drop_eq_getElem_cons h, wrNs]
theorem wrNs_end {l : List Nd} {j : Nat} {acc : List UInt8} (h : l.length ≤ j) : wrNs (l.drop j) acc = (acc, 0) := by rw [List.drop_of_length_le h, wrNs]
theorem wrN_nil {x : Nd} (h : (wrN x).2 ≠ 0) : (wrN x).1 = [] := by
  obtain ⟨a, l⟩ := x
  rw [wrN] at h ⊢
  split
  · rfl
  split
  · rfl
  split
  · rfl
  split
  · rfl
  · rename_i h1 h2 h3 h4
    rw [if_neg h1, if_neg h2, if_neg h3, if_neg h4] at h
    exact absurd rfl h
end Go.Proofs.YtgjbfgkcbehjnaaDoor

namespace Go.Proofs.YtgjbfgkcbehjnaaDoor
open Go.RowKit

theorem Own.mono_ {w : World} {ok ok' : Nat → Prop} {e size : Nat} {v : Value} {n : Nat} {xs : List Value} (h : Own w ok e size v n xs) (hm : ∀ i, ok i → ok' i) : Own w ok' e size v n xs := ⟨h.1, fun k hk => hm k (h.2 k hk)⟩
def PutO (c t : Int) (m : Bool) (n : Int) (w : World) (e : Ending) (w' : World) : Prop :=
  ∃ A cp, e = .returned (.tuple #[.slice A (pt c t m n).1.length cp, .int .i64 (pt c t m n).2]) ∧ Own w' (w.heap.size ≤ ·) 5 1 (.slice A (pt c t m n).1.length cp) (pt c t m n).1.length (bc (pt c t m n).1) ∧ Kp (fun _ => False) w w'

set_option maxRecDepth 100000 in
theorem putO_bad (w : World) (ht : Tab w) (c t : Int) (m : Bool) (n : Int) (hk : kindB c t m = false) : Calls Tryd.prog 54 #[.agg #[.int .i64 c, .int .i64 t, .bool m, .int .i64 n]] w (PutO c t m n w) := by
  have kk : Kp (fun _ => False) w (w.alloc (.cells #[.int .i64 c, .int .i64 t, .bool m, .int .i64 n] 85)) := (Kp.refl _ _).alloc _
  have hP : PutO c t m n w (.returned (.tuple #[.slice none 0 0, .int .i64 13])) (w.alloc (.cells #[.int .i64 c, .int .i64 t, .bool m, .int .i64 n] 85)) := by
    rw [PutO, show pt c t m n = ([], 13) from by rw [pt, if_neg (by rw [hk]; decide)]]
    exact ⟨none, 0, rfl, Own.nil, kk⟩
  have HP := Lib.hid hP
  have HK := Lib.hid hk
  clear hP hk
  go_enter Tryd.func54, Tryd.ntmps54
  go_wp2_with fail
  refine (kind_any _ _ _ _ (ht.kp kk)).mono ?_
  rintro e w2 ⟨rfl, rfl⟩
  rw [if_neg (by rw [HK.out]; decide)]
  go_wp2_with fail
  go_ret2
  exact HP.out

set_option maxRecDepth 100000 in
theorem putO_len (w : World) (ht : Tab w) (c t : Int) (m : Bool) (n : Int) (hk : kindB c t m = true) (hn : n < 0 ∨ 16777215 < n) : Calls Tryd.prog 54 #[.agg #[.int .i64 c, .int .i64 t, .bool m, .int .i64 n]] w (PutO c t m n w) := by
  have kk : Kp (fun _ => False) w (w.alloc (.cells #[.int .i64 c, .int .i64 t, .bool m, .int .i64 n] 85)) := (Kp.refl _ _).alloc _
  have hP : PutO c t m n w (.returned (.tuple #[.slice none 0 0, .int .i64 5])) (w.alloc (.cells #[.int .i64 c, .int .i64 t, .bool m, .int .i64 n] 85)) := by
    rw [PutO, show pt c t m n = ([], 5) from by rw [pt, if_pos hk, if_pos hn]]
    exact ⟨none, 0, rfl, Own.nil, kk⟩
  have HP := Lib.hid hP
  have HK := Lib.hid hk
  have hn2 : n < 0 ∨ 0 ≤ n ∧ 16777215 < n := by omega
  clear hP hk hn
  rcases hn2 with hn2 | ⟨hn2, hn3⟩
  all_goals
    go_enter Tryd.func54, Tryd.ntmps54
    go_wp2_with fail
    refine (kind_any _ _ _ _ (ht.kp kk)).mono ?_
    rintro e w2 ⟨rfl, rfl⟩
    rw [if_pos HK.out]
    go_wp2_with fail
    go_ret2
    exact HP.out

set_option maxRecDepth 100000 in
set_option maxHeartbeats 1600000 in
theorem putO_ok_f0 (w : World) (ht : Tab w) (c t : Int) (n : Nat) (hk : kindB c t false = true) (h1 : 0 ≤ n) (h2 : n < 128) : Calls Tryd.prog 54 #[.agg #[.int .i64 c, .int .i64 t, .bool false, .int .i64 n]] w (PutO c t false n w) := by
  obtain ⟨hcc, ht0, ht1⟩ := kindB_cases hk
  obtain ⟨f, g, hf, hf2, hg, hhb, hg2, -, -⟩ := hb_first hk
  have kk : Kp (fun _ => False) w (w.alloc (.cells #[.int .i64 c, .int .i64 t, .bool false, .int .i64 n] 85)) := (Kp.refl _ _).alloc _
  have hpt : pt c t false n = (UInt8.ofNat f :: [UInt8.ofNat n], 0) := by
    rw [pt, if_pos hk, if_neg (by omega), hhb, Int.toNat_natCast, lenB]
    simp only [if_pos h2]
    rfl
  have hP : ∀ A cp w', Own w' (w.heap.size ≤ ·) 5 1 (.slice A 2 cp) 2 (bc (UInt8.ofNat f :: [UInt8.ofNat n])) → Kp (fun _ => False) w w' → PutO c t false n w (.returned (.tuple #[.slice A 2 cp, .int .i64 0])) w' := by
    intro A cp w' q1 q2
    rw [PutO, hpt]
    exact ⟨A, cp, rfl, q1, q2⟩
  have HP := Lib.hid hP
  have HK := Lib.hid hk
  clear hP hk hpt hhb
  have hF : (UInt8.ofNat f).toNat = f := by rw [UInt8.toNat_ofNat']; omega
  have hlit : #[Value.int .u8 (f : Int), .int .u8 (n : Int)] = (bc [UInt8.ofNat f, UInt8.ofNat n]).toArray := by
    simp only [bc, List.map_cons, List.map_nil, hF, UInt8.toNat_ofNat', show n % 2 ^ 8 = n from by omega]
  have HB := Lib.hid (fun W : World => Own.lit W [UInt8.ofNat f, UInt8.ofNat n] _ 2 W.heap.size rfl hlit (Nat.le_refl _) (by decide))
  clear hlit hF
  go_enter Tryd.func54, Tryd.ntmps54
  go_wp2_with fail
  refine (kind_any _ _ _ _ (ht.kp kk)).mono ?_
  rintro e w2 ⟨rfl, rfl⟩
  rw [if_pos HK.out]
  go_wp2_with fail
  go_ret2
  refine HP.out _ _ _ ?_ (kk.alloc _)
  have := HB.out (w.alloc (.cells #[.int .i64 c, .int .i64 t, .bool false, .int .i64 n] 85))
  simp only [World.size_alloc] at this
  exact this.mono_ (fun i (hi : w.heap.size + 1 ≤ i) => by omega)

set_option maxRecDepth 100000 in
set_option maxHeartbeats 1600000 in
theorem putO_ok_f1 (w : World) (ht : Tab w) (c t : Int) (n : Nat) (hk : kindB c t false = true) (h1 : 128 ≤ n) (h2 : n < 256) : Calls Tryd.prog 54 #[.agg #[.int .i64 c, .int .i64 t, .bool false, .int .i64 n]] w (PutO c t false n w) := by
  obtain ⟨hcc, ht0, ht1⟩ := kindB_cases hk
  obtain ⟨f, g, hf, hf2, hg, hhb, hg2, -, -⟩ := hb_first hk
  have kk : Kp (fun _ => False) w (w.alloc (.cells #[.int .i64 c, .int .i64 t, .bool false, .int .i64 n] 85)) := (Kp.refl _ _).alloc _
  have hpt : pt c t false n = (UInt8.ofNat f :: [129, UInt8.ofNat n], 0) := by
    rw [pt, if_pos hk, if_neg (by omega), hhb, Int.toNat_natCast, lenB]
    simp only [if_neg (show ¬ n < 128 by omega), if_pos h2]
    rfl
  have hP : ∀ A cp w', Own w' (w.heap.size ≤ ·) 5 1 (.slice A 3 cp) 3 (bc (UInt8.ofNat f :: [129, UInt8.ofNat n])) → Kp (fun _ => False) w w' → PutO c t false n w (.returned (.tuple #[.slice A 3 cp, .int .i64 0])) w' := by
    intro A cp w' q1 q2
    rw [PutO, hpt]
    exact ⟨A, cp, rfl, q1, q2⟩
  have HP := Lib.hid hP
  have HK := Lib.hid hk
  clear hP hk hpt hhb
  have hF : (UInt8.ofNat f).toNat = f := by rw [UInt8.toNat_ofNat']; omega
  obtain ⟨L, hL, hL8⟩ := len_bytes n (by omega) (by omega)
  rw [if_pos h2] at hL8
  have d1 : ((L : Int) + 7).tdiv 8 = 1 := by rw [Int.tdiv_eq_ediv_of_nonneg (by omega)]; omega
  have d2 : ((L : Int) + 7) / 8 = 1 := by omega
  have hL64 : L ≤ 64 := by omega
  have o1 : bits .or .i64 128 1 = 129 := by decide
  have hlit : #[Value.int .u8 (f : Int), .int .u8 129] = (bc [UInt8.ofNat f, 129]).toArray := by
    simp only [bc, List.map_cons, List.map_nil, hF]
    rfl
  have HO := Lib.hid (fun (W : World) (B : Nat) (hB : B ≤ W.heap.size) => Own.lit W [UInt8.ofNat f, 129] _ 2 B rfl hlit hB (by decide))
  have hl0 : #[Value.int .u8 ((n : Int))] = (bc [UInt8.ofNat (n)]).toArray := by
    simp only [bc, List.map_cons, List.map_nil, UInt8.toNat_ofNat']
    congr 3
    try omega
  have HL0 := Lib.hid (fun W : World => BR.lit W 5 [UInt8.ofNat (n)] _ 1 rfl hl0)
  clear hlit hF hL8 hl0
  have HLen := Lib.hid hL
  clear hL
  go_enter Tryd.func54, Tryd.ntmps54
  go_wp2_with fail
  refine (kind_any _ _ _ _ (ht.kp kk)).mono ?_
  rintro e w2 ⟨rfl, rfl⟩
  rw [if_pos HK.out]
  go_wp2_with fail
  refine (len_any _ _ (by omega) (by omega)).mono ?_
  rw [Int.toNat_natCast, HLen.out]
  rintro e w2 ⟨rfl, rfl⟩
  go_wp2_with fail
  refine wp_loop_rounds 2 ?_
  have o0 := HO.out (w.alloc (.cells #[.int .i64 c, .int .i64 t, .bool false, .int .i64 n] 85)) (w.heap.size + 1) (by simp)
  simp only [World.size_alloc] at o0
  have b0 := (Blk.new w 85 #[.int .i64 c, .int .i64 t, .bool false, .int .i64 n]).alloc (.cells #[.int .u8 (f : Int), .int .u8 129] 5)
  have k0 := kk.alloc (.cells #[.int .u8 (f : Int), .int .u8 129] 5)
  have z0 : w.heap.size + 1 ≤ ((w.alloc (.cells #[.int .i64 c, .int .i64 t, .bool false, .int .i64 n] 85)).alloc (.cells #[.int .u8 (f : Int), .int .u8 129] 5)).heap.size := by simp
  generalize (w.alloc (.cells #[.int .i64 c, .int .i64 t, .bool false, .int .i64 n] 85)).alloc (.cells #[.int .u8 (f : Int), .int .u8 129] 5) = W0 at o0 b0 k0 z0 ⊢
  have c0 := b0.cell 3
  have O0 := Lib.hid (o0.kp ((Kp.refl (fun _ => False) W0).alloc (.cells #[.int .u8 ((n : Int))] 5)) (fun _ _ h => h))
  rw [rounds_succ]
  go_wp2_with (at_builtin; refine app_bytes rfl (.tmp 63) (.tmp 70) rfl (w.heap.size + 1) _ 2 _ [UInt8.ofNat f, 129] rfl rfl O0.out (· = W0.heap.size) _ 1 1 [UInt8.ofNat (n)] rfl rfl (HL0.out W0) 3 rfl (by omega) (by simp; omega) ?_; intro A1 c1' W1 o1 q1)
  have k1 := k0.then_ (((Kp.refl _ _).alloc (.cells #[.int .u8 ((n : Int))] 5)).then_ (S := (w.heap.size + 1 ≤ ·)) q1 (fun _ h => .inl h)) (fun i hi => .inr (by omega))
  have b1 := (b0.alloc (.cells #[.int .u8 ((n : Int))] 5)).kp q1 (by omega)
  have z1 : w.heap.size + 1 ≤ W1.heap.size := by have := q1.size; simp at this; omega
  rw [rounds_succ]
  go_wp2_with fail
  go_ret2
  exact HP.out _ _ _ (o1.mono_ (fun i hi => by omega)) k1

set_option maxRecDepth 100000 in
set_option maxHeartbeats 1600000 in
theorem putO_ok_f2 (w : World) (ht : Tab w) (c t : Int) (n : Nat) (hk : kindB c t false = true) (h1 : 256 ≤ n) (h2 : n < 65536) : Calls Tryd.prog 54 #[.agg #[.int .i64 c, .int .i64 t, .bool false, .int .i64 n]] w (PutO c t false n w) := by
  obtain ⟨hcc, ht0, ht1⟩ := kindB_cases hk
  obtain ⟨f, g, hf, hf2, hg, hhb, hg2, -, -⟩ := hb_first hk
  have kk : Kp (fun _ => False) w (w.alloc (.cells #[.int .i64 c, .int .i64 t, .bool false, .int .i64 n] 85)) := (Kp.refl _ _).alloc _
  have hpt : pt c t false n = (UInt8.ofNat f :: [130, UInt8.ofNat (n / 256), UInt8.ofNat n], 0) := by
    rw [pt, if_pos hk, if_neg (by omega), hhb, Int.toNat_natCast, lenB]
    simp only [if_neg (show ¬ n < 128 by omega), if_neg (show ¬ n < 256 by omega), if_pos h2, beB, List.nil_append, List.cons_append]
    rfl
  have hP : ∀ A cp w', Own w' (w.heap.size ≤ ·) 5 1 (.slice A 4 cp) 4 (bc (UInt8.ofNat f :: [130, UInt8.ofNat (n / 256), UInt8.ofNat n])) → Kp (fun _ => False) w w' → PutO c t false n w (.returned (.tuple #[.slice A 4 cp, .int .i64 0])) w' := by
    intro A cp w' q1 q2
    rw [PutO, hpt]
    exact ⟨A, cp, rfl, q1, q2⟩
  have HP := Lib.hid hP
  have HK := Lib.hid hk
  clear hP hk hpt hhb
  have hF : (UInt8.ofNat f).toNat = f := by rw [UInt8.toNat_ofNat']; omega
  obtain ⟨L, hL, hL8⟩ := len_bytes n (by omega) (by omega)
  rw [if_neg (by omega), if_pos h2] at hL8
  have d1 : ((L : Int) + 7).tdiv 8 = 2 := by rw [Int.tdiv_eq_ediv_of_nonneg (by omega)]; omega
  have d2 : ((L : Int) + 7) / 8 = 2 := by omega
  have hL64 : L ≤ 64 := by omega
  have o1 : bits .or .i64 128 2 = 130 := by decide
  have hlit : #[Value.int .u8 (f : Int), .int .u8 130] = (bc [UInt8.ofNat f, 130]).toArray := by
    simp only [bc, List.map_cons, List.map_nil, hF]
    rfl
  have HO := Lib.hid (fun (W : World) (B : Nat) (hB : B ≤ W.heap.size) => Own.lit W [UInt8.ofNat f, 130] _ 2 B rfl hlit hB (by decide))
  have hl0 : #[Value.int .u8 ((n : Int) / 256)] = (bc [UInt8.ofNat (n / 256)]).toArray := by
    simp only [bc, List.map_cons, List.map_nil, UInt8.toNat_ofNat']
    congr 3
    try omega
  have HL0 := Lib.hid (fun W : World => BR.lit W 5 [UInt8.ofNat (n / 256)] _ 1 rfl hl0)
  have hl1 : #[Value.int .u8 ((n : Int) % 256)] = (bc [UInt8.ofNat (n)]).toArray := by
    simp only [bc, List.map_cons, List.map_nil, UInt8.toNat_ofNat']
    congr 3
    try omega
  have HL1 := Lib.hid (fun W : World => BR.lit W 5 [UInt8.ofNat (n)] _ 1 rfl hl1)
  clear hlit hF hL8 hl0 hl1
  have HLen := Lib.hid hL
  clear hL
  go_enter Tryd.func54, Tryd.ntmps54
  go_wp2_with fail
  refine (kind_any _ _ _ _ (ht.kp kk)).mono ?_
  rintro e w2 ⟨rfl, rfl⟩
  rw [if_pos HK.out]
  go_wp2_with fail
  refine (len_any _ _ (by omega) (by omega)).mono ?_
  rw [Int.toNat_natCast, HLen.out]
  rintro e w2 ⟨rfl, rfl⟩
  go_wp2_with fail
  refine wp_loop_rounds 3 ?_
  have o0 := HO.out (w.alloc (.cells #[.int .i64 c, .int .i64 t, .bool false, .int .i64 n] 85)) (w.heap.size + 1) (by simp)
  simp only [World.size_alloc] at o0
  have b0 := (Blk.new w 85 #[.int .i64 c, .int .i64 t, .bool false, .int .i64 n]).alloc (.cells #[.int .u8 (f : Int), .int .u8 130] 5)
  have k0 := kk.alloc (.cells #[.int .u8 (f : Int), .int .u8 130] 5)
  have z0 : w.heap.size + 1 ≤ ((w.alloc (.cells #[.int .i64 c, .int .i64 t, .bool false, .int .i64 n] 85)).alloc (.cells #[.int .u8 (f : Int), .int .u8 130] 5)).heap.size := by simp
  generalize (w.alloc (.cells #[.int .i64 c, .int .i64 t, .bool false, .int .i64 n] 85)).alloc (.cells #[.int .u8 (f : Int), .int .u8 130] 5) = W0 at o0 b0 k0 z0 ⊢
  have c0 := b0.cell 3
  have O0 := Lib.hid (o0.kp ((Kp.refl (fun _ => False) W0).alloc (.cells #[.int .u8 ((n : Int) / 256)] 5)) (fun _ _ h => h))
  rw [rounds_succ]
  go_wp2_with (at_builtin; refine app_bytes rfl (.tmp 63) (.tmp 70) rfl (w.heap.size + 1) _ 2 _ [UInt8.ofNat f, 130] rfl rfl O0.out (· = W0.heap.size) _ 1 1 [UInt8.ofNat (n / 256)] rfl rfl (HL0.out W0) 3 rfl (by omega) (by simp; omega) ?_; intro A1 c1' W1 o1 q1)
  have k1 := k0.then_ (((Kp.refl _ _).alloc (.cells #[.int .u8 ((n : Int) / 256)] 5)).then_ (S := (w.heap.size + 1 ≤ ·)) q1 (fun _ h => .inl h)) (fun i hi => .inr (by omega))
  have b1 := (b0.alloc (.cells #[.int .u8 ((n : Int) / 256)] 5)).kp q1 (by omega)
  have z1 : w.heap.size + 1 ≤ W1.heap.size := by have := q1.size; simp at this; omega
  have c1 := b1.cell 3
  have O1 := Lib.hid (o1.kp ((Kp.refl (fun _ => False) W1).alloc (.cells #[.int .u8 ((n : Int) % 256)] 5)) (fun _ _ h => h))
  rw [rounds_succ]
  go_wp2_with (at_builtin; refine app_bytes rfl (.tmp 63) (.tmp 70) rfl (w.heap.size + 1) _ 3 _ ([UInt8.ofNat f, 130] ++ [UInt8.ofNat (n / 256)]) rfl rfl O1.out (· = W1.heap.size) _ 1 1 [UInt8.ofNat (n)] rfl rfl (HL1.out W1) 4 rfl (by omega) (by simp; omega) ?_; intro A2 c2' W2 o2 q2)
  have k2 := k1.then_ (((Kp.refl _ _).alloc (.cells #[.int .u8 ((n : Int) % 256)] 5)).then_ (S := (w.heap.size + 1 ≤ ·)) q2 (fun _ h => .inl h)) (fun i hi => .inr (by omega))
  have b2 := (b1.alloc (.cells #[.int .u8 ((n : Int) % 256)] 5)).kp q2 (by omega)
  have z2 : w.heap.size + 1 ≤ W2.heap.size := by have := q2.size; simp at this; omega
  rw [rounds_succ]
  go_wp2_with fail
  go_ret2
  exact HP.out _ _ _ (o2.mono_ (fun i hi => by omega)) k2

set_option maxRecDepth 100000 in
set_option maxHeartbeats 1600000 in
theorem putO_ok_f3 (w : World) (ht : Tab w) (c t : Int) (n : Nat) (hk : kindB c t false = true) (h1 : 65536 ≤ n) (h2 : n < 16777216) : Calls Tryd.prog 54 #[.agg #[.int .i64 c, .int .i64 t, .bool false, .int .i64 n]] w (PutO c t false n w) := by
  obtain ⟨hcc, ht0, ht1⟩ := kindB_cases hk
  obtain ⟨f, g, hf, hf2, hg, hhb, hg2, -, -⟩ := hb_first hk
  have kk : Kp (fun _ => False) w (w.alloc (.cells #[.int .i64 c, .int .i64 t, .bool false, .int .i64 n] 85)) := (Kp.refl _ _).alloc _
  have hpt : pt c t false n = (UInt8.ofNat f :: [131, UInt8.ofNat (n / 65536), UInt8.ofNat (n / 256), UInt8.ofNat n], 0) := by
    rw [pt, if_pos hk, if_neg (by omega), hhb, Int.toNat_natCast, lenB]
    simp only [if_neg (show ¬ n < 128 by omega), if_neg (show ¬ n < 256 by omega), if_neg (show ¬ n < 65536 by omega), beB, List.nil_append, List.cons_append, Nat.div_div_eq_div_mul]
    rfl
  have hP : ∀ A cp w', Own w' (w.heap.size ≤ ·) 5 1 (.slice A 5 cp) 5 (bc (UInt8.ofNat f :: [131, UInt8.ofNat (n / 65536), UInt8.ofNat (n / 256), UInt8.ofNat n])) → Kp (fun _ => False) w w' → PutO c t false n w (.returned (.tuple #[.slice A 5 cp, .int .i64 0])) w' := by
    intro A cp w' q1 q2
    rw [PutO, hpt]
    exact ⟨A, cp, rfl, q1, q2⟩
  have HP := Lib.hid hP
  have HK := Lib.hid hk
  clear hP hk hpt hhb
  have hF : (UInt8.ofNat f).toNat = f := by rw [UInt8.toNat_ofNat']; omega
  obtain ⟨L, hL, hL8⟩ := len_bytes n (by omega) (by omega)
  rw [if_neg (by omega), if_neg (by omega)] at hL8
  have d1 : ((L : Int) + 7).tdiv 8 = 3 := by rw [Int.tdiv_eq_ediv_of_nonneg (by omega)]; omega
  have d2 : ((L : Int) + 7) / 8 = 3 := by omega
  have hL64 : L ≤ 64 := by omega
  have o1 : bits .or .i64 128 3 = 131 := by decide
  have hlit : #[Value.int .u8 (f : Int), .int .u8 131] = (bc [UInt8.ofNat f, 131]).toArray := by
    simp only [bc, List.map_cons, List.map_nil, hF]
    rfl
  have HO := Lib.hid (fun (W : World) (B : Nat) (hB : B ≤ W.heap.size) => Own.lit W [UInt8.ofNat f, 131] _ 2 B rfl hlit hB (by decide))
  have hl0 : #[Value.int .u8 ((n : Int) / 65536)] = (bc [UInt8.ofNat (n / 65536)]).toArray := by
    simp only [bc, List.map_cons, List.map_nil, UInt8.toNat_ofNat']
    congr 3
    try omega
  have HL0 := Lib.hid (fun W : World => BR.lit W 5 [UInt8.ofNat (n / 65536)] _ 1 rfl hl0)
  have hl1 : #[Value.int .u8 ((n : Int) / 256 % 256)] = (bc [UInt8.ofNat (n / 256)]).toArray := by
    simp only [bc, List.map_cons, List.map_nil, UInt8.toNat_ofNat']
    congr 3
    try omega
  have HL1 := Lib.hid (fun W : World => BR.lit W 5 [UInt8.ofNat (n / 256)] _ 1 rfl hl1)
  have hl2 : #[Value.int .u8 ((n : Int) % 256)] = (bc [UInt8.ofNat (n)]).toArray := by
    simp only [bc, List.map_cons, List.map_nil, UInt8.toNat_ofNat']
    congr 3
    try omega
  have HL2 := Lib.hid (fun W : World => BR.lit W 5 [UInt8.ofNat (n)] _ 1 rfl hl2)
  clear hlit hF hL8 hl0 hl1 hl2
  have HLen := Lib.hid hL
  clear hL
  go_enter Tryd.func54, Tryd.ntmps54
  go_wp2_with fail
  refine (kind_any _ _ _ _ (ht.kp kk)).mono ?_
  rintro e w2 ⟨rfl, rfl⟩
  rw [if_pos HK.out]
  go_wp2_with fail
  refine (len_any _ _ (by omega) (by omega)).mono ?_
  rw [Int.toNat_natCast, HLen.out]
  rintro e w2 ⟨rfl, rfl⟩
  go_wp2_with fail
  refine wp_loop_rounds 4 ?_
  have o0 := HO.out (w.alloc (.cells #[.int .i64 c, .int .i64 t, .bool false, .int .i64 n] 85)) (w.heap.size + 1) (by simp)
  simp only [World.size_alloc] at o0
  have b0 := (Blk.new w 85 #[.int .i64 c, .int .i64 t, .bool false, .int .i64 n]).alloc (.cells #[.int .u8 (f : Int), .int .u8 131] 5)
  have k0 := kk.alloc (.cells #[.int .u8 (f : Int), .int .u8 131] 5)
  have z0 : w.heap.size + 1 ≤ ((w.alloc (.cells #[.int .i64 c, .int .i64 t, .bool false, .int .i64 n] 85)).alloc (.cells #[.int .u8 (f : Int), .int .u8 131] 5)).heap.size := by simp
  generalize (w.alloc (.cells #[.int .i64 c, .int .i64 t, .bool false, .int .i64 n] 85)).alloc (.cells #[.int .u8 (f : Int), .int .u8 131] 5) = W0 at o0 b0 k0 z0 ⊢
  have c0 := b0.cell 3
  have O0 := Lib.hid (o0.kp ((Kp.refl (fun _ => False) W0).alloc (.cells #[.int .u8 ((n : Int) / 65536)] 5)) (fun _ _ h => h))
  rw [rounds_succ]
  go_wp2_with (at_builtin; refine app_bytes rfl (.tmp 63) (.tmp 70) rfl (w.heap.size + 1) _ 2 _ [UInt8.ofNat f, 131] rfl rfl O0.out (· = W0.heap.size) _ 1 1 [UInt8.ofNat (n / 65536)] rfl rfl (HL0.out W0) 3 rfl (by omega) (by simp; omega) ?_; intro A1 c1' W1 o1 q1)
  have k1 := k0.then_ (((Kp.refl _ _).alloc (.cells #[.int .u8 ((n : Int) / 65536)] 5)).then_ (S := (w.heap.size + 1 ≤ ·)) q1 (fun _ h => .inl h)) (fun i hi => .inr (by omega))
  have b1 := (b0.alloc (.cells #[.int .u8 ((n : Int) / 65536)] 5)).kp q1 (by omega)
  have z1 : w.heap.size + 1 ≤ W1.heap.size := by have := q1.size; simp at this; omega
  have c1 := b1.cell 3
  have O1 := Lib.hid (o1.kp ((Kp.refl (fun _ => False) W1).alloc (.cells #[.int .u8 ((n : Int) / 256 % 256)] 5)) (fun _ _ h => h))
  rw [rounds_succ]
  go_wp2_with (at_builtin; refine app_bytes rfl (.tmp 63) (.tmp 70) rfl (w.heap.size + 1) _ 3 _ ([UInt8.ofNat f, 131] ++ [UInt8.ofNat (n / 65536)]) rfl rfl O1.out (· = W1.heap.size) _ 1 1 [UInt8.ofNat (n / 256)] rfl rfl (HL1.out W1) 4 rfl (by omega) (by simp; omega) ?_; intro A2 c2' W2 o2 q2)
  have k2 := k1.then_ (((Kp.refl _ _).alloc (.cells #[.int .u8 ((n : Int) / 256 % 256)] 5)).then_ (S := (w.heap.size + 1 ≤ ·)) q2 (fun _ h => .inl h)) (fun i hi => .inr (by omega))
  have b2 := (b1.alloc (.cells #[.int .u8 ((n : Int) / 256 % 256)] 5)).kp q2 (by omega)
  have z2 : w.heap.size + 1 ≤ W2.heap.size := by have := q2.size; simp at this; omega
  have c2 := b2.cell 3
  have O2 := Lib.hid (o2.kp ((Kp.refl (fun _ => False) W2).alloc (.cells #[.int .u8 ((n : Int) % 256)] 5)) (fun _ _ h => h))
  rw [rounds_succ]
  go_wp2_with (at_builtin; refine app_bytes rfl (.tmp 63) (.tmp 70) rfl (w.heap.size + 1) _ 4 _ (([UInt8.ofNat f, 131] ++ [UInt8.ofNat (n / 65536)]) ++ [UInt8.ofNat (n / 256)]) rfl rfl O2.out (· = W2.heap.size) _ 1 1 [UInt8.ofNat (n)] rfl rfl (HL2.out W2) 5 rfl (by omega) (by simp; omega) ?_; intro A3 c3' W3 o3 q3)
  have k3 := k2.then_ (((Kp.refl _ _).alloc (.cells #[.int .u8 ((n : Int) % 256)] 5)).then_ (S := (w.heap.size + 1 ≤ ·)) q3 (fun _ h => .inl h)) (fun i hi => .inr (by omega))
  have b3 := (b2.alloc (.cells #[.int .u8 ((n : Int) % 256)] 5)).kp q3 (by omega)
  have z3 : w.heap.size + 1 ≤ W3.heap.size := by have := q3.size; simp at this; omega
  rw [rounds_succ]
  go_wp2_with fail
  go_ret2
  exact HP.out _ _ _ (o3.mono_ (fun i hi => by omega)) k3

set_option maxRecDepth 100000 in
set_option maxHeartbeats 1600000 in
theorem putO_ok_t0 (w : World) (ht : Tab w) (c t : Int) (n : Nat) (hk : kindB c t true = true) (h1 : 0 ≤ n) (h2 : n < 128) : Calls Tryd.prog 54 #[.agg #[.int .i64 c, .int .i64 t, .bool true, .int .i64 n]] w (PutO c t true n w) := by
  obtain ⟨hcc, ht0, ht1⟩ := kindB_cases hk
  obtain ⟨f, g, hf, hf2, hg, hhb, hg2, -, -⟩ := hb_first hk
  have kk : Kp (fun _ => False) w (w.alloc (.cells #[.int .i64 c, .int .i64 t, .bool true, .int .i64 n] 85)) := (Kp.refl _ _).alloc _
  have hpt : pt c t true n = (UInt8.ofNat g :: [UInt8.ofNat n], 0) := by
    rw [pt, if_pos hk, if_neg (by omega), hhb, Int.toNat_natCast, lenB]
    simp only [if_pos h2]
    rfl
  have hP : ∀ A cp w', Own w' (w.heap.size ≤ ·) 5 1 (.slice A 2 cp) 2 (bc (UInt8.ofNat g :: [UInt8.ofNat n])) → Kp (fun _ => False) w w' → PutO c t true n w (.returned (.tuple #[.slice A 2 cp, .int .i64 0])) w' := by
    intro A cp w' q1 q2
    rw [PutO, hpt]
    exact ⟨A, cp, rfl, q1, q2⟩
  have HP := Lib.hid hP
  have HK := Lib.hid hk
  clear hP hk hpt hhb
  have hF : (UInt8.ofNat g).toNat = g := by rw [UInt8.toNat_ofNat']; omega
  have hlit : #[Value.int .u8 (g : Int), .int .u8 (n : Int)] = (bc [UInt8.ofNat g, UInt8.ofNat n]).toArray := by
    simp only [bc, List.map_cons, List.map_nil, hF, UInt8.toNat_ofNat', show n % 2 ^ 8 = n from by omega]
  have HB := Lib.hid (fun W : World => Own.lit W [UInt8.ofNat g, UInt8.ofNat n] _ 2 W.heap.size rfl hlit (Nat.le_refl _) (by decide))
  clear hlit hF
  go_enter Tryd.func54, Tryd.ntmps54
  go_wp2_with fail
  refine (kind_any _ _ _ _ (ht.kp kk)).mono ?_
  rintro e w2 ⟨rfl, rfl⟩
  rw [if_pos HK.out]
  go_wp2_with fail
  go_ret2
  refine HP.out _ _ _ ?_ (kk.alloc _)
  have := HB.out (w.alloc (.cells #[.int .i64 c, .int .i64 t, .bool true, .int .i64 n] 85))
  simp only [World.size_alloc] at this
  exact this.mono_ (fun i (hi : w.heap.size + 1 ≤ i) => by omega)

set_option maxRecDepth 100000 in
set_option maxHeartbeats 1600000 in
theorem putO_ok_t1 (w : World) (ht : Tab w) (c t : Int) (n : Nat) (hk : kindB c t true = true) (h1 : 128 ≤ n) (h2 : n < 256) : Calls Tryd.prog 54 #[.agg #[.int .i64 c, .int .i64 t, .bool true, .int .i64 n]] w (PutO c t true n w) := by
  obtain ⟨hcc, ht0, ht1⟩ := kindB_cases hk
  obtain ⟨f, g, hf, hf2, hg, hhb, hg2, -, -⟩ := hb_first hk
  have kk : Kp (fun _ => False) w (w.alloc (.cells #[.int .i64 c, .int .i64 t, .bool true, .int .i64 n] 85)) := (Kp.refl _ _).alloc _
  have hpt : pt c t true n = (UInt8.ofNat g :: [129, UInt8.ofNat n], 0) := by
    rw [pt, if_pos hk, if_neg (by omega), hhb, Int.toNat_natCast, lenB]
    simp only [if_neg (show ¬ n < 128 by omega), if_pos h2]
    rfl
  have hP : ∀ A cp w', Own w' (w.heap.size ≤ ·) 5 1 (.slice A 3 cp) 3 (bc (UInt8.ofNat g :: [129, UInt8.ofNat n])) → Kp (fun _ => False) w w' → PutO c t true n w (.returned (.tuple #[.slice A 3 cp, .int .i64 0])) w' := by
    intro A cp w' q1 q2
    rw [PutO, hpt]
    exact ⟨A, cp, rfl, q1, q2⟩
  have HP := Lib.hid hP
  have HK := Lib.hid hk
  clear hP hk hpt hhb
  have hF : (UInt8.ofNat g).toNat = g := by rw [UInt8.toNat_ofNat']; omega
  obtain ⟨L, hL, hL8⟩ := len_bytes n (by omega) (by omega)
  rw [if_pos h2] at hL8
  have d1 : ((L : Int) + 7).tdiv 8 = 1 := by rw [Int.tdiv_eq_ediv_of_nonneg (by omega)]; omega
  have d2 : ((L : Int) + 7) / 8 = 1 := by omega
  have hL64 : L ≤ 64 := by omega
  have o1 : bits .or .i64 128 1 = 129 := by decide
  have hlit : #[Value.int .u8 (g : Int), .int .u8 129] = (bc [UInt8.ofNat g, 129]).toArray := by
    simp only [bc, List.map_cons, List.map_nil, hF]
    rfl
  have HO := Lib.hid (fun (W : World) (B : Nat) (hB : B ≤ W.heap.size) => Own.lit W [UInt8.ofNat g, 129] _ 2 B rfl hlit hB (by decide))
  have hl0 : #[Value.int .u8 ((n : Int))] = (bc [UInt8.ofNat (n)]).toArray := by
    simp only [bc, List.map_cons, List.map_nil, UInt8.toNat_ofNat']
    congr 3
    try omega
  have HL0 := Lib.hid (fun W : World => BR.lit W 5 [UInt8.ofNat (n)] _ 1 rfl hl0)
  clear hlit hF hL8 hl0
  have HLen := Lib.hid hL
  clear hL
  go_enter Tryd.func54, Tryd.ntmps54
  go_wp2_with fail
  refine (kind_any _ _ _ _ (ht.kp kk)).mono ?_
  rintro e w2 ⟨rfl, rfl⟩
  rw [if_pos HK.out]
  go_wp2_with fail
  refine (len_any _ _ (by omega) (by omega)).mono ?_
  rw [Int.toNat_natCast, HLen.out]
  rintro e w2 ⟨rfl, rfl⟩
  go_wp2_with fail
  refine wp_loop_rounds 2 ?_
  have o0 := HO.out (w.alloc (.cells #[.int .i64 c, .int .i64 t, .bool true, .int .i64 n] 85)) (w.heap.size + 1) (by simp)
  simp only [World.size_alloc] at o0
  have b0 := (Blk.new w 85 #[.int .i64 c, .int .i64 t, .bool true, .int .i64 n]).alloc (.cells #[.int .u8 (g : Int), .int .u8 129] 5)
  have k0 := kk.alloc (.cells #[.int .u8 (g : Int), .int .u8 129] 5)
  have z0 : w.heap.size + 1 ≤ ((w.alloc (.cells #[.int .i64 c, .int .i64 t, .bool true, .int .i64 n] 85)).alloc (.cells #[.int .u8 (g : Int), .int .u8 129] 5)).heap.size := by simp
  generalize (w.alloc (.cells #[.int .i64 c, .int .i64 t, .bool true, .int .i64 n] 85)).alloc (.cells #[.int .u8 (g : Int), .int .u8 129] 5) = W0 at o0 b0 k0 z0 ⊢
  have c0 := b0.cell 3
  have O0 := Lib.hid (o0.kp ((Kp.refl (fun _ => False) W0).alloc (.cells #[.int .u8 ((n : Int))] 5)) (fun _ _ h => h))
  rw [rounds_succ]
  go_wp2_with (at_builtin; refine app_bytes rfl (.tmp 63) (.tmp 70) rfl (w.heap.size + 1) _ 2 _ [UInt8.ofNat g, 129] rfl rfl O0.out (· = W0.heap.size) _ 1 1 [UInt8.ofNat (n)] rfl rfl (HL0.out W0) 3 rfl (by omega) (by simp; omega) ?_; intro A1 c1' W1 o1 q1)
  have k1 := k0.then_ (((Kp.refl _ _).alloc (.cells #[.int .u8 ((n : Int))] 5)).then_ (S := (w.heap.size + 1 ≤ ·)) q1 (fun _ h => .inl h)) (fun i hi => .inr (by omega))
  have b1 := (b0.alloc (.cells #[.int .u8 ((n : Int))] 5)).kp q1 (by omega)
  have z1 : w.heap.size + 1 ≤ W1.heap.size := by have := q1.size; simp at this; omega
  rw [rounds_succ]
  go_wp2_with fail
  go_ret2
  exact HP.out _ _ _ (o1.mono_ (fun i hi => by omega)) k1

set_option maxRecDepth 100000 in
set_option maxHeartbeats 1600000 in
theorem putO_ok_t2 (w : World) (ht : Tab w) (c t : Int) (n : Nat) (hk : kindB c t true = true) (h1 : 256 ≤ n) (h2 : n < 65536) : Calls Tryd.prog 54 #[.agg #[.int .i64 c, .int .i64 t, .bool true, .int .i64 n]] w (PutO c t true n w) := by
  obtain ⟨hcc, ht0, ht1⟩ := kindB_cases hk
  obtain ⟨f, g, hf, hf2, hg, hhb, hg2, -, -⟩ := hb_first hk
  have kk : Kp (fun _ => False) w (w.alloc (.cells #[.int .i64 c, .int .i64 t, .bool true, .int .i64 n] 85)) := (Kp.refl _ _).alloc _
  have hpt : pt c t true n = (UInt8.ofNat g :: [130, UInt8.ofNat (n / 256), UInt8.ofNat n], 0) := by
    rw [pt, if_pos hk, if_neg (by omega), hhb, Int.toNat_natCast, lenB]
    simp only [if_neg (show ¬ n < 128 by omega), if_neg (show ¬ n < 256 by omega), if_pos h2, beB, List.nil_append, List.cons_append]
    rfl
  have hP : ∀ A cp w', Own w' (w.heap.size ≤ ·) 5 1 (.slice A 4 cp) 4 (bc (UInt8.ofNat g :: [130, UInt8.ofNat (n / 256), UInt8.ofNat n])) → Kp (fun _ => False) w w' → PutO c t true n w (.returned (.tuple #[.slice A 4 cp, .int .i64 0])) w' := by
    intro A cp w' q1 q2
    rw [PutO, hpt]
    exact ⟨A, cp, rfl, q1, q2⟩
  have HP := Lib.hid hP
  have HK := Lib.hid hk
  clear hP hk hpt hhb
  have hF : (UInt8.ofNat g).toNat = g := by rw [UInt8.toNat_ofNat']; omega
  obtain ⟨L, hL, hL8⟩ := len_bytes n (by omega) (by omega)
  rw [if_neg (by omega), if_pos h2] at hL8
  have d1 : ((L : Int) + 7).tdiv 8 = 2 := by rw [Int.tdiv_eq_ediv_of_nonneg (by omega)]; omega
  have d2 : ((L : Int) + 7) / 8 = 2 := by omega
  have hL64 : L ≤ 64 := by omega
  have o1 : bits .or .i64 128 2 = 130 := by decide
  have hlit : #[Value.int .u8 (g : Int), .int .u8 130] = (bc [UInt8.ofNat g, 130]).toArray := by
    simp only [bc, List.map_cons, List.map_nil, hF]
    rfl
  have HO := Lib.hid (fun (W : World) (B : Nat) (hB : B ≤ W.heap.size) => Own.lit W [UInt8.ofNat g, 130] _ 2 B rfl hlit hB (by decide))
  have hl0 : #[Value.int .u8 ((n : Int) / 256)] = (bc [UInt8.ofNat (n / 256)]).toArray := by
    simp only [bc, List.map_cons, List.map_nil, UInt8.toNat_ofNat']
    congr 3
    try omega
  have HL0 := Lib.hid (fun W : World => BR.lit W 5 [UInt8.ofNat (n / 256)] _ 1 rfl hl0)
  have hl1 : #[Value.int .u8 ((n : Int) % 256)] = (bc [UInt8.ofNat (n)]).toArray := by
    simp only [bc, List.map_cons, List.map_nil, UInt8.toNat_ofNat']
    congr 3
    try omega
  have HL1 := Lib.hid (fun W : World => BR.lit W 5 [UInt8.ofNat (n)] _ 1 rfl hl1)
  clear hlit hF hL8 hl0 hl1
  have HLen := Lib.hid hL
  clear hL
  go_enter Tryd.func54, Tryd.ntmps54
  go_wp2_with fail
  refine (kind_any _ _ _ _ (ht.kp kk)).mono ?_
  rintro e w2 ⟨rfl, rfl⟩
  rw [if_pos HK.out]
  go_wp2_with fail
  refine (len_any _ _ (by omega) (by omega)).mono ?_
  rw [Int.toNat_natCast, HLen.out]
  rintro e w2 ⟨rfl, rfl⟩
  go_wp2_with fail
  refine wp_loop_rounds 3 ?_
  have o0 := HO.out (w.alloc (.cells #[.int .i64 c, .int .i64 t, .bool true, .int .i64 n] 85)) (w.heap.size + 1) (by simp)
  simp only [World.size_alloc] at o0
  have b0 := (Blk.new w 85 #[.int .i64 c, .int .i64 t, .bool true, .int .i64 n]).alloc (.cells #[.int .u8 (g : Int), .int .u8 130] 5)
  have k0 := kk.alloc (.cells #[.int .u8 (g : Int), .int .u8 130] 5)
  have z0 : w.heap.size + 1 ≤ ((w.alloc (.cells #[.int .i64 c, .int .i64 t, .bool true, .int .i64 n] 85)).alloc (.cells #[.int .u8 (g : Int), .int .u8 130] 5)).heap.size := by simp
  generalize (w.alloc (.cells #[.int .i64 c, .int .i64 t, .bool true, .int .i64 n] 85)).alloc (.cells #[.int .u8 (g : Int), .int .u8 130] 5) = W0 at o0 b0 k0 z0 ⊢
  have c0 := b0.cell 3
  have O0 := Lib.hid (o0.kp ((Kp.refl (fun _ => False) W0).alloc (.cells #[.int .u8 ((n : Int) / 256)] 5)) (fun _ _ h => h))
  rw [rounds_succ]
  go_wp2_with (at_builtin; refine app_bytes rfl (.tmp 63) (.tmp 70) rfl (w.heap.size + 1) _ 2 _ [UInt8.ofNat g, 130] rfl rfl O0.out (· = W0.heap.size) _ 1 1 [UInt8.ofNat (n / 256)] rfl rfl (HL0.out W0) 3 rfl (by omega) (by simp; omega) ?_; intro A1 c1' W1 o1 q1)
  have k1 := k0.then_ (((Kp.refl _ _).alloc (.cells #[.int .u8 ((n : Int) / 256)] 5)).then_ (S := (w.heap.size + 1 ≤ ·)) q1 (fun _ h => .inl h)) (fun i hi => .inr (by omega))
  have b1 := (b0.alloc (.cells #[.int .u8 ((n : Int) / 256)] 5)).kp q1 (by omega)
  have z1 : w.heap.size + 1 ≤ W1.heap.size := by have := q1.size; simp at this; omega
  have c1 := b1.cell 3
  have O1 := Lib.hid (o1.kp ((Kp.refl (fun _ => False) W1).alloc (.cells #[.int .u8 ((n : Int) % 256)] 5)) (fun _ _ h => h))
  rw [rounds_succ]
  go_wp2_with (at_builtin; refine app_bytes rfl (.tmp 63) (.tmp 70) rfl (w.heap.size + 1) _ 3 _ ([UInt8.ofNat g, 130] ++ [UInt8.ofNat (n / 256)]) rfl rfl O1.out (· = W1.heap.size) _ 1 1 [UInt8.ofNat (n)] rfl rfl (HL1.out W1) 4 rfl (by omega) (by simp; omega) ?_; intro A2 c2' W2 o2 q2)
  have k2 := k1.then_ (((Kp.refl _ _).alloc (.cells #[.int .u8 ((n : Int) % 256)] 5)).then_ (S := (w.heap.size + 1 ≤ ·)) q2 (fun _ h => .inl h)) (fun i hi => .inr (by omega))
  have b2 := (b1.alloc (.cells #[.int .u8 ((n : Int) % 256)] 5)).kp q2 (by omega)
  have z2 : w.heap.size + 1 ≤ W2.heap.size := by have := q2.size; simp at this; omega
  rw [rounds_succ]
  go_wp2_with fail
  go_ret2
  exact HP.out _ _ _ (o2.mono_ (fun i hi => by omega)) k2

set_option maxRecDepth 100000 in
set_option maxHeartbeats 1600000 in
theorem putO_ok_t3 (w : World) (ht : Tab w) (c t : Int) (n : Nat) (hk : kindB c t true = true) (h1 : 65536 ≤ n) (h2 : n < 16777216) : Calls Tryd.prog 54 #[.agg #[.int .i64 c, .int .i64 t, .bool true, .int .i64 n]] w (PutO c t true n w) := by
  obtain ⟨hcc, ht0, ht1⟩ := kindB_cases hk
  obtain ⟨f, g, hf, hf2, hg, hhb, hg2, -, -⟩ := hb_first hk
  have kk : Kp (fun _ => False) w (w.alloc (.cells #[.int .i64 c, .int .i64 t, .bool true, .int .i64 n] 85)) := (Kp.refl _ _).alloc _
  have hpt : pt c t true n = (UInt8.ofNat g :: [131, UInt8.ofNat (n / 65536), UInt8.ofNat (n / 256), UInt8.ofNat n], 0) := by
    rw [pt, if_pos hk, if_neg (by omega), hhb, Int.toNat_natCast, lenB]
    simp only [if_neg (show ¬ n < 128 by omega), if_neg (show ¬ n < 256 by omega), if_neg (show ¬ n < 65536 by omega), beB, List.nil_append, List.cons_append, Nat.div_div_eq_div_mul]
    rfl
  have hP : ∀ A cp w', Own w' (w.heap.size ≤ ·) 5 1 (.slice A 5 cp) 5 (bc (UInt8.ofNat g :: [131, UInt8.ofNat (n / 65536), UInt8.ofNat (n / 256), UInt8.ofNat n])) → Kp (fun _ => False) w w' → PutO c t true n w (.returned (.tuple #[.slice A 5 cp, .int .i64 0])) w' := by
    intro A cp w' q1 q2
    rw [PutO, hpt]
    exact ⟨A, cp, rfl, q1, q2⟩
  have HP := Lib.hid hP
  have HK := Lib.hid hk
  clear hP hk hpt hhb
  have hF : (UInt8.ofNat g).toNat = g := by rw [UInt8.toNat_ofNat']; omega
  obtain ⟨L, hL, hL8⟩ := len_bytes n (by omega) (by omega)
  rw [if_neg (by omega), if_neg (by omega)] at hL8
  have d1 : ((L : Int) + 7).tdiv 8 = 3 := by rw [Int.tdiv_eq_ediv_of_nonneg (by omega)]; omega
  have d2 : ((L : Int) + 7) / 8 = 3 := by omega
  have hL64 : L ≤ 64 := by omega
  have o1 : bits .or .i64 128 3 = 131 := by decide
  have hlit : #[Value.int .u8 (g : Int), .int .u8 131] = (bc [UInt8.ofNat g, 131]).toArray := by
    simp only [bc, List.map_cons, List.map_nil, hF]
    rfl
  have HO := Lib.hid (fun (W : World) (B : Nat) (hB : B ≤ W.heap.size) => Own.lit W [UInt8.ofNat g, 131] _ 2 B rfl hlit hB (by decide))
  have hl0 : #[Value.int .u8 ((n : Int) / 65536)] = (bc [UInt8.ofNat (n / 65536)]).toArray := by
    simp only [bc, List.map_cons, List.map_nil, UInt8.toNat_ofNat']
    congr 3
    try omega
  have HL0 := Lib.hid (fun W : World => BR.lit W 5 [UInt8.ofNat (n / 65536)] _ 1 rfl hl0)
  have hl1 : #[Value.int .u8 ((n : Int) / 256 % 256)] = (bc [UInt8.ofNat (n / 256)]).toArray := by
    simp only [bc, List.map_cons, List.map_nil, UInt8.toNat_ofNat']
    congr 3
    try omega
  have HL1 := Lib.hid (fun W : World => BR.lit W 5 [UInt8.ofNat (n / 256)] _ 1 rfl hl1)
  have hl2 : #[Value.int .u8 ((n : Int) % 256)] = (bc [UInt8.ofNat (n)]).toArray := by
    simp only [bc, List.map_cons, List.map_nil, UInt8.toNat_ofNat']
    congr 3
    try omega
  have HL2 := Lib.hid (fun W : World => BR.lit W 5 [UInt8.ofNat (n)] _ 1 rfl hl2)
  clear hlit hF hL8 hl0 hl1 hl2
  have HLen := Lib.hid hL
  clear hL
  go_enter Tryd.func54, Tryd.ntmps54
  go_wp2_with fail
  refine (kind_any _ _ _ _ (ht.kp kk)).mono ?_
  rintro e w2 ⟨rfl, rfl⟩
  rw [if_pos HK.out]
  go_wp2_with fail
  refine (len_any _ _ (by omega) (by omega)).mono ?_
  rw [Int.toNat_natCast, HLen.out]
  rintro e w2 ⟨rfl, rfl⟩
  go_wp2_with fail
  refine wp_loop_rounds 4 ?_
  have o0 := HO.out (w.alloc (.cells #[.int .i64 c, .int .i64 t, .bool true, .int .i64 n] 85)) (w.heap.size + 1) (by simp)
  simp only [World.size_alloc] at o0
  have b0 := (Blk.new w 85 #[.int .i64 c, .int .i64 t, .bool true, .int .i64 n]).alloc (.cells #[.int .u8 (g : Int), .int .u8 131] 5)
  have k0 := kk.alloc (.cells #[.int .u8 (g : Int), .int .u8 131] 5)
  have z0 : w.heap.size + 1 ≤ ((w.alloc (.cells #[.int .i64 c, .int .i64 t, .bool true, .int .i64 n] 85)).alloc (.cells #[.int .u8 (g : Int), .int .u8 131] 5)).heap.size := by simp
  generalize (w.alloc (.cells #[.int .i64 c, .int .i64 t, .bool true, .int .i64 n] 85)).alloc (.cells #[.int .u8 (g : Int), .int .u8 131] 5) = W0 at o0 b0 k0 z0 ⊢
  have c0 := b0.cell 3
  have O0 := Lib.hid (o0.kp ((Kp.refl (fun _ => False) W0).alloc (.cells #[.int .u8 ((n : Int) / 65536)] 5)) (fun _ _ h => h))
  rw [rounds_succ]
  go_wp2_with (at_builtin; refine app_bytes rfl (.tmp 63) (.tmp 70) rfl (w.heap.size + 1) _ 2 _ [UInt8.ofNat g, 131] rfl rfl O0.out (· = W0.heap.size) _ 1 1 [UInt8.ofNat (n / 65536)] rfl rfl (HL0.out W0) 3 rfl (by omega) (by simp; omega) ?_; intro A1 c1' W1 o1 q1)
  have k1 := k0.then_ (((Kp.refl _ _).alloc (.cells #[.int .u8 ((n : Int) / 65536)] 5)).then_ (S := (w.heap.size + 1 ≤ ·)) q1 (fun _ h => .inl h)) (fun i hi => .inr (by omega))
  have b1 := (b0.alloc (.cells #[.int .u8 ((n : Int) / 65536)] 5)).kp q1 (by omega)
  have z1 : w.heap.size + 1 ≤ W1.heap.size := by have := q1.size; simp at this; omega
  have c1 := b1.cell 3
  have O1 := Lib.hid (o1.kp ((Kp.refl (fun _ => False) W1).alloc (.cells #[.int .u8 ((n : Int) / 256 % 256)] 5)) (fun _ _ h => h))
  rw [rounds_succ]
  go_wp2_with (at_builtin; refine app_bytes rfl (.tmp 63) (.tmp 70) rfl (w.heap.size + 1) _ 3 _ ([UInt8.ofNat g, 131] ++ [UInt8.ofNat (n / 65536)]) rfl rfl O1.out (· = W1.heap.size) _ 1 1 [UInt8.ofNat (n / 256)] rfl rfl (HL1.out W1) 4 rfl (by omega) (by simp; omega) ?_; intro A2 c2' W2 o2 q2)
  have k2 := k1.then_ (((Kp.refl _ _).alloc (.cells #[.int .u8 ((n : Int) / 256 % 256)] 5)).then_ (S := (w.heap.size + 1 ≤ ·)) q2 (fun _ h => .inl h)) (fun i hi => .inr (by omega))
  have b2 := (b1.alloc (.cells #[.int .u8 ((n : Int) / 256 % 256)] 5)).kp q2 (by omega)
  have z2 : w.heap.size + 1 ≤ W2.heap.size := by have := q2.size; simp at this; omega
  have c2 := b2.cell 3
  have O2 := Lib.hid (o2.kp ((Kp.refl (fun _ => False) W2).alloc (.cells #[.int .u8 ((n : Int) % 256)] 5)) (fun _ _ h => h))
  rw [rounds_succ]
  go_wp2_with (at_builtin; refine app_bytes rfl (.tmp 63) (.tmp 70) rfl (w.heap.size + 1) _ 4 _ (([UInt8.ofNat g, 131] ++ [UInt8.ofNat (n / 65536)]) ++ [UInt8.ofNat (n / 256)]) rfl rfl O2.out (· = W2.heap.size) _ 1 1 [UInt8.ofNat (n)] rfl rfl (HL2.out W2) 5 rfl (by omega) (by simp; omega) ?_; intro A3 c3' W3 o3 q3)
  have k3 := k2.then_ (((Kp.refl _ _).alloc (.cells #[.int .u8 ((n : Int) % 256)] 5)).then_ (S := (w.heap.size + 1 ≤ ·)) q3 (fun _ h => .inl h)) (fun i hi => .inr (by omega))
  have b3 := (b2.alloc (.cells #[.int .u8 ((n : Int) % 256)] 5)).kp q3 (by omega)
  have z3 : w.heap.size + 1 ≤ W3.heap.size := by have := q3.size; simp at this; omega
  rw [rounds_succ]
  go_wp2_with fail
  go_ret2
  exact HP.out _ _ _ (o3.mono_ (fun i hi => by omega)) k3

theorem putO_any (w : World) (ht : Tab w) (c t : Int) (m : Bool) (n : Int) : Calls Tryd.prog 54 #[.agg #[.int .i64 c, .int .i64 t, .bool m, .int .i64 n]] w (PutO c t m n w) := by
  cases hk : kindB c t m
  · exact putO_bad w ht c t m n hk
  by_cases hn : n < 0 ∨ 16777215 < n
  · exact putO_len w ht c t m n hk hn
  obtain ⟨N, rfl⟩ := Int.eq_ofNat_of_zero_le (show 0 ≤ n by omega)
  cases m
  · rcases Nat.lt_or_ge N 128 with h | h
    · exact putO_ok_f0 w ht c t N hk (Nat.zero_le _) h
    rcases Nat.lt_or_ge N 256 with h' | h'
    · exact putO_ok_f1 w ht c t N hk h h'
    rcases Nat.lt_or_ge N 65536 with h'' | h''
    · exact putO_ok_f2 w ht c t N hk h' h''
    · exact putO_ok_f3 w ht c t N hk h'' (by omega)
  · rcases Nat.lt_or_ge N 128 with h | h
    · exact putO_ok_t0 w ht c t N hk (Nat.zero_le _) h
    rcases Nat.lt_or_ge N 256 with h' | h'
    · exact putO_ok_t1 w ht c t N hk h h'
    rcases Nat.lt_or_ge N 65536 with h'' | h''
    · exact putO_ok_t2 w ht c t N hk h' h''
    · exact putO_ok_t3 w ht c t N hk h'' (by omega)

end Go.Proofs.YtgjbfgkcbehjnaaDoor

namespace Go.Proofs.YtgjbfgkcbehjnaaDoor
open Go.RowKit

def RPutO (c t : Int) (m : Bool) (n : Int) (w : World) (e : Ending) (w' : World) : Prop :=
  ∃ A cp, e = .returned (.slice A (pt c t m n).1.length cp) ∧ Own w' (w.heap.size ≤ ·) 5 1 (.slice A (pt c t m n).1.length cp) (pt c t m n).1.length (bc (pt c t m n).1) ∧ Kp (fun _ => False) w w'

set_option maxRecDepth 100000 in
set_option maxHeartbeats 1600000 in
theorem rputO_ok_f0 (w : World) (c t : Int) (n : Nat) (hk : kindB c t false = true) (h1 : 0 ≤ n) (h2 : n < 128) : Calls Tryd.prog 57 #[.agg #[.int .i64 c, .int .i64 t, .bool false, .int .i64 n]] w (RPutO c t false n w) := by
  obtain ⟨hcc, ht0, ht1⟩ := kindB_cases hk
  obtain ⟨f, g, -, hf2, -, hhb, hg2, hf, hg⟩ := hb_first hk
  have kk : Kp (fun _ => False) w (w.alloc (.cells #[.int .i64 c, .int .i64 t, .bool false, .int .i64 n] 89)) := (Kp.refl _ _).alloc _
  have hpt : pt c t false n = (UInt8.ofNat f :: [UInt8.ofNat n], 0) := by
    rw [pt, if_pos hk, if_neg (by omega), hhb, Int.toNat_natCast, lenB]
    simp only [if_pos h2]
    rfl
  have hP : ∀ A cp w', Own w' (w.heap.size ≤ ·) 5 1 (.slice A 2 cp) 2 (bc (UInt8.ofNat f :: [UInt8.ofNat n])) → Kp (fun _ => False) w w' → RPutO c t false n w (.returned (.slice A 2 cp)) w' := by
    intro A cp w' q1 q2
    rw [RPutO, hpt]
    exact ⟨A, cp, rfl, q1, q2⟩
  clear hk hpt hhb
  have hl1 : #[Value.int .u8 (64 * c + t)] = (bc [UInt8.ofNat f]).toArray := by
    simp only [bc, List.map_cons, List.map_nil, UInt8.toNat_ofNat']
    congr 3
    omega
  have hl2 : #[Value.int .u8 ((n : Int))] = (bc [UInt8.ofNat n]).toArray := by
    simp only [bc, List.map_cons, List.map_nil, UInt8.toNat_ofNat']
    have e0 : ((n % 2 ^ 8 : Nat) : Int) = (n : Int) := by omega
    rw [e0]
    all_goals rfl
  obtain ⟨z, hz⟩ : ∃ z : Int, (n : Int) = z := ⟨_, rfl⟩
  have g1 : (0 : Int) ≤ z := by omega
  have g2 : z < 128 := by omega
  rw [hz] at kk hP hl2 ⊢
  clear h1 h2 hz
  have HP := Lib.hid hP
  clear hP
  have HO := Lib.hid (fun (W : World) (B : Nat) (hB : B ≤ W.heap.size) => Own.lit W [UInt8.ofNat f] _ 1 B rfl hl1 hB (by decide))
  have HL := Lib.hid (fun W : World => BR.lit W 5 [UInt8.ofNat n] _ 1 rfl hl2)
  clear hl1 hl2
  have o0 := HO.out (w.alloc (.cells #[.int .i64 c, .int .i64 t, .bool false, .int .i64 z] 89)) w.heap.size (by simp)
  simp only [World.size_alloc] at o0
  have k0 := kk.alloc (.cells #[.int .u8 (64 * c + t)] 5)
  have l0 := HL.out ((w.alloc (.cells #[.int .i64 c, .int .i64 t, .bool false, .int .i64 z] 89)).alloc (.cells #[.int .u8 (64 * c + t)] 5))
  simp only [World.size_alloc] at l0
  have O0 := Lib.hid (o0.kp ((Kp.refl (fun _ => False) _).alloc (.cells #[.int .u8 (z)] 5)) (fun _ _ h => h))
  have L0 := Lib.hid l0
  have K1 := Lib.hid (k0.alloc (.cells #[.int .u8 (z)] 5))
  clear o0 l0
  go_enter Tryd.func57, Tryd.ntmps57
  go_wp2_with (at_builtin; refine app_bytes rfl (.tmp 21) (.tmp 25) rfl w.heap.size _ 1 _ [UInt8.ofNat f] rfl rfl O0.out _ _ 1 _ [UInt8.ofNat n] rfl rfl L0.out 2 rfl (by omega) (by simp; omega) ?_; intro A1 c1 W1 o1 q1)
  go_ret
  exact HP.out _ _ _ o1 (K1.out.then_ q1 (fun _ h => .inr h))

set_option maxRecDepth 100000 in
set_option maxHeartbeats 1600000 in
theorem rputO_ok_f1 (w : World) (c t : Int) (n : Nat) (hk : kindB c t false = true) (h1 : 128 ≤ n) (h2 : n < 256) : Calls Tryd.prog 57 #[.agg #[.int .i64 c, .int .i64 t, .bool false, .int .i64 n]] w (RPutO c t false n w) := by
  obtain ⟨hcc, ht0, ht1⟩ := kindB_cases hk
  obtain ⟨f, g, -, hf2, -, hhb, hg2, hf, hg⟩ := hb_first hk
  have kk : Kp (fun _ => False) w (w.alloc (.cells #[.int .i64 c, .int .i64 t, .bool false, .int .i64 n] 89)) := (Kp.refl _ _).alloc _
  have hpt : pt c t false n = (UInt8.ofNat f :: [129, UInt8.ofNat n], 0) := by
    rw [pt, if_pos hk, if_neg (by omega), hhb, Int.toNat_natCast, lenB]
    simp only [if_neg (show ¬ n < 128 by omega), if_pos h2]
    rfl
  have hP : ∀ A cp w', Own w' (w.heap.size ≤ ·) 5 1 (.slice A 3 cp) 3 (bc (UInt8.ofNat f :: [129, UInt8.ofNat n])) → Kp (fun _ => False) w w' → RPutO c t false n w (.returned (.slice A 3 cp)) w' := by
    intro A cp w' q1 q2
    rw [RPutO, hpt]
    exact ⟨A, cp, rfl, q1, q2⟩
  clear hk hpt hhb
  have hl1 : #[Value.int .u8 (64 * c + t)] = (bc [UInt8.ofNat f]).toArray := by
    simp only [bc, List.map_cons, List.map_nil, UInt8.toNat_ofNat']
    congr 3
    omega
  have hl2 : #[Value.int .u8 (129), .int .u8 ((n : Int))] = (bc [129, UInt8.ofNat n]).toArray := by
    simp only [bc, List.map_cons, List.map_nil, UInt8.toNat_ofNat']
    have e0 : ((n % 2 ^ 8 : Nat) : Int) = (n : Int) := by omega
    rw [e0]
    all_goals rfl
  obtain ⟨z, hz⟩ : ∃ z : Int, (n : Int) = z := ⟨_, rfl⟩
  have g1 : (128 : Int) ≤ z := by omega
  have g2 : z < 256 := by omega
  rw [hz] at kk hP hl2 ⊢
  clear h1 h2 hz
  have HP := Lib.hid hP
  clear hP
  have HO := Lib.hid (fun (W : World) (B : Nat) (hB : B ≤ W.heap.size) => Own.lit W [UInt8.ofNat f] _ 1 B rfl hl1 hB (by decide))
  have HL := Lib.hid (fun W : World => BR.lit W 5 [129, UInt8.ofNat n] _ 2 rfl hl2)
  clear hl1 hl2
  have o0 := HO.out (w.alloc (.cells #[.int .i64 c, .int .i64 t, .bool false, .int .i64 z] 89)) w.heap.size (by simp)
  simp only [World.size_alloc] at o0
  have k0 := kk.alloc (.cells #[.int .u8 (64 * c + t)] 5)
  have l0 := HL.out ((w.alloc (.cells #[.int .i64 c, .int .i64 t, .bool false, .int .i64 z] 89)).alloc (.cells #[.int .u8 (64 * c + t)] 5))
  simp only [World.size_alloc] at l0
  have O0 := Lib.hid (o0.kp ((Kp.refl (fun _ => False) _).alloc (.cells #[.int .u8 (129), .int .u8 (z)] 5)) (fun _ _ h => h))
  have L0 := Lib.hid l0
  have K1 := Lib.hid (k0.alloc (.cells #[.int .u8 (129), .int .u8 (z)] 5))
  clear o0 l0
  go_enter Tryd.func57, Tryd.ntmps57
  go_wp2_with (at_builtin; refine app_bytes rfl (.tmp 30) (.tmp 34) rfl w.heap.size _ 1 _ [UInt8.ofNat f] rfl rfl O0.out _ _ 2 _ [129, UInt8.ofNat n] rfl rfl L0.out 3 rfl (by omega) (by simp; omega) ?_; intro A1 c1 W1 o1 q1)
  go_ret
  exact HP.out _ _ _ o1 (K1.out.then_ q1 (fun _ h => .inr h))

set_option maxRecDepth 100000 in
set_option maxHeartbeats 1600000 in
theorem rputO_ok_f2 (w : World) (c t : Int) (n : Nat) (hk : kindB c t false = true) (h1 : 256 ≤ n) (h2 : n < 65536) : Calls Tryd.prog 57 #[.agg #[.int .i64 c, .int .i64 t, .bool false, .int .i64 n]] w (RPutO c t false n w) := by
  obtain ⟨hcc, ht0, ht1⟩ := kindB_cases hk
  obtain ⟨f, g, -, hf2, -, hhb, hg2, hf, hg⟩ := hb_first hk
  have kk : Kp (fun _ => False) w (w.alloc (.cells #[.int .i64 c, .int .i64 t, .bool false, .int .i64 n] 89)) := (Kp.refl _ _).alloc _
  have hpt : pt c t false n = (UInt8.ofNat f :: [130, UInt8.ofNat (n / 256), UInt8.ofNat n], 0) := by
    rw [pt, if_pos hk, if_neg (by omega), hhb, Int.toNat_natCast, lenB]
    simp only [if_neg (show ¬ n < 128 by omega), if_neg (show ¬ n < 256 by omega), if_pos h2, beB, List.nil_append, List.cons_append]
    rfl
  have hP : ∀ A cp w', Own w' (w.heap.size ≤ ·) 5 1 (.slice A 4 cp) 4 (bc (UInt8.ofNat f :: [130, UInt8.ofNat (n / 256), UInt8.ofNat n])) → Kp (fun _ => False) w w' → RPutO c t false n w (.returned (.slice A 4 cp)) w' := by
    intro A cp w' q1 q2
    rw [RPutO, hpt]
    exact ⟨A, cp, rfl, q1, q2⟩
  clear hk hpt hhb
  have hl1 : #[Value.int .u8 (64 * c + t)] = (bc [UInt8.ofNat f]).toArray := by
    simp only [bc, List.map_cons, List.map_nil, UInt8.toNat_ofNat']
    congr 3
    omega
  have hl2 : #[Value.int .u8 (130), .int .u8 ((n : Int) / 256), .int .u8 ((n : Int) % 256)] = (bc [130, UInt8.ofNat (n / 256), UInt8.ofNat n]).toArray := by
    simp only [bc, List.map_cons, List.map_nil, UInt8.toNat_ofNat']
    have e0 : ((n % 2 ^ 8 : Nat) : Int) = (n : Int) % 256 := by omega
    have e1 : ((n / 256 % 2 ^ 8 : Nat) : Int) = (n : Int) / 256 := by omega
    rw [e0, e1]
    all_goals rfl
  obtain ⟨z, hz⟩ : ∃ z : Int, (n : Int) = z := ⟨_, rfl⟩
  have g1 : (256 : Int) ≤ z := by omega
  have g2 : z < 65536 := by omega
  rw [hz] at kk hP hl2 ⊢
  clear h1 h2 hz
  have HP := Lib.hid hP
  clear hP
  have HO := Lib.hid (fun (W : World) (B : Nat) (hB : B ≤ W.heap.size) => Own.lit W [UInt8.ofNat f] _ 1 B rfl hl1 hB (by decide))
  have HL := Lib.hid (fun W : World => BR.lit W 5 [130, UInt8.ofNat (n / 256), UInt8.ofNat n] _ 3 rfl hl2)
  clear hl1 hl2
  have o0 := HO.out (w.alloc (.cells #[.int .i64 c, .int .i64 t, .bool false, .int .i64 z] 89)) w.heap.size (by simp)
  simp only [World.size_alloc] at o0
  have k0 := kk.alloc (.cells #[.int .u8 (64 * c + t)] 5)
  have l0 := HL.out ((w.alloc (.cells #[.int .i64 c, .int .i64 t, .bool false, .int .i64 z] 89)).alloc (.cells #[.int .u8 (64 * c + t)] 5))
  simp only [World.size_alloc] at l0
  have O0 := Lib.hid (o0.kp ((Kp.refl (fun _ => False) _).alloc (.cells #[.int .u8 (130), .int .u8 (z / 256), .int .u8 (z % 256)] 5)) (fun _ _ h => h))
  have L0 := Lib.hid l0
  have K1 := Lib.hid (k0.alloc (.cells #[.int .u8 (130), .int .u8 (z / 256), .int .u8 (z % 256)] 5))
  clear o0 l0
  go_enter Tryd.func57, Tryd.ntmps57
  go_wp2_with (at_builtin; refine app_bytes rfl (.tmp 39) (.tmp 48) rfl w.heap.size _ 1 _ [UInt8.ofNat f] rfl rfl O0.out _ _ 3 _ [130, UInt8.ofNat (n / 256), UInt8.ofNat n] rfl rfl L0.out 4 rfl (by omega) (by simp; omega) ?_; intro A1 c1 W1 o1 q1)
  go_ret
  exact HP.out _ _ _ o1 (K1.out.then_ q1 (fun _ h => .inr h))

set_option maxRecDepth 100000 in
set_option maxHeartbeats 1600000 in
theorem rputO_ok_f3 (w : World) (c t : Int) (n : Nat) (hk : kindB c t false = true) (h1 : 65536 ≤ n) (h2 : n < 16777216) : Calls Tryd.prog 57 #[.agg #[.int .i64 c, .int .i64 t, .bool false, .int .i64 n]] w (RPutO c t false n w) := by
  obtain ⟨hcc, ht0, ht1⟩ := kindB_cases hk
  obtain ⟨f, g, -, hf2, -, hhb, hg2, hf, hg⟩ := hb_first hk
  have kk : Kp (fun _ => False) w (w.alloc (.cells #[.int .i64 c, .int .i64 t, .bool false, .int .i64 n] 89)) := (Kp.refl _ _).alloc _
  have hpt : pt c t false n = (UInt8.ofNat f :: [131, UInt8.ofNat (n / 65536), UInt8.ofNat (n / 256), UInt8.ofNat n], 0) := by
    rw [pt, if_pos hk, if_neg (by omega), hhb, Int.toNat_natCast, lenB]
    simp only [if_neg (show ¬ n < 128 by omega), if_neg (show ¬ n < 256 by omega), if_neg (show ¬ n < 65536 by omega), beB, List.nil_append, List.cons_append, Nat.div_div_eq_div_mul]
    rfl
  have hP : ∀ A cp w', Own w' (w.heap.size ≤ ·) 5 1 (.slice A 5 cp) 5 (bc (UInt8.ofNat f :: [131, UInt8.ofNat (n / 65536), UInt8.ofNat (n / 256), UInt8.ofNat n])) → Kp (fun _ => False) w w' → RPutO c t false n w (.returned (.slice A 5 cp)) w' := by
    intro A cp w' q1 q2
    rw [RPutO, hpt]
    exact ⟨A, cp, rfl, q1, q2⟩
  clear hk hpt hhb
  have hl1 : #[Value.int .u8 (64 * c + t)] = (bc [UInt8.ofNat f]).toArray := by
    simp only [bc, List.map_cons, List.map_nil, UInt8.toNat_ofNat']
    congr 3
    omega
  have hl2 : #[Value.int .u8 (131), .int .u8 ((n : Int) / 65536), .int .u8 ((n : Int) / 256 % 256), .int .u8 ((n : Int) % 256)] = (bc [131, UInt8.ofNat (n / 65536), UInt8.ofNat (n / 256), UInt8.ofNat n]).toArray := by
    simp only [bc, List.map_cons, List.map_nil, UInt8.toNat_ofNat']
    have e0 : ((n % 2 ^ 8 : Nat) : Int) = (n : Int) % 256 := by omega
    have e1 : ((n / 256 % 2 ^ 8 : Nat) : Int) = (n : Int) / 256 % 256 := by omega
    have e2 : ((n / 65536 % 2 ^ 8 : Nat) : Int) = (n : Int) / 65536 := by omega
    rw [e0, e1, e2]
    all_goals rfl
  obtain ⟨z, hz⟩ : ∃ z : Int, (n : Int) = z := ⟨_, rfl⟩
  have g1 : (65536 : Int) ≤ z := by omega
  have g2 : z < 16777216 := by omega
  rw [hz] at kk hP hl2 ⊢
  clear h1 h2 hz
  have HP := Lib.hid hP
  clear hP
  have HO := Lib.hid (fun (W : World) (B : Nat) (hB : B ≤ W.heap.size) => Own.lit W [UInt8.ofNat f] _ 1 B rfl hl1 hB (by decide))
  have HL := Lib.hid (fun W : World => BR.lit W 5 [131, UInt8.ofNat (n / 65536), UInt8.ofNat (n / 256), UInt8.ofNat n] _ 4 rfl hl2)
  clear hl1 hl2
  have o0 := HO.out (w.alloc (.cells #[.int .i64 c, .int .i64 t, .bool false, .int .i64 z] 89)) w.heap.size (by simp)
  simp only [World.size_alloc] at o0
  have k0 := kk.alloc (.cells #[.int .u8 (64 * c + t)] 5)
  have l0 := HL.out ((w.alloc (.cells #[.int .i64 c, .int .i64 t, .bool false, .int .i64 z] 89)).alloc (.cells #[.int .u8 (64 * c + t)] 5))
  simp only [World.size_alloc] at l0
  have O0 := Lib.hid (o0.kp ((Kp.refl (fun _ => False) _).alloc (.cells #[.int .u8 (131), .int .u8 (z / 65536), .int .u8 (z / 256 % 256), .int .u8 (z % 256)] 5)) (fun _ _ h => h))
  have L0 := Lib.hid l0
  have K1 := Lib.hid (k0.alloc (.cells #[.int .u8 (131), .int .u8 (z / 65536), .int .u8 (z / 256 % 256), .int .u8 (z % 256)] 5))
  clear o0 l0
  go_enter Tryd.func57, Tryd.ntmps57
  go_wp2_with (at_builtin; refine app_bytes rfl (.tmp 50) (.tmp 64) rfl w.heap.size _ 1 _ [UInt8.ofNat f] rfl rfl O0.out _ _ 4 _ [131, UInt8.ofNat (n / 65536), UInt8.ofNat (n / 256), UInt8.ofNat n] rfl rfl L0.out 5 rfl (by omega) (by simp; omega) ?_; intro A1 c1 W1 o1 q1)
  go_ret
  exact HP.out _ _ _ o1 (K1.out.then_ q1 (fun _ h => .inr h))

set_option maxRecDepth 100000 in
set_option maxHeartbeats 1600000 in
theorem rputO_ok_t0 (w : World) (c t : Int) (n : Nat) (hk : kindB c t true = true) (h1 : 0 ≤ n) (h2 : n < 128) : Calls Tryd.prog 57 #[.agg #[.int .i64 c, .int .i64 t, .bool true, .int .i64 n]] w (RPutO c t true n w) := by
  obtain ⟨hcc, ht0, ht1⟩ := kindB_cases hk
  obtain ⟨f, g, -, hf2, -, hhb, hg2, hf, hg⟩ := hb_first hk
  have kk : Kp (fun _ => False) w (w.alloc (.cells #[.int .i64 c, .int .i64 t, .bool true, .int .i64 n] 89)) := (Kp.refl _ _).alloc _
  have hpt : pt c t true n = (UInt8.ofNat g :: [UInt8.ofNat n], 0) := by
    rw [pt, if_pos hk, if_neg (by omega), hhb, Int.toNat_natCast, lenB]
    simp only [if_pos h2]
    rfl
  have hP : ∀ A cp w', Own w' (w.heap.size ≤ ·) 5 1 (.slice A 2 cp) 2 (bc (UInt8.ofNat g :: [UInt8.ofNat n])) → Kp (fun _ => False) w w' → RPutO c t true n w (.returned (.slice A 2 cp)) w' := by
    intro A cp w' q1 q2
    rw [RPutO, hpt]
    exact ⟨A, cp, rfl, q1, q2⟩
  clear hk hpt hhb
  have hl1 : #[Value.int .u8 (64 * c + t + 32)] = (bc [UInt8.ofNat g]).toArray := by
    simp only [bc, List.map_cons, List.map_nil, UInt8.toNat_ofNat']
    congr 3
    omega
  have hl2 : #[Value.int .u8 ((n : Int))] = (bc [UInt8.ofNat n]).toArray := by
    simp only [bc, List.map_cons, List.map_nil, UInt8.toNat_ofNat']
    have e0 : ((n % 2 ^ 8 : Nat) : Int) = (n : Int) := by omega
    rw [e0]
    all_goals rfl
  obtain ⟨z, hz⟩ : ∃ z : Int, (n : Int) = z := ⟨_, rfl⟩
  have g1 : (0 : Int) ≤ z := by omega
  have g2 : z < 128 := by omega
  rw [hz] at kk hP hl2 ⊢
  clear h1 h2 hz
  have HP := Lib.hid hP
  clear hP
  have HO := Lib.hid (fun (W : World) (B : Nat) (hB : B ≤ W.heap.size) => Own.lit W [UInt8.ofNat g] _ 1 B rfl hl1 hB (by decide))
  have HL := Lib.hid (fun W : World => BR.lit W 5 [UInt8.ofNat n] _ 1 rfl hl2)
  clear hl1 hl2
  have o0 := HO.out (w.alloc (.cells #[.int .i64 c, .int .i64 t, .bool true, .int .i64 z] 89)) w.heap.size (by simp)
  simp only [World.size_alloc] at o0
  have k0 := kk.alloc (.cells #[.int .u8 (64 * c + t + 32)] 5)
  have l0 := HL.out ((w.alloc (.cells #[.int .i64 c, .int .i64 t, .bool true, .int .i64 z] 89)).alloc (.cells #[.int .u8 (64 * c + t + 32)] 5))
  simp only [World.size_alloc] at l0
  have O0 := Lib.hid (o0.kp ((Kp.refl (fun _ => False) _).alloc (.cells #[.int .u8 (z)] 5)) (fun _ _ h => h))
  have L0 := Lib.hid l0
  have K1 := Lib.hid (k0.alloc (.cells #[.int .u8 (z)] 5))
  clear o0 l0
  go_enter Tryd.func57, Tryd.ntmps57
  go_wp2_with (at_builtin; refine app_bytes rfl (.tmp 21) (.tmp 25) rfl w.heap.size _ 1 _ [UInt8.ofNat g] rfl rfl O0.out _ _ 1 _ [UInt8.ofNat n] rfl rfl L0.out 2 rfl (by omega) (by simp; omega) ?_; intro A1 c1 W1 o1 q1)
  go_ret
  exact HP.out _ _ _ o1 (K1.out.then_ q1 (fun _ h => .inr h))

set_option maxRecDepth 100000 in
set_option maxHeartbeats 1600000 in
theorem rputO_ok_t1 (w : World) (c t : Int) (n : Nat) (hk : kindB c t true = true) (h1 : 128 ≤ n) (h2 : n < 256) : Calls Tryd.prog 57 #[.agg #[.int .i64 c, .int .i64 t, .bool true, .int .i64 n]] w (RPutO c t true n w) := by
  obtain ⟨hcc, ht0, ht1⟩ := kindB_cases hk
  obtain ⟨f, g, -, hf2, -, hhb, hg2, hf, hg⟩ := hb_first hk
  have kk : Kp (fun _ => False) w (w.alloc (.cells #[.int .i64 c, .int .i64 t, .bool true, .int .i64 n] 89)) := (Kp.refl _ _).alloc _
  have hpt : pt c t true n = (UInt8.ofNat g :: [129, UInt8.ofNat n], 0) := by
    rw [pt, if_pos hk, if_neg (by omega), hhb, Int.toNat_natCast, lenB]
    simp only [if_neg (show ¬ n < 128 by omega), if_pos h2]
    rfl
  have hP : ∀ A cp w', Own w' (w.heap.size ≤ ·) 5 1 (.slice A 3 cp) 3 (bc (UInt8.ofNat g :: [129, UInt8.ofNat n])) → Kp (fun _ => False) w w' → RPutO c t true n w (.returned (.slice A 3 cp)) w' := by
    intro A cp w' q1 q2
    rw [RPutO, hpt]
    exact ⟨A, cp, rfl, q1, q2⟩
  clear hk hpt hhb
  have hl1 : #[Value.int .u8 (64 * c + t + 32)] = (bc [UInt8.ofNat g]).toArray := by
    simp only [bc, List.map_cons, List.map_nil, UInt8.toNat_ofNat']
    congr 3
    omega
  have hl2 : #[Value.int .u8 (129), .int .u8 ((n : Int))] = (bc [129, UInt8.ofNat n]).toArray := by
    simp only [bc, List.map_cons, List.map_nil, UInt8.toNat_ofNat']
    have e0 : ((n % 2 ^ 8 : Nat) : Int) = (n : Int) := by omega
    rw [e0]
    all_goals rfl
  obtain ⟨z, hz⟩ : ∃ z : Int, (n : Int) = z := ⟨_, rfl⟩
  have g1 : (128 : Int) ≤ z := by omega
  have g2 : z < 256 := by omega
  rw [hz] at kk hP hl2 ⊢
  clear h1 h2 hz
  have HP := Lib.hid hP
  clear hP
  have HO := Lib.hid (fun (W : World) (B : Nat) (hB : B ≤ W.heap.size) => Own.lit W [UInt8.ofNat g] _ 1 B rfl hl1 hB (by decide))
  have HL := Lib.hid (fun W : World => BR.lit W 5 [129, UInt8.ofNat n] _ 2 rfl hl2)
  clear hl1 hl2
  have o0 := HO.out (w.alloc (.cells #[.int .i64 c, .int .i64 t, .bool true, .int .i64 z] 89)) w.heap.size (by simp)
  simp only [World.size_alloc] at o0
  have k0 := kk.alloc (.cells #[.int .u8 (64 * c + t + 32)] 5)
  have l0 := HL.out ((w.alloc (.cells #[.int .i64 c, .int .i64 t, .bool true, .int .i64 z] 89)).alloc (.cells #[.int .u8 (64 * c + t + 32)] 5))
  simp only [World.size_alloc] at l0
  have O0 := Lib.hid (o0.kp ((Kp.refl (fun _ => False) _).alloc (.cells #[.int .u8 (129), .int .u8 (z)] 5)) (fun _ _ h => h))
  have L0 := Lib.hid l0
  have K1 := Lib.hid (k0.alloc (.cells #[.int .u8 (129), .int .u8 (z)] 5))
  clear o0 l0
  go_enter Tryd.func57, Tryd.ntmps57
  go_wp2_with (at_builtin; refine app_bytes rfl (.tmp 30) (.tmp 34) rfl w.heap.size _ 1 _ [UInt8.ofNat g] rfl rfl O0.out _ _ 2 _ [129, UInt8.ofNat n] rfl rfl L0.out 3 rfl (by omega) (by simp; omega) ?_; intro A1 c1 W1 o1 q1)
  go_ret
  exact HP.out _ _ _ o1 (K1.out.then_ q1 (fun _ h => .inr h))

set_option maxRecDepth 100000 in
set_option maxHeartbeats 1600000 in
theorem rputO_ok_t2 (w : World) (c t : Int) (n : Nat) (hk : kindB c t true = true) (h1 : 256 ≤ n) (h2 : n < 65536) : Calls Tryd.prog 57 #[.agg #[.int .i64 c, .int .i64 t, .bool true, .int .i64 n]] w (RPutO c t true n w) := by
  obtain ⟨hcc, ht0, ht1⟩ := kindB_cases hk
  obtain ⟨f, g, -, hf2, -, hhb, hg2, hf, hg⟩ := hb_first hk
  have kk : Kp (fun _ => False) w (w.alloc (.cells #[.int .i64 c, .int .i64 t, .bool true, .int .i64 n] 89)) := (Kp.refl _ _).alloc _
  have hpt : pt c t true n = (UInt8.ofNat g :: [130, UInt8.ofNat (n / 256), UInt8.ofNat n], 0) := by
    rw [pt, if_pos hk, if_neg (by omega), hhb, Int.toNat_natCast, lenB]
    simp only [if_neg (show ¬ n < 128 by omega), if_neg (show ¬ n < 256 by omega), if_pos h2, beB, List.nil_append, List.cons_append]
    rfl
  have hP : ∀ A cp w', Own w' (w.heap.size ≤ ·) 5 1 (.slice A 4 cp) 4 (bc (UInt8.ofNat g :: [130, UInt8.ofNat (n / 256), UInt8.ofNat n])) → Kp (fun _ => False) w w' → RPutO c t true n w (.returned (.slice A 4 cp)) w' := by
    intro A cp w' q1 q2
    rw [RPutO, hpt]
    exact ⟨A, cp, rfl, q1, q2⟩
  clear hk hpt hhb
  have hl1 : #[Value.int .u8 (64 * c + t + 32)] = (bc [UInt8.ofNat g]).toArray := by
    simp only [bc, List.map_cons, List.map_nil, UInt8.toNat_ofNat']
    congr 3
    omega
  have hl2 : #[Value.int .u8 (130), .int .u8 ((n : Int) / 256), .int .u8 ((n : Int) % 256)] = (bc [130, UInt8.ofNat (n / 256), UInt8.ofNat n]).toArray := by
    simp only [bc, List.map_cons, List.map_nil, UInt8.toNat_ofNat']
    have e0 : ((n % 2 ^ 8 : Nat) : Int) = (n : Int) % 256 := by omega
    have e1 : ((n / 256 % 2 ^ 8 : Nat) : Int) = (n : Int) / 256 := by omega
    rw [e0, e1]
    all_goals rfl
  obtain ⟨z, hz⟩ : ∃ z : Int, (n : Int) = z := ⟨_, rfl⟩
  have g1 : (256 : Int) ≤ z := by omega
  have g2 : z < 65536 := by omega
  rw [hz] at kk hP hl2 ⊢
  clear h1 h2 hz
  have HP := Lib.hid hP
  clear hP
  have HO := Lib.hid (fun (W : World) (B : Nat) (hB : B ≤ W.heap.size) => Own.lit W [UInt8.ofNat g] _ 1 B rfl hl1 hB (by decide))
  have HL := Lib.hid (fun W : World => BR.lit W 5 [130, UInt8.ofNat (n / 256), UInt8.ofNat n] _ 3 rfl hl2)
  clear hl1 hl2
  have o0 := HO.out (w.alloc (.cells #[.int .i64 c, .int .i64 t, .bool true, .int .i64 z] 89)) w.heap.size (by simp)
  simp only [World.size_alloc] at o0
  have k0 := kk.alloc (.cells #[.int .u8 (64 * c + t + 32)] 5)
  have l0 := HL.out ((w.alloc (.cells #[.int .i64 c, .int .i64 t, .bool true, .int .i64 z] 89)).alloc (.cells #[.int .u8 (64 * c + t + 32)] 5))
  simp only [World.size_alloc] at l0
  have O0 := Lib.hid (o0.kp ((Kp.refl (fun _ => False) _).alloc (.cells #[.int .u8 (130), .int .u8 (z / 256), .int .u8 (z % 256)] 5)) (fun _ _ h => h))
  have L0 := Lib.hid l0
  have K1 := Lib.hid (k0.alloc (.cells #[.int .u8 (130), .int .u8 (z / 256), .int .u8 (z % 256)] 5))
  clear o0 l0
  go_enter Tryd.func57, Tryd.ntmps57
  go_wp2_with (at_builtin; refine app_bytes rfl (.tmp 39) (.tmp 48) rfl w.heap.size _ 1 _ [UInt8.ofNat g] rfl rfl O0.out _ _ 3 _ [130, UInt8.ofNat (n / 256), UInt8.ofNat n] rfl rfl L0.out 4 rfl (by omega) (by simp; omega) ?_; intro A1 c1 W1 o1 q1)
  go_ret
  exact HP.out _ _ _ o1 (K1.out.then_ q1 (fun _ h => .inr h))

set_option maxRecDepth 100000 in
set_option maxHeartbeats 1600000 in
theorem rputO_ok_t3 (w : World) (c t : Int) (n : Nat) (hk : kindB c t true = true) (h1 : 65536 ≤ n) (h2 : n < 16777216) : Calls Tryd.prog 57 #[.agg #[.int .i64 c, .int .i64 t, .bool true, .int .i64 n]] w (RPutO c t true n w) := by
  obtain ⟨hcc, ht0, ht1⟩ := kindB_cases hk
  obtain ⟨f, g, -, hf2, -, hhb, hg2, hf, hg⟩ := hb_first hk
  have kk : Kp (fun _ => False) w (w.alloc (.cells #[.int .i64 c, .int .i64 t, .bool true, .int .i64 n] 89)) := (Kp.refl _ _).alloc _
  have hpt : pt c t true n = (UInt8.ofNat g :: [131, UInt8.ofNat (n / 65536), UInt8.ofNat (n / 256), UInt8.ofNat n], 0) := by
    rw [pt, if_pos hk, if_neg (by omega), hhb, Int.toNat_natCast, lenB]
    simp only [if_neg (show ¬ n < 128 by omega), if_neg (show ¬ n < 256 by omega), if_neg (show ¬ n < 65536 by omega), beB, List.nil_append, List.cons_append, Nat.div_div_eq_div_mul]
    rfl
  have hP : ∀ A cp w', Own w' (w.heap.size ≤ ·) 5 1 (.slice A 5 cp) 5 (bc (UInt8.ofNat g :: [131, UInt8.ofNat (n / 65536), UInt8.ofNat (n / 256), UInt8.ofNat n])) → Kp (fun _ => False) w w' → RPutO c t true n w (.returned (.slice A 5 cp)) w' := by
    intro A cp w' q1 q2
    rw [RPutO, hpt]
    exact ⟨A, cp, rfl, q1, q2⟩
  clear hk hpt hhb
  have hl1 : #[Value.int .u8 (64 * c + t + 32)] = (bc [UInt8.ofNat g]).toArray := by
    simp only [bc, List.map_cons, List.map_nil, UInt8.toNat_ofNat']
    congr 3
    omega
  have hl2 : #[Value.int .u8 (131), .int .u8 ((n : Int) / 65536), .int .u8 ((n : Int) / 256 % 256), .int .u8 ((n : Int) % 256)] = (bc [131, UInt8.ofNat (n / 65536), UInt8.ofNat (n / 256), UInt8.ofNat n]).toArray := by
    simp only [bc, List.map_cons, List.map_nil, UInt8.toNat_ofNat']
    have e0 : ((n % 2 ^ 8 : Nat) : Int) = (n : Int) % 256 := by omega
    have e1 : ((n / 256 % 2 ^ 8 : Nat) : Int) = (n : Int) / 256 % 256 := by omega
    have e2 : ((n / 65536 % 2 ^ 8 : Nat) : Int) = (n : Int) / 65536 := by omega
    rw [e0, e1, e2]
    all_goals rfl
  obtain ⟨z, hz⟩ : ∃ z : Int, (n : Int) = z := ⟨_, rfl⟩
  have g1 : (65536 : Int) ≤ z := by omega
  have g2 : z < 16777216 := by omega
  rw [hz] at kk hP hl2 ⊢
  clear h1 h2 hz
  have HP := Lib.hid hP
  clear hP
  have HO := Lib.hid (fun (W : World) (B : Nat) (hB : B ≤ W.heap.size) => Own.lit W [UInt8.ofNat g] _ 1 B rfl hl1 hB (by decide))
  have HL := Lib.hid (fun W : World => BR.lit W 5 [131, UInt8.ofNat (n / 65536), UInt8.ofNat (n / 256), UInt8.ofNat n] _ 4 rfl hl2)
  clear hl1 hl2
  have o0 := HO.out (w.alloc (.cells #[.int .i64 c, .int .i64 t, .bool true, .int .i64 z] 89)) w.heap.size (by simp)
  simp only [World.size_alloc] at o0
  have k0 := kk.alloc (.cells #[.int .u8 (64 * c + t + 32)] 5)
  have l0 := HL.out ((w.alloc (.cells #[.int .i64 c, .int .i64 t, .bool true, .int .i64 z] 89)).alloc (.cells #[.int .u8 (64 * c + t + 32)] 5))
  simp only [World.size_alloc] at l0
  have O0 := Lib.hid (o0.kp ((Kp.refl (fun _ => False) _).alloc (.cells #[.int .u8 (131), .int .u8 (z / 65536), .int .u8 (z / 256 % 256), .int .u8 (z % 256)] 5)) (fun _ _ h => h))
  have L0 := Lib.hid l0
  have K1 := Lib.hid (k0.alloc (.cells #[.int .u8 (131), .int .u8 (z / 65536), .int .u8 (z / 256 % 256), .int .u8 (z % 256)] 5))
  clear o0 l0
  go_enter Tryd.func57, Tryd.ntmps57
  go_wp2_with (at_builtin; refine app_bytes rfl (.tmp 50) (.tmp 64) rfl w.heap.size _ 1 _ [UInt8.ofNat g] rfl rfl O0.out _ _ 4 _ [131, UInt8.ofNat (n / 65536), UInt8.ofNat (n / 256), UInt8.ofNat n] rfl rfl L0.out 5 rfl (by omega) (by simp; omega) ?_; intro A1 c1 W1 o1 q1)
  go_ret
  exact HP.out _ _ _ o1 (K1.out.then_ q1 (fun _ h => .inr h))

theorem rputO_any (w : World) (c t : Int) (m : Bool) (N : Nat) (hk : kindB c t m = true) (hN : N ≤ 16777215) : Calls Tryd.prog 57 #[.agg #[.int .i64 c, .int .i64 t, .bool m, .int .i64 N]] w (RPutO c t m N w) := by
  cases m
  · rcases Nat.lt_or_ge N 128 with h | h
    · exact rputO_ok_f0 w c t N hk (Nat.zero_le _) h
    rcases Nat.lt_or_ge N 256 with h' | h'
    · exact rputO_ok_f1 w c t N hk h h'
    rcases Nat.lt_or_ge N 65536 with h'' | h''
    · exact rputO_ok_f2 w c t N hk h' h''
    · exact rputO_ok_f3 w c t N hk h'' (by omega)
  · rcases Nat.lt_or_ge N 128 with h | h
    · exact rputO_ok_t0 w c t N hk (Nat.zero_le _) h
    rcases Nat.lt_or_ge N 256 with h' | h'
    · exact rputO_ok_t1 w c t N hk h h'
    rcases Nat.lt_or_ge N 65536 with h'' | h''
    · exact rputO_ok_t2 w c t N hk h' h''
    · exact rputO_ok_t3 w c t N hk h'' (by omega)

end Go.Proofs.YtgjbfgkcbehjnaaDoor

namespace Go.Proofs.YtgjbfgkcbehjnaaDoor
open Go.RowKit

theorem NdR.lt_ {w : World} {ok : Nat → Prop} {v : Value} {x : Nd} (h : NdR w ok v x) : NdR w (fun i => ok i ∧ i < w.heap.size) v x := by
  obtain ⟨bv, sv, e, h0, h1, h2, h3, A, c, e2, h4, h5, h6⟩ := h
  exact ⟨bv, sv, e, h0, h1, h2.lt_, h3, A, c, e2, h4, h5, h6.lt_ NHd_lt⟩
/-- What a call of write leaves. -/
def WrP (r : List UInt8 × Int) (w : World) (e : Ending) (w' : World) : Prop :=
  ∃ A cp, e = .returned (.tuple #[.slice A r.1.length cp, .int .i64 r.2]) ∧ Own w' (w.heap.size ≤ ·) 5 1 (.slice A r.1.length cp) r.1.length (bc r.1) ∧ Kp (fun _ => False) w w'
/-- The closure's contract; it lies at a block, and captures that. -/
abbrev cloV (Bc : Nat) : Value := .func (.func 50) #[] #[.pointer (some ⟨Bc, 0, none⟩)]
def WrC (x : Nd) : Prop := ∀ (ok : Nat → Prop) (v : Value) (w : World) (Bc : Nat), NdR w ok v x → w.cell? ⟨Bc, 0, none⟩ = some (cloV Bc) → totN x ≤ 100000 → TabN w →
  Calls Tryd.prog 50 #[v, .pointer (some ⟨Bc, 0, none⟩)] w (WrP (wrN x) w)
set_option maxRecDepth 100000 in
set_option maxHeartbeats 3200000 in
theorem wr_leaf (c t : Int) (B : List UInt8) (l : List Nd) (ih : ∀ y ∈ l, WrC y) : WrC (.mk ⟨c, t, false, B⟩ l) := by
  intro ok v w Bc hv0 hclo htot tab
  have hv := hv0.lt_
  have hgl := tab.lt
  have hbcl := cell_lt hclo
  have hkt : ∀ y ∈ l, totN y ≤ 100000 := fun y hy => by have := totNs_mem hy; rw [totN_mk] at htot; omega
  obtain ⟨A1, c1, A2, c2, rfl, hci, hti, hc1, hl1, hb, hc2, hl2, hs⟩ := hv.parts
  have hk0 : Kp (fun _ => False) w (w.alloc (.cells #[.int .i64 c, .int .i64 t, .bool false, .slice A1 B.length c1, .slice A2 l.length c2] 25)) := (Kp.refl _ _).alloc _
  have hq1 := Blk.new w 25 #[.int .i64 c, .int .i64 t, .bool false, .slice A1 B.length c1, .slice A2 l.length c2]
  have hr0 := wrN_mk ⟨c, t, false, B⟩ l
  simp only at hr0
  rw [totN_mk] at htot
  simp only at htot
  generalize wrN (.mk ⟨c, t, false, B⟩ l) = R at hr0 ⊢
  have HK := Lib.hid hk0
  have HQ1 := Lib.hid hq1
  have HR := Lib.hid hr0
  have HS := Lib.hid (hs.kp hk0 (fun _ _ h => h))
  have HB := Lib.hid (hb.kp hk0 (fun _ _ h => h))
  have HT := Lib.hid (tab.kp0 hk0)
  have HIH := Lib.hid ih
  have HKT := Lib.hid hkt
  have HTI := Lib.hid hti
  have HLT := Lib.hid (show ∀ i, (ok i ∧ i < w.heap.size) → i < w.heap.size from fun i hi => hi.2)
  have HGL := Lib.hid hgl
  have HBC := Lib.hid hbcl
  have HCL := Lib.hid (hk0.cell hclo (fun h => h))
  clear hv hv0 hgl hb hs hk0 hq1 ih hkt hr0 tab hti hci hclo hbcl
  go_enter Tryd.func50, Tryd.ntmps50
  go_upto_region 1 with fail
  generalize w.alloc (.cells #[.int .i64 c, .int .i64 t, .bool false, .slice A1 B.length c1, .slice A2 l.length c2] 25) = W0 at HK HQ1 HS HB HT HCL ⊢
  have p0 := HQ1.out.cell 0
  have p1 := HQ1.out.cell 1
  have p2 := HQ1.out.cell 2
  have p3 := HQ1.out.cell 3
  have p4 := HQ1.out.cell 4
  simp at p0 p1 p2 p3 p4
  have HKI := Lib.hid (kind_any c t false W0 HT.out.1)
  by_cases hkd : kindB c t false = false
  · have hR := HR.out
    rw [if_pos hkd] at hR
    rw [hkd] at HKI
    subst hR
    clear HR HS HIH hkd HKT
    try simp only [if_neg (show ¬ (false = true) by decide)] at HKI
    go_wp2_with (go_at_call 51; refine HKI.out.mono ?_; rintro e w1 ⟨rfl, rfl⟩)
    go_ret2
    exact ⟨none, 0, rfl, Own.nil, HK.out⟩
  have hkd1 : kindB c t false = true := by simpa using hkd
  have hR := HR.out
  rw [if_neg hkd] at hR
  have HR1 := Lib.hid hR
  clear hR
  rw [hkd1] at HKI
  try simp only [if_true] at HKI
  have HKD := Lib.hid hkd1
  clear HR hkd hkd1
  by_cases hfm : 0 < l.length
  · have hR := HR1.out
    rw [if_pos (by simp; omega)] at hR
    subst hR
    have hlI : decide ((0 : Int) < (l.length : Int)) = true := by simp; omega
    clear HR1 HS HIH HKT
    go_wp2_with (go_at_call 51; refine HKI.out.mono ?_; rintro e w1 ⟨rfl, rfl⟩)
    go_ret2
    exact ⟨none, 0, rfl, Own.nil, HK.out⟩
  have hnil : l = [] := List.eq_nil_of_length_eq_zero (by omega)
  subst hnil
  have hR := HR1.out
  rw [if_neg (by simp)] at hR
  have HR2 := Lib.hid hR
  clear hR
  clear HR1 hfm
  simp only [List.length_nil] at HQ1 p0 p1 p2 p3 p4 HB HS ⊢
  have hma := may_any _ c t false B A1 A2 c1 0 c2 W0 HTI.out HB.out (by first | omega | simp) HT.out
  by_cases hmb : mayB c t false B = false
  · rw [hmb] at hma
    have HM := Lib.hid hma
    have hR := HR2.out
    rw [if_pos hmb] at hR
    subst hR
    clear HR2 hmb hma HS HIH HKT
    go_wp2_with (first | (go_at_call 51; refine HKI.out.mono ?_; rintro e w1 ⟨rfl, rfl⟩) | (go_at_call 52; refine HM.out.mono ?_; rintro e w2 ⟨rfl, hk2⟩; have HK2 := Lib.hid (HK.out.then_ hk2 (fun _ h => h.elim)); clear hk2))
    go_ret2
    exact ⟨none, 0, rfl, Own.nil, HK2.out⟩
  have hmb1 : mayB c t false B = true := by simpa using hmb
  rw [hmb1] at hma
  have HM := Lib.hid hma
  have hR := HR2.out
  rw [if_neg hmb] at hR
  have HR3 := Lib.hid hR
  clear hR
  clear HR2 hmb hmb1 hma
  go_upto_region 9 with (first | (go_at_call 51; refine HKI.out.mono ?_; rintro e w1 ⟨rfl, rfl⟩) | (go_at_call 52; refine HM.out.mono ?_; rintro e w2 ⟨rfl, hk2⟩; have HK2' := Lib.hid hk2; clear hk2))
  have HK2 := Lib.hid (HK.out.then_ HK2'.out (fun _ h => h.elim))
  have HQ2 := Lib.hid (HQ1.out.kp HK2'.out (fun h => h))
  have HS2 := Lib.hid (HS.out.kp HK2'.out (fun _ _ h => h))
  have HB2 := Lib.hid (HB.out.kp HK2'.out (fun _ _ h => h))
  have HT2 := Lib.hid (HT.out.kp0 HK2'.out)
  have HCL2 := Lib.hid (HK2'.out.cell HCL.out (fun h => h))
  clear HK HQ1 HS HB HT HCL HM HKI HK2' p0 p1 p2 p3 p4
  have p0 := HQ2.out.cell 0
  have p1 := HQ2.out.cell 1
  have p2 := HQ2.out.cell 2
  have p3 := HQ2.out.cell 3
  have p4 := HQ2.out.cell 4
  simp at p0 p1 p2 p3 p4
  have HCN := Lib.hid (clone_any _ (.slice A1 B.length c1) B w2 HB2.out (by first | omega | simp))
  try simp only [List.length_nil] at HCN
  go_upto_region 10 with (go_at_call 53; refine HCN.out.mono ?_; rintro e w3 ⟨A3, c3, rfl, ho3, hk3⟩; have HO3 := Lib.hid ho3; have HK3' := Lib.hid hk3; clear ho3 hk3)
  have HK3 := Lib.hid (HK2.out.then_ HK3'.out (fun _ h => h.elim))
  have HQ3 := Lib.hid (HQ2.out.kp HK3'.out (fun h => h))
  have HS3 := Lib.hid (HS2.out.kp HK3'.out (fun _ _ h => h))
  have HT3 := Lib.hid (HT2.out.kp0 HK3'.out)
  have HCL3 := Lib.hid (HK3'.out.cell HCL2.out (fun h => h))
  have hz3 : w.heap.size + 1 ≤ w2.heap.size := by have := HQ2.out.lt; omega
  have HO := Lib.hid (HO3.out.mono_ (ok' := (w.heap.size + 1 ≤ ·)) (fun i (hi : w2.heap.size ≤ i) => by omega))
  clear HK2 HQ2 HS2 HB2 HT2 HCL2 HO3 HCN HK3' p0 p1 p2 p3 p4
  have p0 := HQ3.out.cell 0
  have p1 := HQ3.out.cell 1
  have p2 := HQ3.out.cell 2
  have p3 := HQ3.out.cell 3
  have p4 := HQ3.out.cell 4
  simp at p0 p1 p2 p3 p4
  have hR4 := HR3.out
  rw [show wrNs [] B = (B, 0) by rw [wrNs]] at hR4
  have HX := Lib.hid (show R = (hb c t false :: lenB B.length ++ B, 0) by rw [if_neg (fun h => h rfl)] at hR4; exact hR4)
  have hBl : B.length ≤ 500000 := by omega
  have HTE := Lib.hid HT3.out
  have HQE := Lib.hid HQ3.out
  clear hR4 HR3
  go_upto_region 11 with fail
  refine wp_loop_rounds 1 ?_
  rw [rounds_succ]
  have hput := putO_any w3 HTE.out.1 c t false (B.length : Int)
  have hpt : pt c t false (B.length : Int) = (hb c t false :: lenB B.length, 0) := by rw [pt, if_pos HKD.out, if_neg (by omega)]; rfl
  unfold PutO at hput
  rw [hpt] at hput
  have hql := lenB_len B.length
  have hqn : (hb c t false :: lenB B.length).length ≤ 5 := by rw [List.length_cons]; omega
  simp only at hput
  generalize hqq : hb c t false :: lenB B.length = q at hput HX hqn
  have HPUT := Lib.hid hput
  have hzz : w.heap.size + 1 ≤ w3.heap.size := by have := HQE.out.lt; omega
  clear hput hpt hqq
  go_upto_region 21 with (go_at_call 54; refine HPUT.out.mono ?_; rintro e w8 ⟨A9, c9, rfl, ho9, hk9⟩; have HO9 := Lib.hid ho9; have HK9 := Lib.hid hk9; clear ho9 hk9)
  have HV9 := Lib.hid ((HO.out.br rfl).kp HK9.out (fun _ _ h => h))
  go_wp2_with (at_builtin; refine app_bytes rfl (.tmp 84) (.tmp 85) rfl w3.heap.size _ q.length _ q rfl rfl HO9.out _ A3 B.length c3 B rfl rfl HV9.out (q.length + B.length) rfl (by omega) (HK9.out.size) ?_; intro A8 c8 w9 o6 q6; have HO6 := Lib.hid o6; have HK6 := Lib.hid q6; clear o6 q6)
  go_ret2
  rw [HX.out]
  exact ⟨A8, c8, by simp only [List.length_append]; rfl, by simp only [List.length_append]; exact HO6.out.mono_ (fun i (hi : w3.heap.size ≤ i) => by omega), (HK3.out.then_ HK9.out (fun _ h => h.elim)).then_ HK6.out (fun i (hi : w3.heap.size ≤ i) => .inr (by omega))⟩

set_option maxRecDepth 100000 in
set_option maxHeartbeats 3200000 in
theorem wr_made (c t : Int) (B : List UInt8) (l : List Nd) (ih : ∀ y ∈ l, WrC y) : WrC (.mk ⟨c, t, true, B⟩ l) := by
  intro ok v w Bc hv0 hclo htot tab
  have hv := hv0.lt_
  have hgl := tab.lt
  have hbcl := cell_lt hclo
  have hkt : ∀ y ∈ l, totN y ≤ 100000 := fun y hy => by have := totNs_mem hy; rw [totN_mk] at htot; omega
  obtain ⟨A1, c1, A2, c2, rfl, hci, hti, hc1, hl1, hb, hc2, hl2, hs⟩ := hv.parts
  have hk0 : Kp (fun _ => False) w (w.alloc (.cells #[.int .i64 c, .int .i64 t, .bool true, .slice A1 B.length c1, .slice A2 l.length c2] 25)) := (Kp.refl _ _).alloc _
  have hq1 := Blk.new w 25 #[.int .i64 c, .int .i64 t, .bool true, .slice A1 B.length c1, .slice A2 l.length c2]
  have hr0 := wrN_mk ⟨c, t, true, B⟩ l
  simp only at hr0
  rw [totN_mk] at htot
  simp only at htot
  generalize wrN (.mk ⟨c, t, true, B⟩ l) = R at hr0 ⊢
  have HK := Lib.hid hk0
  have HQ1 := Lib.hid hq1
  have HR := Lib.hid hr0
  have HS := Lib.hid (hs.kp hk0 (fun _ _ h => h))
  have HB := Lib.hid (hb.kp hk0 (fun _ _ h => h))
  have HT := Lib.hid (tab.kp0 hk0)
  have HIH := Lib.hid ih
  have HKT := Lib.hid hkt
  have HTI := Lib.hid hti
  have HLT := Lib.hid (show ∀ i, (ok i ∧ i < w.heap.size) → i < w.heap.size from fun i hi => hi.2)
  have HGL := Lib.hid hgl
  have HBC := Lib.hid hbcl
  have HCL := Lib.hid (hk0.cell hclo (fun h => h))
  clear hv hv0 hgl hb hs hk0 hq1 ih hkt hr0 tab hti hci hclo hbcl
  go_enter Tryd.func50, Tryd.ntmps50
  go_upto_region 1 with fail
  generalize w.alloc (.cells #[.int .i64 c, .int .i64 t, .bool true, .slice A1 B.length c1, .slice A2 l.length c2] 25) = W0 at HK HQ1 HS HB HT HCL ⊢
  have p0 := HQ1.out.cell 0
  have p1 := HQ1.out.cell 1
  have p2 := HQ1.out.cell 2
  have p3 := HQ1.out.cell 3
  have p4 := HQ1.out.cell 4
  simp at p0 p1 p2 p3 p4
  have HKI := Lib.hid (kind_any c t true W0 HT.out.1)
  by_cases hkd : kindB c t true = false
  · have hR := HR.out
    rw [if_pos hkd] at hR
    rw [hkd] at HKI
    subst hR
    clear HR HS HIH hkd HKT
    try simp only [if_neg (show ¬ (false = true) by decide)] at HKI
    go_wp2_with (go_at_call 51; refine HKI.out.mono ?_; rintro e w1 ⟨rfl, rfl⟩)
    go_ret2
    exact ⟨none, 0, rfl, Own.nil, HK.out⟩
  have hkd1 : kindB c t true = true := by simpa using hkd
  have hR := HR.out
  rw [if_neg hkd] at hR
  have HR1 := Lib.hid hR
  clear hR
  rw [hkd1] at HKI
  try simp only [if_true] at HKI
  have HKD := Lib.hid hkd1
  clear HR hkd hkd1
  by_cases hfm : 0 < B.length
  · have hR := HR1.out
    rw [if_pos (by simp; omega)] at hR
    subst hR
    have hlI : decide ((0 : Int) < (B.length : Int)) = true := by simp; omega
    clear HR1 HS HIH HKT
    go_wp2_with (go_at_call 51; refine HKI.out.mono ?_; rintro e w1 ⟨rfl, rfl⟩)
    go_ret2
    exact ⟨none, 0, rfl, Own.nil, HK.out⟩
  have hnil : B = [] := List.eq_nil_of_length_eq_zero (by omega)
  subst hnil
  have hR := HR1.out
  rw [if_neg (by simp)] at hR
  have HR2 := Lib.hid hR
  clear hR
  clear HR1 hfm
  simp only [List.length_nil] at HQ1 p0 p1 p2 p3 p4 HB HS ⊢
  have hma := may_any _ c t true [] A1 A2 c1 l.length c2 W0 HTI.out HB.out (by first | omega | simp) HT.out
  rw [show mayB c t true [] = true by simp [mayB]] at hma
  have HM := Lib.hid hma
  have hR := HR2.out
  rw [if_neg (by simp [mayB])] at hR
  have HR3 := Lib.hid hR
  clear hR
  clear HR2 hma
  go_upto_region 9 with (first | (go_at_call 51; refine HKI.out.mono ?_; rintro e w1 ⟨rfl, rfl⟩) | (go_at_call 52; refine HM.out.mono ?_; rintro e w2 ⟨rfl, hk2⟩; have HK2' := Lib.hid hk2; clear hk2))
  have HK2 := Lib.hid (HK.out.then_ HK2'.out (fun _ h => h.elim))
  have HQ2 := Lib.hid (HQ1.out.kp HK2'.out (fun h => h))
  have HS2 := Lib.hid (HS.out.kp HK2'.out (fun _ _ h => h))
  have HB2 := Lib.hid (HB.out.kp HK2'.out (fun _ _ h => h))
  have HT2 := Lib.hid (HT.out.kp0 HK2'.out)
  have HCL2 := Lib.hid (HK2'.out.cell HCL.out (fun h => h))
  clear HK HQ1 HS HB HT HCL HM HKI HK2' p0 p1 p2 p3 p4
  have p0 := HQ2.out.cell 0
  have p1 := HQ2.out.cell 1
  have p2 := HQ2.out.cell 2
  have p3 := HQ2.out.cell 3
  have p4 := HQ2.out.cell 4
  simp at p0 p1 p2 p3 p4
  have HCN := Lib.hid (clone_any _ (.slice A1 0 c1) [] w2 HB2.out (by first | omega | simp))
  try simp only [List.length_nil] at HCN
  go_upto_region 10 with (go_at_call 53; refine HCN.out.mono ?_; rintro e w3 ⟨A3, c3, rfl, ho3, hk3⟩; have HO3 := Lib.hid ho3; have HK3' := Lib.hid hk3; clear ho3 hk3)
  have HK3 := Lib.hid (HK2.out.then_ HK3'.out (fun _ h => h.elim))
  have HQ3 := Lib.hid (HQ2.out.kp HK3'.out (fun h => h))
  have HS3 := Lib.hid (HS2.out.kp HK3'.out (fun _ _ h => h))
  have HT3 := Lib.hid (HT2.out.kp0 HK3'.out)
  have HCL3 := Lib.hid (HK3'.out.cell HCL2.out (fun h => h))
  have hz3 : w.heap.size + 1 ≤ w2.heap.size := by have := HQ2.out.lt; omega
  have HO := Lib.hid (HO3.out.mono_ (ok' := (w.heap.size + 1 ≤ ·)) (fun i (hi : w2.heap.size ≤ i) => by omega))
  clear HK2 HQ2 HS2 HB2 HT2 HCL2 HO3 HCN HK3' p0 p1 p2 p3 p4
  have p0 := HQ3.out.cell 0
  have p1 := HQ3.out.cell 1
  have p2 := HQ3.out.cell 2
  have p3 := HQ3.out.cell 3
  have p4 := HQ3.out.cell 4
  simp at p0 p1 p2 p3 p4
  have hR4 := HR3.out
  have hln := wrNs_len l []
  obtain ⟨r, hr⟩ : ∃ r, wrNs l [] = r := ⟨_, rfl⟩
  simp only [hr] at hR4
  rw [hr] at hln
  simp only [List.length_nil, Nat.zero_add] at hln
  have HR4 := Lib.hid hR4
  have HR0 := Lib.hid (show wrNs (l.drop 0) [] = r from hr)
  clear hR4 HR3 hr
  have HSK := Lib.hid (fun W (hk : Kp (w.heap.size + 1 ≤ ·) w3 W) => HS3.out.kp hk (fun i hi => by have := HLT.out i hi; omega))
  have HTR := Lib.hid (fun W (hk : Kp (w.heap.size + 1 ≤ ·) w3 W) (_ : Kp (fun _ => False) w W) => HT3.out.kp hk (fun i hi => by have := HGL.out i hi; omega))
  go_upto_region 11 with fail
  go_loopw [6, 51] (fun sv i wr => ∃ (j : Nat) (acc : List UInt8) (A : Option Addr) (cc : Nat), j ≤ l.length ∧ i = .int .i64 j ∧ sv = .slice A acc.length cc ∧ Own wr (w.heap.size + 1 ≤ ·) 5 1 (.slice A acc.length cc) acc.length (bc acc) ∧ wrNs (l.drop j) acc = r ∧ acc.length + 5 * totNs (l.drop j) ≤ 500000 ∧ Kp (fun _ => False) w wr ∧ Kp (w.heap.size + 1 ≤ ·) w3 wr) (fun _ i _ => l.length - (intOf i).toNat)
  case atStart => exact ⟨0, [], A3, c3, Nat.zero_le _, rfl, rfl, HO.out, HR0.out, by simp at htot ⊢; omega, HK3.out, Kp.refl _ _⟩
  case round =>
    obtain ⟨j, acc, A, cc, hj, rfl, rfl, ho, he, hbd, hkr, hk3⟩ := hrel
    have HOR := Lib.hid ho
    have HJ := Lib.hid he
    have HKR := Lib.hid hkr
    have HK3R := Lib.hid hk3
    have hq := HQ3.out.kp hk3 (fun (h : w.heap.size + 1 ≤ w.heap.size) => by omega)
    have HQR := Lib.hid hq
    clear ho he hkr hk3 hq p0 p1 p2 p3 p4
    have p0 := HQR.out.cell 0
    have p1 := HQR.out.cell 1
    have p2 := HQR.out.cell 2
    have p3 := HQR.out.cell 3
    have p4 := HQR.out.cell 4
    simp at p0 p1 p2 p3 p4
    by_cases hlt : j < l.length
    · obtain ⟨bo, of, A5, c5, A6, c6, rfl, _, hf5, v0, v1, v2, v3, v4⟩ := (HSK.out wr HK3R.out).at_ hlt
      have hdr := wrNs_drop (acc := acc) hlt
      have hmem : l[j] ∈ l := List.getElem_mem hlt
      have htd : totNs (l.drop j) = totN l[j] + totNs (l.drop (j + 1)) := by rw [List.drop_eq_getElem_cons hlt, totNs]
      generalize hp : l[j] = y at hf5 v0 v1 v2 v3 v4 hdr hmem htd
      clear hp
      have hty := HKT.out y hmem
      have hyl := wrN_len y
      have hka : Kp (fun _ => False) wr (wr.alloc (.cells #[.int .i64 y.a.c, .int .i64 y.a.t, .bool y.a.m, .slice A5 y.a.b.length c5, .slice A6 y.l.length c6] 25)) := (Kp.refl _ _).alloc _
      have hclr := HK3R.out.cell HCL3.out (fun (h : w.heap.size + 1 ≤ Bc) => by have := HBC.out; omega)
      have HKA := Lib.hid hka
      have HCR := Lib.hid hclr
      have HC := Lib.hid (HIH.out y hmem _ _ (wr.alloc (.cells #[.int .i64 y.a.c, .int .i64 y.a.t, .bool y.a.m, .slice A5 y.a.b.length c5, .slice A6 y.l.length c6] 25)) Bc (hf5.kp hka (fun _ _ h => h)) (hka.cell hclr (fun h => h)) hty (HTR.out wr HK3R.out HKR.out |>.kp0 hka))
      have u0 : ∀ W, Kp (fun _ => False) wr W → W.cell? ⟨Bc, 0, none⟩ = some (cloV Bc) := fun W hk => hk.cell hclr (fun h => h)
      have uc := u0 _ hka
      have HYB := Lib.hid (Blk.new wr 25 #[.int .i64 y.a.c, .int .i64 y.a.t, .bool y.a.m, .slice A5 y.a.b.length c5, .slice A6 y.l.length c6])
      clear hka hclr u0
      generalize wrN y = ry at HC hdr hyl
      obtain ⟨rb, re⟩ := ry
      simp only at HC hdr hyl
      have hm0 : (0 : Int) ≤ (j : Int) := by omega
      have hm1 : (j : Int) < (l.length : Int) := by omega
      by_cases hre : re = 0
      · rw [if_neg (by simpa using hre)] at hdr
        have hreb : (re != 0) = false := by simpa using hre
        have HD := Lib.hid hdr
        subst hre
        clear hdr hmem hf5
        go_upto_region 14 with (go_at_call 50; refine HC.out.mono ?_; rintro e w5 ⟨A7, c7, rfl, ho7, hk5⟩; have HO7 := Lib.hid ho7; have HK5 := Lib.hid hk5; clear ho7 hk5)
        have HKR5 := Lib.hid (HKR.out.then_ (HKA.out.then_ HK5.out (fun _ h => h.elim)) (fun _ h => h.elim))
        have HK35 := Lib.hid (HK3R.out.then_ (HKA.out.then_ HK5.out (fun _ h => h.elim)) (fun _ h => h.elim))
        have HO5 := Lib.hid (HOR.out.kp (HKA.out.then_ HK5.out (fun _ h => h.elim)) (fun _ _ h => h))
        have hz5 : w.heap.size + 1 ≤ w5.heap.size := by have := HKR5.out.size; have := HQ3.out.lt; have := HK35.out.size; omega
        clear HC HKA HCR uc
        go_wp2_with (at_builtin; refine app_bytes rfl (.tmp 64) (.tmp 65) rfl (w.heap.size + 1) _ acc.length _ acc rfl rfl HO5.out _ A7 rb.length c7 rb rfl rfl (HO7.out.br rfl) (acc.length + rb.length) rfl (by omega) (by omega) ?_; intro A8 c8 w6 o6 q6; have HO6 := Lib.hid o6; have HK6 := Lib.hid q6; clear o6 q6)
        go_roundw
        case rel => exact ⟨j + 1, acc ++ rb, A8, c8, by omega, by go_num, by rw [List.length_append], by rw [List.length_append]; exact HO6.out, by rw [← HD.out]; exact HJ.out, by rw [List.length_append]; omega, HKR5.out.then_ HK6.out (fun i (hi : w.heap.size + 1 ≤ i) => .inr (by omega)), HK35.out.then_ HK6.out (fun i hi => .inl hi)⟩
        case measure => simp [intOf]; omega
      · rw [if_pos (by simpa using hre)] at hdr
        have hreb : (re != 0) = true := by simpa using hre
        have HX := Lib.hid (show R = ([], re) by
          have h1 := HR4.out
          have h2 : r = ([], re) := by rw [← HJ.out]; exact hdr
          rw [h2, if_pos hre] at h1
          exact h1)
        clear hdr hmem hf5
        go_upto_region 14 with (go_at_call 50; refine HC.out.mono ?_; rintro e w5 ⟨A7, c7, rfl, ho7, hk5⟩; have HK5 := Lib.hid hk5; clear ho7 hk5)
        have HKR5 := Lib.hid (HKR.out.then_ (HKA.out.then_ HK5.out (fun _ h => h.elim)) (fun _ h => h.elim))
        clear HC
        go_wp2_with fail
        go_ret2
        rw [HX.out]
        exact ⟨none, 0, rfl, Own.nil, HKR5.out⟩
    · have hX : r = (acc, 0) := by rw [← HJ.out]; exact wrNs_end (by omega)
      have HX := Lib.hid (show R = (hb c t true :: lenB acc.length ++ acc, 0) by
        have h1 := HR4.out
        rw [hX, if_neg (fun h => h rfl)] at h1
        exact h1)
      have hacc : acc.length ≤ 500000 := by omega
      have hle : l.length ≤ j := by omega
      clear hlt hX HR4 HR0
      have HTE := Lib.hid (HTR.out wr HK3R.out HKR.out)
      have HQE := Lib.hid HQR.out
      have hput := putO_any wr HTE.out.1 c t true (acc.length : Int)
      have hpt : pt c t true (acc.length : Int) = (hb c t true :: lenB acc.length, 0) := by rw [pt, if_pos HKD.out, if_neg (by omega)]; rfl
      unfold PutO at hput
      rw [hpt] at hput
      have hql := lenB_len acc.length
      have hqn : (hb c t true :: lenB acc.length).length ≤ 5 := by rw [List.length_cons]; omega
      simp only at hput
      generalize hqq : hb c t true :: lenB acc.length = q at hput HX hqn
      have HPUT := Lib.hid hput
      have hzz : w.heap.size + 1 ≤ wr.heap.size := by have := HQE.out.lt; omega
      clear hput hpt hqq
      go_upto_region 21 with (go_at_call 54; refine HPUT.out.mono ?_; rintro e w8 ⟨A9, c9, rfl, ho9, hk9⟩; have HO9 := Lib.hid ho9; have HK9 := Lib.hid hk9; clear ho9 hk9)
      have HV9 := Lib.hid ((HOR.out.br rfl).kp HK9.out (fun _ _ h => h))
      go_wp2_with (at_builtin; refine app_bytes rfl (.tmp 84) (.tmp 85) rfl wr.heap.size _ q.length _ q rfl rfl HO9.out _ A acc.length cc acc rfl rfl HV9.out (q.length + acc.length) rfl (by omega) (HK9.out.size) ?_; intro A8 c8 w9 o6 q6; have HO6 := Lib.hid o6; have HK6 := Lib.hid q6; clear o6 q6)
      go_ret2
      rw [HX.out]
      exact ⟨A8, c8, by simp only [List.length_append]; rfl, by simp only [List.length_append]; exact HO6.out.mono_ (fun i (hi : wr.heap.size ≤ i) => by omega), (HKR.out.then_ HK9.out (fun _ h => h.elim)).then_ HK6.out (fun i (hi : wr.heap.size ≤ i) => .inr (by omega))⟩

theorem wr_any : ∀ x, WrC x := by
  intro x
  induction x using RT.induct with
  | h a l ih =>
  obtain ⟨c, t, m, B⟩ := a
  cases m
  · exact wr_leaf c t B l ih
  · exact wr_made c t B l ih
end Go.Proofs.YtgjbfgkcbehjnaaDoor

namespace Go.Proofs.YtgjbfgkcbehjnaaDoor
open Go.RowKit

def RWrC (x : Nd) : Prop := ∀ (ok : Nat → Prop) (v : Value) (w : World), NdR w ok v x → totN x ≤ 100000 → TabN w →
  Calls Tryd.prog 34 #[v] w (WrP (wrN x) w)
set_option maxRecDepth 100000 in
set_option maxHeartbeats 3200000 in
theorem rwr_leaf (c t : Int) (B : List UInt8) (l : List Nd) (ih : ∀ y ∈ l, RWrC y) : RWrC (.mk ⟨c, t, false, B⟩ l) := by
  intro ok v w hv0 htot tab
  have hv := hv0.lt_
  have hgl := tab.lt
  have hkt : ∀ y ∈ l, totN y ≤ 100000 := fun y hy => by have := totNs_mem hy; rw [totN_mk] at htot; omega
  obtain ⟨A1, c1, A2, c2, rfl, hci, hti, hc1, hl1, hb, hc2, hl2, hs⟩ := hv.parts
  have hk0 : Kp (fun _ => False) w (w.alloc (.cells #[.int .i64 c, .int .i64 t, .bool false, .slice A1 B.length c1, .slice A2 l.length c2] 25)) := (Kp.refl _ _).alloc _
  have hq1 := Blk.new w 25 #[.int .i64 c, .int .i64 t, .bool false, .slice A1 B.length c1, .slice A2 l.length c2]
  have hr0 := wrN_mk ⟨c, t, false, B⟩ l
  simp only at hr0
  rw [totN_mk] at htot
  simp only at htot
  generalize wrN (.mk ⟨c, t, false, B⟩ l) = R at hr0 ⊢
  have HK := Lib.hid hk0
  have HQ1 := Lib.hid hq1
  have HR := Lib.hid hr0
  have HS := Lib.hid (hs.kp hk0 (fun _ _ h => h))
  have HB := Lib.hid (hb.kp hk0 (fun _ _ h => h))
  have HT := Lib.hid (tab.kp0 hk0)
  have HIH := Lib.hid ih
  have HKT := Lib.hid hkt
  have HTI := Lib.hid hti
  have HLT := Lib.hid (show ∀ i, (ok i ∧ i < w.heap.size) → i < w.heap.size from fun i hi => hi.2)
  have HGL := Lib.hid hgl
  clear hv hv0 hgl hb hs hk0 hq1 ih hkt hr0 tab hti hci
  go_enter Tryd.func34, Tryd.ntmps34
  go_upto_region 1 with fail
  generalize w.alloc (.cells #[.int .i64 c, .int .i64 t, .bool false, .slice A1 B.length c1, .slice A2 l.length c2] 25) = W0 at HK HQ1 HS HB HT ⊢
  have p0 := HQ1.out.cell 0
  have p1 := HQ1.out.cell 1
  have p2 := HQ1.out.cell 2
  have p3 := HQ1.out.cell 3
  have p4 := HQ1.out.cell 4
  simp at p0 p1 p2 p3 p4
  have HKI := Lib.hid (rkind_any c t false W0)
  by_cases hkd : kindB c t false = false
  · have hR := HR.out
    rw [if_pos hkd] at hR
    rw [hkd] at HKI
    subst hR
    clear HR HS HIH hkd HKT
    try simp only [if_neg (show ¬ (false = true) by decide)] at HKI
    go_wp2_with (go_at_call 55; refine HKI.out.mono ?_; rintro e w1 ⟨rfl, rfl⟩)
    go_ret2
    exact ⟨none, 0, rfl, Own.nil, HK.out⟩
  have hkd1 : kindB c t false = true := by simpa using hkd
  have hR := HR.out
  rw [if_neg hkd] at hR
  have HR1 := Lib.hid hR
  clear hR
  rw [hkd1] at HKI
  try simp only [if_true] at HKI
  have HKD := Lib.hid hkd1
  clear HR hkd hkd1
  by_cases hfm : 0 < l.length
  · have hR := HR1.out
    rw [if_pos (by simp; omega)] at hR
    subst hR
    have hlI : decide ((0 : Int) < (l.length : Int)) = true := by simp; omega
    clear HR1 HS HIH HKT
    go_wp2_with (go_at_call 55; refine HKI.out.mono ?_; rintro e w1 ⟨rfl, rfl⟩)
    go_ret2
    exact ⟨none, 0, rfl, Own.nil, HK.out⟩
  have hnil : l = [] := List.eq_nil_of_length_eq_zero (by omega)
  subst hnil
  have hR := HR1.out
  rw [if_neg (by simp)] at hR
  have HR2 := Lib.hid hR
  clear hR
  clear HR1 hfm
  simp only [List.length_nil] at HQ1 p0 p1 p2 p3 p4 HB HS ⊢
  by_cases h0 : c = 0
  · have h0b : (c == 0) = true := by simpa using h0
    have hck := rcheck_any t _ (.slice A1 B.length c1) B W0 HB.out (by omega)
    obtain ⟨q, hq⟩ : ∃ q, checkR t B = q := ⟨_, rfl⟩
    rw [hq] at hck
    have HM := Lib.hid hck
    clear hck
    by_cases hq0 : q = 0
    · have hR := HR2.out
      rw [if_neg (by simp [mayB, h0, hq, hq0])] at hR
      have HR3 := Lib.hid hR
      clear hR
      have hqb : (q != 0) = false := by simpa using hq0
      clear HR2 hq hq0 h0
      go_upto_region 9 with (first | (go_at_call 55; refine HKI.out.mono ?_; rintro e w1 ⟨rfl, rfl⟩) | (go_at_call 56; refine HM.out.mono ?_; rintro e w2 ⟨rfl, hk2⟩; have HK2' := Lib.hid hk2; clear hk2))
      have HK2 := Lib.hid (HK.out.then_ HK2'.out (fun _ h => h.elim))
      have HQ2 := Lib.hid (HQ1.out.kp HK2'.out (fun h => h))
      have HS2 := Lib.hid (HS.out.kp HK2'.out (fun _ _ h => h))
      have HB2 := Lib.hid (HB.out.kp HK2'.out (fun _ _ h => h))
      have HT2 := Lib.hid (HT.out.kp0 HK2'.out)
      clear HK HQ1 HS HB HT HKI HK2' p0 p1 p2 p3 p4
      have ke : Kp (fun _ => False) w2 (w2.alloc (.cells #[] 5)) := (Kp.refl _ _).alloc _
      have HO0 := Lib.hid (Own.lit w2 [] #[] 0 w2.heap.size rfl rfl (Nat.le_refl _) (by decide))
      have HV := Lib.hid (HB2.out.kp ke (fun _ _ h => h))
      have hze := ke.size
      have HKE := Lib.hid ke
      clear ke
      have p0 := HQ2.out.cell 0
      have p1 := HQ2.out.cell 1
      have p2 := HQ2.out.cell 2
      have p3 := HQ2.out.cell 3
      have p4 := HQ2.out.cell 4
      simp at p0 p1 p2 p3 p4
      have d3 := (HQ2.out.kp HKE.out (fun h => h)).cell 3
      simp at d3
      go_upto_region 10 with (at_builtin; refine app_bytes rfl (.tmp 52) (.tmp 54) rfl w2.heap.size _ 0 _ [] rfl rfl HO0.out _ A1 B.length c1 B rfl rfl HV.out B.length (by omega) (by omega) hze ?_; intro A3 c3 w3 o3 q3; have HO3 := Lib.hid o3; have HK3' := Lib.hid (HKE.out.then_ q3 (fun i hi => .inr hi)); clear o3 q3)
      have HK3 := Lib.hid (HK2.out.then_ HK3'.out (fun _ h => h.elim))
      have HQ3 := Lib.hid (HQ2.out.kp HK3'.out (fun h => h))
      have HS3 := Lib.hid (HS2.out.kp HK3'.out (fun _ _ h => h))
      have HT3 := Lib.hid (HT2.out.kp0 HK3'.out)
      have hz3 : w.heap.size + 1 ≤ w2.heap.size := by have := HQ2.out.lt; omega
      have HO := Lib.hid (show Own w3 (w.heap.size + 1 ≤ ·) 5 1 (.slice A3 B.length c3) B.length (bc B) from (HO3.out.mono_ (fun i (hi : w2.heap.size ≤ i) => by omega)))
      clear HK2 HQ2 HS2 HB2 HT2 HO3 HO0 HV HKE HK3' d3 p0 p1 p2 p3 p4
      have p0 := HQ3.out.cell 0
      have p1 := HQ3.out.cell 1
      have p2 := HQ3.out.cell 2
      have p3 := HQ3.out.cell 3
      have p4 := HQ3.out.cell 4
      simp at p0 p1 p2 p3 p4
      have hR4 := HR3.out
      rw [show wrNs [] B = (B, 0) by rw [wrNs]] at hR4
      have HX := Lib.hid (show R = (hb c t false :: lenB B.length ++ B, 0) by rw [if_neg (fun h => h rfl)] at hR4; exact hR4)
      have hBl : B.length ≤ 500000 := by omega
      have HTE := Lib.hid HT3.out
      have HQE := Lib.hid HQ3.out
      clear hR4 HR3
      go_upto_region 11 with fail
      refine wp_loop_rounds 1 ?_
      rw [rounds_succ]
      have hput := rputO_any w3 c t false B.length HKD.out (by omega)
      have hpt : pt c t false (B.length : Int) = (hb c t false :: lenB B.length, 0) := by rw [pt, if_pos HKD.out, if_neg (by omega)]; rfl
      unfold RPutO at hput
      rw [hpt] at hput
      have hql := lenB_len B.length
      have hqn : (hb c t false :: lenB B.length).length ≤ 5 := by rw [List.length_cons]; omega
      simp only at hput
      generalize hqq : hb c t false :: lenB B.length = q at hput HX hqn
      have HPUT := Lib.hid hput
      have hzz : w.heap.size + 1 ≤ w3.heap.size := by have := HQE.out.lt; omega
      have hgt : decide ((16777215 : Int) < (B.length : Int)) = false := by simp; omega
      clear hput hpt hqq
      go_upto_region 20 with (go_at_call 57; refine HPUT.out.mono ?_; rintro e w8 ⟨A9, c9, rfl, ho9, hk9⟩; have HO9 := Lib.hid ho9; have HK9 := Lib.hid hk9; clear ho9 hk9)
      have HV9 := Lib.hid ((HO.out.br rfl).kp HK9.out (fun _ _ h => h))
      go_wp2_with (at_builtin; refine app_bytes rfl (.tmp 91) (.tmp 92) rfl w3.heap.size _ q.length _ q rfl rfl HO9.out _ A3 B.length c3 B rfl rfl HV9.out (q.length + B.length) rfl (by omega) (HK9.out.size) ?_; intro A8 c8 w9 o6 q6; have HO6 := Lib.hid o6; have HK6 := Lib.hid q6; clear o6 q6)
      go_ret2
      rw [HX.out]
      exact ⟨A8, c8, by simp only [List.length_append]; rfl, by simp only [List.length_append]; exact HO6.out.mono_ (fun i (hi : w3.heap.size ≤ i) => by omega), (HK3.out.then_ HK9.out (fun _ h => h.elim)).then_ HK6.out (fun i (hi : w3.heap.size ≤ i) => .inr (by omega))⟩
    · have hR := HR2.out
      rw [if_pos (by simp [mayB, h0, hq, hq0])] at hR
      subst hR
      have hqb : (q != 0) = true := by simpa using hq0
      clear HR2 hq hq0 h0 HS HIH HKT
      go_wp2_with (first | (go_at_call 55; refine HKI.out.mono ?_; rintro e w1 ⟨rfl, rfl⟩) | (go_at_call 56; refine HM.out.mono ?_; rintro e w2 ⟨rfl, hk2⟩; have HK2 := Lib.hid (HK.out.then_ hk2 (fun _ h => h.elim)); clear hk2))
      go_ret2
      exact ⟨none, 0, rfl, Own.nil, HK2.out⟩
  · have h0b : (c == 0) = false := by simpa using h0
    have hR := HR2.out
    rw [if_neg (by simp [mayB, h0])] at hR
    have HR3 := Lib.hid hR
    clear hR
    clear HR2 h0
    go_upto_region 9 with (go_at_call 55; refine HKI.out.mono ?_; rintro e w1 ⟨rfl, rfl⟩)
    have HK2' := Lib.hid (Kp.refl (fun _ => False) W0)
    obtain ⟨w2, hw2⟩ : ∃ w2, w2 = W0 := ⟨_, rfl⟩
    rw [← hw2]
    rw [← hw2] at HK2'
    rw [hw2] at HK2'
    rw [← hw2] at HK HQ1 HS HB HT HK2'
    clear hw2
    have HK2 := Lib.hid (HK.out.then_ HK2'.out (fun _ h => h.elim))
    have HQ2 := Lib.hid (HQ1.out.kp HK2'.out (fun h => h))
    have HS2 := Lib.hid (HS.out.kp HK2'.out (fun _ _ h => h))
    have HB2 := Lib.hid (HB.out.kp HK2'.out (fun _ _ h => h))
    have HT2 := Lib.hid (HT.out.kp0 HK2'.out)
    clear HK HQ1 HS HB HT HKI HK2' p0 p1 p2 p3 p4
    have ke : Kp (fun _ => False) w2 (w2.alloc (.cells #[] 5)) := (Kp.refl _ _).alloc _
    have HO0 := Lib.hid (Own.lit w2 [] #[] 0 w2.heap.size rfl rfl (Nat.le_refl _) (by decide))
    have HV := Lib.hid (HB2.out.kp ke (fun _ _ h => h))
    have hze := ke.size
    have HKE := Lib.hid ke
    clear ke
    have p0 := HQ2.out.cell 0
    have p1 := HQ2.out.cell 1
    have p2 := HQ2.out.cell 2
    have p3 := HQ2.out.cell 3
    have p4 := HQ2.out.cell 4
    simp at p0 p1 p2 p3 p4
    have d3 := (HQ2.out.kp HKE.out (fun h => h)).cell 3
    simp at d3
    go_upto_region 10 with (at_builtin; refine app_bytes rfl (.tmp 52) (.tmp 54) rfl w2.heap.size _ 0 _ [] rfl rfl HO0.out _ A1 B.length c1 B rfl rfl HV.out B.length (by omega) (by omega) hze ?_; intro A3 c3 w3 o3 q3; have HO3 := Lib.hid o3; have HK3' := Lib.hid (HKE.out.then_ q3 (fun i hi => .inr hi)); clear o3 q3)
    have HK3 := Lib.hid (HK2.out.then_ HK3'.out (fun _ h => h.elim))
    have HQ3 := Lib.hid (HQ2.out.kp HK3'.out (fun h => h))
    have HS3 := Lib.hid (HS2.out.kp HK3'.out (fun _ _ h => h))
    have HT3 := Lib.hid (HT2.out.kp0 HK3'.out)
    have hz3 : w.heap.size + 1 ≤ w2.heap.size := by have := HQ2.out.lt; omega
    have HO := Lib.hid (show Own w3 (w.heap.size + 1 ≤ ·) 5 1 (.slice A3 B.length c3) B.length (bc B) from (HO3.out.mono_ (fun i (hi : w2.heap.size ≤ i) => by omega)))
    clear HK2 HQ2 HS2 HB2 HT2 HO3 HO0 HV HKE HK3' d3 p0 p1 p2 p3 p4
    have p0 := HQ3.out.cell 0
    have p1 := HQ3.out.cell 1
    have p2 := HQ3.out.cell 2
    have p3 := HQ3.out.cell 3
    have p4 := HQ3.out.cell 4
    simp at p0 p1 p2 p3 p4
    have hR4 := HR3.out
    rw [show wrNs [] B = (B, 0) by rw [wrNs]] at hR4
    have HX := Lib.hid (show R = (hb c t false :: lenB B.length ++ B, 0) by rw [if_neg (fun h => h rfl)] at hR4; exact hR4)
    have hBl : B.length ≤ 500000 := by omega
    have HTE := Lib.hid HT3.out
    have HQE := Lib.hid HQ3.out
    clear hR4 HR3
    go_upto_region 11 with fail
    refine wp_loop_rounds 1 ?_
    rw [rounds_succ]
    have hput := rputO_any w3 c t false B.length HKD.out (by omega)
    have hpt : pt c t false (B.length : Int) = (hb c t false :: lenB B.length, 0) := by rw [pt, if_pos HKD.out, if_neg (by omega)]; rfl
    unfold RPutO at hput
    rw [hpt] at hput
    have hql := lenB_len B.length
    have hqn : (hb c t false :: lenB B.length).length ≤ 5 := by rw [List.length_cons]; omega
    simp only at hput
    generalize hqq : hb c t false :: lenB B.length = q at hput HX hqn
    have HPUT := Lib.hid hput
    have hzz : w.heap.size + 1 ≤ w3.heap.size := by have := HQE.out.lt; omega
    have hgt : decide ((16777215 : Int) < (B.length : Int)) = false := by simp; omega
    clear hput hpt hqq
    go_upto_region 20 with (go_at_call 57; refine HPUT.out.mono ?_; rintro e w8 ⟨A9, c9, rfl, ho9, hk9⟩; have HO9 := Lib.hid ho9; have HK9 := Lib.hid hk9; clear ho9 hk9)
    have HV9 := Lib.hid ((HO.out.br rfl).kp HK9.out (fun _ _ h => h))
    go_wp2_with (at_builtin; refine app_bytes rfl (.tmp 91) (.tmp 92) rfl w3.heap.size _ q.length _ q rfl rfl HO9.out _ A3 B.length c3 B rfl rfl HV9.out (q.length + B.length) rfl (by omega) (HK9.out.size) ?_; intro A8 c8 w9 o6 q6; have HO6 := Lib.hid o6; have HK6 := Lib.hid q6; clear o6 q6)
    go_ret2
    rw [HX.out]
    exact ⟨A8, c8, by simp only [List.length_append]; rfl, by simp only [List.length_append]; exact HO6.out.mono_ (fun i (hi : w3.heap.size ≤ i) => by omega), (HK3.out.then_ HK9.out (fun _ h => h.elim)).then_ HK6.out (fun i (hi : w3.heap.size ≤ i) => .inr (by omega))⟩

set_option maxRecDepth 100000 in
set_option maxHeartbeats 3200000 in
theorem rwr_made (c t : Int) (B : List UInt8) (l : List Nd) (ih : ∀ y ∈ l, RWrC y) : RWrC (.mk ⟨c, t, true, B⟩ l) := by
  intro ok v w hv0 htot tab
  have hv := hv0.lt_
  have hgl := tab.lt
  have hkt : ∀ y ∈ l, totN y ≤ 100000 := fun y hy => by have := totNs_mem hy; rw [totN_mk] at htot; omega
  obtain ⟨A1, c1, A2, c2, rfl, hci, hti, hc1, hl1, hb, hc2, hl2, hs⟩ := hv.parts
  have hk0 : Kp (fun _ => False) w (w.alloc (.cells #[.int .i64 c, .int .i64 t, .bool true, .slice A1 B.length c1, .slice A2 l.length c2] 25)) := (Kp.refl _ _).alloc _
  have hq1 := Blk.new w 25 #[.int .i64 c, .int .i64 t, .bool true, .slice A1 B.length c1, .slice A2 l.length c2]
  have hr0 := wrN_mk ⟨c, t, true, B⟩ l
  simp only at hr0
  rw [totN_mk] at htot
  simp only at htot
  generalize wrN (.mk ⟨c, t, true, B⟩ l) = R at hr0 ⊢
  have HK := Lib.hid hk0
  have HQ1 := Lib.hid hq1
  have HR := Lib.hid hr0
  have HS := Lib.hid (hs.kp hk0 (fun _ _ h => h))
  have HB := Lib.hid (hb.kp hk0 (fun _ _ h => h))
  have HT := Lib.hid (tab.kp0 hk0)
  have HIH := Lib.hid ih
  have HKT := Lib.hid hkt
  have HTI := Lib.hid hti
  have HLT := Lib.hid (show ∀ i, (ok i ∧ i < w.heap.size) → i < w.heap.size from fun i hi => hi.2)
  have HGL := Lib.hid hgl
  clear hv hv0 hgl hb hs hk0 hq1 ih hkt hr0 tab hti hci
  go_enter Tryd.func34, Tryd.ntmps34
  go_upto_region 1 with fail
  generalize w.alloc (.cells #[.int .i64 c, .int .i64 t, .bool true, .slice A1 B.length c1, .slice A2 l.length c2] 25) = W0 at HK HQ1 HS HB HT ⊢
  have p0 := HQ1.out.cell 0
  have p1 := HQ1.out.cell 1
  have p2 := HQ1.out.cell 2
  have p3 := HQ1.out.cell 3
  have p4 := HQ1.out.cell 4
  simp at p0 p1 p2 p3 p4
  have HKI := Lib.hid (rkind_any c t true W0)
  by_cases hkd : kindB c t true = false
  · have hR := HR.out
    rw [if_pos hkd] at hR
    rw [hkd] at HKI
    subst hR
    clear HR HS HIH hkd HKT
    try simp only [if_neg (show ¬ (false = true) by decide)] at HKI
    go_wp2_with (go_at_call 55; refine HKI.out.mono ?_; rintro e w1 ⟨rfl, rfl⟩)
    go_ret2
    exact ⟨none, 0, rfl, Own.nil, HK.out⟩
  have hkd1 : kindB c t true = true := by simpa using hkd
  have hR := HR.out
  rw [if_neg hkd] at hR
  have HR1 := Lib.hid hR
  clear hR
  rw [hkd1] at HKI
  try simp only [if_true] at HKI
  have HKD := Lib.hid hkd1
  clear HR hkd hkd1
  by_cases hfm : 0 < B.length
  · have hR := HR1.out
    rw [if_pos (by simp; omega)] at hR
    subst hR
    have hlI : decide ((0 : Int) < (B.length : Int)) = true := by simp; omega
    clear HR1 HS HIH HKT
    go_wp2_with (go_at_call 55; refine HKI.out.mono ?_; rintro e w1 ⟨rfl, rfl⟩)
    go_ret2
    exact ⟨none, 0, rfl, Own.nil, HK.out⟩
  have hnil : B = [] := List.eq_nil_of_length_eq_zero (by omega)
  subst hnil
  have hR := HR1.out
  rw [if_neg (by simp)] at hR
  have HR2 := Lib.hid hR
  clear hR
  clear HR1 hfm
  simp only [List.length_nil] at HQ1 p0 p1 p2 p3 p4 HB HS ⊢
  have hR := HR2.out
  rw [if_neg (by simp [mayB])] at hR
  have HR3 := Lib.hid hR
  clear hR
  clear HR2
  go_upto_region 5 with (go_at_call 55; refine HKI.out.mono ?_; rintro e w1 ⟨rfl, rfl⟩)
  go_cut [44] (fun bv wx => bv = .bool false ∧ wx = W0)
  case first =>
    cases hcb : (c == 0)
    all_goals
      go_wp2_with fail
      go_meet
      exact ⟨rfl, rfl⟩
  case rest =>
  obtain ⟨rfl, hwe⟩ := hcut
  rw [hwe]
  clear hwe
  go_upto_region 9 with fail
  have HK2 := Lib.hid HK.out
  have HQ2 := Lib.hid HQ1.out
  have HS2 := Lib.hid HS.out
  have HB2 := Lib.hid HB.out
  have HT2 := Lib.hid HT.out
  clear HK HQ1 HS HB HT HKI
  obtain ⟨w2, hw2⟩ : ∃ w2, w2 = W0 := ⟨_, rfl⟩
  rw [← hw2] at HK2 HQ2 HS2 HB2 HT2 ⊢
  clear hw2 p0 p1 p2 p3 p4
  have ke : Kp (fun _ => False) w2 (w2.alloc (.cells #[] 5)) := (Kp.refl _ _).alloc _
  have HO0 := Lib.hid (Own.lit w2 [] #[] 0 w2.heap.size rfl rfl (Nat.le_refl _) (by decide))
  have HV := Lib.hid (HB2.out.kp ke (fun _ _ h => h))
  have hze := ke.size
  have HKE := Lib.hid ke
  clear ke
  have p0 := HQ2.out.cell 0
  have p1 := HQ2.out.cell 1
  have p2 := HQ2.out.cell 2
  have p3 := HQ2.out.cell 3
  have p4 := HQ2.out.cell 4
  simp at p0 p1 p2 p3 p4
  have d3 := (HQ2.out.kp HKE.out (fun h => h)).cell 3
  simp at d3
  go_upto_region 10 with (at_builtin; refine app_bytes rfl (.tmp 52) (.tmp 54) rfl w2.heap.size _ 0 _ [] rfl rfl HO0.out _ A1 0 c1 [] rfl rfl HV.out 0 (by omega) (by omega) hze ?_; intro A3 c3 w3 o3 q3; have HO3 := Lib.hid o3; have HK3' := Lib.hid (HKE.out.then_ q3 (fun i hi => .inr hi)); clear o3 q3)
  have HK3 := Lib.hid (HK2.out.then_ HK3'.out (fun _ h => h.elim))
  have HQ3 := Lib.hid (HQ2.out.kp HK3'.out (fun h => h))
  have HS3 := Lib.hid (HS2.out.kp HK3'.out (fun _ _ h => h))
  have HT3 := Lib.hid (HT2.out.kp0 HK3'.out)
  have hz3 : w.heap.size + 1 ≤ w2.heap.size := by have := HQ2.out.lt; omega
  have HO := Lib.hid (show Own w3 (w.heap.size + 1 ≤ ·) 5 1 (.slice A3 0 c3) 0 (bc []) from (HO3.out.mono_ (fun i (hi : w2.heap.size ≤ i) => by omega)))
  clear HK2 HQ2 HS2 HB2 HT2 HO3 HO0 HV HKE HK3' d3 p0 p1 p2 p3 p4
  have p0 := HQ3.out.cell 0
  have p1 := HQ3.out.cell 1
  have p2 := HQ3.out.cell 2
  have p3 := HQ3.out.cell 3
  have p4 := HQ3.out.cell 4
  simp at p0 p1 p2 p3 p4
  have hR4 := HR3.out
  have hln := wrNs_len l []
  obtain ⟨r, hr⟩ : ∃ r, wrNs l [] = r := ⟨_, rfl⟩
  simp only [hr] at hR4
  rw [hr] at hln
  simp only [List.length_nil, Nat.zero_add] at hln
  have HR4 := Lib.hid hR4
  have HR0 := Lib.hid (show wrNs (l.drop 0) [] = r from hr)
  clear hR4 HR3 hr
  have HSK := Lib.hid (fun W (hk : Kp (w.heap.size + 1 ≤ ·) w3 W) => HS3.out.kp hk (fun i hi => by have := HLT.out i hi; omega))
  have HTR := Lib.hid (fun W (hk : Kp (w.heap.size + 1 ≤ ·) w3 W) (_ : Kp (fun _ => False) w W) => HT3.out.kp hk (fun i hi => by have := HGL.out i hi; omega))
  go_upto_region 11 with fail
  go_loopw [5, 6] (fun sv i wr => ∃ (j : Nat) (acc : List UInt8) (A : Option Addr) (cc : Nat), j ≤ l.length ∧ i = .int .i64 j ∧ sv = .slice A acc.length cc ∧ Own wr (w.heap.size + 1 ≤ ·) 5 1 (.slice A acc.length cc) acc.length (bc acc) ∧ wrNs (l.drop j) acc = r ∧ acc.length + 5 * totNs (l.drop j) ≤ 500000 ∧ Kp (fun _ => False) w wr ∧ Kp (w.heap.size + 1 ≤ ·) w3 wr) (fun _ i _ => l.length - (intOf i).toNat)
  case atStart => exact ⟨0, [], A3, c3, Nat.zero_le _, rfl, rfl, HO.out, HR0.out, by simp at htot ⊢; omega, HK3.out, Kp.refl _ _⟩
  case round =>
    obtain ⟨j, acc, A, cc, hj, rfl, rfl, ho, he, hbd, hkr, hk3⟩ := hrel
    have HOR := Lib.hid ho
    have HJ := Lib.hid he
    have HKR := Lib.hid hkr
    have HK3R := Lib.hid hk3
    have hq := HQ3.out.kp hk3 (fun (h : w.heap.size + 1 ≤ w.heap.size) => by omega)
    have HQR := Lib.hid hq
    clear ho he hkr hk3 hq p0 p1 p2 p3 p4
    have p0 := HQR.out.cell 0
    have p1 := HQR.out.cell 1
    have p2 := HQR.out.cell 2
    have p3 := HQR.out.cell 3
    have p4 := HQR.out.cell 4
    simp at p0 p1 p2 p3 p4
    by_cases hlt : j < l.length
    · obtain ⟨bo, of, A5, c5, A6, c6, rfl, _, hf5, v0, v1, v2, v3, v4⟩ := (HSK.out wr HK3R.out).at_ hlt
      have hdr := wrNs_drop (acc := acc) hlt
      have hmem : l[j] ∈ l := List.getElem_mem hlt
      have htd : totNs (l.drop j) = totN l[j] + totNs (l.drop (j + 1)) := by rw [List.drop_eq_getElem_cons hlt, totNs]
      generalize hp : l[j] = y at hf5 v0 v1 v2 v3 v4 hdr hmem htd
      clear hp
      have hty := HKT.out y hmem
      have hyl := wrN_len y
      have HC := Lib.hid (HIH.out y hmem _ _ wr hf5 hty (HTR.out wr HK3R.out HKR.out))
      generalize wrN y = ry at HC hdr hyl
      obtain ⟨rb, re⟩ := ry
      simp only at HC hdr hyl
      have hm0 : (0 : Int) ≤ (j : Int) := by omega
      have hm1 : (j : Int) < (l.length : Int) := by omega
      by_cases hre : re = 0
      · rw [if_neg (by simpa using hre)] at hdr
        have hreb : (re != 0) = false := by simpa using hre
        have HD := Lib.hid hdr
        subst hre
        clear hdr hmem hf5
        go_upto_region 14 with (go_at_call 34; refine HC.out.mono ?_; rintro e w5 ⟨A7, c7, rfl, ho7, hk5⟩; have HO7 := Lib.hid ho7; have HK5 := Lib.hid hk5; clear ho7 hk5)
        have HKR5 := Lib.hid (HKR.out.then_ HK5.out (fun _ h => h.elim))
        have HK35 := Lib.hid (HK3R.out.then_ HK5.out (fun _ h => h.elim))
        have HO5 := Lib.hid (HOR.out.kp HK5.out (fun _ _ h => h))
        have hz5 : w.heap.size + 1 ≤ w5.heap.size := by have := HKR5.out.size; have := HQ3.out.lt; have := HK35.out.size; omega
        clear HC
        go_wp2_with (at_builtin; refine app_bytes rfl (.tmp 75) (.tmp 76) rfl (w.heap.size + 1) _ acc.length _ acc rfl rfl HO5.out _ A7 rb.length c7 rb rfl rfl (HO7.out.br rfl) (acc.length + rb.length) rfl (by omega) (by omega) ?_; intro A8 c8 w6 o6 q6; have HO6 := Lib.hid o6; have HK6 := Lib.hid q6; clear o6 q6)
        go_roundw
        case rel => exact ⟨j + 1, acc ++ rb, A8, c8, by omega, by go_num, by rw [List.length_append], by rw [List.length_append]; exact HO6.out, by rw [← HD.out]; exact HJ.out, by rw [List.length_append]; omega, HKR5.out.then_ HK6.out (fun i (hi : w.heap.size + 1 ≤ i) => .inr (by omega)), HK35.out.then_ HK6.out (fun i hi => .inl hi)⟩
        case measure => simp [intOf]; omega
      · rw [if_pos (by simpa using hre)] at hdr
        have hreb : (re != 0) = true := by simpa using hre
        have HX := Lib.hid (show R = ([], re) by
          have h1 := HR4.out
          have h2 : r = ([], re) := by rw [← HJ.out]; exact hdr
          rw [h2, if_pos hre] at h1
          exact h1)
        clear hdr hmem hf5
        go_upto_region 14 with (go_at_call 34; refine HC.out.mono ?_; rintro e w5 ⟨A7, c7, rfl, ho7, hk5⟩; have HK5 := Lib.hid hk5; clear ho7 hk5)
        have HKR5 := Lib.hid (HKR.out.then_ HK5.out (fun _ h => h.elim))
        clear HC
        go_wp2_with fail
        go_ret2
        rw [HX.out]
        exact ⟨none, 0, rfl, Own.nil, HKR5.out⟩
    · have hX : r = (acc, 0) := by rw [← HJ.out]; exact wrNs_end (by omega)
      have HX := Lib.hid (show R = (hb c t true :: lenB acc.length ++ acc, 0) by
        have h1 := HR4.out
        rw [hX, if_neg (fun h => h rfl)] at h1
        exact h1)
      have hacc : acc.length ≤ 500000 := by omega
      have hle : l.length ≤ j := by omega
      clear hlt hX HR4 HR0
      have HTE := Lib.hid (HTR.out wr HK3R.out HKR.out)
      have HQE := Lib.hid HQR.out
      have hput := rputO_any wr c t true acc.length HKD.out (by omega)
      have hpt : pt c t true (acc.length : Int) = (hb c t true :: lenB acc.length, 0) := by rw [pt, if_pos HKD.out, if_neg (by omega)]; rfl
      unfold RPutO at hput
      rw [hpt] at hput
      have hql := lenB_len acc.length
      have hqn : (hb c t true :: lenB acc.length).length ≤ 5 := by rw [List.length_cons]; omega
      simp only at hput
      generalize hqq : hb c t true :: lenB acc.length = q at hput HX hqn
      have HPUT := Lib.hid hput
      have hzz : w.heap.size + 1 ≤ wr.heap.size := by have := HQE.out.lt; omega
      have hgt : decide ((16777215 : Int) < (acc.length : Int)) = false := by simp; omega
      clear hput hpt hqq
      go_upto_region 20 with (go_at_call 57; refine HPUT.out.mono ?_; rintro e w8 ⟨A9, c9, rfl, ho9, hk9⟩; have HO9 := Lib.hid ho9; have HK9 := Lib.hid hk9; clear ho9 hk9)
      have HV9 := Lib.hid ((HOR.out.br rfl).kp HK9.out (fun _ _ h => h))
      go_wp2_with (at_builtin; refine app_bytes rfl (.tmp 91) (.tmp 92) rfl wr.heap.size _ q.length _ q rfl rfl HO9.out _ A acc.length cc acc rfl rfl HV9.out (q.length + acc.length) rfl (by omega) (HK9.out.size) ?_; intro A8 c8 w9 o6 q6; have HO6 := Lib.hid o6; have HK6 := Lib.hid q6; clear o6 q6)
      go_ret2
      rw [HX.out]
      exact ⟨A8, c8, by simp only [List.length_append]; rfl, by simp only [List.length_append]; exact HO6.out.mono_ (fun i (hi : wr.heap.size ≤ i) => by omega), (HKR.out.then_ HK9.out (fun _ h => h.elim)).then_ HK6.out (fun i (hi : wr.heap.size ≤ i) => .inr (by omega))⟩

theorem rwr_any : ∀ x, RWrC x := by
  intro x
  induction x using RT.induct with
  | h a l ih =>
  obtain ⟨c, t, m, B⟩ := a
  cases m
  · exact rwr_leaf c t B l ih
  · exact rwr_made c t B l ih
end Go.Proofs.YtgjbfgkcbehjnaaDoor

namespace Go.Proofs.YtgjbfgkcbehjnaaDoor
open Go.RowKit

theorem writeN_deep {x : Nd} (h : 8 < depN x) : writeN x = ([], 14) := by rw [writeN, if_pos h]
theorem writeN_flat {x : Nd} (h : ¬ 8 < depN x) : writeN x = wrN x := by rw [writeN, if_neg h]
set_option maxRecDepth 100000 in
set_option maxHeartbeats 3200000 in
theorem write_any (ok : Nat → Prop) (x : Nd) (v : Value) (w : World) (hv : NdR w ok v x) (htot : totN x ≤ 100000) (tab : TabN w) :
    Calls Tryd.prog 29 #[v] w (WrP (writeN x) w) := by
  obtain ⟨A1, c1, A2, c2, rfl, _⟩ := hv.shape
  obtain ⟨c, hc⟩ : ∃ c, x.a.c = c := ⟨_, rfl⟩
  obtain ⟨t, ht⟩ : ∃ t, x.a.t = t := ⟨_, rfl⟩
  obtain ⟨m, hm⟩ : ∃ m, x.a.m = m := ⟨_, rfl⟩
  obtain ⟨bl, hbl⟩ : ∃ bl, x.a.b.length = bl := ⟨_, rfl⟩
  obtain ⟨ll, hll⟩ : ∃ ll, x.l.length = ll := ⟨_, rfl⟩
  rw [hc, ht, hm, hbl, hll] at hv ⊢
  clear hc ht hm hbl hll
  have hk0 : Kp (fun _ => False) w (w.alloc (.cells #[.int .i64 c, .int .i64 t, .bool m, .slice A1 bl c1, .slice A2 ll c2] 25)) := (Kp.refl _ _).alloc _
  have hq1 := Blk.new w 25 #[.int .i64 c, .int .i64 t, .bool m, .slice A1 bl c1, .slice A2 ll c2]
  have hde := deepN_any 8 (by decide) ok _ _ _ (hv.kp hk0 (fun _ _ h => h))
  rw [deepBN_eq] at hde
  have HK := Lib.hid hk0
  have HQ1 := Lib.hid hq1
  have HV := Lib.hid (fun W (hk : Kp (fun _ => False) w W) => hv.kp hk (fun _ _ h => h))
  have HT := Lib.hid (fun W (hk : Kp (fun _ => False) w W) => tab.kp0 hk)
  have HTOT := Lib.hid htot
  have hcs : (8 < depN x ∧ decide (8 < depN x) = true ∧ writeN x = ([], 14)) ∨ (¬ 8 < depN x ∧ decide (8 < depN x) = false ∧ writeN x = wrN x) := by
    by_cases h : 8 < depN x
    · exact .inl ⟨h, decide_eq_true h, writeN_deep h⟩
    · exact .inr ⟨h, decide_eq_false h, writeN_flat h⟩
  generalize decide (8 < depN x) = q at hde hcs
  obtain ⟨R, hR⟩ : ∃ R, writeN x = R := ⟨_, rfl⟩
  rw [hR] at hcs ⊢
  have HDE := Lib.hid hde
  clear hv hk0 hq1 tab hde hR htot
  rcases hcs with ⟨_, rfl, rfl⟩ | ⟨_, rfl, rfl⟩
  · go_enter Tryd.func29, Tryd.ntmps29
    go_upto_region 1 with fail
    generalize w.alloc (.cells #[.int .i64 c, .int .i64 t, .bool m, .slice A1 bl c1, .slice A2 ll c2] 25) = W0 at HK HQ1 HDE ⊢
    have p0 := HQ1.out.cell 0
    have p1 := HQ1.out.cell 1
    have p2 := HQ1.out.cell 2
    have p3 := HQ1.out.cell 3
    have p4 := HQ1.out.cell 4
    simp at p0 p1 p2 p3 p4
    go_wp2_with (go_at_call 49; refine HDE.out.mono ?_; rintro e w1 ⟨rfl, hk1⟩; have HK1 := Lib.hid (HK.out.then_ hk1 (fun _ h => h.elim)); clear hk1)
    go_ret2
    exact ⟨none, 0, rfl, Own.nil, HK1.out⟩
  · have HC := Lib.hid (fun W Bc h1 h2 => wr_any x ok (.agg #[.int .i64 c, .int .i64 t, .bool m, .slice A1 bl c1, .slice A2 ll c2]) W Bc h1 h2 HTOT.out)
    unfold WrP at HC
    generalize wrN x = R at HC ⊢
    go_enter Tryd.func29, Tryd.ntmps29
    go_upto_region 1 with fail
    generalize w.alloc (.cells #[.int .i64 c, .int .i64 t, .bool m, .slice A1 bl c1, .slice A2 ll c2] 25) = W0 at HK HQ1 HDE ⊢
    have p0 := HQ1.out.cell 0
    have p1 := HQ1.out.cell 1
    have p2 := HQ1.out.cell 2
    have p3 := HQ1.out.cell 3
    have p4 := HQ1.out.cell 4
    simp at p0 p1 p2 p3 p4
    go_upto_region 4 with (go_at_call 49; refine HDE.out.mono ?_; rintro e w1 ⟨rfl, hk1⟩; have HK1' := Lib.hid hk1; clear hk1)
    have ka : Kp (fun _ => False) w1 (w1.alloc (.cells #[.nilFunc] 58)) := (Kp.refl _ _).alloc _
    have HF := Lib.hid (Blk.new w1 58 #[.nilFunc])
    have hzf : w1.heap.size < (w1.alloc (.cells #[.nilFunc] 58)).heap.size := by rw [World.size_alloc]; omega
    have k1 := HK1'.out.then_ ka (fun _ h => h.elim)
    have HK1 := Lib.hid (HK.out.then_ k1 (fun _ h => h.elim))
    have HQ2 := Lib.hid (HQ1.out.kp k1 (fun h => h))
    have hz1 : w.heap.size < w1.heap.size := by have := HQ1.out.lt; have := HK1'.out.size; omega
    clear ka k1 HK HQ1 HDE HK1' p0 p1 p2 p3 p4
    generalize w1.alloc (.cells #[.nilFunc] 58) = W1 at HF HK1 HQ2 hzf ⊢
    generalize w1.heap.size = bf at HF hzf hz1 ⊢
    have f0 := HF.out.frozen 0
    have g0 := HF.out.cell 0
    simp at g0
    have k2 : Kp (· = bf) W1 (W1.setCell ⟨bf, 0, none⟩ (cloV bf)) := (Kp.refl (· = bf) W1).setCell (p := ⟨bf, 0, none⟩) (.inl rfl) _
    have HF2 := Lib.hid (show Blk (W1.setCell ⟨bf, 0, none⟩ (cloV bf)) bf 58 #[cloV bf] from by
      have := HF.out.set_ 0 (cloV bf)
      simpa using this)
    have HK2 := Lib.hid (HK1.out.then_ k2 (fun i hi => .inr (by omega)))
    have HQ3 := Lib.hid (HQ2.out.kp k2 (by omega))
    clear k2 HF HK1 HQ2
    go_upto_region 5 with fail
    generalize W1.setCell ⟨bf, 0, none⟩ (cloV bf) = W2 at HF2 HK2 HQ3 ⊢
    have g1 := HF2.out.cell 0
    have p0 := HQ3.out.cell 0
    have p1 := HQ3.out.cell 1
    have p2 := HQ3.out.cell 2
    have p3 := HQ3.out.cell 3
    have p4 := HQ3.out.cell 4
    simp at g1 p0 p1 p2 p3 p4
    have HC2 := Lib.hid (HC.out W2 bf (HV.out W2 HK2.out) g1 (HT.out W2 HK2.out))
    clear HC HV HT f0 g0
    go_wp2_with (go_at_call 50; refine HC2.out.mono ?_; rintro e w5 ⟨A7, c7, rfl, ho7, hk5⟩; have HO7 := Lib.hid ho7; have HK5 := Lib.hid hk5; clear ho7 hk5)
    go_ret2
    exact ⟨A7, c7, rfl, HO7.out.mono_ (fun i (hi : W2.heap.size ≤ i) => by have := HK2.out.size; omega), HK2.out.then_ HK5.out (fun _ h => h.elim)⟩

set_option maxRecDepth 100000 in
theorem checkD_any (ok : Nat → Prop) (x : Nd) (v : Value) (w : World) (hv : NdR w ok v x) (htot : totN x ≤ 100000) (tab : TabN w) :
    Calls Tryd.prog 30 #[v] w fun e w' => e = .returned (.int .i64 (writeN x).2) ∧ Kp (fun _ => False) w w' := by
  obtain ⟨A1, c1, A2, c2, rfl, _⟩ := hv.shape
  have hk0 : Kp (fun _ => False) w (w.alloc (.cells #[.int .i64 x.a.c, .int .i64 x.a.t, .bool x.a.m, .slice A1 x.a.b.length c1, .slice A2 x.l.length c2] 25)) := (Kp.refl _ _).alloc _
  have HK := Lib.hid hk0
  have hc := write_any ok x _ _ (hv.kp hk0 (fun _ _ h => h)) htot (tab.kp0 hk0)
  unfold WrP at hc
  have HC := Lib.hid hc
  generalize writeN x = R at HC ⊢
  clear hv hk0 tab hc
  go_enter Tryd.func30, Tryd.ntmps30
  go_wp2_with (go_at_call 29; refine HC.out.mono ?_; rintro e w5 ⟨A7, c7, rfl, _, hk5⟩; have HK5 := Lib.hid (HK.out.then_ hk5 (fun _ h => h.elim)); clear hk5)
  go_ret
  exact ⟨rfl, HK5.out⟩

set_option maxRecDepth 100000 in
set_option maxHeartbeats 3200000 in
theorem rwrite_any (ok : Nat → Prop) (x : Nd) (v : Value) (w : World) (hv : NdR w ok v x) (htot : totN x ≤ 100000) (tab : TabN w) :
    Calls Tryd.prog 16 #[v] w (WrP (writeN x) w) := by
  obtain ⟨A1, c1, A2, c2, rfl, _⟩ := hv.shape
  obtain ⟨c, hc⟩ : ∃ c, x.a.c = c := ⟨_, rfl⟩
  obtain ⟨t, ht⟩ : ∃ t, x.a.t = t := ⟨_, rfl⟩
  obtain ⟨m, hm⟩ : ∃ m, x.a.m = m := ⟨_, rfl⟩
  obtain ⟨bl, hbl⟩ : ∃ bl, x.a.b.length = bl := ⟨_, rfl⟩
  obtain ⟨ll, hll⟩ : ∃ ll, x.l.length = ll := ⟨_, rfl⟩
  rw [hc, ht, hm, hbl, hll] at hv ⊢
  clear hc ht hm hbl hll
  have hk0 : Kp (fun _ => False) w (w.alloc (.cells #[.int .i64 c, .int .i64 t, .bool m, .slice A1 bl c1, .slice A2 ll c2] 25)) := (Kp.refl _ _).alloc _
  have hq1 := Blk.new w 25 #[.int .i64 c, .int .i64 t, .bool m, .slice A1 bl c1, .slice A2 ll c2]
  have hde := rdepth_anyN ok x _ _ 9 (hv.kp hk0 (fun _ _ h => h)) (by decide)
  have HK := Lib.hid hk0
  have HQ1 := Lib.hid hq1
  have HV := Lib.hid (fun W (hk : Kp (fun _ => False) w W) => hv.kp hk (fun _ _ h => h))
  have HT := Lib.hid (fun W (hk : Kp (fun _ => False) w W) => tab.kp0 hk)
  have HTOT := Lib.hid htot
  have hcs : (8 < min (depN x) (9 + 1) ∧ writeN x = ([], 14)) ∨ (min (depN x) (9 + 1) ≤ 8 ∧ writeN x = wrN x) := by
    by_cases h : 8 < depN x
    · exact .inl ⟨by omega, writeN_deep h⟩
    · exact .inr ⟨by omega, writeN_flat h⟩
  have hd10 : min (depN x) (9 + 1) ≤ 10 := by omega
  generalize min (depN x) (9 + 1) = d at hde hcs hd10
  obtain ⟨R, hR⟩ : ∃ R, writeN x = R := ⟨_, rfl⟩
  rw [hR] at hcs ⊢
  have HDE := Lib.hid hde
  clear hv hk0 hq1 tab hde hR htot
  rcases hcs with ⟨hd8, rfl⟩ | ⟨hd8, rfl⟩
  · go_enter Tryd.func16, Tryd.ntmps16
    go_upto_region 1 with fail
    generalize w.alloc (.cells #[.int .i64 c, .int .i64 t, .bool m, .slice A1 bl c1, .slice A2 ll c2] 25) = W0 at HK HQ1 HDE ⊢
    have p0 := HQ1.out.cell 0
    have p1 := HQ1.out.cell 1
    have p2 := HQ1.out.cell 2
    have p3 := HQ1.out.cell 3
    have p4 := HQ1.out.cell 4
    simp at p0 p1 p2 p3 p4
    go_wp2_with (go_at_call 31; refine HDE.out.mono ?_; rintro e w1 ⟨rfl, hk1⟩; have HK1 := Lib.hid (HK.out.then_ hk1 (fun _ h => h.elim)); clear hk1)
    go_ret2
    exact ⟨none, 0, rfl, Own.nil, HK1.out⟩
  · have HC := Lib.hid (fun W h1 h2 => rwr_any x ok (.agg #[.int .i64 c, .int .i64 t, .bool m, .slice A1 bl c1, .slice A2 ll c2]) W h1 HTOT.out h2)
    unfold WrP at HC
    generalize wrN x = R at HC ⊢
    go_enter Tryd.func16, Tryd.ntmps16
    go_upto_region 1 with fail
    generalize w.alloc (.cells #[.int .i64 c, .int .i64 t, .bool m, .slice A1 bl c1, .slice A2 ll c2] 25) = W0 at HK HQ1 HDE ⊢
    have p0 := HQ1.out.cell 0
    have p1 := HQ1.out.cell 1
    have p2 := HQ1.out.cell 2
    have p3 := HQ1.out.cell 3
    have p4 := HQ1.out.cell 4
    simp at p0 p1 p2 p3 p4
    go_upto_region 3 with (go_at_call 31; refine HDE.out.mono ?_; rintro e w1 ⟨rfl, hk1⟩; have HK1' := Lib.hid hk1; clear hk1)
    have HK1 := Lib.hid (HK.out.then_ HK1'.out (fun _ h => h.elim))
    have HQ2 := Lib.hid (HQ1.out.kp HK1'.out (fun h => h))
    clear HK HQ1 HDE HK1' p0 p1 p2 p3 p4
    have p0 := HQ2.out.cell 0
    have p1 := HQ2.out.cell 1
    have p2 := HQ2.out.cell 2
    have p3 := HQ2.out.cell 3
    have p4 := HQ2.out.cell 4
    simp at p0 p1 p2 p3 p4
    have HC2 := Lib.hid (HC.out w1 (HV.out w1 HK1.out) (HT.out w1 HK1.out))
    clear HC HV HT
    go_wp2_with (go_at_call 34; refine HC2.out.mono ?_; rintro e w5 ⟨A7, c7, rfl, ho7, hk5⟩; have HO7 := Lib.hid ho7; have HK5 := Lib.hid hk5; clear ho7 hk5)
    go_ret2
    exact ⟨A7, c7, rfl, HO7.out.mono_ (fun i (hi : w1.heap.size ≤ i) => by have := HK1.out.size; omega), HK1.out.then_ HK5.out (fun _ h => h.elim)⟩
end Go.Proofs.YtgjbfgkcbehjnaaDoor

namespace Go.Proofs.YtgjbfgkcbehjnaaDoor
open Go.RowKit

theorem tlN_one {W : World} {ok : Nat → Prop} {g : Nat} {t : TypeId} {cs : Array Value} (hb : Blk W g t cs) (hok : ok g) (x : Nd) (l : List Value) (hx : TR NHd 5 W ok x l) (he : cs.toList = l) : TL NHd 5 W ok [x] (some ⟨g, 0, none⟩) := by
  refine fun _ => ⟨g, 0, rfl, hok, ?_⟩
  rw [TRs, TRs]
  refine ⟨⟨_, hx, fun j u hu => ?_⟩, trivial⟩
  rw [hb.cell, Nat.zero_add, ← Array.getElem?_toList, he]
  exact hu
theorem tlN_two {W : World} {ok : Nat → Prop} {g : Nat} {t : TypeId} {cs : Array Value} (hb : Blk W g t cs) (hok : ok g) (x y : Nd) (l k : List Value) (hx : TR NHd 5 W ok x l) (hy : TR NHd 5 W ok y k) (hm : l.length = 5) (he : cs.toList = l ++ k) : TL NHd 5 W ok [x, y] (some ⟨g, 0, none⟩) := by
  refine fun _ => ⟨g, 0, rfl, hok, ?_⟩
  rw [TRs, TRs, TRs]
  refine ⟨⟨_, hx, fun j u hu => ?_⟩, ⟨_, hy, fun j u hu => ?_⟩, trivial⟩
  · rw [hb.cell, Nat.zero_add, ← Array.getElem?_toList, he]
    rw [List.getElem?_append_left (by rcases Nat.lt_or_ge j l.length with h | h; exact h; rw [List.getElem?_eq_none h] at hu; cases hu)]
    exact hu
  · rw [hb.cell, Nat.zero_add, ← Array.getElem?_toList, he, List.getElem?_append_right (by omega), show 5 + j - l.length = j from by omega]
    exact hu
theorem NdR.tr5 {w : World} {ok : Nat → Prop} {c t : Int} {m : Bool} {B : List UInt8} {l : List Nd} {A1 A2 : Option Addr} {n1 c1 n2 c2 : Nat} (h : NdR w ok (.agg #[.int .i64 c, .int .i64 t, .bool m, .slice A1 n1 c1, .slice A2 n2 c2]) (.mk ⟨c, t, m, B⟩ l)) : TR NHd 5 w (fun _ => True) (.mk ⟨c, t, m, B⟩ l) [.int .i64 c, .int .i64 t, .bool m, .slice A1 n1 c1, .slice A2 n2 c2] := by
  obtain ⟨bv, sv, e, h1⟩ := (h.mono (ok' := fun _ => True) (fun _ _ => trivial)).tr
  simp only [RT.a, Value.agg.injEq, Array.mk.injEq, List.cons.injEq, and_true, true_and] at e
  obtain ⟨rfl, rfl⟩ := e
  exact h1
theorem NsR.one {w : World} {g : Nat} {t : TypeId} {vs : List Value} {x : Nd} (hb : Blk w g t vs.toArray) (hx : TR NHd 5 w (fun _ => True) x vs) : NsR w (fun _ => True) (.slice (some ⟨g, 0, none⟩) 1 1) [x] :=
  ⟨_, _, rfl, Nat.le_refl _, by simp, tlN_one hb trivial x vs hx (by simp)⟩
theorem NsR.two {w : World} {g : Nat} {t : TypeId} {vs us : List Value} {x y : Nd} (hb : Blk w g t (vs ++ us).toArray) (hx : TR NHd 5 w (fun _ => True) x vs) (hy : TR NHd 5 w (fun _ => True) y us) (hm : vs.length = 5) : NsR w (fun _ => True) (.slice (some ⟨g, 0, none⟩) 2 2) [x, y] :=
  ⟨_, _, rfl, Nat.le_refl _, by simp, tlN_two hb trivial x y vs us hx hy hm (by simp)⟩
set_option maxRecDepth 100000 in
set_option maxHeartbeats 3200000 in
theorem dsames_walk (w : World) (tab : TabN w) (v : Value) (x : Nd) (hv : NdR w (· < w.heap.size) v x) (u : Value) (y : Nd) (hu : NdR w (· < w.heap.size) u y) :
    Calls Tryd.prog 6 #[v, u] w fun e w' => e = .returned (.bool true) ∧ Below w.heap.size w w' := by
  refine Calls.mono (R := fun e w' => e = .returned (.bool true) ∧ Kp (fun _ => False) w w') ?_ fun _ _ ⟨h1, h2⟩ => ⟨h1, h2.below⟩
  obtain ⟨⟨c, t, m, B⟩, l⟩ := x
  obtain ⟨⟨c', t', m', B'⟩, l'⟩ := y
  obtain ⟨A1, c1, A2, c2, rfl, _⟩ := hv.parts
  obtain ⟨A3, c3, A4, c4, rfl, _⟩ := hu.parts
  have ka : Kp (fun _ => False) w ((w.alloc (.cells #[.int .i64 c, .int .i64 t, .bool m, .slice A1 B.length c1, .slice A2 l.length c2] 25)).alloc (.cells #[.int .i64 c', .int .i64 t', .bool m', .slice A3 B'.length c3, .slice A4 l'.length c4] 25)) := ((Kp.refl _ _).alloc _).alloc _
  have hq1 := (Blk.new w 25 #[.int .i64 c, .int .i64 t, .bool m, .slice A1 B.length c1, .slice A2 l.length c2]).alloc (.cells #[.int .i64 c', .int .i64 t', .bool m', .slice A3 B'.length c3, .slice A4 l'.length c4] 25)
  have hq2 := Blk.new (w.alloc (.cells #[.int .i64 c, .int .i64 t, .bool m, .slice A1 B.length c1, .slice A2 l.length c2] 25)) 25 #[.int .i64 c', .int .i64 t', .bool m', .slice A3 B'.length c3, .slice A4 l'.length c4]
  rw [World.size_alloc] at hq2
  have HT := Lib.hid (fun W (hk : Kp (fun _ => False) w W) => alive11 W (tab.kp0 hk))
  have HV := Lib.hid (fun W (hk : Kp (fun _ => False) w W) => hv.kp hk (fun _ _ h => h))
  have HU := Lib.hid (fun W (hk : Kp (fun _ => False) w W) => hu.kp hk (fun _ _ h => h))
  have HKA := Lib.hid ka
  have HQ1 := Lib.hid hq1
  have HQ2 := Lib.hid hq2
  have HGR := Lib.hid (fun W (hk : Kp (fun _ => False) w W) => great_anyN (fun _ => True) (.slice (some ⟨W.heap.size, 0, none⟩) 2 2) [.mk ⟨c, t, m, B⟩ l, .mk ⟨c', t', m', B'⟩ l'] (W.alloc (.cells #[.int .i64 c, .int .i64 t, .bool m, .slice A1 B.length c1, .slice A2 l.length c2, .int .i64 c', .int .i64 t', .bool m', .slice A3 B'.length c3, .slice A4 l'.length c4] 25))
    (NsR.two (vs := [.int .i64 c, .int .i64 t, .bool m, .slice A1 B.length c1, .slice A2 l.length c2]) (us := [.int .i64 c', .int .i64 t', .bool m', .slice A3 B'.length c3, .slice A4 l'.length c4]) (Blk.new W 25 _) (TR.kp_ NHd_kp ((Kp.refl (fun _ => False) W).alloc _) (fun _ _ h => h) (fun _ h => h) _ _ (hv.kp hk (fun _ _ h => h)).tr5) (TR.kp_ NHd_kp ((Kp.refl (fun _ => False) W).alloc _) (fun _ _ h => h) (fun _ h => h) _ _ (hu.kp hk (fun _ _ h => h)).tr5) rfl))
  generalize greatN [.mk ⟨c, t, m, B⟩ l, .mk ⟨c', t', m', B'⟩ l'] = gr at HGR
  clear ka hq1 hq2 tab hv hu
  go_enter Tryd.func6, Tryd.ntmps6
  go_upto_region 1 with fail
  generalize (w.alloc (.cells #[.int .i64 c, .int .i64 t, .bool m, .slice A1 B.length c1, .slice A2 l.length c2] 25)).alloc (.cells #[.int .i64 c', .int .i64 t', .bool m', .slice A3 B'.length c3, .slice A4 l'.length c4] 25) = W0 at HKA HQ1 HQ2 ⊢
  have HA0 := Lib.hid (HT.out _ HKA.out)
  go_wp2_with fail
  refine HA0.out.mono ?_
  rintro e w1 ⟨rfl, hk1⟩
  have HK1 := Lib.hid (HKA.out.then_ hk1 (fun _ h => h.elim))
  have HQ11 := Lib.hid (HQ1.out.kp hk1 (fun h => h))
  have HQ21 := Lib.hid (HQ2.out.kp hk1 (fun h => h))
  have HG1 := Lib.hid (HGR.out _ HK1.out)
  clear hk1 HA0 HKA HQ1 HQ2 HGR
  have p0 := HQ11.out.cell 0
  have p1 := HQ11.out.cell 1
  have p2 := HQ11.out.cell 2
  have p3 := HQ11.out.cell 3
  have p4 := HQ11.out.cell 4
  simp at p0 p1 p2 p3 p4
  have q0 := HQ21.out.cell 0
  have q1 := HQ21.out.cell 1
  have q2 := HQ21.out.cell 2
  have q3 := HQ21.out.cell 3
  have q4 := HQ21.out.cell 4
  simp at q0 q1 q2 q3 q4
  go_wp2_with fail
  refine HG1.out.mono ?_
  rintro e w2 ⟨rfl, hk2⟩
  have k2 : Kp (fun _ => False) w1 w2 := ((Kp.refl (fun _ => False) w1).alloc _).then_ hk2 (fun _ h => h.elim)
  have HK2 := Lib.hid (HK1.out.then_ k2 (fun _ h => h.elim))
  have HQ12 := Lib.hid (HQ11.out.kp k2 (fun h => h))
  have HQ22 := Lib.hid (HQ21.out.kp k2 (fun h => h))
  clear k2 hk2 HG1 HQ11 HQ21 HK1 p0 q0 p1 q1 p2 q2 p3 q3 p4 q4
  cases gr with
  | true =>
    have HA2 := Lib.hid (HT.out _ HK2.out)
    simp only [if_true]
    go_wp2_with fail
    refine HA2.out.mono ?_
    rintro e w3 ⟨rfl, hk3⟩
    have HK3 := Lib.hid (HK2.out.then_ hk3 (fun _ h => h.elim))
    clear hk3
    go_wp2_with fail
    go_ret
    exact ⟨rfl, HK3.out⟩
  | false =>
    have HCE := Lib.hid (fun W (hk : Kp (fun _ => False) w2 W) => show (fun w' : World => w'.cell? ⟨w.heap.size, 0, none⟩ = some (.int .i64 c) ∧ w'.cell? ⟨w.heap.size, 1, none⟩ = some (.int .i64 t) ∧ w'.cell? ⟨w.heap.size, 2, none⟩ = some (.bool m) ∧ w'.cell? ⟨w.heap.size, 3, none⟩ = some (.slice A1 B.length c1) ∧ w'.cell? ⟨w.heap.size, 4, none⟩ = some (.slice A2 l.length c2) ∧ w'.cell? ⟨w.heap.size + 1, 0, none⟩ = some (.int .i64 c') ∧ w'.cell? ⟨w.heap.size + 1, 1, none⟩ = some (.int .i64 t') ∧ w'.cell? ⟨w.heap.size + 1, 2, none⟩ = some (.bool m') ∧ w'.cell? ⟨w.heap.size + 1, 3, none⟩ = some (.slice A3 B'.length c3) ∧ w'.cell? ⟨w.heap.size + 1, 4, none⟩ = some (.slice A4 l'.length c4)) W from by
      have h1 := HQ12.out.kp hk (fun h => h)
      have h2 := HQ22.out.kp hk (fun h => h)
      exact ⟨h1.cell 0, h1.cell 1, h1.cell 2, h1.cell 3, h1.cell 4, h2.cell 0, h2.cell 1, h2.cell 2, h2.cell 3, h2.cell 4⟩)
    have HKZ := Lib.hid (Kp.refl (fun _ => False) w2)
    obtain ⟨r, hr⟩ : ∃ r, sameN (.mk ⟨c, t, m, B⟩ l) (.mk ⟨c', t', m', B'⟩ l') = r := ⟨_, rfl⟩
    have HSM := Lib.hid (show ∀ (v u : Value) (d : Bool), ((v = .agg #[.int .i64 c, .int .i64 t, .bool m, .slice A1 B.length c1, .slice A2 l.length c2] ∧ u = .agg #[.int .i64 c', .int .i64 t', .bool m', .slice A3 B'.length c3, .slice A4 l'.length c4] ∧ d = r) ∨ (v = .agg #[.int .i64 c', .int .i64 t', .bool m', .slice A3 B'.length c3, .slice A4 l'.length c4] ∧ u = .agg #[.int .i64 c, .int .i64 t, .bool m, .slice A1 B.length c1, .slice A2 l.length c2] ∧ d = r) ∨ (v = .agg #[.int .i64 c, .int .i64 t, .bool m, .slice A1 B.length c1, .slice A2 l.length c2] ∧ u = .agg #[.int .i64 c, .int .i64 t, .bool m, .slice A1 B.length c1, .slice A2 l.length c2] ∧ d = true)) → ∀ W, Kp (fun _ => False) w2 W →
        Calls Tryd.prog 26 #[v, u] W fun e w' => e = .returned (.bool d) ∧ Kp (fun _ => False) W w' from by
      intro v u d h W hk
      have hV := HV.out W (HK2.out.then_ hk (fun _ h => h.elim))
      have hU := HU.out W (HK2.out.then_ hk (fun _ h => h.elim))
      rcases h with ⟨rfl, rfl, rfl⟩ | ⟨rfl, rfl, rfl⟩ | ⟨rfl, rfl, rfl⟩
      · rw [← hr]
        exact same_anyN _ _ _ _ _ _ W hV hU
      · rw [← hr, sameN_comm]
        exact same_anyN _ _ _ _ _ _ W hU hV
      · have h := same_anyN _ _ _ _ _ _ W hV hV
        rw [sameN_refl] at h
        exact h)
    have HRS := Lib.hid (fun W (hk : Kp (fun _ => False) w2 W) => by
      have h := rsame_anyN _ _ _ _ _ _ W (HV.out W (HK2.out.then_ hk (fun _ h => h.elim))) (HU.out W (HK2.out.then_ hk (fun _ h => h.elim)))
      rw [hr] at h
      exact h)
    have hrr : (r == r) = true := by simp
    clear hr HQ12 HQ22 HT HV HU
    simp only [if_neg (show ¬ (false = true) by decide)]
    go_upto_region 3 with fail
    go_cut [4] (fun cv wx => cv = .bool true ∧ Kp (fun _ => False) w2 wx)
    case first =>
      go_region_held3 (fun w' : World => w'.cell? ⟨w.heap.size, 0, none⟩ = some (.int .i64 c) ∧ w'.cell? ⟨w.heap.size, 1, none⟩ = some (.int .i64 t) ∧ w'.cell? ⟨w.heap.size, 2, none⟩ = some (.bool m) ∧ w'.cell? ⟨w.heap.size, 3, none⟩ = some (.slice A1 B.length c1) ∧ w'.cell? ⟨w.heap.size, 4, none⟩ = some (.slice A2 l.length c2) ∧ w'.cell? ⟨w.heap.size + 1, 0, none⟩ = some (.int .i64 c') ∧ w'.cell? ⟨w.heap.size + 1, 1, none⟩ = some (.int .i64 t') ∧ w'.cell? ⟨w.heap.size + 1, 2, none⟩ = some (.bool m') ∧ w'.cell? ⟨w.heap.size + 1, 3, none⟩ = some (.slice A3 B'.length c3) ∧ w'.cell? ⟨w.heap.size + 1, 4, none⟩ = some (.slice A4 l'.length c4)) (first | exact HCE.out _ HKZ.out | exact HCE.out _ HKZ.out.drew) (first
        | (go_at_call 23; refine (HRS.out _ (by first | exact HKZ.out | exact HKZ.out.drew)).mono ?_; rintro e w5 ⟨rfl, hk5⟩; have hq := Kp.then_ (a := w2) (S := fun _ => False) (by first | exact HKZ.out | exact HKZ.out.drew) hk5 (fun _ h => h.elim); clear HKZ; have HKZ := Lib.hid hq; clear hq hk5)
        | (go_at_call 26; refine (HSM.out _ _ _ (by first | exact .inl ⟨rfl, rfl, rfl⟩ | exact .inr (.inl ⟨rfl, rfl, rfl⟩) | exact .inr (.inr ⟨rfl, rfl, rfl⟩)) _ (by first | exact HKZ.out | exact HKZ.out.drew)).mono ?_; rintro e w5 ⟨rfl, hk5⟩; have hq := Kp.then_ (a := w2) (S := fun _ => False) (by first | exact HKZ.out | exact HKZ.out.drew) hk5 (fun _ h => h.elim); clear HKZ; have HKZ := Lib.hid hq; clear hq hk5))
      go_wp2_with fail
      go_meet
      exact ⟨rfl, HKZ.out⟩
    case rest =>
    obtain ⟨rfl, hkc⟩ := hcut
    have HK9 := Lib.hid (HK2.out.then_ hkc (fun _ h => h.elim))
    clear hkc HCE HSM HRS HKZ
    go_wp2_with fail
    go_ret
    exact ⟨rfl, HK9.out⟩
end Go.Proofs.YtgjbfgkcbehjnaaDoor

namespace Go.Proofs.YtgjbfgkcbehjnaaDoor
open Go.RowKit

theorem tabN {W : World} {laid : List (String × DataW Unit)} (h : laidMetH Tryd.prog laid W)
    (hf : (laid.filter fun x => x.1 == "passepartout/dertype.days") = [("passepartout/dertype.days", Lib.tabData .i64 daysT)])
    (hg : (laid.filter fun x => x.1 == "passepartout/dertag.plain" || x.1 == "passepartout/dertag.made") = [("passepartout/dertag.plain", Lib.tabData .i64 plainT), ("passepartout/dertag.made", Lib.tabData .i64 madeT)]) : TabN W := by
  refine ⟨tab09 ?_, tab10 h hf⟩
  rw [← hg]
  exact h.filter _
set_option maxRecDepth 100000 in
set_option maxHeartbeats 3200000 in
theorem dreads_walk (w : World) (tab : TabN w) (v : Value) (l : List UInt8) (hv : BR w (· < w.heap.size) v l) (hl : l.length ≤ 140737488351232) (n : Int) (_hn : (Lit.int .i64 n).wf = true) :
    Calls Tryd.prog 4 #[v, .int .i64 n] w fun e w' => e = .returned (.bool true) ∧ Below w.heap.size w w' := by
  refine Calls.mono (R := fun e w' => e = .returned (.bool true) ∧ Kp (fun _ => False) w w') ?_ fun _ _ ⟨h1, h2⟩ => ⟨h1, h2.below⟩
  obtain ⟨A, cp, rfl, hcp, _⟩ := id hv
  have HAL := Lib.hid (alive11 w tab)
  have HT := Lib.hid (fun W (hk : Kp (fun _ => False) w W) => tab.kp0 hk)
  have HV := Lib.hid (fun W (hk : Kp (fun _ => False) w W) => hv.kp hk (fun _ _ h => h))
  have HL2 := Lib.hid (fun W (hk : Kp (fun _ => False) w W) => alive11 W (tab.kp0 hk))
  obtain ⟨j, hj, hjl⟩ := mod_base n
  clear tab hv
  by_cases hg : 3000 < l.length
  · have hgI : decide ((3000 : Int) < (l.length : Int)) = true := by simp; omega
    go_enter Tryd.func4, Tryd.ntmps4
    go_upto_region 2 with (go_at_call 20; refine HAL.out.mono ?_; rintro e w1 ⟨rfl, hk1⟩; have HK1 := Lib.hid hk1; clear hk1)
    have HL3 := Lib.hid (HL2.out _ HK1.out)
    go_wp2_with (go_at_call 20; refine HL3.out.mono ?_; rintro e w2 ⟨rfl, hk2⟩; have HK2 := Lib.hid (HK1.out.then_ hk2 (fun _ h => h.elim)); clear hk2)
    go_ret
    exact ⟨rfl, HK2.out⟩
  · have hgI : decide ((3000 : Int) < (l.length : Int)) = false := by simp; omega
    have hg2 : l.length ≤ 3000 := by omega
    clear hg
    go_enter Tryd.func4, Tryd.ntmps4
    go_upto_region 4 with (go_at_call 20; refine HAL.out.mono ?_; rintro e w1 ⟨rfl, hk1⟩; have HK1 := Lib.hid hk1; clear hk1)
    obtain ⟨xx, kk, er, hR⟩ : ∃ x k er, readN l = (x, k, er) := ⟨_, _, _, rfl⟩
    have hci := readD_any _ (.slice A l.length cp) l (j : Int) w1 (HV.out _ HK1.out) (HT.out _ HK1.out) (by omega) (by omega) (by omega)
    unfold ReadP at hci
    rw [hR] at hci
    have hkl : kk ≤ l.length := by
      have h := oneN_sound 8 l
      rw [readN] at hR
      cases h8 : oneN 8 l with
      | bad a e =>
        rw [h8] at hR h
        have := (h.2 _ _ rfl).1
        simp only [Prod.mk.injEq] at hR
        omega
      | got x r =>
        rw [h8] at hR
        simp only at hR
        split at hR
        · simp only [Prod.mk.injEq] at hR; omega
        · simp only [Prod.mk.injEq] at hR; omega
    have HC := Lib.hid hci
    clear hci
    go_upto_region 5 with (go_at_call 21; refine HC.out.mono ?_; rintro e w2 ⟨u, rfl, hvx, hk2⟩; obtain ⟨A1, c1, A2, c2, rfl, _⟩ := hvx.shape; have HVX := Lib.hid hvx; have HK2 := Lib.hid (HK1.out.then_ hk2 (fun _ h => h.elim)); clear hvx hk2)
    clear HC HK1 HAL HL2
    generalize xx = x at *
    have ka : Kp (fun _ => False) w2 (w2.alloc (.cells #[.int .i64 x.a.c, .int .i64 x.a.t, .bool x.a.m, .slice A1 x.a.b.length c1, .slice A2 x.l.length c2] 25)) := (Kp.refl _ _).alloc _
    have HX3 := Lib.hid (Blk.new w2 25 #[.int .i64 x.a.c, .int .i64 x.a.t, .bool x.a.m, .slice A1 x.a.b.length c1, .slice A2 x.l.length c2])
    have HK3 := Lib.hid (HK2.out.then_ ka (fun _ h => h.elim))
    have HV3 := Lib.hid ((HVX.out.kp ka (fun _ _ h => h)).mono (ok' := fun _ => True) (fun _ _ => trivial))
    clear ka HVX HK2
    generalize w2.alloc (.cells #[.int .i64 x.a.c, .int .i64 x.a.t, .bool x.a.m, .slice A1 x.a.b.length c1, .slice A2 x.l.length c2] 25) = W3 at HX3 HK3 HV3 ⊢
    generalize w2.heap.size = bx at HX3 ⊢
    have hci := rread11_any _ (.slice A l.length cp) l W3 (HV.out _ HK3.out) (by omega)
    unfold RReadP at hci
    rw [hR] at hci
    have HC := Lib.hid hci
    clear hci
    go_upto_region 6 with (go_at_call 22; refine HC.out.mono ?_; rintro e w4 ⟨u, rfl, hvx, hk4⟩; obtain ⟨A3, c3, A4, c4, rfl, _⟩ := hvx.shape; have HVX := Lib.hid hvx; have HK4' := Lib.hid hk4; clear hvx hk4)
    have ka : Kp (fun _ => False) w4 (w4.alloc (.cells #[.int .i64 x.a.c, .int .i64 x.a.t, .bool x.a.m, .slice A3 x.a.b.length c3, .slice A4 x.l.length c4] 25)) := (Kp.refl _ _).alloc _
    have HX5 := Lib.hid (Blk.new w4 25 #[.int .i64 x.a.c, .int .i64 x.a.t, .bool x.a.m, .slice A3 x.a.b.length c3, .slice A4 x.l.length c4])
    have HK5 := Lib.hid ((HK3.out.then_ HK4'.out (fun _ h => h.elim)).then_ ka (fun _ h => h.elim))
    have HX35 := Lib.hid ((HX3.out.kp HK4'.out (fun h => h)).kp ka (fun h => h))
    have HV35 := Lib.hid ((HV3.out.kp HK4'.out (fun _ _ h => h)).kp ka (fun _ _ h => h))
    have HV5 := Lib.hid ((HVX.out.kp ka (fun _ _ h => h)).mono (ok' := fun _ => True) (fun _ _ => trivial))
    clear ka HVX HK4' HK3 HX3 HV3 HC HV HT
    generalize w4.alloc (.cells #[.int .i64 x.a.c, .int .i64 x.a.t, .bool x.a.m, .slice A3 x.a.b.length c3, .slice A4 x.l.length c4] 25) = W5 at HX5 HK5 HX35 HV35 HV5 ⊢
    generalize w4.heap.size = by_ at HX5 ⊢
    have p0 := HX35.out.cell 0
    have p1 := HX35.out.cell 1
    have p2 := HX35.out.cell 2
    have p3 := HX35.out.cell 3
    have p4 := HX35.out.cell 4
    simp at p0 p1 p2 p3 p4
    have q0 := HX5.out.cell 0
    have q1 := HX5.out.cell 1
    have q2 := HX5.out.cell 2
    have q3 := HX5.out.cell 3
    have q4 := HX5.out.cell 4
    simp at q0 q1 q2 q3 q4
    have hsm := rsame_anyN _ _ x x _ _ W5 HV35.out HV5.out
    rw [sameN_refl] at hsm
    have HC := Lib.hid hsm
    have he1 : (((j : Int) + (kk : Int)) == ((j : Int) + (kk : Int))) = true := by simp
    have he2 : (er == er) = true := by simp
    clear hsm HV35 HV5 HX35 HX5 hR
    go_wp2_with (go_at_call 23; refine HC.out.mono ?_; rintro e w6 ⟨rfl, hk6⟩; have HK6 := Lib.hid (HK5.out.then_ hk6 (fun _ h => h.elim)); clear hk6)
    go_ret
    exact ⟨rfl, HK6.out⟩
end Go.Proofs.YtgjbfgkcbehjnaaDoor

namespace Go.Proofs.YtgjbfgkcbehjnaaDoor
open Go.ChangeShapes Go.WideShapes Go.ChangeAt Go.RowKit Go.Deep

section
variable {H : Type} {enc : TypeId × Value → H} {P : Program} {w : World} {sp : Nat → Bool} {held : Bool}

theorem weights_agg {t : TypeId} {fs : Array Field} {ds : List (DataW H)} (ht : P.underlying t = some (.struct fs)) (h : ((DataW.agg ds).weights P t).all (· ≤ reachBytes) = true) {i : Nat} {f : Field} {d : DataW H} (hf : fs[i]? = some f) (hd : ds[i]? = some d) :
    (d.weights P f.type).all (· ≤ reachBytes) = true := by
  rw [DataW.weights, ht] at h
  refine List.all_eq_true.2 fun n hn => List.all_eq_true.1 h n ?_
  exact DataW.weights_mem_each (ts := fs.toList.map (·.type)) (j := i) (t := f.type) (by simp [hf]) hd n hn
theorem weights_mem_all {e : TypeId} : ∀ {ds : List (DataW H)} {i : Nat} {d : DataW H}, ds[i]? = some d → ∀ n ∈ d.weights P e, n ∈ DataW.weightsAll P e ds
  | d0 :: ds, 0, d, hd, n, hn => by
    simp only [List.getElem?_cons_zero, Option.some.injEq] at hd
    subst hd
    simp only [DataW.weightsAll, List.mem_append]
    exact .inl hn
  | d0 :: ds, i + 1, d, hd, n, hn => by
    simp only [List.getElem?_cons_succ] at hd
    simp only [DataW.weightsAll, List.mem_append]
    exact .inr (weights_mem_all hd n hn)
  | [], _, _, hd, _, _ => by simp at hd
theorem weights_elem {t e : TypeId} {es rest : List (DataW H)} (ht : P.underlying t = some (.slice e)) (h : ((DataW.slice es rest).weights P t).all (· ≤ reachBytes) = true) {i : Nat} {d : DataW H} (hd : es[i]? = some d) :
    (d.weights P e).all (· ≤ reachBytes) = true := by
  rw [DataW.weights, ht] at h
  refine List.all_eq_true.2 fun n hn => List.all_eq_true.1 h n ?_
  simp only [List.mem_cons, List.mem_append]
  exact .inr (.inl (weights_mem_all hd n hn))
theorem weights_len {t e : TypeId} {es rest : List (DataW H)} (ht : P.underlying t = some (.slice e)) (h : ((DataW.slice es rest).weights P t).all (· ≤ reachBytes) = true) : es.length * P.bytesOf e ≤ 140737488351232 := by
  have h1 := List.all_eq_true.1 h ((es.length + rest.length) * P.bytesOf e) (by rw [DataW.weights, ht]; simp)
  have h2 := Nat.mul_le_mul_right (P.bytesOf e) (Nat.le_add_right es.length rest.length)
  have h3 : reachBytes = 140737488351232 := by decide
  simp only [decide_eq_true_eq] at h1
  omega

/-- What a tree's type must be. -/
structure TreeType (P : Program) (t ts : TypeId) (fs : Array Field) (n : Nat) : Prop where
  ht : P.underlying t = some (.struct fs)
  hone : oneCellFields P fs = true
  hC : P.cellsOf t = n + 1
  hn : fs.size = n + 1
  hlast : (fs[n]?).map (·.type) = some ts
  hts : P.underlying ts = some (.slice t)
  hB : 1 ≤ P.bytesOf t

/-- How the fields ahead of the slice are opened. -/
def HeadOpen {α : Type} (enc : TypeId × Value → H) (P : Program) (w : World) (sp : Nat → Bool) (held : Bool) (fs : Array Field) (n : Nat) (Hd : Head α) : Prop :=
  ∀ (vs : List Value) (ds : List (DataW H)), vs.length = n → (∀ i, i < n → ∃ f v d ps fuel, fs[i]? = some f ∧ vs[i]? = some v ∧ ds[i]? = some d ∧ DataW.trod enc P w 0 sp held fuel f.type [v] = some (d, ps) ∧ (d.weights P f.type).all (· ≤ reachBytes) = true) →
    ∃ a, Hd w (· < w.heap.size) a vs

theorem open_tree_ {α : Type} {Hd : Head α} {t ts : TypeId} {fs : Array Field} {n : Nat} (T : TreeType P t ts fs n) (hH : HeadOpen enc P w sp held fs n Hd) :
    ∀ (fuel : Nat),
      (∀ (cs : List Value) (d : DataW H) (ps : List MemPlace), DataW.trod enc P w 0 sp held fuel t cs = some (d, ps) → (d.weights P t).all (· ≤ reachBytes) = true → ∃ x : RT α, TR Hd (n + 1) w (· < w.heap.size) x cs) ∧
      (∀ (cs : List Value) (d : DataW H) (ps : List MemPlace), DataW.trod enc P w 0 sp held fuel ts cs = some (d, ps) → (d.weights P ts).all (· ≤ reachBytes) = true →
        ∃ (l : List (RT α)) (A : Option Addr) (c : Nat), cs = [.slice A l.length c] ∧ l.length ≤ c ∧ l.length ≤ 140737488355328 ∧ TL Hd (n + 1) w (· < w.heap.size) l A) := by
  intro fuel
  induction fuel with
  | zero =>
    constructor <;> intro cs d ps h <;> simp [DataW.trod] at h
  | succ fuel ih =>
    constructor
    · intro cs d ps h hw
      obtain ⟨ys, m, hm, hx, hlen, hyl, hf⟩ := DataW.trod_struct T.ht h
      obtain rfl : m = fuel := by omega
      simp only [Prod.mk.injEq] at hx
      obtain ⟨rfl, _⟩ := hx
      rw [T.hC] at hlen
      have field : ∀ i (hi : i < n + 1), ∃ f v y, fs[i]? = some f ∧ cs[i]? = some v ∧ ys[i]? = some y ∧ DataW.trod enc P w 0 sp held m f.type [v] = some y := by
        intro i hi
        have hfi : fs[i]? = some (fs[i]'(by rw [T.hn]; omega)) := Array.getElem?_eq_getElem _
        obtain ⟨ho, hk⟩ := hone_of T.hone i _ hfi
        have h1 := hf i _ hfi
        rw [ho, hk] at h1
        have hone' : (cs.drop i).take 1 = [cs[i]'(by omega)] := by
          rw [List.drop_eq_getElem_cons (by omega)]
          rfl
        rw [hone'] at h1
        have hys : ys[i]? = some (ys[i]'(by rw [hyl, T.hn]; omega)) := List.getElem?_eq_getElem _
        exact ⟨_, _, _, hfi, List.getElem?_eq_getElem (by omega), hys, h1.trans hys⟩
      obtain ⟨fl, vl, yl, hfl, hvl, hyl', htl⟩ := field n (by omega)
      have htt : fl.type = ts := by
        have := T.hlast
        rw [hfl] at this
        simpa using this
      rw [htt] at htl
      have hwl := weights_agg T.ht hw hfl (d := yl.1) (by simp [hyl'])
      rw [htt] at hwl
      obtain ⟨l, A, c, e1, e2, e3, e4⟩ := ih.2 [vl] yl.1 yl.2 (by rw [htl]) hwl
      simp only [List.cons.injEq, and_true] at e1
      subst e1
      obtain ⟨a, ha⟩ := hH (cs.take n) (ys.map (·.1)) (by rw [List.length_take]; omega) (fun i hi => by
        obtain ⟨f, v, y, h1, h2, h3, h4⟩ := field i (by omega)
        exact ⟨f, v, y.1, y.2, m, h1, by rw [List.getElem?_take, if_pos hi, h2], by simp [h3], by rw [h4], weights_agg T.ht hw h1 (by simp [h3])⟩)
      refine ⟨.mk a l, (TR_def _ _ _ _ _ _).2 ⟨cs.take n, A, c, ?_, by rw [List.length_take]; omega, ha, e2, e3, e4⟩⟩
      have hcl : cs = cs.take n ++ cs.drop n := (List.take_append_drop n cs).symm
      have hdr : cs.drop n = [.slice A l.length c] := by
        have hlt : n < cs.length := by omega
        rw [List.drop_eq_getElem_cons hlt, List.drop_of_length_le (by omega)]
        rw [List.getElem?_eq_getElem hlt] at hvl
        injection hvl with hvl
        rw [hvl]
      rw [hdr] at hcl
      exact hcl
    · intro cs d ps h hw
      rcases DataW.trod_slice T.hts h with ⟨rfl, hx⟩ | ⟨x, len, cap, es, rest, m, hm, rfl, hx, _, hlc, hcm, hel, hat, _, _⟩
      · exact ⟨[], none, 0, rfl, by simp, by simp, fun h => by simp at h⟩
      · obtain rfl : m = fuel := by omega
        simp only [Prod.mk.injEq] at hx
        obtain ⟨rfl, _⟩ := hx
        have hw2 := weights_len T.hts hw
        rw [List.length_map, hel] at hw2
        have hlen2 : len ≤ 140737488355328 := by
          have := Nat.mul_le_mul_left len T.hB
          omega
        have each : ∀ i, i < len → ∃ y : RT α, (i = 0 → x.spot = none) ∧ x.block < w.heap.size ∧ ∃ cs', TR Hd (n + 1) w (· < w.heap.size) y cs' ∧ ∀ j u, cs'[j]? = some u → w.cell? (x.add (i * (n + 1) + j)) = some u := by
          intro i hi
          have hb := hat i hi
          rw [T.hC, List.getElem?_eq_getElem (by omega)] at hb
          simp only [Option.bind_eq_some_iff] at hb
          obtain ⟨cs', hc, ht'⟩ := hb
          obtain ⟨_, hcl, hcat⟩ := World.cells?_some hc
          obtain ⟨y, hy⟩ := ih.1 cs' _ _ (show _ = some ((es[i]'(by omega)).1, (es[i]'(by omega)).2) from ht') (weights_elem T.hts hw (i := i) (by simp [List.getElem?_eq_getElem (show i < es.length by omega)]))
          have hj : ∀ j u, cs'[j]? = some u → w.cell? (x.add (i * (n + 1) + j)) = some u := by
            intro j u hu
            have hjl : j < n + 1 := by rw [← hcl]; exact (List.getElem?_eq_some_iff.1 hu).1
            have := hcat j hjl
            rw [Go.Deep.add_add, hu] at this
            exact this
          have h0 : cs'[0]? = some (cs'[0]'(by omega)) := List.getElem?_eq_getElem (by omega)
          have hc0 := hj 0 _ h0
          have hsp : i = 0 → x.spot = none := by
            rintro rfl
            have := World.cell?_spot hc0
            simpa [Addr.add] using this
          have hbk := cell_lt hc0
          rw [block_add] at hbk
          exact ⟨y, hsp, hbk, cs', hy, hj⟩
        obtain ⟨l, hll, hlp⟩ := list_of each
        refine ⟨l, some x, cap, by rw [hll], by omega, by omega, fun h0 => ?_⟩
        obtain ⟨hsp, hbk, _⟩ := hlp 0 h0
        obtain ⟨b, off, spot⟩ := x
        obtain rfl : spot = none := hsp rfl
        refine ⟨b, off, rfl, hbk, TRs.of (fun i hi => ?_)⟩
        obtain ⟨_, _, cs', h1, h2⟩ := hlp i hi
        refine ⟨cs', h1, fun j u hu => ?_⟩
        have := h2 j u hu
        rw [show (⟨b, off, none⟩ : Addr).add (i * (n + 1) + j) = ⟨b, off + i * (n + 1) + j, none⟩ from by
          unfold Addr.add
          split
          · next h0 => rw [Nat.add_assoc, h0, Nat.add_zero]
          · rw [Nat.add_assoc]] at this
        exact this
end
end Go.Proofs.YtgjbfgkcbehjnaaDoor

namespace Go.Proofs.YtgjbfgkcbehjnaaDoor
open Go.ChangeShapes Go.WideShapes Go.ChangeAt Go.RowKit Go.Deep

section
variable {H : Type} {enc : TypeId × Value → H} {P : Program} {w : World} {spare : Nat → Bool} {held : Bool}

theorem cells_ir {t e : TypeId} {k : IntKind} {v : Value} {fuel : Nat} {x : DataW H × List MemPlace} (ht : P.underlying t = some (.slice e)) (he : P.underlying e = some (.int k)) (hC : P.cellsOf e = 1)
    (hf : DataW.trod enc P w 0 spare held fuel t [v] = some x) :
    ∃ l : List Int, IR k w (· < w.heap.size) v l ∧ (∀ n ∈ l, (Lit.int k n).wf = true) ∧ lenD x.1 = l.length ∧ l.length ≤ maxLen := by
  rcases open_ints ht he hC hf with ⟨hcs, hx⟩ | ⟨x, l, c, zs, hcs, _, hl, hm, hz, hx, hcell, hwz⟩
  · simp only [List.cons.injEq, and_true] at hcs
    subst hcs hx
    exact ⟨[], ⟨none, 0, rfl, Nat.le_refl _, Rd.none_⟩, fun n hn => by simp at hn, rfl, Nat.zero_le _⟩
  · simp only [List.cons.injEq, and_true] at hcs
    subst hcs hx
    have hlz : l ≤ zs.length := by rw [hz]; split <;> omega
    have hlt : (zs.take l).length = l := by simp; omega
    refine ⟨zs.take l, ⟨some x, c, ?_, ?_, ?_, fun hn => ?_⟩, fun n hn => hwz n (List.mem_of_mem_take hn), ?_, by rw [hlt]; omega⟩
    · rw [hlt]
    · rw [hlt]; exact hl
    · simp [ic]
    · have h0 := hcell 0 (by rw [hlt] at hn; omega)
      have hsp : x.spot = none := by simpa [Addr.add] using World.cell?_spot h0
      have hb := cell_lt h0
      rw [block_add] at hb
      refine ⟨x, rfl, hsp, hb, fun j u hu => ?_⟩
      simp only [ic, List.getElem?_map, List.getElem?_take] at hu
      split at hu
      · rename_i hj
        have hj' : j < zs.length := by omega
        rw [List.getElem?_eq_getElem hj'] at hu
        simp at hu
        subst hu
        have h1 := hcell j hj'
        rw [h1]
        simp [List.getElem?_eq_getElem hj']
      · simp at hu
    · simp [lenD, lits]

theorem cells_br {t e : TypeId} {v : Value} {fuel : Nat} {x : DataW H × List MemPlace} (ht : P.underlying t = some (.slice e)) (he : P.underlying e = some (.int .u8)) (hC : P.cellsOf e = 1)
    (hf : DataW.trod enc P w 0 spare held fuel t [v] = some x) :
    ∃ l : List UInt8, BR w (· < w.heap.size) v l ∧ lenD x.1 = l.length ∧ l.length ≤ maxLen := by
  obtain ⟨l, ⟨A, c, rfl, hc, hr⟩, hw, hd, hm⟩ := cells_ir ht he hC hf
  obtain ⟨m, hme, hl⟩ := bytes_of hw
  refine ⟨m, ⟨A, c, by rw [hl], by omega, ?_⟩, by omega, by omega⟩
  rw [← hme, hl]
  exact hr
end
end Go.Proofs.YtgjbfgkcbehjnaaDoor

namespace Go.Proofs.YtgjbfgkcbehjnaaDoor
set_option maxRecDepth 100000
open Go.ChangeShapes Go.WideShapes Go.ChangeAt Go.RowKit Go.Deep

theorem okWide_structN {P : Program} {w : World} {r : Reach} {b : Nat} {t : TypeId} {fs : Array Field} {v : Value} (ht : P.underlying t = some (.struct fs)) (h : Value.okWide P w r b t v) : ∃ cs, v = .agg cs := by
  simp only [Value.okWide, ht] at h
  obtain ⟨cs, h1, _⟩ := h
  exact ⟨cs, h1⟩
theorem node_type : TreeType Tryd.prog 25 23 (match Tryd.prog.underlying 25 with | some (.struct fs) => fs | _ => #[]) 4 where
  ht := by rw [Tryd.underlying25]
  hone := by rw [Tryd.underlying25]; kernel_rfl
  hC := by kernel_rfl
  hn := by rw [Tryd.underlying25]; rfl
  hlast := by rw [Tryd.underlying25]; rfl
  hts := Tryd.underlying23
  hB := by rw [show Tryd.prog.bytesOf 25 = 72 from by kernel_rfl]; omega
section
variable {H : Type} {enc : TypeId × Value → H} {w : World} {sp : Nat → Bool} {held : Bool} {r : Reach} {b0 : Nat}
theorem sized_atN {P : Program} {ts : List TypeId} {ds : List (DataW H)} (hsz : (DataW.weightsEach P ts ds).all (· ≤ reachBytes) = true) {j : Nat} {t : TypeId} {d : DataW H} (ht : ts[j]? = some t) (hd : ds[j]? = some d) : (d.weights P t).all (· ≤ reachBytes) = true :=
  List.all_eq_true.2 fun n hn => List.all_eq_true.1 hsz n (DataW.weights_mem_each ht hd n hn)
theorem weights_lenN {P : Program} {t e : TypeId} {d : DataW H} (ht : P.underlying t = some (.slice e)) (h : (d.weights P t).all (· ≤ reachBytes) = true) : lenD d * P.bytesOf e ≤ 140737488351232 := by
  cases d with
  | slice es rest => exact weights_len ht h
  | _ => simp [lenD]
theorem node_head : HeadOpen enc Tryd.prog w sp held (match Tryd.prog.underlying 25 with | some (.struct fs) => fs | _ => #[]) 4 NHd := by
  intro vs ds hl hf
  obtain ⟨f0, v0, d0, ps0, fuel0, hf0, hv0, _, ht0, _⟩ := hf 0 (by omega)
  obtain ⟨f1, v1, d1, ps1, fuel1, hf1, hv1, _, ht1, _⟩ := hf 1 (by omega)
  obtain ⟨f2, v2, d2, ps2, fuel2, hf2, hv2, _, ht2, _⟩ := hf 2 (by omega)
  obtain ⟨f3, v3, d3, ps3, fuel3, hf3, hv3, _, ht3, hw3⟩ := hf 3 (by omega)
  have e0 : f0.type = 3 := by
    rw [Tryd.underlying25] at hf0
    simp at hf0
    rw [← hf0]
  have e1 : f1.type = 3 := by
    rw [Tryd.underlying25] at hf1
    simp at hf1
    rw [← hf1]
  have e2 : f2.type = 4 := by
    rw [Tryd.underlying25] at hf2
    simp at hf2
    rw [← hf2]
  have e3 : f3.type = 22 := by
    rw [Tryd.underlying25] at hf3
    simp at hf3
    rw [← hf3]
  rw [e0] at ht0
  rw [e1] at ht1
  rw [e2] at ht2
  rw [e3] at ht3 hw3
  obtain ⟨k0, x0, _, hk0⟩ := DataW.trod_int Tryd.underlying3 ht0
  obtain ⟨k1, x1, _, hk1⟩ := DataW.trod_int Tryd.underlying3 ht1
  obtain ⟨k2, x2, _⟩ := DataW.trod_bool Tryd.underlying4 ht2
  simp only [List.cons.injEq, and_true] at x0 x1 x2
  obtain ⟨b, hb, hb2, _⟩ := cells_br Tryd.underlying22 Tryd.underlying5 (by kernel_rfl) ht3
  have hlen := weights_lenN Tryd.underlying22 hw3
  rw [show Tryd.prog.bytesOf 5 = 1 from by kernel_rfl, Nat.mul_one] at hlen
  obtain ⟨q0, q1⟩ := bounds_i64 hk0
  obtain ⟨r0, r1⟩ := bounds_i64 hk1
  refine ⟨⟨k0, k1, k2, b⟩, v3, ?_, ⟨q0, by show k0 < _; omega⟩, ⟨r0, by show k1 < _; omega⟩, hb, by show b.length ≤ _; simp only at hb2; omega⟩
  rcases vs with _ | ⟨y0, _ | ⟨y1, _ | ⟨y2, _ | ⟨y3, _ | ⟨y4, vs⟩⟩⟩⟩⟩ <;> simp_all
theorem open_node {v : Value} {d : DataW H} {ps : List MemPlace} {ts : List TypeId} {ds : List (DataW H)} (hv : Value.okWide Tryd.prog w r b0 25 v) (h : DataW.Trod enc Tryd.prog w 0 sp held 25 v d ps)
    (_hsz : (DataW.weightsEach Tryd.prog ts ds).all (· ≤ reachBytes) = true) {j : Nat} (_ht : ts[j]? = some 25) (_hd : ds[j]? = some d) : ∃ x : Nd, NdR w (· < w.heap.size) v x := by
  obtain ⟨cs, rfl⟩ := okWide_structN Tryd.underlying25 hv
  obtain ⟨fuel, hf⟩ := h
  obtain ⟨x, hx⟩ := (open_tree_ node_type node_head fuel).1 _ _ _ hf (sized_atN _hsz _ht _hd)
  have h1 := (NdR.of_tr hx).1
  rw [show (Value.agg cs).cells.toList.toArray = cs from by simp [Value.cells]] at h1
  exact ⟨x, h1⟩
end
end Go.Proofs.YtgjbfgkcbehjnaaDoor
