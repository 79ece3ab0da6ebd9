/-
  Texts for the law ValueRows: part 2.
-/
import Derived.Deep.CutRange
import Derived.BigQuiet
import Derived.Deep.QuietTactic
import Derived.Test.YtfcghajnnllmhaaMValueRows1

namespace Go.Proofs.Ytfcghajnnllmhaa
open Go.RowKit

/-- Does a part not fit there? -/
def badI (k : Int) (n i : Nat) (f : Fm) : Bool := (openR f && (decide (k = 2) || decide (i + 1 < n))) || (decide (k = 2) && decide (leastR f = 0))
def badF (k : Int) (n : Nat) : Nat → List Fm → Bool
  | _, [] => false
  | i, f :: t => badI k n i f || badF k n (i + 1) t
mutual
/-- What is wrong with a form and its parts. -/
def checkR : Fm → Int
  | .mk a l => if ownN a.k a.s a.lo a.hi a.st l.length ≠ 0 then ownN a.k a.s a.lo a.hi a.st l.length else if a.k = 2 ∨ a.k = 3 then (if checkL l ≠ 0 then checkL l else if badF a.k l.length 0 l then 15 else 0) else 0
def checkL : List Fm → Int
  | [] => 0
  | f :: t => if checkR f ≠ 0 then checkR f else checkL t
end
theorem checkR_mk (a : FH) (l : List Fm) : checkR (.mk a l) = if ownN a.k a.s a.lo a.hi a.st l.length ≠ 0 then ownN a.k a.s a.lo a.hi a.st l.length else if a.k = 2 ∨ a.k = 3 then (if checkL l ≠ 0 then checkL l else if badF a.k l.length 0 l then 15 else 0) else 0 := by rw [checkR]
/-- The rest, behind a form's own numbers. -/
def restR (k : Int) (P : List Fm) : Int := if checkL P ≠ 0 then checkL P else if badF k P.length 0 P then 15 else 0
theorem checkR_parts (a : FH) (l : List Fm) : checkR (.mk a l) = if ownR (.mk a l) ≠ 0 then ownR (.mk a l) else restR a.k (partsF (.mk a l)) := by
  rw [checkR_mk]
  show _ = if ownN a.k a.s a.lo a.hi a.st l.length ≠ 0 then ownN a.k a.s a.lo a.hi a.st l.length else restR a.k (if a.k = 2 ∨ a.k = 3 then l else [])
  by_cases h : a.k = 2 ∨ a.k = 3
  · rw [if_pos h, if_pos h]
    rfl
  · rw [if_neg h, if_neg h]
    have e : restR a.k [] = 0 := by rw [restR, checkL]; simp [badF]
    rw [e]
theorem partsF_mem {a : FH} {l : List Fm} {f : Fm} (h : f ∈ partsF (.mk a l)) : f ∈ l := by
  have e : partsF (.mk a l) = if a.k = 2 ∨ a.k = 3 then l else [] := rfl
  rw [e] at h
  split at h
  · exact h
  · simp at h
theorem checkL_drop {l : List Fm} {k : Nat} (hk : k < l.length) : checkL (l.drop k) = if checkR l[k] ≠ 0 then checkR l[k] else checkL (l.drop (k + 1)) := by
  rw [List.drop_eq_getElem_cons hk, checkL]
theorem badF_drop {l : List Fm} {k n i : Nat} (c : Int) (hk : k < l.length) : badF c n i (l.drop k) = (badI c n i l[k] || badF c n (i + 1) (l.drop (k + 1))) := by
  rw [List.drop_eq_getElem_cons hk, badF]

set_option maxRecDepth 100000 in
set_option maxHeartbeats 12800000 in
theorem chk_any (ok : Nat → Prop) : ∀ (f : Fm) (v : Value) (w : World), (∀ i, ok i → i < w.heap.size) → FmR w ok v f →
    Calls Try.prog 44 #[v] w fun e w' => e = .returned (.int .i64 (checkR f)) ∧ Kp (fun _ => False) w w' := by
  intro f
  induction f using RT.induct with
  | h a l ih =>
  intro v w hlt hv
  obtain ⟨r, hr⟩ : ∃ r, checkR (.mk a l) = r := ⟨_, rfl⟩
  rw [hr]
  rw [checkR_parts] at hr
  have HOW := Lib.hid (fun o => own_any ok v (.mk a l) (w.alloc o) (hv.kp ((Kp.refl (fun _ => False) w).alloc o) (fun _ _ h => h)))
  have HPA := Lib.hid (fun W hk => parts_any ok v (.mk a l) W (hv.kp (S := fun _ => False) (w := w) (w' := W) hk (fun _ _ h => h)))
  have IH := Lib.hid (fun f (hm : f ∈ partsF (.mk a l)) => ih f (partsF_mem hm))
  generalize partsF (.mk a l) = P at hr HPA IH
  generalize ownR (.mk a l) = o at hr HOW
  obtain ⟨k, s, lo, hi, st⟩ := a
  obtain ⟨A, c, rfl, h1, h2, _, _, _, _, _, _⟩ := hv.parts
  have hka : Kp (fun _ => False) w (w.alloc (.cells #[.int .i64 k, .int .i64 s, .int .i64 lo, .int .i64 hi, .int .i64 st, .slice A l.length c] 27)) := (Kp.refl _ _).alloc _
  have hbk := Blk.new w 27 #[.int .i64 k, .int .i64 s, .int .i64 lo, .int .i64 hi, .int .i64 st, .slice A l.length c]
  have HK := Lib.hid hka
  have HB := Lib.hid hbk
  have HLT := Lib.hid hlt
  have hr' : (if o ≠ 0 then o else restR k P) = r := hr
  clear hv ih hr hlt hka hbk
  by_cases ho : o ≠ 0
  · rw [if_pos ho] at hr'
    subst hr'
    have t0 : (o != 0) = true := by simpa using ho
    clear ho
    go_enter Try.func44, Try.ntmps44
    go_wp2_with fail
    refine (HOW.out _).mono ?_
    rintro e w1 ⟨rfl, hk1⟩
    have hk := HK.out.then_ hk1 (fun _ h => h.elim)
    go_wp2_with fail
    go_ret
    exact ⟨rfl, hk⟩
  have ho' : o = 0 := by omega
  subst ho'
  rw [if_neg ho] at hr'
  rw [restR] at hr'
  have HR := Lib.hid hr'
  clear ho hr'
  go_enter Try.func44, Try.ntmps44
  go_wp2_with fail
  refine (HOW.out _).mono ?_
  rintro e w1 ⟨rfl, hk1⟩
  have hk01 := HK.out.then_ hk1 (fun _ h => h.elim)
  have hb1 := HB.out.kp hk1 (fun h => h)
  have c0 := hb1.cell 0
  have c1 := hb1.cell 1
  have c2 := hb1.cell 2
  have c3 := hb1.cell 3
  have c4 := hb1.cell 4
  have c5 := hb1.cell 5
  simp at c0 c1 c2 c3 c4 c5
  have HK1 := Lib.hid hk01
  have HB1 := Lib.hid hb1
  clear hk1 hk01 hb1
  go_wp2_with fail
  refine (HPA.out _ HK1.out).mono ?_
  rintro e w2 ⟨A2, n, cp, rfl, hn, hs2, hk2⟩
  have HK2 := Lib.hid (HK1.out.then_ hk2 (fun _ h => h.elim))
  have HB2 := Lib.hid (HB1.out.kp hk2 (fun h => h))
  have HS2 := Lib.hid hs2
  have hnc : n ≤ cp ∧ n ≤ 140737488355328 := by
    obtain ⟨A', c', e, q1, q2, _⟩ := hs2
    injection e with _ e2 e3
    omega
  obtain ⟨hn1, hn2⟩ := hnc
  have HN := Lib.hid hn
  clear hk2 hs2 c0 c1 c2 c3 c4 c5 hn
  go_wp2_with fail
  go_loopw [19] (fun i wr => ∃ j : Nat, j ≤ n ∧ i = .int .i64 j ∧ checkL P = checkL (P.drop j) ∧ Kp (fun _ => False) w2 wr) (fun i _ => n - (intOf i).toNat)
  case atStart => exact ⟨0, Nat.zero_le _, rfl, rfl, Kp.refl _ _⟩
  case round =>
    obtain ⟨j, hj, rfl, he, hkr⟩ := hrel
    have HKR := Lib.hid hkr
    have HE := Lib.hid he
    clear he
    by_cases hlt : j < n
    · have hjP : j < P.length := by have := HN.out; omega
      obtain ⟨b, off, A3, c3, rfl, hb, hf, q0, q1, q2, q3, q4, q5⟩ := (HS2.out.kp hkr (fun _ _ h => h)).at_ hjP
      have hmem : P[j] ∈ P := List.getElem_mem hjP
      have hdr := checkL_drop hjP
      obtain ⟨f, hfe⟩ : ∃ f, P[j] = f := ⟨_, rfl⟩
      rw [hfe] at hf q0 q1 q2 q3 q4 q5 hmem hdr
      have hi0 : (0 : Int) ≤ (j : Int) := by omega
      have hi1 : (j : Int) < (n : Int) := by omega
      have hkx : ∀ o, Kp (fun _ => False) wr (wr.alloc o) := fun o => (Kp.refl _ _).alloc o
      have hltw : ∀ o i, ok i → i < (wr.alloc o).heap.size := fun o i hi => Nat.lt_of_lt_of_le (HLT.out i hi) (Nat.le_trans HK2.out.size (Nat.le_trans hkr.size (hkx o).size))
      have HC := Lib.hid (fun o => IH.out f hmem _ _ (hltw o) (hf.kp (hkx o) (fun _ _ h => h)))
      have HKX := Lib.hid hkx
      generalize checkR f = x at hdr HC
      by_cases hx : x ≠ 0
      · have t0 : (x != 0) = true := by simpa using hx
        have HX := Lib.hid (show x = r by
          have := HR.out
          rw [HE.out, hdr, if_pos hx, if_pos hx] at this
          exact this)
        clear hx hdr hf hfe hmem hkr hkx hltw
        go_wp2_with fail
        refine (HC.out _).mono ?_
        rintro e w3 ⟨rfl, hk3⟩
        have hk := HK2.out.then_ (HKR.out.then_ ((HKX.out _).then_ hk3 (fun _ h => h.elim)) (fun _ h => h.elim)) (fun _ h => h.elim)
        go_wp2_with fail
        go_ret
        exact ⟨by rw [← HX.out]; rfl, hk⟩
      · have hx0 : x = 0 := by omega
        subst hx0
        have HD := Lib.hid (show checkL P = checkL (P.drop (j + 1)) by rw [HE.out, hdr, if_neg hx])
        clear hx hdr hf hfe hmem hkr hkx hltw
        go_wp2_with fail
        refine (HC.out _).mono ?_
        rintro e w3 ⟨rfl, hk3⟩
        have HK3 := Lib.hid (HKR.out.then_ ((HKX.out _).then_ hk3 (fun _ h => h.elim)) (fun _ h => h.elim))
        clear hk3
        go_wp2_with fail
        go_roundw
        case rel => exact ⟨j + 1, by omega, by go_num, HD.out, HK3.out⟩
        case measure => simp [intOf]; omega
    · obtain rfl : j = n := by omega
      have hz : checkL P = 0 := by
        rw [HE.out, List.drop_of_length_le (by have := HN.out; omega), checkL]
      have HR2 := Lib.hid (show (if badF k j 0 P then (15 : Int) else 0) = r by
        have := HR.out
        rw [hz, if_neg (by omega)] at this
        rw [HN.out]
        exact this)
      have HKS := Lib.hid (HK2.out.then_ hkr (fun _ h => h.elim))
      have HSS := Lib.hid (HS2.out.kp hkr (fun _ _ h => h))
      have HBS := Lib.hid (HB2.out.kp hkr (fun h => h))
      obtain ⟨wx, hwx⟩ : ∃ wx : World, wr = wx := ⟨_, rfl⟩
      rw [hwx] at HKS HSS HBS ⊢
      clear hkr HKR hz hwx HE hlt
      go_wp2_with fail
      go_loopw [31] (fun i wr => ∃ m : Nat, m ≤ j ∧ i = .int .i64 m ∧ badF k j 0 P = badF k j m (P.drop m) ∧ Kp (fun _ => False) wx wr) (fun i _ => j - (intOf i).toNat)
      case atStart => exact ⟨0, Nat.zero_le _, rfl, rfl, Kp.refl _ _⟩
      case round =>
        obtain ⟨m, hm, rfl, he, hkr⟩ := hrel
        have HKR := Lib.hid hkr
        have HE := Lib.hid he
        clear he
        by_cases hlt : m < j
        · have hmP : m < P.length := by have := HN.out; omega
          obtain ⟨b, off, A3, c3, rfl, hb, hf, q0, q1, q2, q3, q4, q5⟩ := (HSS.out.kp hkr (fun _ _ h => h)).at_ hmP
          have hdr := badF_drop (n := j) (i := m) k hmP
          obtain ⟨f, hfe⟩ : ∃ f, P[m] = f := ⟨_, rfl⟩
          rw [hfe] at hf q0 q1 q2 q3 q4 q5 hdr
          have hi0 : (0 : Int) ≤ (m : Int) := by omega
          have hi1 : (m : Int) < (j : Int) := by omega
          have hkx : ∀ o, Kp (fun _ => False) wr (wr.alloc o) := fun o => (Kp.refl _ _).alloc o
          have hltw : ∀ o i, ok i → i < (wr.alloc o).heap.size := fun o i hi => Nat.lt_of_lt_of_le (HLT.out i hi) (Nat.le_trans HKS.out.size (Nat.le_trans hkr.size (hkx o).size))
          have HOP := Lib.hid (fun o => open_any ok _ f _ (hltw o) (hf.kp (hkx o) (fun _ _ h => h)))
          have HLE := Lib.hid (fun W (hk : Kp (fun _ => False) wr W) => least_any ok _ f W (hf.kp hk (fun _ _ h => h)))
          have HKX := Lib.hid hkx
          have HCK := Lib.hid (show ∀ W, Kp (fun _ => False) wr W → W.cell? ⟨w.heap.size, 0, none⟩ = some (.int .i64 k) from fun W hk => (HBS.out.kp (hkr.then_ hk (fun _ h => h.elim)) (fun h => h)).cell 0)
          have HNB := Lib.hid (HBS.out.kp hkr (fun h => h))
          rw [badI] at hdr
          generalize openR f = op at hdr HOP
          generalize leastR f = ls at hdr HLE
          have hk2 : (k == 2) = decide (k = 2) := by rw [Bool.eq_iff_iff]; simp
          have hls : (ls == 0) = decide (ls = 0) := by rw [Bool.eq_iff_iff]; simp
          have hmj : decide ((m : Int) < (j : Int) - 1) = decide (m + 1 < j) := by rw [Bool.eq_iff_iff]; simp; omega
          have HDR := Lib.hid hdr
          clear hf hfe hkx hltw hdr hkr
          generalize decide (k = 2) = pk at hk2 HDR
          generalize decide (ls = 0) = pl at hls HDR
          generalize decide (m + 1 < j) = pm at hmj HDR
          cases op <;> cases pk <;> cases pl <;> cases pm
          all_goals
            first
              | (have HD := Lib.hid (show badF k j 0 P = badF k j (m + 1) (P.drop (m + 1)) by rw [HE.out, HDR.out]; rfl)
                 clear HDR
                 go_wp2_with fail
                 refine (HOP.out _).mono ?_
                 rintro e w3 ⟨rfl, hk3⟩
                 have hk3' := (HKX.out _).then_ hk3 (fun _ h => h.elim)
                 have HK3 := Lib.hid hk3'
                 have ck := HCK.out w3 hk3'
                 have hbe := (Blk.new wr 27 #[.int .i64 f.a.k, .int .i64 f.a.s, .int .i64 f.a.lo, .int .i64 f.a.hi, .int .i64 f.a.st, .slice A3 f.l.length c3]).kp hk3 (fun h => h)
                 have d0 := hbe.cell 0
                 have d1 := hbe.cell 1
                 have d2 := hbe.cell 2
                 have d3 := hbe.cell 3
                 have d4 := hbe.cell 4
                 have d5 := hbe.cell 5
                 simp at d0 d1 d2 d3 d4 d5
                 clear hbe
                 clear hk3 hk3'
                 go_wp2_with (go_at_call 24; (refine (HLE.out _ HK3.out).mono ?_); rintro e w4 ⟨rfl, hk4⟩; have HK4 := Lib.hid (HK3.out.then_ hk4 (fun _ h => h.elim)); clear hk4)
                 go_roundw
                 case rel => exact ⟨m + 1, by omega, by go_num, HD.out, by first | exact HKR.out.then_ HK4.out (fun _ h => h.elim) | exact HKR.out.then_ HK3.out (fun _ h => h.elim)⟩
                 case measure => simp [intOf]; omega)
              | (have HR3 := Lib.hid (show r = 15 by rw [← HR2.out, HE.out, HDR.out]; rfl)
                 clear HDR
                 go_wp2_with fail
                 refine (HOP.out _).mono ?_
                 rintro e w3 ⟨rfl, hk3⟩
                 have hk3' := (HKX.out _).then_ hk3 (fun _ h => h.elim)
                 have HK3 := Lib.hid hk3'
                 have ck := HCK.out w3 hk3'
                 have hbe := (Blk.new wr 27 #[.int .i64 f.a.k, .int .i64 f.a.s, .int .i64 f.a.lo, .int .i64 f.a.hi, .int .i64 f.a.st, .slice A3 f.l.length c3]).kp hk3 (fun h => h)
                 have d0 := hbe.cell 0
                 have d1 := hbe.cell 1
                 have d2 := hbe.cell 2
                 have d3 := hbe.cell 3
                 have d4 := hbe.cell 4
                 have d5 := hbe.cell 5
                 simp at d0 d1 d2 d3 d4 d5
                 clear hbe
                 clear hk3 hk3'
                 go_wp2_with (go_at_call 24; (refine (HLE.out _ HK3.out).mono ?_); rintro e w4 ⟨rfl, hk4⟩; have HK4 := Lib.hid (HK3.out.then_ hk4 (fun _ h => h.elim)); clear hk4)
                 go_ret
                 first
                   | exact ⟨by rw [HR3.out]; rfl, HKS.out.then_ (HKR.out.then_ HK4.out (fun _ h => h.elim)) (fun _ h => h.elim)⟩
                   | exact ⟨by rw [HR3.out]; rfl, HKS.out.then_ (HKR.out.then_ HK3.out (fun _ h => h.elim)) (fun _ h => h.elim)⟩)
        · obtain rfl : m = j := by omega
          have hbf : badF k m 0 P = false := by
            rw [HE.out, List.drop_of_length_le (by have := HN.out; omega), badF]
          have HR3 := Lib.hid (show r = 0 by rw [← HR2.out, hbf]; rfl)
          clear hbf hkr
          go_wp2_with fail
          go_ret
          exact ⟨by rw [HR3.out]; rfl, HKS.out.then_ HKR.out (fun _ h => h.elim)⟩

set_option maxRecDepth 100000 in
theorem check_any (ok : Nat → Prop) (f : Fm) (v : Value) (w : World) (hlt : ∀ i, ok i → i < w.heap.size) (hv : FmR w ok v f) :
    Calls Try.prog 14 #[v] w fun e w' => e = .returned (.int .i64 (if deepB 8 f then 14 else checkR f)) ∧ Kp (fun _ => False) w w' := by
  have HD := Lib.hid (fun o => deep_any 8 (by omega) ok v f (w.alloc o) (hv.kp ((Kp.refl (fun _ => False) w).alloc o) (fun _ _ h => h)))
  have HC := Lib.hid (fun W (hk : Kp (fun _ => False) w W) => chk_any ok f v W (fun i hi => Nat.lt_of_lt_of_le (hlt i hi) hk.size) (hv.kp hk (fun _ _ h => h)))
  obtain ⟨sv, rfl, hok, A, c, rfl, _, _, _⟩ := hv
  have HK := Lib.hid (show ∀ o, Kp (fun _ => False) w (w.alloc o) from fun o => (Kp.refl _ _).alloc o)
  have HB := Lib.hid (Blk.new w 27 #[.int .i64 f.a.k, .int .i64 f.a.s, .int .i64 f.a.lo, .int .i64 f.a.hi, .int .i64 f.a.st, .slice A f.l.length c])
  generalize deepB 8 f = d at HD ⊢
  generalize checkR f = r at HC ⊢
  have hdd : (if d = true then (14 : Int) else r) = if d then 14 else r := rfl
  clear hok hlt
  cases d
  · show Calls Try.prog 14 _ w fun e w' => e = .returned (.int .i64 r) ∧ Kp (fun _ => False) w w'
    clear hdd
    go_enter Try.func14, Try.ntmps14
    go_wp2_with fail
    refine (HD.out _).mono ?_
    rintro e w1 ⟨rfl, hk1⟩
    have HK1 := Lib.hid ((HK.out _).then_ hk1 (fun _ h => h.elim))
    have hb1 := HB.out.kp hk1 (fun h => h)
    have c0 := hb1.cell 0
    have c1 := hb1.cell 1
    have c2 := hb1.cell 2
    have c3 := hb1.cell 3
    have c4 := hb1.cell 4
    have c5 := hb1.cell 5
    simp at c0 c1 c2 c3 c4 c5
    clear hk1 hb1
    go_wp2_with fail
    refine (HC.out _ HK1.out).mono ?_
    rintro e w2 ⟨rfl, hk2⟩
    have hk := HK1.out.then_ hk2 (fun _ h => h.elim)
    go_wp2_with fail
    go_ret
    exact ⟨rfl, hk⟩
  · show Calls Try.prog 14 _ w fun e w' => e = .returned (.int .i64 14) ∧ Kp (fun _ => False) w w'
    clear hdd
    go_enter Try.func14, Try.ntmps14
    go_wp2_with fail
    refine (HD.out _).mono ?_
    rintro e w1 ⟨rfl, hk1⟩
    have hk := (HK.out _).then_ hk1 (fun _ h => h.elim)
    go_wp2_with fail
    go_ret
    exact ⟨rfl, hk⟩
end Go.Proofs.Ytfcghajnnllmhaa

namespace Go.Proofs.Ytfcghajnnllmhaa
open Go.RowKit

/-- A value that reads as a form, of blocks that there are. -/
def FmW (w : World) (v : Value) (f : Fm) : Prop := FmR w (· < w.heap.size) v f
theorem FmW.kp {w w' : World} {v : Value} {f : Fm} (h : FmW w v f) (hk : Kp (fun _ => False) w w') : FmW w' v f :=
  (FmR.kp h hk (fun _ _ h => h)).mono (fun _ hi => Nat.lt_of_lt_of_le hi hk.size)
theorem FmW.check {w : World} {v : Value} {f : Fm} (h : FmW w v f) : Calls Try.prog 14 #[v] w fun e w' => e = .returned (.int .i64 (if deepB 8 f then 14 else checkR f)) ∧ Kp (fun _ => False) w w' :=
  check_any _ f v w (fun _ h => h) h
theorem FmW.least {w : World} {v : Value} {f : Fm} (h : FmW w v f) : Calls Try.prog 24 #[v] w fun e w' => e = .returned (.int .i64 (leastR f)) ∧ Kp (fun _ => False) w w' := least_any _ v f w h
theorem FmW.most {w : World} {v : Value} {f : Fm} (h : FmW w v f) : Calls Try.prog 25 #[v] w fun e w' => e = .returned (.int .i64 (mostR f)) ∧ Kp (fun _ => False) w w' := most_any _ v f w h
/-- A form without parts. -/
def flat (k s lo hi st : Int) : Value := .agg #[.int .i64 k, .int .i64 s, .int .i64 lo, .int .i64 hi, .int .i64 st, .slice none 0 0]
theorem FmW.flat (w : World) (k s lo hi st : Int) (hk : i64B k) (hs : i64B s) (hlo : i64B lo) (hhi : i64B hi) (hst : i64B st) : FmW w (.agg #[.int .i64 k, .int .i64 s, .int .i64 lo, .int .i64 hi, .int .i64 st, .slice none 0 0]) (.mk ⟨k, s, lo, hi, st⟩ []) :=
  ⟨_, rfl, ⟨hk, hs, hlo, hhi, hst⟩, FsR.nil⟩
theorem b0 : i64B 0 := by unfold i64B; omega
theorem b1 : i64B 1 := by unfold i64B; omega
theorem b2 : i64B 2 := by unfold i64B; omega

/-- One form, laid as a slice. -/
theorem FsR.one {w : World} {f : Fm} {A : Option Addr} {c : Nat} (h : FmW w (.agg #[.int .i64 f.a.k, .int .i64 f.a.s, .int .i64 f.a.lo, .int .i64 f.a.hi, .int .i64 f.a.st, .slice A f.l.length c]) f) {W : World} {B : Nat}
    (hk : Kp (fun _ => False) w W) (hB : Blk W B 27 #[.int .i64 f.a.k, .int .i64 f.a.s, .int .i64 f.a.lo, .int .i64 f.a.hi, .int .i64 f.a.st, .slice A f.l.length c]) :
    FsR W (· < W.heap.size) (.slice (some ⟨B, 0, none⟩) 1 1) [f] := by
  refine ⟨_, _, rfl, Nat.le_refl _, by simp, fun _ => ⟨B, 0, rfl, hB.lt, ?_⟩⟩
  rw [TRs]
  obtain ⟨sv, e, ht⟩ := FmR.tr (h.kp hk)
  simp only [Value.agg.injEq, Array.mk.injEq, List.cons.injEq, and_true, true_and] at e
  subst e
  refine ⟨⟨_, ht, fun j u hu => ?_⟩, by rw [TRs]; trivial⟩
  rw [Nat.zero_add, hB.cell]
  simpa using hu

end Go.Proofs.Ytfcghajnnllmhaa

namespace Go.Proofs.Ytfcghajnnllmhaa
open Go.RowKit

mutual
/-- How many forms there are; no more than so many (and one) are told. -/
def cntR : Nat → Fm → Nat
  | m, .mk a l => if a.k = 2 ∨ a.k = 3 then cntL m 1 l else 1
def cntL : Nat → Nat → List Fm → Nat
  | _, n, [] => n
  | m, n, f :: t => if n ≤ m then cntL m (n + cntR (m - n) f) t else n
end
theorem cntR_parts (m : Nat) (f : Fm) : cntR m f = cntL m 1 (partsF f) := by
  obtain ⟨a, l⟩ := f
  rw [cntR]
  show _ = cntL m 1 (if a.k = 2 ∨ a.k = 3 then l else [])
  split
  · rfl
  · rw [cntL]
theorem cntL_drop {l : List Fm} {k m n : Nat} (hk : k < l.length) : cntL m n (l.drop k) = if n ≤ m then cntL m (n + cntR (m - n) l[k]) (l.drop (k + 1)) else n := by
  rw [List.drop_eq_getElem_cons hk, cntL]
theorem cntL_end {l : List Fm} {k m n : Nat} (hk : ¬ (k < l.length ∧ n ≤ m)) : cntL m n (l.drop k) = n := by
  by_cases h : k < l.length
  · rw [cntL_drop h, if_neg (by omega)]
  · rw [List.drop_of_length_le (by omega), cntL]
theorem cnt_bound (f : Fm) : ∀ m, 1 ≤ cntR m f ∧ cntR m f ≤ m + 1 := by
  induction f using RT.induct with
  | h a l ih =>
  intro m
  rw [cntR]
  split
  · have key : ∀ (t : List Fm), (∀ f ∈ t, ∀ m, 1 ≤ cntR m f ∧ cntR m f ≤ m + 1) → ∀ n, n ≤ m + 1 → n ≤ cntL m n t ∧ cntL m n t ≤ m + 1 := by
      intro t
      induction t with
      | nil => intro _ n hn; rw [cntL]; omega
      | cons f t ih2 =>
        intro hf n hn
        rw [cntL]
        split
        · have h1 := hf f (by simp) (m - n)
          have h2 := ih2 (fun g hg => hf g (by simp [hg])) (n + cntR (m - n) f) (by omega)
          omega
        · omega
    exact key l ih 1 (by omega)
  · omega

end Go.Proofs.Ytfcghajnnllmhaa

namespace Go.Proofs.Ytfcghajnnllmhaa.QP
open Go.RowKit Go.Proofs.YtfcghajnnllmhaaW.PrintWords Go.Proofs.YtfcghajnnllmhaaW.PrintLast Go.Proofs.YtfcghajnnllmhaaW.PrintMore
attribute [local go_sem] max2_int min2_int max_two min_two max_three min_three max_four min_four   -- for this text's walks alone
set_option linter.unusedVariables false
set_option linter.unusedSimpArgs false

/-! ### passepartoutref04_parts: function 47 -/
def passepartoutref04_parts.f (a0_0 : Int) (a0_1 : Int) (a0_2 : Int) (a0_3 : Int) (a0_4 : Int) (l0_5 : List (S27)) : Option ((List (S27))) := if a0_0 = 2 then (some l0_5) else (if a0_0 = 3 then (some l0_5) else (some ([] : List (S27))))
set_option maxHeartbeats 8000000 in
set_option maxRecDepth 100000 in
theorem passepartoutref04_parts.calls (a0_0 : Int) (a0_1 : Int) (a0_2 : Int) (a0_3 : Int) (a0_4 : Int) (P0_5_ : Nat → Prop) (A0_5 : Option Addr) (c0_5 : Nat) (l0_5 : List (S27)) (r : List (S27)) (w : World) (hs0_5 : Kd.V k27 27 w w.heap.size (fun k_ => P0_5_ k_) (.slice A0_5 l0_5.length c0_5) l0_5) (h : passepartoutref04_parts.f a0_0 a0_1 a0_2 a0_3 a0_4 l0_5 = some r) :
    Calls Try.prog 47 #[.agg #[.int .i64 a0_0, .int .i64 a0_1, .int .i64 a0_2, .int .i64 a0_3, .int .i64 a0_4, .slice A0_5 l0_5.length c0_5]] w fun e w' => ∃ v0_ : Value, e = .returned (v0_) ∧ Kd.V k27 27 w' w.heap.size (fun k_ => (P0_5_ k_ ∨ w.heap.size ≤ k_)) v0_ r ∧ Below w.heap.size w w' := by
  have hu27 := Try.underlying27
  have HO0_5 := Aside0.mk (show Kd.V k27 27 w w.heap.size (fun k_ => (P0_5_ k_ ∨ w.heap.size ≤ k_)) (.slice A0_5 l0_5.length c0_5) l0_5 from Kd.V_mono hs0_5 (fun k_ hk => .inl hk))
  have HB := Aside0.mk (Below.refl w.heap.size w)
  have H : (if a0_0 = 2 then (some l0_5) else (if a0_0 = 3 then (some l0_5) else (some ([] : List (S27))))) = some r := h
  clear h
  by_cases c2 : a0_0 = 2
  · rw [if_pos c2] at H
    have c2b0 : (a0_0 == 2) = true := beq_iff_eq.mpr c2
    have c2b1 : (a0_0 != 2) = false := bne_eq_false_iff_eq.mpr c2
    clear c2
    obtain rfl := Option.some.inj H
    go_enter Try.func47, Try.ntmps47
    go_wp2_with (first | ((with_reducible refine gate_dst (N := 1) rfl ?_); refine box_event ?hg (N := 1) ?hd (cs := #[.int .i64 a0_0, .int .i64 a0_1, .int .i64 a0_2, .int .i64 a0_3, .int .i64 a0_4, .slice A0_5 l0_5.length c0_5]) (t := 27) ?hr ?_; (case hd => rfl); (case hg => rfl); (case hr => first | (go_simp; done) | (go_simp; rfl)); intro gb126 hg w3 hbox hb; have n0_ := Aside0.mk (Kd.V_below (Kd.V_elderB (by (with_reducible repeat (first | apply Kd.V_alloc | apply Kd.V_drewN | apply Kd.V_drew)); exact HO0_5.out) gb126 (Nat.le_of_eq hg.symm)) hb); have n1_ := Aside0.mk (below_step (by repeat (first | (with_reducible first | exact HB.out | apply below_alloc | apply pw_below_drewN | apply below_drew1) | exact HB.out)) hb); have n2_ := Aside0.mk (hbox); have n3_ := Aside0.mk ((by rw [hg]; exact (below_size (by repeat (first | (with_reducible first | exact HB.out | apply below_alloc | apply pw_below_drewN | apply below_drew1) | exact HB.out))) : w.heap.size ≤ gb126)); have n4_ := Aside0.mk ((by rw [hg]; exact (below_size (by repeat (first | (with_reducible first | exact HB.out | apply below_alloc | apply pw_below_drewN | apply below_drew1) | exact HB.out))) : w.heap.size ≤ gb126)); clear HO0_5; clear HB; have HO0_5 := n0_; have HB := n1_; have BK126 := n2_; have GW126 := n3_; have GE126 := n4_; clear n0_ n1_ n2_ n3_ n4_; clear hb hbox hg; have hcz4_0 : w3.cell? ⟨gb126, 0, none⟩ = some (.int .i64 a0_0) := (blk_cell BK126.out 0).trans rfl; have hcz4_1 : w3.cell? ⟨gb126, 1, none⟩ = some (.int .i64 a0_1) := (blk_cell BK126.out 1).trans rfl; have hcz4_2 : w3.cell? ⟨gb126, 2, none⟩ = some (.int .i64 a0_2) := (blk_cell BK126.out 2).trans rfl; have hcz4_3 : w3.cell? ⟨gb126, 3, none⟩ = some (.int .i64 a0_3) := (blk_cell BK126.out 3).trans rfl; have hcz4_4 : w3.cell? ⟨gb126, 4, none⟩ = some (.int .i64 a0_4) := (blk_cell BK126.out 4).trans rfl; have hcz4_5 : w3.cell? ⟨gb126, 5, none⟩ = some (.slice A0_5 l0_5.length c0_5) := (blk_cell BK126.out 5).trans rfl; have hfz4_0 := blk_frozen BK126.out 0; have hfz4_1 := blk_frozen BK126.out 1; have hfz4_2 := blk_frozen BK126.out 2; have hfz4_3 := blk_frozen BK126.out 3; have hfz4_4 := blk_frozen BK126.out 4; have hfz4_5 := blk_frozen BK126.out 5))
    go_ret
    exact ⟨_, by first | rfl | (simp [errW_none, errW_some] <;> rfl) | (simp [*, errW_none, errW_some] <;> rfl), by (with_reducible repeat (first | apply Kd.V_alloc | apply Kd.V_drewN | apply Kd.V_drew)); exact Kd.V_mono HO0_5.out (fun _ hk => hk.1), by repeat (first | (with_reducible first | exact HB.out | apply below_alloc | apply pw_below_drewN | apply below_drew1 | refine below_set ?_ GE126.out) | exact HB.out)⟩
  · rw [if_neg c2] at H
    have c2b0 : (a0_0 == 2) = false := beq_eq_false_iff_ne.mpr c2
    have c2b1 : (a0_0 != 2) = true := bne_iff_ne.mpr c2
    by_cases c5 : a0_0 = 3
    · rw [if_pos c5] at H
      have c5b0 : (a0_0 == 3) = true := beq_iff_eq.mpr c5
      have c5b1 : (a0_0 != 3) = false := bne_eq_false_iff_eq.mpr c5
      clear c5
      obtain rfl := Option.some.inj H
      go_enter Try.func47, Try.ntmps47
      go_wp2_with (first | ((with_reducible refine gate_dst (N := 1) rfl ?_); refine box_event ?hg (N := 1) ?hd (cs := #[.int .i64 a0_0, .int .i64 a0_1, .int .i64 a0_2, .int .i64 a0_3, .int .i64 a0_4, .slice A0_5 l0_5.length c0_5]) (t := 27) ?hr ?_; (case hd => rfl); (case hg => rfl); (case hr => first | (go_simp; done) | (go_simp; rfl)); intro gb126 hg w6 hbox hb; have n0_ := Aside0.mk (Kd.V_below (Kd.V_elderB (by (with_reducible repeat (first | apply Kd.V_alloc | apply Kd.V_drewN | apply Kd.V_drew)); exact HO0_5.out) gb126 (Nat.le_of_eq hg.symm)) hb); have n1_ := Aside0.mk (below_step (by repeat (first | (with_reducible first | exact HB.out | apply below_alloc | apply pw_below_drewN | apply below_drew1) | exact HB.out)) hb); have n2_ := Aside0.mk (hbox); have n3_ := Aside0.mk ((by rw [hg]; exact (below_size (by repeat (first | (with_reducible first | exact HB.out | apply below_alloc | apply pw_below_drewN | apply below_drew1) | exact HB.out))) : w.heap.size ≤ gb126)); have n4_ := Aside0.mk ((by rw [hg]; exact (below_size (by repeat (first | (with_reducible first | exact HB.out | apply below_alloc | apply pw_below_drewN | apply below_drew1) | exact HB.out))) : w.heap.size ≤ gb126)); clear HO0_5; clear HB; have HO0_5 := n0_; have HB := n1_; have BK126 := n2_; have GW126 := n3_; have GE126 := n4_; clear n0_ n1_ n2_ n3_ n4_; clear hb hbox hg; have hcz7_0 : w6.cell? ⟨gb126, 0, none⟩ = some (.int .i64 a0_0) := (blk_cell BK126.out 0).trans rfl; have hcz7_1 : w6.cell? ⟨gb126, 1, none⟩ = some (.int .i64 a0_1) := (blk_cell BK126.out 1).trans rfl; have hcz7_2 : w6.cell? ⟨gb126, 2, none⟩ = some (.int .i64 a0_2) := (blk_cell BK126.out 2).trans rfl; have hcz7_3 : w6.cell? ⟨gb126, 3, none⟩ = some (.int .i64 a0_3) := (blk_cell BK126.out 3).trans rfl; have hcz7_4 : w6.cell? ⟨gb126, 4, none⟩ = some (.int .i64 a0_4) := (blk_cell BK126.out 4).trans rfl; have hcz7_5 : w6.cell? ⟨gb126, 5, none⟩ = some (.slice A0_5 l0_5.length c0_5) := (blk_cell BK126.out 5).trans rfl; have hfz7_0 := blk_frozen BK126.out 0; have hfz7_1 := blk_frozen BK126.out 1; have hfz7_2 := blk_frozen BK126.out 2; have hfz7_3 := blk_frozen BK126.out 3; have hfz7_4 := blk_frozen BK126.out 4; have hfz7_5 := blk_frozen BK126.out 5))
      go_ret
      exact ⟨_, by first | rfl | (simp [errW_none, errW_some] <;> rfl) | (simp [*, errW_none, errW_some] <;> rfl), by (with_reducible repeat (first | apply Kd.V_alloc | apply Kd.V_drewN | apply Kd.V_drew)); exact Kd.V_mono HO0_5.out (fun _ hk => hk.1), by repeat (first | (with_reducible first | exact HB.out | apply below_alloc | apply pw_below_drewN | apply below_drew1 | refine below_set ?_ GE126.out) | exact HB.out)⟩
    · rw [if_neg c5] at H
      have c5b0 : (a0_0 == 3) = false := beq_eq_false_iff_ne.mpr c5
      have c5b1 : (a0_0 != 3) = true := bne_iff_ne.mpr c5
      obtain rfl := Option.some.inj H
      go_enter Try.func47, Try.ntmps47
      go_wp2_with (first | ((with_reducible refine gate_dst (N := 1) rfl ?_); refine box_event ?hg (N := 1) ?hd (cs := #[.int .i64 a0_0, .int .i64 a0_1, .int .i64 a0_2, .int .i64 a0_3, .int .i64 a0_4, .slice A0_5 l0_5.length c0_5]) (t := 27) ?hr ?_; (case hd => rfl); (case hg => rfl); (case hr => first | (go_simp; done) | (go_simp; rfl)); intro gb126 hg w8 hbox hb; have n0_ := Aside0.mk (Kd.V_below (Kd.V_elderB (by (with_reducible repeat (first | apply Kd.V_alloc | apply Kd.V_drewN | apply Kd.V_drew)); exact HO0_5.out) gb126 (Nat.le_of_eq hg.symm)) hb); have n1_ := Aside0.mk (below_step (by repeat (first | (with_reducible first | exact HB.out | apply below_alloc | apply pw_below_drewN | apply below_drew1) | exact HB.out)) hb); have n2_ := Aside0.mk (hbox); have n3_ := Aside0.mk ((by rw [hg]; exact (below_size (by repeat (first | (with_reducible first | exact HB.out | apply below_alloc | apply pw_below_drewN | apply below_drew1) | exact HB.out))) : w.heap.size ≤ gb126)); have n4_ := Aside0.mk ((by rw [hg]; exact (below_size (by repeat (first | (with_reducible first | exact HB.out | apply below_alloc | apply pw_below_drewN | apply below_drew1) | exact HB.out))) : w.heap.size ≤ gb126)); clear HO0_5; clear HB; have HO0_5 := n0_; have HB := n1_; have BK126 := n2_; have GW126 := n3_; have GE126 := n4_; clear n0_ n1_ n2_ n3_ n4_; clear hb hbox hg; have hcz9_0 : w8.cell? ⟨gb126, 0, none⟩ = some (.int .i64 a0_0) := (blk_cell BK126.out 0).trans rfl; have hcz9_1 : w8.cell? ⟨gb126, 1, none⟩ = some (.int .i64 a0_1) := (blk_cell BK126.out 1).trans rfl; have hcz9_2 : w8.cell? ⟨gb126, 2, none⟩ = some (.int .i64 a0_2) := (blk_cell BK126.out 2).trans rfl; have hcz9_3 : w8.cell? ⟨gb126, 3, none⟩ = some (.int .i64 a0_3) := (blk_cell BK126.out 3).trans rfl; have hcz9_4 : w8.cell? ⟨gb126, 4, none⟩ = some (.int .i64 a0_4) := (blk_cell BK126.out 4).trans rfl; have hcz9_5 : w8.cell? ⟨gb126, 5, none⟩ = some (.slice A0_5 l0_5.length c0_5) := (blk_cell BK126.out 5).trans rfl; have hfz9_0 := blk_frozen BK126.out 0; have hfz9_1 := blk_frozen BK126.out 1; have hfz9_2 := blk_frozen BK126.out 2; have hfz9_3 := blk_frozen BK126.out 3; have hfz9_4 := blk_frozen BK126.out 4; have hfz9_5 := blk_frozen BK126.out 5))
      go_ret
      exact ⟨_, by first | rfl | (simp [errW_none, errW_some] <;> rfl) | (simp [*, errW_none, errW_some] <;> rfl), Kd.V_mono (Kd.V_nil _ _ _ _ (fun _ => False)) (fun k_ hk => by first | exact ⟨(.inr (hk.1)), hk.2⟩ | exact (.inr (hk)) | exact (show False from hk).elim), by repeat (first | (with_reducible first | exact HB.out | apply below_alloc | apply pw_below_drewN | apply below_drew1 | refine below_set ?_ GE126.out) | exact HB.out)⟩

end Go.Proofs.Ytfcghajnnllmhaa.QP

namespace Go.Proofs.Ytfcghajnnllmhaa.QP
open Go.RowKit Go.Proofs.YtfcghajnnllmhaaW.PrintWords Go.Proofs.YtfcghajnnllmhaaW.PrintLast Go.Proofs.YtfcghajnnllmhaaW.PrintMore
attribute [local go_sem] max2_int min2_int max_two min_two max_three min_three max_four min_four   -- for this text's walks alone
set_option linter.unusedVariables false
set_option linter.unusedSimpArgs false

/-! ### passepartoutref04_Count: function 45 -/
mutual
def passepartoutref04_Count.l0 : Nat → Int → Int → List (S27) → Int → Option (Int)
  | 0, _, _, _, _ => none
  | k + 1, x1, x5, x6, x7 => if x7 < (x6.length : Int) then (if x5 ≤ x1 then (if 0 ≤ x7 then ((passepartoutref04_Count.f k ((rd_T27 x6 x7).f0) ((rd_T27 x6 x7).f1) ((rd_T27 x6 x7).f2) ((rd_T27 x6 x7).f3) ((rd_T27 x6 x7).f4) ((rd_T27 x6 x7).f5) (wrap64 (x1 - x5))).bind fun t132 => (passepartoutref04_Count.l0 k x1 (wrap64 (x5 + t132)) x6 (wrap64 (x7 + 1)))) else (none)) else (some x5)) else (some x5)
def passepartoutref04_Count.f : Nat → Int → Int → Int → Int → Int → List (S27) → Int → Option (Int)
  | 0, _, _, _, _, _, _, _ => none
  | k + 1, a0_0, a0_1, a0_2, a0_3, a0_4, l0_5, a1 => (passepartoutref04_parts.f a0_0 a0_1 a0_2 a0_3 a0_4 l0_5).bind fun t128 => (passepartoutref04_Count.l0 k a1 1 t128 0)
end
theorem passepartoutref04_Count.mono_l : ∀ k, (∀ y0 y1 y2 y3 y4 y5 y6, LeO (passepartoutref04_Count.f k y0 y1 y2 y3 y4 y5 y6) (passepartoutref04_Count.f (k + 1) y0 y1 y2 y3 y4 y5 y6)) ∧ (∀ y0 y1 y2 y3, LeO (passepartoutref04_Count.l0 k y0 y1 y2 y3) (passepartoutref04_Count.l0 (k + 1) y0 y1 y2 y3))
  | 0 => ⟨fun _ _ _ _ _ _ _ r h => by simp [passepartoutref04_Count.f] at h, fun _ _ _ _ r h => by simp [passepartoutref04_Count.l0] at h⟩
  | k + 1 => by
    obtain ⟨ih0, ih1⟩ := passepartoutref04_Count.mono_l k
    refine ⟨?_, ?_⟩
    · intro y0 y1 y2 y3 y4 y5 y6
      unfold passepartoutref04_Count.f
      repeat' first
      | (with_reducible exact ih0 _ _ _ _ _ _ _)
      | (with_reducible exact ih1 _ _ _ _)
      | (with_reducible exact LeO.refl _)
      | (with_reducible exact LeO.none _)
      | (with_reducible refine LeO.ite ?_ ?_)
      | (with_reducible refine LeO.bind ?_ (fun _ => ?_))
      | exact ih0 _ _ _ _ _ _ _
      | exact ih1 _ _ _ _
      | exact LeO.none _
      | refine LeO.ite ?_ ?_
      | refine LeO.bind ?_ (fun _ => ?_)
    · intro y0 y1 y2 y3
      unfold passepartoutref04_Count.l0
      repeat' first
      | (with_reducible exact ih0 _ _ _ _ _ _ _)
      | (with_reducible exact ih1 _ _ _ _)
      | (with_reducible exact LeO.refl _)
      | (with_reducible exact LeO.none _)
      | (with_reducible refine LeO.ite ?_ ?_)
      | (with_reducible refine LeO.bind ?_ (fun _ => ?_))
      | exact ih0 _ _ _ _ _ _ _
      | exact ih1 _ _ _ _
      | exact LeO.none _
      | refine LeO.ite ?_ ?_
      | refine LeO.bind ?_ (fun _ => ?_)
theorem passepartoutref04_Count.mono : ∀ a0 a1 a2 a3 a4 a5 a6 k, LeO (passepartoutref04_Count.f k a0 a1 a2 a3 a4 a5 a6) (passepartoutref04_Count.f (k + 1) a0 a1 a2 a3 a4 a5 a6) := by
  intro a0 a1 a2 a3 a4 a5 a6 k
  obtain ⟨ih0, ih1⟩ := passepartoutref04_Count.mono_l k
  exact ih0 a0 a1 a2 a3 a4 a5 a6
set_option maxHeartbeats 8000000 in
set_option maxRecDepth 100000 in
theorem passepartoutref04_Count.calls (k : Nat) : ∀ (a0_0 : Int) (a0_1 : Int) (a0_2 : Int) (a0_3 : Int) (a0_4 : Int) (A0_5 : Option Addr) (c0_5 : Nat) (l0_5 : List (S27)) (a1 : Int) (r : Int) (w : World) (hr0_5 : Kd.C k27 w A0_5 l0_5.length l0_5) (hc0_5 : l0_5.length ≤ c0_5) (h : passepartoutref04_Count.f k a0_0 a0_1 a0_2 a0_3 a0_4 l0_5 a1 = some r),
    Calls Try.prog 45 #[.agg #[.int .i64 a0_0, .int .i64 a0_1, .int .i64 a0_2, .int .i64 a0_3, .int .i64 a0_4, .slice A0_5 l0_5.length c0_5], .int .i64 a1] w fun e w' => e = .returned (.int .i64 r) ∧ Below w.heap.size w w' := by
  induction k using Nat.strongRecOn with
  | _ k ih =>
  intro a0_0 a0_1 a0_2 a0_3 a0_4 A0_5 c0_5 l0_5 a1 r w hr0_5 hc0_5 h
  cases k with
  | zero => exact absurd h (by simp [passepartoutref04_Count.f])
  | succ k =>
  simp only [passepartoutref04_Count.f] at h
  have hu27 := Try.underlying27
  have HR0_5 := Aside0.mk hr0_5
  have HC0_5 := Aside0.mk hc0_5
  clear hr0_5 hc0_5
  have HB := Aside0.mk (Below.refl w.heap.size w)
  have H : ((passepartoutref04_parts.f a0_0 a0_1 a0_2 a0_3 a0_4 l0_5).bind fun t128 => (passepartoutref04_Count.l0 k a1 1 t128 0)) = some r := h
  clear h
  replace H := Option.bind_eq_some_iff.mp H
  obtain ⟨t128, A30, H⟩ := H
  replace H : (passepartoutref04_Count.l0 k a1 1 t128 0) = some r := H
  have A3 := Aside0.mk A30
  clear A30
  have H' := Aside0.mk H
  clear H
  go_enter Try.func45, Try.ntmps45
  go_wp2_with (first | ((with_reducible refine gate_dst (N := 2) rfl ?_); refine box_event ?hg (N := 2) ?hd (cs := #[.int .i64 a0_0, .int .i64 a0_1, .int .i64 a0_2, .int .i64 a0_3, .int .i64 a0_4, .slice A0_5 l0_5.length c0_5]) (t := 27) ?hr ?_; (case hd => rfl); (case hg => rfl); (case hr => first | (go_simp; done) | (go_simp; rfl)); intro gb127 hg w4 hbox hb; have n0_ := Aside0.mk (below_step (by repeat (first | (with_reducible first | exact HB.out | apply below_alloc | apply pw_below_drewN | apply below_drew1) | exact HB.out)) hb); have n1_ := Aside0.mk (hbox); have n2_ := Aside0.mk ((by rw [hg]; exact (below_size (by repeat (first | (with_reducible first | exact HB.out | apply below_alloc | apply pw_below_drewN | apply below_drew1) | exact HB.out))) : w.heap.size ≤ gb127)); have n3_ := Aside0.mk ((by rw [hg]; exact (below_size (by repeat (first | (with_reducible first | exact HB.out | apply below_alloc | apply pw_below_drewN | apply below_drew1) | exact HB.out))) : w.heap.size ≤ gb127)); clear HB; have HB := n0_; have BK127 := n1_; have GW127 := n2_; have GE127 := n3_; clear n0_ n1_ n2_ n3_; clear hb hbox hg; have hcz5_0 : w4.cell? ⟨gb127, 0, none⟩ = some (.int .i64 a0_0) := (blk_cell BK127.out 0).trans rfl; have hcz5_1 : w4.cell? ⟨gb127, 1, none⟩ = some (.int .i64 a0_1) := (blk_cell BK127.out 1).trans rfl; have hcz5_2 : w4.cell? ⟨gb127, 2, none⟩ = some (.int .i64 a0_2) := (blk_cell BK127.out 2).trans rfl; have hcz5_3 : w4.cell? ⟨gb127, 3, none⟩ = some (.int .i64 a0_3) := (blk_cell BK127.out 3).trans rfl; have hcz5_4 : w4.cell? ⟨gb127, 4, none⟩ = some (.int .i64 a0_4) := (blk_cell BK127.out 4).trans rfl; have hcz5_5 : w4.cell? ⟨gb127, 5, none⟩ = some (.slice A0_5 l0_5.length c0_5) := (blk_cell BK127.out 5).trans rfl; have hfz5_0 := blk_frozen BK127.out 0; have hfz5_1 := blk_frozen BK127.out 1; have hfz5_2 := blk_frozen BK127.out 2; have hfz5_3 := blk_frozen BK127.out 3; have hfz5_4 := blk_frozen BK127.out 4; have hfz5_5 := blk_frozen BK127.out 5) | ((with_reducible refine gate_callee (f := 47) rfl ?_); refine goesL_ (some 9) rfl rfl Try.func47 (by kernel_rfl) rfl #[.agg #[.int .i64 a0_0, .int .i64 a0_1, .int .i64 a0_2, .int .i64 a0_3, .int .i64 a0_4, .slice A0_5 l0_5.length c0_5]] rfl (by (try simp only [List.map_toArray, List.map_cons, List.map_nil]); first | done | rfl | (simp only [List.length_drop, List.length_take]; rfl)) ?_; (with_reducible refine (passepartoutref04_parts.calls a0_0 a0_1 a0_2 a0_3 a0_4 (fun k_ => k_ < w.heap.size) _ _ l0_5 t128 _ ?side1 A3.out).mono ?_); (case side1 => exact Kd.V_mk HC0_5.out (Kd.F_below (Kd.C_F k27_heap HR0_5.out) (by repeat (first | (with_reducible first | exact HB.out | apply below_alloc | apply pw_below_drewN | apply below_drew1 | refine below_set ?_ GE127.out) | exact HB.out)))); rintro e w6 ⟨v129, rfl, ho0, hb⟩; refine ⟨_, rfl, ?_⟩; have n0_ := Aside0.mk (Kd.V_lower (Kd.V_mono (ok' := fun k_ => k_ ≠ gb127) ho0 (fun k_ hk_ => Or.elim hk_ (fun hs_ => fun e_ => Nat.not_le.2 hs_ (by rw [e_]; exact GW127.out)) (fun hn_ => (Kd.freshB (g := gb127) (o := .cells #[.int .i64 a0_0, .int .i64 a0_1, .int .i64 a0_2, .int .i64 a0_3, .int .i64 a0_4, .slice A0_5 l0_5.length c0_5] 27 (0, 0)) (by (with_reducible repeat (first | refine blk_drewN ?_ _ | refine blk_drew ?_ | refine blk_alloc ?_ _)); exact BK127.out) k_ hn_)))) (below_size (by repeat (first | (with_reducible first | exact HB.out | apply below_alloc | apply pw_below_drewN | apply below_drew1 | refine below_set ?_ GE127.out) | exact HB.out)))); have n1_ := Aside0.mk (blk_below (g := gb127) (o := .cells #[.int .i64 a0_0, .int .i64 a0_1, .int .i64 a0_2, .int .i64 a0_3, .int .i64 a0_4, .slice A0_5 l0_5.length c0_5] 27 (0, 0)) (by (with_reducible repeat (first | refine blk_drewN ?_ _ | refine blk_drew ?_ | refine blk_alloc ?_ _)); exact BK127.out) hb); have n2_ := Aside0.mk (below_step (by repeat (first | (with_reducible first | exact HB.out | apply below_alloc | apply pw_below_drewN | apply below_drew1 | refine below_set ?_ GE127.out) | exact HB.out)) hb); clear BK127; clear HB; have HO130 := n0_; have BK127 := n1_; have HB := n2_; clear n0_ n1_ n2_; (try clear hb); (try clear hb2); (try clear hk); (try clear hi); (try clear ho0)))
  go_loopg [5, 7] k (fun kq v5 v7 w' => ∃ (x5_1 : Int) (x7_1 : Int), v5 = .int .i64 x5_1 ∧ v7 = .int .i64 x7_1 ∧ Aside0 (passepartoutref04_Count.l0 kq a1 x5_1 t128 x7_1 = some r) ∧ Aside0 (kq ≤ k) ∧ Aside0 (Kd.V k27 27 w' w.heap.size (fun k_ => k_ ≠ gb127) v129 t128) ∧ Aside0 (w'.heap[gb127]? = some (.cells #[.int .i64 a0_0, .int .i64 a0_1, .int .i64 a0_2, .int .i64 a0_3, .int .i64 a0_4, (.slice A0_5 l0_5.length c0_5)] 27 (0, 0))) ∧ Aside0 (Below w.heap.size w w'))
  case atStart => exact ⟨(1), (0), (by first | rfl | (simp; done) | (simp [*]; done)), (by first | rfl | (simp; done) | (simp [*]; done)), H', ⟨Nat.le_refl _⟩, ⟨by (with_reducible repeat (first | apply Kd.V_alloc | apply Kd.V_drewN | apply Kd.V_drew)); exact HO130.out⟩, ⟨by (with_reducible repeat (first | refine blk_drewN ?_ _ | refine blk_drew ?_ | refine blk_alloc ?_ _)); exact BK127.out⟩, ⟨by repeat (first | (with_reducible first | exact HB.out | apply below_alloc | apply pw_below_drewN | apply below_drew1 | refine below_set ?_ GE127.out) | exact HB.out)⟩⟩
  case round =>
    clear H'
    try clear p2
    try clear c4
    try clear hcz5_0
    try clear hcz5_1
    try clear hcz5_2
    try clear hcz5_3
    try clear hcz5_4
    try clear hcz5_5
    try clear hfz5_0
    try clear hfz5_1
    try clear hfz5_2
    try clear hfz5_3
    try clear hfz5_4
    try clear hfz5_5
    obtain ⟨x5_1, x7_1, rfl, rfl, HA, HK1, HO_6, BK127, HB⟩ := hrel
    cases gk with
    | zero => exact absurd HA.out (by simp [passepartoutref04_Count.l0])
    | succ k1 =>
      have H := HA.out
      clear HA
      simp only [passepartoutref04_Count.l0] at H
      by_cases c7 : x7_1 < (t128.length : Int)
      · rw [if_pos c7] at H
        have c7b0 : decide (x7_1 < (t128.length : Int)) = true := decide_eq_true c7
        clear c7
        by_cases c8 : x5_1 ≤ a1
        · rw [if_pos c8] at H
          have c8b0 : decide (x5_1 ≤ a1) = true := decide_eq_true c8
          clear c8
          by_cases c9 : 0 ≤ x7_1
          · rw [if_pos c9] at H
            have c9b0 : decide (0 ≤ x7_1) = true := decide_eq_true c9
            clear c9
            replace H := Option.bind_eq_some_iff.mp H
            obtain ⟨t132, A100, H⟩ := H
            replace H : (passepartoutref04_Count.l0 k1 a1 (wrap64 (x5_1 + t132)) t128 (wrap64 (x7_1 + 1))) = some r := H
            have A10 := Aside0.mk A100
            clear A100
            have H' := Aside0.mk H
            clear H
            obtain ⟨Ao11, co11, eo11⟩ := Kd.V_slice HO_6.out
            subst eo11
            have p131 : 0 ≤ (x7_1 : Int) := of_decide_eq_true (by first | (with_reducible assumption) | assumption)
            have q131 : x7_1 < (t128.length : Int) := of_decide_eq_true (by first | (with_reducible assumption) | assumption)
            obtain ⟨ad131, A131_5, c131_5, e131, hx131_0, hx131_1, hx131_2, hx131_3, hx131_4, hx131_5, hl131_5, hi131_5⟩ := at_T27 (Kd.V_reads' HO_6.out).2.2 x7_1 p131 q131
            cases e131
            obtain ⟨ce131, hce131, hMe131, hcc131⟩ := Kd.V_get HO_6.out z27 x7_1 p131 (by first | exact q131 | exact of_decide_eq_true (by first | (with_reducible assumption) | assumption) | (have e_ := (Kd.V_reads' HO_6.out).1; omega))
            obtain ⟨ua131_5, uc131_5, rfl, ul131_5, ge131_5⟩ := k27_openF hMe131
            have hv131_5 := hcc131 5 _ rfl
            rw [add_field _ _ 5 (by omega)] at hv131_5
            replace hv131_5 := Option.some.inj (hv131_5.symm.trans hx131_5)
            injection hv131_5 with hva_ hvn_ hvc_
            rw [hva_] at ge131_5
            rw [hvc_] at ul131_5
            have HL131_5 := Aside0.mk (show Kd.V k27 27 _ w.heap.size _ _ ((rd_T27 t128 x7_1).f5) from Kd.V_mk ul131_5 ge131_5)
            clear hva_ hvn_ hvc_ ge131_5 ul131_5
            clear hcc131 hce131
            have HR131_5 := Aside0.mk hi131_5
            have HC131_5 := Aside0.mk hl131_5
            clear hi131_5 hl131_5
            replace p131 := eq_true p131
            replace q131 := eq_true q131
            go_wp2_with (first | ((with_reducible refine gate_callee (f := 45) rfl ?_); refine goesL_ (some 29) rfl rfl Try.func45 (by kernel_rfl) rfl #[.agg #[.int .i64 ((rd_T27 t128 x7_1).f0), .int .i64 ((rd_T27 t128 x7_1).f1), .int .i64 ((rd_T27 t128 x7_1).f2), .int .i64 ((rd_T27 t128 x7_1).f3), .int .i64 ((rd_T27 t128 x7_1).f4), .slice A131_5 ((rd_T27 t128 x7_1).f5).length c131_5], .int .i64 (wrap64 (a1 - x5_1))] rfl (by (try simp only [List.map_toArray, List.map_cons, List.map_nil]); first | done | rfl | (simp only [List.length_drop, List.length_take]; rfl)) ?_; (with_reducible refine (ih k1 (by have := HK1.out; omega) ((rd_T27 t128 x7_1).f0) ((rd_T27 t128 x7_1).f1) ((rd_T27 t128 x7_1).f2) ((rd_T27 t128 x7_1).f3) ((rd_T27 t128 x7_1).f4) _ _ ((rd_T27 t128 x7_1).f5) (wrap64 (a1 - x5_1)) t132 _ ?side1 ?side2 A10.out).mono ?_); (case side1 => repeat (first | exact (by repeat (first | (with_reducible exact HR131_5.out) | (with_reducible refine Kd.C_alloc ?_ _) | (with_reducible refine Kd.C_drewN ?_ _) | (with_reducible refine Kd.C_drew ?_) | exact HR131_5.out)) | (with_reducible refine Kd.C_alloc ?_ _) | (with_reducible refine Kd.C_drewN ?_ _) | (with_reducible refine Kd.C_drew ?_))); (case side2 => exact HC131_5.out); rintro e w12 ⟨rfl, hb⟩; refine ⟨_, rfl, ?_⟩; have n0_ := Aside0.mk (Kd.V_below (by (with_reducible repeat (first | apply Kd.V_alloc | apply Kd.V_drewN | apply Kd.V_drew)); exact HO_6.out) hb); have n1_ := Aside0.mk (Kd.V_below (by (with_reducible repeat (first | apply Kd.V_alloc | apply Kd.V_drewN | apply Kd.V_drew)); exact HL131_5.out) hb); have n2_ := Aside0.mk (blk_below (g := gb127) (o := .cells #[.int .i64 a0_0, .int .i64 a0_1, .int .i64 a0_2, .int .i64 a0_3, .int .i64 a0_4, .slice A0_5 l0_5.length c0_5] 27 (0, 0)) (by (with_reducible repeat (first | refine blk_drewN ?_ _ | refine blk_drew ?_ | refine blk_alloc ?_ _)); exact BK127.out) hb); have n3_ := Aside0.mk (Kd.C_below (by repeat (first | (with_reducible exact HR131_5.out) | (with_reducible refine Kd.C_alloc ?_ _) | (with_reducible refine Kd.C_drewN ?_ _) | (with_reducible refine Kd.C_drew ?_) | exact HR131_5.out)) hb); have n4_ := Aside0.mk (below_step (by repeat (first | (with_reducible first | exact HB.out | apply below_alloc | apply pw_below_drewN | apply below_drew1 | refine below_set ?_ GE127.out) | exact HB.out)) hb); clear HO_6; clear HL131_5; clear BK127; clear HR131_5; clear HB; have HO_6 := n0_; have HL131_5 := n1_; have BK127 := n2_; have HR131_5 := n3_; have HB := n4_; clear n0_ n1_ n2_ n3_ n4_; (try clear hb); (try clear hb2); (try clear hk); (try clear hi)))
            go_roundg k1
            case measure => have := HK1.out; omega
            case rel => exact ⟨(wrap64 (x5_1 + t132)), (wrap64 (x7_1 + 1)), (by first | rfl | (simp; done) | (simp [*]; done)), (by first | rfl | (simp; done) | (simp [*]; done)), H', ⟨by have := HK1.out; omega⟩, ⟨by (with_reducible repeat (first | apply Kd.V_alloc | apply Kd.V_drewN | apply Kd.V_drew)); exact HO_6.out⟩, ⟨by (with_reducible repeat (first | refine blk_drewN ?_ _ | refine blk_drew ?_ | refine blk_alloc ?_ _)); exact BK127.out⟩, ⟨by repeat (first | (with_reducible first | exact HB.out | apply below_alloc | apply pw_below_drewN | apply below_drew1 | refine below_set ?_ GE127.out) | exact HB.out)⟩⟩
          · rw [if_neg c9] at H
            exact absurd H (by simp)
        · rw [if_neg c8] at H
          have c8b0 : decide (x5_1 ≤ a1) = false := decide_eq_false c8
          clear c8
          obtain rfl := Option.some.inj H
          obtain ⟨Ao13, co13, eo13⟩ := Kd.V_slice HO_6.out
          subst eo13
          go_wp2
          go_ret
          exact ⟨by first | rfl | (simp [errW_none, errW_some] <;> rfl) | (simp [*, errW_none, errW_some] <;> rfl), by repeat (first | (with_reducible first | exact HB.out | apply below_alloc | apply pw_below_drewN | apply below_drew1 | refine below_set ?_ GE127.out) | exact HB.out)⟩
      · rw [if_neg c7] at H
        have c7b0 : decide (x7_1 < (t128.length : Int)) = false := decide_eq_false c7
        clear c7
        obtain rfl := Option.some.inj H
        obtain ⟨Ao14, co14, eo14⟩ := Kd.V_slice HO_6.out
        subst eo14
        go_wp2
        go_ret
        exact ⟨by first | rfl | (simp [errW_none, errW_some] <;> rfl) | (simp [*, errW_none, errW_some] <;> rfl), by repeat (first | (with_reducible first | exact HB.out | apply below_alloc | apply pw_below_drewN | apply below_drew1 | refine below_set ?_ GE127.out) | exact HB.out)⟩

end Go.Proofs.Ytfcghajnnllmhaa.QP

namespace Go.Proofs.Ytfcghajnnllmhaa.QP
open Go.RowKit Go.Proofs.YtfcghajnnllmhaaW.PrintWords Go.Proofs.YtfcghajnnllmhaaW.PrintLast Go.Proofs.YtfcghajnnllmhaaW.PrintMore
attribute [local go_sem] max2_int min2_int max_two min_two max_three min_three max_four min_four   -- for this text's walks alone
set_option linter.unusedVariables false
set_option linter.unusedSimpArgs false

/-! ### passepartoutref04_Depth: function 22 -/
mutual
def passepartoutref04_Depth.l0 : Nat → Int → Int → List (S27) → Int → Option (Int)
  | 0, _, _, _, _ => none
  | k + 1, x1, x5, x6, x7 => if x7 < (x6.length : Int) then (passepartoutref04_Depth.j1 k x1 x5 x6 x7 (decide (x1 > 0))) else (passepartoutref04_Depth.j1 k x1 x5 x6 x7 false)
def passepartoutref04_Depth.j1 : Nat → Int → Int → List (S27) → Int → Bool → Option (Int)
  | 0, _, _, _, _, _ => none
  | k + 1, x1, x5, x6, x7, x18 => if x18 = true then (if 0 ≤ x7 then (if x7 < (x6.length : Int) then ((passepartoutref04_Depth.f k ((rd_T27 x6 x7).f0) ((rd_T27 x6 x7).f1) ((rd_T27 x6 x7).f2) ((rd_T27 x6 x7).f3) ((rd_T27 x6 x7).f4) ((rd_T27 x6 x7).f5) (wrap64 (x1 - 1))).bind fun t140 => (if t140 > x5 then (passepartoutref04_Depth.l0 k x1 t140 x6 (wrap64 (x7 + 1))) else (passepartoutref04_Depth.l0 k x1 x5 x6 (wrap64 (x7 + 1))))) else (none)) else (none)) else (some (wrap64 (x5 + 1)))
def passepartoutref04_Depth.f : Nat → Int → Int → Int → Int → Int → List (S27) → Int → Option (Int)
  | 0, _, _, _, _, _, _, _ => none
  | k + 1, a0_0, a0_1, a0_2, a0_3, a0_4, l0_5, a1 => (passepartoutref04_parts.f a0_0 a0_1 a0_2 a0_3 a0_4 l0_5).bind fun t136 => (passepartoutref04_Depth.l0 k a1 0 t136 0)
end
theorem passepartoutref04_Depth.mono_l : ∀ k, (∀ y0 y1 y2 y3 y4 y5 y6, LeO (passepartoutref04_Depth.f k y0 y1 y2 y3 y4 y5 y6) (passepartoutref04_Depth.f (k + 1) y0 y1 y2 y3 y4 y5 y6)) ∧ (∀ y0 y1 y2 y3, LeO (passepartoutref04_Depth.l0 k y0 y1 y2 y3) (passepartoutref04_Depth.l0 (k + 1) y0 y1 y2 y3)) ∧ (∀ y0 y1 y2 y3 y4, LeO (passepartoutref04_Depth.j1 k y0 y1 y2 y3 y4) (passepartoutref04_Depth.j1 (k + 1) y0 y1 y2 y3 y4))
  | 0 => ⟨fun _ _ _ _ _ _ _ r h => by simp [passepartoutref04_Depth.f] at h, fun _ _ _ _ r h => by simp [passepartoutref04_Depth.l0] at h, fun _ _ _ _ _ r h => by simp [passepartoutref04_Depth.j1] at h⟩
  | k + 1 => by
    obtain ⟨ih0, ih1, ih2⟩ := passepartoutref04_Depth.mono_l k
    refine ⟨?_, ?_, ?_⟩
    · intro y0 y1 y2 y3 y4 y5 y6
      unfold passepartoutref04_Depth.f
      repeat' first
      | (with_reducible exact ih0 _ _ _ _ _ _ _)
      | (with_reducible exact ih1 _ _ _ _)
      | (with_reducible exact ih2 _ _ _ _ _)
      | (with_reducible exact LeO.refl _)
      | (with_reducible exact LeO.none _)
      | (with_reducible refine LeO.ite ?_ ?_)
      | (with_reducible refine LeO.bind ?_ (fun _ => ?_))
      | exact ih0 _ _ _ _ _ _ _
      | exact ih1 _ _ _ _
      | exact ih2 _ _ _ _ _
      | exact LeO.none _
      | refine LeO.ite ?_ ?_
      | refine LeO.bind ?_ (fun _ => ?_)
    · intro y0 y1 y2 y3
      unfold passepartoutref04_Depth.l0
      repeat' first
      | (with_reducible exact ih0 _ _ _ _ _ _ _)
      | (with_reducible exact ih1 _ _ _ _)
      | (with_reducible exact ih2 _ _ _ _ _)
      | (with_reducible exact LeO.refl _)
      | (with_reducible exact LeO.none _)
      | (with_reducible refine LeO.ite ?_ ?_)
      | (with_reducible refine LeO.bind ?_ (fun _ => ?_))
      | exact ih0 _ _ _ _ _ _ _
      | exact ih1 _ _ _ _
      | exact ih2 _ _ _ _ _
      | exact LeO.none _
      | refine LeO.ite ?_ ?_
      | refine LeO.bind ?_ (fun _ => ?_)
    · intro y0 y1 y2 y3 y4
      unfold passepartoutref04_Depth.j1
      repeat' first
      | (with_reducible exact ih0 _ _ _ _ _ _ _)
      | (with_reducible exact ih1 _ _ _ _)
      | (with_reducible exact ih2 _ _ _ _ _)
      | (with_reducible exact LeO.refl _)
      | (with_reducible exact LeO.none _)
      | (with_reducible refine LeO.ite ?_ ?_)
      | (with_reducible refine LeO.bind ?_ (fun _ => ?_))
      | exact ih0 _ _ _ _ _ _ _
      | exact ih1 _ _ _ _
      | exact ih2 _ _ _ _ _
      | exact LeO.none _
      | refine LeO.ite ?_ ?_
      | refine LeO.bind ?_ (fun _ => ?_)
theorem passepartoutref04_Depth.mono : ∀ a0 a1 a2 a3 a4 a5 a6 k, LeO (passepartoutref04_Depth.f k a0 a1 a2 a3 a4 a5 a6) (passepartoutref04_Depth.f (k + 1) a0 a1 a2 a3 a4 a5 a6) := by
  intro a0 a1 a2 a3 a4 a5 a6 k
  obtain ⟨ih0, ih1, ih2⟩ := passepartoutref04_Depth.mono_l k
  exact ih0 a0 a1 a2 a3 a4 a5 a6
set_option maxHeartbeats 8000000 in
set_option maxRecDepth 100000 in
theorem passepartoutref04_Depth.calls (k : Nat) : ∀ (a0_0 : Int) (a0_1 : Int) (a0_2 : Int) (a0_3 : Int) (a0_4 : Int) (A0_5 : Option Addr) (c0_5 : Nat) (l0_5 : List (S27)) (a1 : Int) (r : Int) (w : World) (hr0_5 : Kd.C k27 w A0_5 l0_5.length l0_5) (hc0_5 : l0_5.length ≤ c0_5) (h : passepartoutref04_Depth.f k a0_0 a0_1 a0_2 a0_3 a0_4 l0_5 a1 = some r),
    Calls Try.prog 22 #[.agg #[.int .i64 a0_0, .int .i64 a0_1, .int .i64 a0_2, .int .i64 a0_3, .int .i64 a0_4, .slice A0_5 l0_5.length c0_5], .int .i64 a1] w fun e w' => e = .returned (.int .i64 r) ∧ Below w.heap.size w w' := by
  induction k using Nat.strongRecOn with
  | _ k ih =>
  intro a0_0 a0_1 a0_2 a0_3 a0_4 A0_5 c0_5 l0_5 a1 r w hr0_5 hc0_5 h
  cases k with
  | zero => exact absurd h (by simp [passepartoutref04_Depth.f])
  | succ k =>
  simp only [passepartoutref04_Depth.f] at h
  have hu27 := Try.underlying27
  have HR0_5 := Aside0.mk hr0_5
  have HC0_5 := Aside0.mk hc0_5
  clear hr0_5 hc0_5
  have HB := Aside0.mk (Below.refl w.heap.size w)
  have H : ((passepartoutref04_parts.f a0_0 a0_1 a0_2 a0_3 a0_4 l0_5).bind fun t136 => (passepartoutref04_Depth.l0 k a1 0 t136 0)) = some r := h
  clear h
  replace H := Option.bind_eq_some_iff.mp H
  obtain ⟨t136, A30, H⟩ := H
  replace H : (passepartoutref04_Depth.l0 k a1 0 t136 0) = some r := H
  have A3 := Aside0.mk A30
  clear A30
  have H' := Aside0.mk H
  clear H
  go_enter Try.func22, Try.ntmps22
  go_wp2_with (first | ((with_reducible refine gate_dst (N := 2) rfl ?_); refine box_event ?hg (N := 2) ?hd (cs := #[.int .i64 a0_0, .int .i64 a0_1, .int .i64 a0_2, .int .i64 a0_3, .int .i64 a0_4, .slice A0_5 l0_5.length c0_5]) (t := 27) ?hr ?_; (case hd => rfl); (case hg => rfl); (case hr => first | (go_simp; done) | (go_simp; rfl)); intro gb135 hg w4 hbox hb; have n0_ := Aside0.mk (below_step (by repeat (first | (with_reducible first | exact HB.out | apply below_alloc | apply pw_below_drewN | apply below_drew1) | exact HB.out)) hb); have n1_ := Aside0.mk (hbox); have n2_ := Aside0.mk ((by rw [hg]; exact (below_size (by repeat (first | (with_reducible first | exact HB.out | apply below_alloc | apply pw_below_drewN | apply below_drew1) | exact HB.out))) : w.heap.size ≤ gb135)); have n3_ := Aside0.mk ((by rw [hg]; exact (below_size (by repeat (first | (with_reducible first | exact HB.out | apply below_alloc | apply pw_below_drewN | apply below_drew1) | exact HB.out))) : w.heap.size ≤ gb135)); clear HB; have HB := n0_; have BK135 := n1_; have GW135 := n2_; have GE135 := n3_; clear n0_ n1_ n2_ n3_; clear hb hbox hg; have hcz5_0 : w4.cell? ⟨gb135, 0, none⟩ = some (.int .i64 a0_0) := (blk_cell BK135.out 0).trans rfl; have hcz5_1 : w4.cell? ⟨gb135, 1, none⟩ = some (.int .i64 a0_1) := (blk_cell BK135.out 1).trans rfl; have hcz5_2 : w4.cell? ⟨gb135, 2, none⟩ = some (.int .i64 a0_2) := (blk_cell BK135.out 2).trans rfl; have hcz5_3 : w4.cell? ⟨gb135, 3, none⟩ = some (.int .i64 a0_3) := (blk_cell BK135.out 3).trans rfl; have hcz5_4 : w4.cell? ⟨gb135, 4, none⟩ = some (.int .i64 a0_4) := (blk_cell BK135.out 4).trans rfl; have hcz5_5 : w4.cell? ⟨gb135, 5, none⟩ = some (.slice A0_5 l0_5.length c0_5) := (blk_cell BK135.out 5).trans rfl; have hfz5_0 := blk_frozen BK135.out 0; have hfz5_1 := blk_frozen BK135.out 1; have hfz5_2 := blk_frozen BK135.out 2; have hfz5_3 := blk_frozen BK135.out 3; have hfz5_4 := blk_frozen BK135.out 4; have hfz5_5 := blk_frozen BK135.out 5) | ((with_reducible refine gate_callee (f := 47) rfl ?_); refine goesL_ (some 10) rfl rfl Try.func47 (by kernel_rfl) rfl #[.agg #[.int .i64 a0_0, .int .i64 a0_1, .int .i64 a0_2, .int .i64 a0_3, .int .i64 a0_4, .slice A0_5 l0_5.length c0_5]] rfl (by (try simp only [List.map_toArray, List.map_cons, List.map_nil]); first | done | rfl | (simp only [List.length_drop, List.length_take]; rfl)) ?_; (with_reducible refine (passepartoutref04_parts.calls a0_0 a0_1 a0_2 a0_3 a0_4 (fun k_ => k_ < w.heap.size) _ _ l0_5 t136 _ ?side1 A3.out).mono ?_); (case side1 => exact Kd.V_mk HC0_5.out (Kd.F_below (Kd.C_F k27_heap HR0_5.out) (by repeat (first | (with_reducible first | exact HB.out | apply below_alloc | apply pw_below_drewN | apply below_drew1 | refine below_set ?_ GE135.out) | exact HB.out)))); rintro e w6 ⟨v137, rfl, ho0, hb⟩; refine ⟨_, rfl, ?_⟩; have n0_ := Aside0.mk (Kd.V_lower (Kd.V_mono (ok' := fun k_ => k_ ≠ gb135) ho0 (fun k_ hk_ => Or.elim hk_ (fun hs_ => fun e_ => Nat.not_le.2 hs_ (by rw [e_]; exact GW135.out)) (fun hn_ => (Kd.freshB (g := gb135) (o := .cells #[.int .i64 a0_0, .int .i64 a0_1, .int .i64 a0_2, .int .i64 a0_3, .int .i64 a0_4, .slice A0_5 l0_5.length c0_5] 27 (0, 0)) (by (with_reducible repeat (first | refine blk_drewN ?_ _ | refine blk_drew ?_ | refine blk_alloc ?_ _)); exact BK135.out) k_ hn_)))) (below_size (by repeat (first | (with_reducible first | exact HB.out | apply below_alloc | apply pw_below_drewN | apply below_drew1 | refine below_set ?_ GE135.out) | exact HB.out)))); have n1_ := Aside0.mk (blk_below (g := gb135) (o := .cells #[.int .i64 a0_0, .int .i64 a0_1, .int .i64 a0_2, .int .i64 a0_3, .int .i64 a0_4, .slice A0_5 l0_5.length c0_5] 27 (0, 0)) (by (with_reducible repeat (first | refine blk_drewN ?_ _ | refine blk_drew ?_ | refine blk_alloc ?_ _)); exact BK135.out) hb); have n2_ := Aside0.mk (below_step (by repeat (first | (with_reducible first | exact HB.out | apply below_alloc | apply pw_below_drewN | apply below_drew1 | refine below_set ?_ GE135.out) | exact HB.out)) hb); clear BK135; clear HB; have HO138 := n0_; have BK135 := n1_; have HB := n2_; clear n0_ n1_ n2_; (try clear hb); (try clear hb2); (try clear hk); (try clear hi); (try clear ho0)))
  go_loopg [5, 7] k (fun kq v5 v7 w' => ∃ (x5_1 : Int) (x7_1 : Int), v5 = .int .i64 x5_1 ∧ v7 = .int .i64 x7_1 ∧ Aside0 (passepartoutref04_Depth.l0 kq a1 x5_1 t136 x7_1 = some r) ∧ Aside0 (kq ≤ k) ∧ Aside0 (Kd.V k27 27 w' w.heap.size (fun k_ => k_ ≠ gb135) v137 t136) ∧ Aside0 (w'.heap[gb135]? = some (.cells #[.int .i64 a0_0, .int .i64 a0_1, .int .i64 a0_2, .int .i64 a0_3, .int .i64 a0_4, (.slice A0_5 l0_5.length c0_5)] 27 (0, 0))) ∧ Aside0 (Below w.heap.size w w'))
  case atStart => exact ⟨(0), (0), (by first | rfl | (simp; done) | (simp [*]; done)), (by first | rfl | (simp; done) | (simp [*]; done)), H', ⟨Nat.le_refl _⟩, ⟨by (with_reducible repeat (first | apply Kd.V_alloc | apply Kd.V_drewN | apply Kd.V_drew)); exact HO138.out⟩, ⟨by (with_reducible repeat (first | refine blk_drewN ?_ _ | refine blk_drew ?_ | refine blk_alloc ?_ _)); exact BK135.out⟩, ⟨by repeat (first | (with_reducible first | exact HB.out | apply below_alloc | apply pw_below_drewN | apply below_drew1 | refine below_set ?_ GE135.out) | exact HB.out)⟩⟩
  case round =>
    clear H'
    try clear c2
    try clear p2
    try clear c4
    try clear hcz5_0
    try clear hcz5_1
    try clear hcz5_2
    try clear hcz5_3
    try clear hcz5_4
    try clear hcz5_5
    try clear hfz5_0
    try clear hfz5_1
    try clear hfz5_2
    try clear hfz5_3
    try clear hfz5_4
    try clear hfz5_5
    obtain ⟨x5_1, x7_1, rfl, rfl, HA, HK1, HO_6, BK135, HB⟩ := hrel
    cases gk with
    | zero => exact absurd HA.out (by simp [passepartoutref04_Depth.l0])
    | succ k1 =>
      have H := HA.out
      clear HA
      simp only [passepartoutref04_Depth.l0] at H
      have HC7 := Aside0.mk H
      clear H
      go_upto_region 4 with (fail)
      go_cut [18] (fun v18 wc => ∃ (kq : Nat) (x18_6 : Bool), v18 = .bool x18_6 ∧ Aside0 (passepartoutref04_Depth.j1 kq a1 x5_1 t136 x7_1 x18_6 = some r) ∧ Aside0 (kq ≤ k1) ∧ Aside0 (Kd.V k27 27 wc w.heap.size (fun k_ => k_ ≠ gb135) v137 t136) ∧ Aside0 (wc.heap[gb135]? = some (.cells #[.int .i64 a0_0, .int .i64 a0_1, .int .i64 a0_2, .int .i64 a0_3, .int .i64 a0_4, (.slice A0_5 l0_5.length c0_5)] 27 (0, 0))) ∧ Aside0 (Below w.heap.size w wc))
      case first =>
        have H := HC7.out
        clear HC7
        by_cases c8 : x7_1 < (t136.length : Int)
        · rw [if_pos c8] at H
          have c8b0 : decide (x7_1 < (t136.length : Int)) = true := decide_eq_true c8
          clear c8
          (first | rw [c8b0] | (simp only [i64_w, i32_w]; rw [c8b0]) | skip)
          have H' := Aside0.mk H
          clear H
          obtain ⟨Ao9, co9, eo9⟩ := Kd.V_slice HO_6.out
          subst eo9
          go_wp2
          go_meet
          case rel => exact ⟨_, (decide (a1 > 0)), (by first | rfl | (simp; done) | (simp [*]; done)), H', ⟨by have := HK1.out; first | omega | exact Nat.le_refl _⟩, ⟨by (with_reducible repeat (first | apply Kd.V_alloc | apply Kd.V_drewN | apply Kd.V_drew)); exact HO_6.out⟩, ⟨by (with_reducible repeat (first | refine blk_drewN ?_ _ | refine blk_drew ?_ | refine blk_alloc ?_ _)); exact BK135.out⟩, ⟨by repeat (first | (with_reducible first | exact HB.out | apply below_alloc | apply pw_below_drewN | apply below_drew1 | refine below_set ?_ GE135.out) | exact HB.out)⟩⟩
        · rw [if_neg c8] at H
          have c8b0 : decide (x7_1 < (t136.length : Int)) = false := decide_eq_false c8
          clear c8
          (first | rw [c8b0] | (simp only [i64_w, i32_w]; rw [c8b0]) | skip)
          have H' := Aside0.mk H
          clear H
          obtain ⟨Ao10, co10, eo10⟩ := Kd.V_slice HO_6.out
          subst eo10
          go_wp2
          go_meet
          case rel => exact ⟨_, (false), (by first | rfl | (simp; done) | (simp [*]; done)), H', ⟨by have := HK1.out; first | omega | exact Nat.le_refl _⟩, ⟨by (with_reducible repeat (first | apply Kd.V_alloc | apply Kd.V_drewN | apply Kd.V_drew)); exact HO_6.out⟩, ⟨by (with_reducible repeat (first | refine blk_drewN ?_ _ | refine blk_drew ?_ | refine blk_alloc ?_ _)); exact BK135.out⟩, ⟨by repeat (first | (with_reducible first | exact HB.out | apply below_alloc | apply pw_below_drewN | apply below_drew1 | refine below_set ?_ GE135.out) | exact HB.out)⟩⟩
      case rest =>
        clear HC7
        try clear c2
        try clear p2
        try clear c4
        try clear c8
        try clear c8b0
        try clear hcz5_0
        try clear hcz5_1
        try clear hcz5_2
        try clear hcz5_3
        try clear hcz5_4
        try clear hcz5_5
        try clear hfz5_0
        try clear hfz5_1
        try clear hfz5_2
        try clear hfz5_3
        try clear hfz5_4
        try clear hfz5_5
        try clear p2
        obtain ⟨kq, x18_6, rfl, HA, HJ6, HO_6, BK135, HB⟩ := hcut
        cases kq with
        | zero => exact absurd HA.out (by simp [passepartoutref04_Depth.j1])
        | succ kj6 =>
          have H := HA.out
          clear HA
          simp only [passepartoutref04_Depth.j1] at H
          by_cases c11 : x18_6 = true
          · subst c11
            have H1 : (if 0 ≤ x7_1 then (if x7_1 < (t136.length : Int) then ((passepartoutref04_Depth.f kj6 ((rd_T27 t136 x7_1).f0) ((rd_T27 t136 x7_1).f1) ((rd_T27 t136 x7_1).f2) ((rd_T27 t136 x7_1).f3) ((rd_T27 t136 x7_1).f4) ((rd_T27 t136 x7_1).f5) (wrap64 (a1 - 1))).bind fun t140 => (if t140 > x5_1 then (passepartoutref04_Depth.l0 kj6 a1 t140 t136 (wrap64 (x7_1 + 1))) else (passepartoutref04_Depth.l0 kj6 a1 x5_1 t136 (wrap64 (x7_1 + 1))))) else (none)) else (none)) = some r := by rw [if_pos rfl] at H; exact H
            clear H
            have H := H1
            clear H1
            by_cases c12 : 0 ≤ x7_1
            · rw [if_pos c12] at H
              have c12b0 : decide (0 ≤ x7_1) = true := decide_eq_true c12
              clear c12
              by_cases c13 : x7_1 < (t136.length : Int)
              · rw [if_pos c13] at H
                have c13b0 : decide (x7_1 < (t136.length : Int)) = true := decide_eq_true c13
                clear c13
                replace H := Option.bind_eq_some_iff.mp H
                obtain ⟨t140, A140, H⟩ := H
                replace H : (if t140 > x5_1 then (passepartoutref04_Depth.l0 kj6 a1 t140 t136 (wrap64 (x7_1 + 1))) else (passepartoutref04_Depth.l0 kj6 a1 x5_1 t136 (wrap64 (x7_1 + 1)))) = some r := H
                have A14 := Aside0.mk A140
                clear A140
                by_cases c15 : t140 > x5_1
                · rw [if_pos c15] at H
                  have c15b0 : decide (x5_1 < t140) = true := decide_eq_true c15
                  clear c15
                  have H' := Aside0.mk H
                  clear H
                  obtain ⟨Ao16, co16, eo16⟩ := Kd.V_slice HO_6.out
                  subst eo16
                  have p139 : 0 ≤ (x7_1 : Int) := of_decide_eq_true (by first | (with_reducible assumption) | assumption)
                  have q139 : x7_1 < (t136.length : Int) := of_decide_eq_true (by first | (with_reducible assumption) | assumption)
                  obtain ⟨ad139, A139_5, c139_5, e139, hx139_0, hx139_1, hx139_2, hx139_3, hx139_4, hx139_5, hl139_5, hi139_5⟩ := at_T27 (Kd.V_reads' HO_6.out).2.2 x7_1 p139 q139
                  cases e139
                  obtain ⟨ce139, hce139, hMe139, hcc139⟩ := Kd.V_get HO_6.out z27 x7_1 p139 (by first | exact q139 | exact of_decide_eq_true (by first | (with_reducible assumption) | assumption) | (have e_ := (Kd.V_reads' HO_6.out).1; omega))
                  obtain ⟨ua139_5, uc139_5, rfl, ul139_5, ge139_5⟩ := k27_openF hMe139
                  have hv139_5 := hcc139 5 _ rfl
                  rw [add_field _ _ 5 (by omega)] at hv139_5
                  replace hv139_5 := Option.some.inj (hv139_5.symm.trans hx139_5)
                  injection hv139_5 with hva_ hvn_ hvc_
                  rw [hva_] at ge139_5
                  rw [hvc_] at ul139_5
                  have HL139_5 := Aside0.mk (show Kd.V k27 27 _ w.heap.size _ _ ((rd_T27 t136 x7_1).f5) from Kd.V_mk ul139_5 ge139_5)
                  clear hva_ hvn_ hvc_ ge139_5 ul139_5
                  clear hcc139 hce139
                  have HR139_5 := Aside0.mk hi139_5
                  have HC139_5 := Aside0.mk hl139_5
                  clear hi139_5 hl139_5
                  replace p139 := eq_true p139
                  replace q139 := eq_true q139
                  go_wp2_with (first | ((with_reducible refine gate_callee (f := 22) rfl ?_); refine goesL_ (some 27) rfl rfl Try.func22 (by kernel_rfl) rfl #[.agg #[.int .i64 ((rd_T27 t136 x7_1).f0), .int .i64 ((rd_T27 t136 x7_1).f1), .int .i64 ((rd_T27 t136 x7_1).f2), .int .i64 ((rd_T27 t136 x7_1).f3), .int .i64 ((rd_T27 t136 x7_1).f4), .slice A139_5 ((rd_T27 t136 x7_1).f5).length c139_5], .int .i64 (wrap64 (a1 - 1))] rfl (by (try simp only [List.map_toArray, List.map_cons, List.map_nil]); first | done | rfl | (simp only [List.length_drop, List.length_take]; rfl)) ?_; (with_reducible refine (ih kj6 (by have := HK1.out; have := HJ6.out; omega) ((rd_T27 t136 x7_1).f0) ((rd_T27 t136 x7_1).f1) ((rd_T27 t136 x7_1).f2) ((rd_T27 t136 x7_1).f3) ((rd_T27 t136 x7_1).f4) _ _ ((rd_T27 t136 x7_1).f5) (wrap64 (a1 - 1)) t140 _ ?side1 ?side2 A14.out).mono ?_); (case side1 => repeat (first | exact (by repeat (first | (with_reducible exact HR139_5.out) | (with_reducible refine Kd.C_alloc ?_ _) | (with_reducible refine Kd.C_drewN ?_ _) | (with_reducible refine Kd.C_drew ?_) | exact HR139_5.out)) | (with_reducible refine Kd.C_alloc ?_ _) | (with_reducible refine Kd.C_drewN ?_ _) | (with_reducible refine Kd.C_drew ?_))); (case side2 => exact HC139_5.out); rintro e w17 ⟨rfl, hb⟩; refine ⟨_, rfl, ?_⟩; have n0_ := Aside0.mk (Kd.V_below (by (with_reducible repeat (first | apply Kd.V_alloc | apply Kd.V_drewN | apply Kd.V_drew)); exact HO_6.out) hb); have n1_ := Aside0.mk (Kd.V_below (by (with_reducible repeat (first | apply Kd.V_alloc | apply Kd.V_drewN | apply Kd.V_drew)); exact HL139_5.out) hb); have n2_ := Aside0.mk (blk_below (g := gb135) (o := .cells #[.int .i64 a0_0, .int .i64 a0_1, .int .i64 a0_2, .int .i64 a0_3, .int .i64 a0_4, .slice A0_5 l0_5.length c0_5] 27 (0, 0)) (by (with_reducible repeat (first | refine blk_drewN ?_ _ | refine blk_drew ?_ | refine blk_alloc ?_ _)); exact BK135.out) hb); have n3_ := Aside0.mk (Kd.C_below (by repeat (first | (with_reducible exact HR139_5.out) | (with_reducible refine Kd.C_alloc ?_ _) | (with_reducible refine Kd.C_drewN ?_ _) | (with_reducible refine Kd.C_drew ?_) | exact HR139_5.out)) hb); have n4_ := Aside0.mk (below_step (by repeat (first | (with_reducible first | exact HB.out | apply below_alloc | apply pw_below_drewN | apply below_drew1 | refine below_set ?_ GE135.out) | exact HB.out)) hb); clear HO_6; clear HL139_5; clear BK135; clear HR139_5; clear HB; have HO_6 := n0_; have HL139_5 := n1_; have BK135 := n2_; have HR139_5 := n3_; have HB := n4_; clear n0_ n1_ n2_ n3_ n4_; (try clear hb); (try clear hb2); (try clear hk); (try clear hi)))
                  go_roundg kj6
                  case measure => have := HK1.out; have := HJ6.out; omega
                  case rel => exact ⟨(t140), (wrap64 (x7_1 + 1)), (by first | rfl | (simp; done) | (simp [*]; done)), (by first | rfl | (simp; done) | (simp [*]; done)), H', ⟨by have := HK1.out; have := HJ6.out; omega⟩, ⟨by (with_reducible repeat (first | apply Kd.V_alloc | apply Kd.V_drewN | apply Kd.V_drew)); exact HO_6.out⟩, ⟨by (with_reducible repeat (first | refine blk_drewN ?_ _ | refine blk_drew ?_ | refine blk_alloc ?_ _)); exact BK135.out⟩, ⟨by repeat (first | (with_reducible first | exact HB.out | apply below_alloc | apply pw_below_drewN | apply below_drew1 | refine below_set ?_ GE135.out) | exact HB.out)⟩⟩
                · rw [if_neg c15] at H
                  have c15b0 : decide (x5_1 < t140) = false := decide_eq_false c15
                  clear c15
                  have H' := Aside0.mk H
                  clear H
                  obtain ⟨Ao18, co18, eo18⟩ := Kd.V_slice HO_6.out
                  subst eo18
                  have p139 : 0 ≤ (x7_1 : Int) := of_decide_eq_true (by first | (with_reducible assumption) | assumption)
                  have q139 : x7_1 < (t136.length : Int) := of_decide_eq_true (by first | (with_reducible assumption) | assumption)
                  obtain ⟨ad139, A139_5, c139_5, e139, hx139_0, hx139_1, hx139_2, hx139_3, hx139_4, hx139_5, hl139_5, hi139_5⟩ := at_T27 (Kd.V_reads' HO_6.out).2.2 x7_1 p139 q139
                  cases e139
                  obtain ⟨ce139, hce139, hMe139, hcc139⟩ := Kd.V_get HO_6.out z27 x7_1 p139 (by first | exact q139 | exact of_decide_eq_true (by first | (with_reducible assumption) | assumption) | (have e_ := (Kd.V_reads' HO_6.out).1; omega))
                  obtain ⟨ua139_5, uc139_5, rfl, ul139_5, ge139_5⟩ := k27_openF hMe139
                  have hv139_5 := hcc139 5 _ rfl
                  rw [add_field _ _ 5 (by omega)] at hv139_5
                  replace hv139_5 := Option.some.inj (hv139_5.symm.trans hx139_5)
                  injection hv139_5 with hva_ hvn_ hvc_
                  rw [hva_] at ge139_5
                  rw [hvc_] at ul139_5
                  have HL139_5 := Aside0.mk (show Kd.V k27 27 _ w.heap.size _ _ ((rd_T27 t136 x7_1).f5) from Kd.V_mk ul139_5 ge139_5)
                  clear hva_ hvn_ hvc_ ge139_5 ul139_5
                  clear hcc139 hce139
                  have HR139_5 := Aside0.mk hi139_5
                  have HC139_5 := Aside0.mk hl139_5
                  clear hi139_5 hl139_5
                  replace p139 := eq_true p139
                  replace q139 := eq_true q139
                  go_wp2_with (first | ((with_reducible refine gate_callee (f := 22) rfl ?_); refine goesL_ (some 27) rfl rfl Try.func22 (by kernel_rfl) rfl #[.agg #[.int .i64 ((rd_T27 t136 x7_1).f0), .int .i64 ((rd_T27 t136 x7_1).f1), .int .i64 ((rd_T27 t136 x7_1).f2), .int .i64 ((rd_T27 t136 x7_1).f3), .int .i64 ((rd_T27 t136 x7_1).f4), .slice A139_5 ((rd_T27 t136 x7_1).f5).length c139_5], .int .i64 (wrap64 (a1 - 1))] rfl (by (try simp only [List.map_toArray, List.map_cons, List.map_nil]); first | done | rfl | (simp only [List.length_drop, List.length_take]; rfl)) ?_; (with_reducible refine (ih kj6 (by have := HK1.out; have := HJ6.out; omega) ((rd_T27 t136 x7_1).f0) ((rd_T27 t136 x7_1).f1) ((rd_T27 t136 x7_1).f2) ((rd_T27 t136 x7_1).f3) ((rd_T27 t136 x7_1).f4) _ _ ((rd_T27 t136 x7_1).f5) (wrap64 (a1 - 1)) t140 _ ?side1 ?side2 A14.out).mono ?_); (case side1 => repeat (first | exact (by repeat (first | (with_reducible exact HR139_5.out) | (with_reducible refine Kd.C_alloc ?_ _) | (with_reducible refine Kd.C_drewN ?_ _) | (with_reducible refine Kd.C_drew ?_) | exact HR139_5.out)) | (with_reducible refine Kd.C_alloc ?_ _) | (with_reducible refine Kd.C_drewN ?_ _) | (with_reducible refine Kd.C_drew ?_))); (case side2 => exact HC139_5.out); rintro e w19 ⟨rfl, hb⟩; refine ⟨_, rfl, ?_⟩; have n0_ := Aside0.mk (Kd.V_below (by (with_reducible repeat (first | apply Kd.V_alloc | apply Kd.V_drewN | apply Kd.V_drew)); exact HO_6.out) hb); have n1_ := Aside0.mk (Kd.V_below (by (with_reducible repeat (first | apply Kd.V_alloc | apply Kd.V_drewN | apply Kd.V_drew)); exact HL139_5.out) hb); have n2_ := Aside0.mk (blk_below (g := gb135) (o := .cells #[.int .i64 a0_0, .int .i64 a0_1, .int .i64 a0_2, .int .i64 a0_3, .int .i64 a0_4, .slice A0_5 l0_5.length c0_5] 27 (0, 0)) (by (with_reducible repeat (first | refine blk_drewN ?_ _ | refine blk_drew ?_ | refine blk_alloc ?_ _)); exact BK135.out) hb); have n3_ := Aside0.mk (Kd.C_below (by repeat (first | (with_reducible exact HR139_5.out) | (with_reducible refine Kd.C_alloc ?_ _) | (with_reducible refine Kd.C_drewN ?_ _) | (with_reducible refine Kd.C_drew ?_) | exact HR139_5.out)) hb); have n4_ := Aside0.mk (below_step (by repeat (first | (with_reducible first | exact HB.out | apply below_alloc | apply pw_below_drewN | apply below_drew1 | refine below_set ?_ GE135.out) | exact HB.out)) hb); clear HO_6; clear HL139_5; clear BK135; clear HR139_5; clear HB; have HO_6 := n0_; have HL139_5 := n1_; have BK135 := n2_; have HR139_5 := n3_; have HB := n4_; clear n0_ n1_ n2_ n3_ n4_; (try clear hb); (try clear hb2); (try clear hk); (try clear hi)))
                  go_roundg kj6
                  case measure => have := HK1.out; have := HJ6.out; omega
                  case rel => exact ⟨(x5_1), (wrap64 (x7_1 + 1)), (by first | rfl | (simp; done) | (simp [*]; done)), (by first | rfl | (simp; done) | (simp [*]; done)), H', ⟨by have := HK1.out; have := HJ6.out; omega⟩, ⟨by (with_reducible repeat (first | apply Kd.V_alloc | apply Kd.V_drewN | apply Kd.V_drew)); exact HO_6.out⟩, ⟨by (with_reducible repeat (first | refine blk_drewN ?_ _ | refine blk_drew ?_ | refine blk_alloc ?_ _)); exact BK135.out⟩, ⟨by repeat (first | (with_reducible first | exact HB.out | apply below_alloc | apply pw_below_drewN | apply below_drew1 | refine below_set ?_ GE135.out) | exact HB.out)⟩⟩
              · rw [if_neg c13] at H
                exact absurd H (by simp)
            · rw [if_neg c12] at H
              exact absurd H (by simp)
          · replace c11 := Bool.eq_false_iff.mpr c11
            subst c11
            have H1 : (some (wrap64 (x5_1 + 1))) = some r := by rw [if_neg (show ¬ (false = true) by decide)] at H; exact H
            clear H
            have H := H1
            clear H1
            obtain rfl := Option.some.inj H
            go_wp2
            go_ret
            exact ⟨by first | rfl | (simp [errW_none, errW_some] <;> rfl) | (simp [*, errW_none, errW_some] <;> rfl), by repeat (first | (with_reducible first | exact HB.out | apply below_alloc | apply pw_below_drewN | apply below_drew1 | refine below_set ?_ GE135.out) | exact HB.out)⟩

end Go.Proofs.Ytfcghajnnllmhaa.QP

namespace Go.Proofs.Ytfcghajnnllmhaa.QP
open Go.RowKit Go.Proofs.YtfcghajnnllmhaaW.PrintWords Go.Proofs.YtfcghajnnllmhaaW.PrintLast Go.Proofs.YtfcghajnnllmhaaW.PrintMore
attribute [local go_sem] max2_int min2_int max_two min_two max_three min_three max_four min_four   -- for this text's walks alone
set_option linter.unusedVariables false
set_option linter.unusedSimpArgs false

/-! ### passepartoutref04_Least: function 34 -/
mutual
def passepartoutref04_Least.j0 : Nat → Int → Bool → Int → Int → Int → Int → Int → List (S27) → Option (Int)
  | 0, _, _, _, _, _, _, _, _ => none
  | k + 1, x6, x11, x142000, x142001, x142002, x142003, x142004, x142005 => if x11 = true then (some (wrap64 (x142001 + x142002))) else (if x6 = 4 then (some x142002) else (if x6 = 5 then (some x142002) else (passepartoutref04_Least.l0 k 0 0 x142000 x142001 x142002 x142003 x142004 x142005)))
def passepartoutref04_Least.l0 : Nat → Int → Int → Int → Int → Int → Int → Int → List (S27) → Option (Int)
  | 0, _, _, _, _, _, _, _, _ => none
  | k + 1, x3, x4, x142000, x142001, x142002, x142003, x142004, x142005 => if x4 < (x142005.length : Int) then (if 0 ≤ x4 then ((passepartoutref04_Least.f k ((rd_T27 x142005 x4).f0) ((rd_T27 x142005 x4).f1) ((rd_T27 x142005 x4).f2) ((rd_T27 x142005 x4).f3) ((rd_T27 x142005 x4).f4) ((rd_T27 x142005 x4).f5)).bind fun t143 => (passepartoutref04_Least.l0 k (wrap64 (x3 + t143)) (wrap64 (x4 + 1)) x142000 x142001 x142002 x142003 x142004 x142005)) else (none)) else (some x3)
def passepartoutref04_Least.f : Nat → Int → Int → Int → Int → Int → List (S27) → Option (Int)
  | 0, _, _, _, _, _, _ => none
  | k + 1, a0_0, a0_1, a0_2, a0_3, a0_4, l0_5 => if a0_0 = 0 then (some a0_1) else (if a0_0 = 1 then (passepartoutref04_Least.j0 k a0_0 (a0_0 == 1) a0_0 a0_1 a0_2 a0_3 a0_4 l0_5) else (passepartoutref04_Least.j0 k a0_0 (a0_0 == 2) a0_0 a0_1 a0_2 a0_3 a0_4 l0_5))
end
theorem passepartoutref04_Least.mono_l : ∀ k, (∀ y0 y1 y2 y3 y4 y5, LeO (passepartoutref04_Least.f k y0 y1 y2 y3 y4 y5) (passepartoutref04_Least.f (k + 1) y0 y1 y2 y3 y4 y5)) ∧ (∀ y0 y1 y2 y3 y4 y5 y6 y7, LeO (passepartoutref04_Least.j0 k y0 y1 y2 y3 y4 y5 y6 y7) (passepartoutref04_Least.j0 (k + 1) y0 y1 y2 y3 y4 y5 y6 y7)) ∧ (∀ y0 y1 y2 y3 y4 y5 y6 y7, LeO (passepartoutref04_Least.l0 k y0 y1 y2 y3 y4 y5 y6 y7) (passepartoutref04_Least.l0 (k + 1) y0 y1 y2 y3 y4 y5 y6 y7))
  | 0 => ⟨fun _ _ _ _ _ _ r h => by simp [passepartoutref04_Least.f] at h, fun _ _ _ _ _ _ _ _ r h => by simp [passepartoutref04_Least.j0] at h, fun _ _ _ _ _ _ _ _ r h => by simp [passepartoutref04_Least.l0] at h⟩
  | k + 1 => by
    obtain ⟨ih0, ih1, ih2⟩ := passepartoutref04_Least.mono_l k
    refine ⟨?_, ?_, ?_⟩
    · intro y0 y1 y2 y3 y4 y5
      unfold passepartoutref04_Least.f
      repeat' first
      | (with_reducible exact ih0 _ _ _ _ _ _)
      | (with_reducible exact ih1 _ _ _ _ _ _ _ _)
      | (with_reducible exact ih2 _ _ _ _ _ _ _ _)
      | (with_reducible exact LeO.refl _)
      | (with_reducible exact LeO.none _)
      | (with_reducible refine LeO.ite ?_ ?_)
      | (with_reducible refine LeO.bind ?_ (fun _ => ?_))
      | exact ih0 _ _ _ _ _ _
      | exact ih1 _ _ _ _ _ _ _ _
      | exact ih2 _ _ _ _ _ _ _ _
      | exact LeO.none _
      | refine LeO.ite ?_ ?_
      | refine LeO.bind ?_ (fun _ => ?_)
    · intro y0 y1 y2 y3 y4 y5 y6 y7
      unfold passepartoutref04_Least.j0
      repeat' first
      | (with_reducible exact ih0 _ _ _ _ _ _)
      | (with_reducible exact ih1 _ _ _ _ _ _ _ _)
      | (with_reducible exact ih2 _ _ _ _ _ _ _ _)
      | (with_reducible exact LeO.refl _)
      | (with_reducible exact LeO.none _)
      | (with_reducible refine LeO.ite ?_ ?_)
      | (with_reducible refine LeO.bind ?_ (fun _ => ?_))
      | exact ih0 _ _ _ _ _ _
      | exact ih1 _ _ _ _ _ _ _ _
      | exact ih2 _ _ _ _ _ _ _ _
      | exact LeO.none _
      | refine LeO.ite ?_ ?_
      | refine LeO.bind ?_ (fun _ => ?_)
    · intro y0 y1 y2 y3 y4 y5 y6 y7
      unfold passepartoutref04_Least.l0
      repeat' first
      | (with_reducible exact ih0 _ _ _ _ _ _)
      | (with_reducible exact ih1 _ _ _ _ _ _ _ _)
      | (with_reducible exact ih2 _ _ _ _ _ _ _ _)
      | (with_reducible exact LeO.refl _)
      | (with_reducible exact LeO.none _)
      | (with_reducible refine LeO.ite ?_ ?_)
      | (with_reducible refine LeO.bind ?_ (fun _ => ?_))
      | exact ih0 _ _ _ _ _ _
      | exact ih1 _ _ _ _ _ _ _ _
      | exact ih2 _ _ _ _ _ _ _ _
      | exact LeO.none _
      | refine LeO.ite ?_ ?_
      | refine LeO.bind ?_ (fun _ => ?_)
theorem passepartoutref04_Least.mono : ∀ a0 a1 a2 a3 a4 a5 k, LeO (passepartoutref04_Least.f k a0 a1 a2 a3 a4 a5) (passepartoutref04_Least.f (k + 1) a0 a1 a2 a3 a4 a5) := by
  intro a0 a1 a2 a3 a4 a5 k
  obtain ⟨ih0, ih1, ih2⟩ := passepartoutref04_Least.mono_l k
  exact ih0 a0 a1 a2 a3 a4 a5
set_option maxHeartbeats 8000000 in
set_option maxRecDepth 100000 in
theorem passepartoutref04_Least.calls (k : Nat) : ∀ (a0_0 : Int) (a0_1 : Int) (a0_2 : Int) (a0_3 : Int) (a0_4 : Int) (A0_5 : Option Addr) (c0_5 : Nat) (l0_5 : List (S27)) (r : Int) (w : World) (hr0_5 : Kd.C k27 w A0_5 l0_5.length l0_5) (hc0_5 : l0_5.length ≤ c0_5) (h : passepartoutref04_Least.f k a0_0 a0_1 a0_2 a0_3 a0_4 l0_5 = some r),
    Calls Try.prog 34 #[.agg #[.int .i64 a0_0, .int .i64 a0_1, .int .i64 a0_2, .int .i64 a0_3, .int .i64 a0_4, .slice A0_5 l0_5.length c0_5]] w fun e w' => e = .returned (.int .i64 r) ∧ Below w.heap.size w w' := by
  induction k using Nat.strongRecOn with
  | _ k ih =>
  intro a0_0 a0_1 a0_2 a0_3 a0_4 A0_5 c0_5 l0_5 r w hr0_5 hc0_5 h
  cases k with
  | zero => exact absurd h (by simp [passepartoutref04_Least.f])
  | succ k =>
  simp only [passepartoutref04_Least.f] at h
  have hu27 := Try.underlying27
  have HR0_5 := Aside0.mk hr0_5
  have HC0_5 := Aside0.mk hc0_5
  clear hr0_5 hc0_5
  have HB := Aside0.mk (Below.refl w.heap.size w)
  have H : (if a0_0 = 0 then (some a0_1) else (if a0_0 = 1 then (passepartoutref04_Least.j0 k a0_0 (a0_0 == 1) a0_0 a0_1 a0_2 a0_3 a0_4 l0_5) else (passepartoutref04_Least.j0 k a0_0 (a0_0 == 2) a0_0 a0_1 a0_2 a0_3 a0_4 l0_5))) = some r := h
  clear h
  by_cases c2 : a0_0 = 0
  · rw [if_pos c2] at H
    have c2b0 : (a0_0 == 0) = true := beq_iff_eq.mpr c2
    have c2b1 : (a0_0 != 0) = false := bne_eq_false_iff_eq.mpr c2
    clear c2
    obtain rfl := Option.some.inj H
    go_enter Try.func34, Try.ntmps34
    go_wp2_with (first | ((with_reducible refine gate_dst (N := 1) rfl ?_); refine box_event ?hg (N := 1) ?hd (cs := #[.int .i64 a0_0, .int .i64 a0_1, .int .i64 a0_2, .int .i64 a0_3, .int .i64 a0_4, .slice A0_5 l0_5.length c0_5]) (t := 27) ?hr ?_; (case hd => rfl); (case hg => rfl); (case hr => first | (go_simp; done) | (go_simp; rfl)); intro gb141 hg w3 hbox hb; have n0_ := Aside0.mk (below_step (by repeat (first | (with_reducible first | exact HB.out | apply below_alloc | apply pw_below_drewN | apply below_drew1) | exact HB.out)) hb); have n1_ := Aside0.mk (hbox); have n2_ := Aside0.mk ((by rw [hg]; exact (below_size (by repeat (first | (with_reducible first | exact HB.out | apply below_alloc | apply pw_below_drewN | apply below_drew1) | exact HB.out))) : w.heap.size ≤ gb141)); have n3_ := Aside0.mk ((by rw [hg]; exact (below_size (by repeat (first | (with_reducible first | exact HB.out | apply below_alloc | apply pw_below_drewN | apply below_drew1) | exact HB.out))) : w.heap.size ≤ gb141)); clear HB; have HB := n0_; have BK141 := n1_; have GW141 := n2_; have GE141 := n3_; clear n0_ n1_ n2_ n3_; clear hb hbox hg; have hcz4_0 : w3.cell? ⟨gb141, 0, none⟩ = some (.int .i64 a0_0) := (blk_cell BK141.out 0).trans rfl; have hcz4_1 : w3.cell? ⟨gb141, 1, none⟩ = some (.int .i64 a0_1) := (blk_cell BK141.out 1).trans rfl; have hcz4_2 : w3.cell? ⟨gb141, 2, none⟩ = some (.int .i64 a0_2) := (blk_cell BK141.out 2).trans rfl; have hcz4_3 : w3.cell? ⟨gb141, 3, none⟩ = some (.int .i64 a0_3) := (blk_cell BK141.out 3).trans rfl; have hcz4_4 : w3.cell? ⟨gb141, 4, none⟩ = some (.int .i64 a0_4) := (blk_cell BK141.out 4).trans rfl; have hcz4_5 : w3.cell? ⟨gb141, 5, none⟩ = some (.slice A0_5 l0_5.length c0_5) := (blk_cell BK141.out 5).trans rfl; have hfz4_0 := blk_frozen BK141.out 0; have hfz4_1 := blk_frozen BK141.out 1; have hfz4_2 := blk_frozen BK141.out 2; have hfz4_3 := blk_frozen BK141.out 3; have hfz4_4 := blk_frozen BK141.out 4; have hfz4_5 := blk_frozen BK141.out 5))
    go_ret
    exact ⟨by first | rfl | (simp [errW_none, errW_some] <;> rfl) | (simp [*, errW_none, errW_some] <;> rfl), by repeat (first | (with_reducible first | exact HB.out | apply below_alloc | apply pw_below_drewN | apply below_drew1 | refine below_set ?_ GE141.out) | exact HB.out)⟩
  · rw [if_neg c2] at H
    have c2b0 : (a0_0 == 0) = false := beq_eq_false_iff_ne.mpr c2
    have c2b1 : (a0_0 != 0) = true := bne_iff_ne.mpr c2
    have HC5 := Aside0.mk H
    clear H
    go_enter Try.func34, Try.ntmps34
    go_upto_if 11 with (first | ((with_reducible refine gate_dst (N := 1) rfl ?_); refine box_event ?hg (N := 1) ?hd (cs := #[.int .i64 a0_0, .int .i64 a0_1, .int .i64 a0_2, .int .i64 a0_3, .int .i64 a0_4, .slice A0_5 l0_5.length c0_5]) (t := 27) ?hr ?_; (case hd => rfl); (case hg => rfl); (case hr => first | (go_simp; done) | (go_simp; rfl)); intro gb141 hg w6 hbox hb; have n0_ := Aside0.mk (below_step (by repeat (first | (with_reducible first | exact HB.out | apply below_alloc | apply pw_below_drewN | apply below_drew1) | exact HB.out)) hb); have n1_ := Aside0.mk (hbox); have n2_ := Aside0.mk ((by rw [hg]; exact (below_size (by repeat (first | (with_reducible first | exact HB.out | apply below_alloc | apply pw_below_drewN | apply below_drew1) | exact HB.out))) : w.heap.size ≤ gb141)); have n3_ := Aside0.mk ((by rw [hg]; exact (below_size (by repeat (first | (with_reducible first | exact HB.out | apply below_alloc | apply pw_below_drewN | apply below_drew1) | exact HB.out))) : w.heap.size ≤ gb141)); clear HB; have HB := n0_; have BK141 := n1_; have GW141 := n2_; have GE141 := n3_; clear n0_ n1_ n2_ n3_; clear hb hbox hg; have hcz7_0 : w6.cell? ⟨gb141, 0, none⟩ = some (.int .i64 a0_0) := (blk_cell BK141.out 0).trans rfl; have hcz7_1 : w6.cell? ⟨gb141, 1, none⟩ = some (.int .i64 a0_1) := (blk_cell BK141.out 1).trans rfl; have hcz7_2 : w6.cell? ⟨gb141, 2, none⟩ = some (.int .i64 a0_2) := (blk_cell BK141.out 2).trans rfl; have hcz7_3 : w6.cell? ⟨gb141, 3, none⟩ = some (.int .i64 a0_3) := (blk_cell BK141.out 3).trans rfl; have hcz7_4 : w6.cell? ⟨gb141, 4, none⟩ = some (.int .i64 a0_4) := (blk_cell BK141.out 4).trans rfl; have hcz7_5 : w6.cell? ⟨gb141, 5, none⟩ = some (.slice A0_5 l0_5.length c0_5) := (blk_cell BK141.out 5).trans rfl; have hfz7_0 := blk_frozen BK141.out 0; have hfz7_1 := blk_frozen BK141.out 1; have hfz7_2 := blk_frozen BK141.out 2; have hfz7_3 := blk_frozen BK141.out 3; have hfz7_4 := blk_frozen BK141.out 4; have hfz7_5 := blk_frozen BK141.out 5))
    (try simp only [Act.put, List.setIfInBounds_toArray, List.set_cons_zero, List.set_cons_succ])
    go_cut [11] (fun v11 wc => ∃ (kq : Nat) (x11_4 : Bool), v11 = .bool x11_4 ∧ Aside0 (passepartoutref04_Least.j0 kq a0_0 x11_4 a0_0 a0_1 a0_2 a0_3 a0_4 l0_5 = some r) ∧ Aside0 (kq ≤ k) ∧ Aside0 (wc.heap[gb141]? = some (.cells #[.int .i64 a0_0, .int .i64 a0_1, .int .i64 a0_2, .int .i64 a0_3, .int .i64 a0_4, (.slice A0_5 l0_5.length c0_5)] 27 (0, 0))) ∧ Aside0 (Below w.heap.size w wc))
    case first =>
      have H := HC5.out
      clear HC5
      by_cases c8 : a0_0 = 1
      · rw [if_pos c8] at H
        have c8b0 : (a0_0 == 1) = true := beq_iff_eq.mpr c8
        have c8b1 : (a0_0 != 1) = false := bne_eq_false_iff_eq.mpr c8
        clear c8
        (first | rw [c8b0] | (simp only [i64_w, i32_w]; rw [c8b0]) | skip)
        have H' := Aside0.mk H
        clear H
        go_wp2
        go_meet
        case rel => exact ⟨_, ((a0_0 == 1)), (by first | rfl | (simp; done) | (simp [*]; done)), H', ⟨by first | omega | exact Nat.le_refl _⟩, ⟨by (with_reducible repeat (first | refine blk_drewN ?_ _ | refine blk_drew ?_ | refine blk_alloc ?_ _)); exact BK141.out⟩, ⟨by repeat (first | (with_reducible first | exact HB.out | apply below_alloc | apply pw_below_drewN | apply below_drew1 | refine below_set ?_ GE141.out) | exact HB.out)⟩⟩
      · rw [if_neg c8] at H
        have c8b0 : (a0_0 == 1) = false := beq_eq_false_iff_ne.mpr c8
        have c8b1 : (a0_0 != 1) = true := bne_iff_ne.mpr c8
        (first | rw [c8b0] | (simp only [i64_w, i32_w]; rw [c8b0]) | skip)
        have H' := Aside0.mk H
        clear H
        go_wp2
        go_meet
        case rel => exact ⟨_, ((a0_0 == 2)), (by first | rfl | (simp; done) | (simp [*]; done)), H', ⟨by first | omega | exact Nat.le_refl _⟩, ⟨by (with_reducible repeat (first | refine blk_drewN ?_ _ | refine blk_drew ?_ | refine blk_alloc ?_ _)); exact BK141.out⟩, ⟨by repeat (first | (with_reducible first | exact HB.out | apply below_alloc | apply pw_below_drewN | apply below_drew1 | refine below_set ?_ GE141.out) | exact HB.out)⟩⟩
    case rest =>
      clear HC5
      try clear c2
      try clear c2b0
      try clear c2b1
      try clear p2
      try clear c3
      try clear c8
      try clear c8b0
      try clear c8b1
      try clear hcz4_0
      try clear hcz4_1
      try clear hcz4_2
      try clear hcz4_3
      try clear hcz4_4
      try clear hcz4_5
      try clear hcz7_0
      try clear hcz7_1
      try clear hcz7_2
      try clear hcz7_3
      try clear hcz7_4
      try clear hcz7_5
      try clear hfz4_0
      try clear hfz4_1
      try clear hfz4_2
      try clear hfz4_3
      try clear hfz4_4
      try clear hfz4_5
      try clear hfz7_0
      try clear hfz7_1
      try clear hfz7_2
      try clear hfz7_3
      try clear hfz7_4
      try clear hfz7_5
      obtain ⟨kq, x11_4, rfl, HA, HJ4, BK141, HB⟩ := hcut
      cases kq with
      | zero => exact absurd HA.out (by simp [passepartoutref04_Least.j0])
      | succ kj4 =>
        have H := HA.out
        clear HA
        simp only [passepartoutref04_Least.j0] at H
        by_cases c9 : x11_4 = true
        · subst c9
          have H1 : (some (wrap64 (a0_1 + a0_2))) = some r := by rw [if_pos rfl] at H; exact H
          clear H
          have H := H1
          clear H1
          obtain rfl := Option.some.inj H
          have hcz10_0 : wc.cell? ⟨gb141, 0, none⟩ = some (.int .i64 a0_0) := (blk_cell BK141.out 0).trans rfl
          have hcz10_1 : wc.cell? ⟨gb141, 1, none⟩ = some (.int .i64 a0_1) := (blk_cell BK141.out 1).trans rfl
          have hcz10_2 : wc.cell? ⟨gb141, 2, none⟩ = some (.int .i64 a0_2) := (blk_cell BK141.out 2).trans rfl
          have hcz10_3 : wc.cell? ⟨gb141, 3, none⟩ = some (.int .i64 a0_3) := (blk_cell BK141.out 3).trans rfl
          have hcz10_4 : wc.cell? ⟨gb141, 4, none⟩ = some (.int .i64 a0_4) := (blk_cell BK141.out 4).trans rfl
          have hcz10_5 : wc.cell? ⟨gb141, 5, none⟩ = some (.slice A0_5 l0_5.length c0_5) := (blk_cell BK141.out 5).trans rfl
          have hfz10_0 := blk_frozen BK141.out 0
          have hfz10_1 := blk_frozen BK141.out 1
          have hfz10_2 := blk_frozen BK141.out 2
          have hfz10_3 := blk_frozen BK141.out 3
          have hfz10_4 := blk_frozen BK141.out 4
          have hfz10_5 := blk_frozen BK141.out 5
          go_wp2
          go_ret
          exact ⟨by first | rfl | (simp [errW_none, errW_some] <;> rfl) | (simp [*, errW_none, errW_some] <;> rfl), by repeat (first | (with_reducible first | exact HB.out | apply below_alloc | apply pw_below_drewN | apply below_drew1 | refine below_set ?_ GE141.out) | exact HB.out)⟩
        · replace c9 := Bool.eq_false_iff.mpr c9
          subst c9
          have H1 : (if a0_0 = 4 then (some a0_2) else (if a0_0 = 5 then (some a0_2) else (passepartoutref04_Least.l0 kj4 0 0 a0_0 a0_1 a0_2 a0_3 a0_4 l0_5))) = some r := by rw [if_neg (show ¬ (false = true) by decide)] at H; exact H
          clear H
          have H := H1
          clear H1
          by_cases c11 : a0_0 = 4
          · rw [if_pos c11] at H
            have c11b0 : (a0_0 == 4) = true := beq_iff_eq.mpr c11
            have c11b1 : (a0_0 != 4) = false := bne_eq_false_iff_eq.mpr c11
            clear c11
            obtain rfl := Option.some.inj H
            have hcz12_0 : wc.cell? ⟨gb141, 0, none⟩ = some (.int .i64 a0_0) := (blk_cell BK141.out 0).trans rfl
            have hcz12_1 : wc.cell? ⟨gb141, 1, none⟩ = some (.int .i64 a0_1) := (blk_cell BK141.out 1).trans rfl
            have hcz12_2 : wc.cell? ⟨gb141, 2, none⟩ = some (.int .i64 a0_2) := (blk_cell BK141.out 2).trans rfl
            have hcz12_3 : wc.cell? ⟨gb141, 3, none⟩ = some (.int .i64 a0_3) := (blk_cell BK141.out 3).trans rfl
            have hcz12_4 : wc.cell? ⟨gb141, 4, none⟩ = some (.int .i64 a0_4) := (blk_cell BK141.out 4).trans rfl
            have hcz12_5 : wc.cell? ⟨gb141, 5, none⟩ = some (.slice A0_5 l0_5.length c0_5) := (blk_cell BK141.out 5).trans rfl
            have hfz12_0 := blk_frozen BK141.out 0
            have hfz12_1 := blk_frozen BK141.out 1
            have hfz12_2 := blk_frozen BK141.out 2
            have hfz12_3 := blk_frozen BK141.out 3
            have hfz12_4 := blk_frozen BK141.out 4
            have hfz12_5 := blk_frozen BK141.out 5
            go_wp2
            go_ret
            exact ⟨by first | rfl | (simp [errW_none, errW_some] <;> rfl) | (simp [*, errW_none, errW_some] <;> rfl), by repeat (first | (with_reducible first | exact HB.out | apply below_alloc | apply pw_below_drewN | apply below_drew1 | refine below_set ?_ GE141.out) | exact HB.out)⟩
          · rw [if_neg c11] at H
            have c11b0 : (a0_0 == 4) = false := beq_eq_false_iff_ne.mpr c11
            have c11b1 : (a0_0 != 4) = true := bne_iff_ne.mpr c11
            by_cases c13 : a0_0 = 5
            · rw [if_pos c13] at H
              have c13b0 : (a0_0 == 5) = true := beq_iff_eq.mpr c13
              have c13b1 : (a0_0 != 5) = false := bne_eq_false_iff_eq.mpr c13
              clear c13
              obtain rfl := Option.some.inj H
              have hcz14_0 : wc.cell? ⟨gb141, 0, none⟩ = some (.int .i64 a0_0) := (blk_cell BK141.out 0).trans rfl
              have hcz14_1 : wc.cell? ⟨gb141, 1, none⟩ = some (.int .i64 a0_1) := (blk_cell BK141.out 1).trans rfl
              have hcz14_2 : wc.cell? ⟨gb141, 2, none⟩ = some (.int .i64 a0_2) := (blk_cell BK141.out 2).trans rfl
              have hcz14_3 : wc.cell? ⟨gb141, 3, none⟩ = some (.int .i64 a0_3) := (blk_cell BK141.out 3).trans rfl
              have hcz14_4 : wc.cell? ⟨gb141, 4, none⟩ = some (.int .i64 a0_4) := (blk_cell BK141.out 4).trans rfl
              have hcz14_5 : wc.cell? ⟨gb141, 5, none⟩ = some (.slice A0_5 l0_5.length c0_5) := (blk_cell BK141.out 5).trans rfl
              have hfz14_0 := blk_frozen BK141.out 0
              have hfz14_1 := blk_frozen BK141.out 1
              have hfz14_2 := blk_frozen BK141.out 2
              have hfz14_3 := blk_frozen BK141.out 3
              have hfz14_4 := blk_frozen BK141.out 4
              have hfz14_5 := blk_frozen BK141.out 5
              go_wp2
              go_ret
              exact ⟨by first | rfl | (simp [errW_none, errW_some] <;> rfl) | (simp [*, errW_none, errW_some] <;> rfl), by repeat (first | (with_reducible first | exact HB.out | apply below_alloc | apply pw_below_drewN | apply below_drew1 | refine below_set ?_ GE141.out) | exact HB.out)⟩
            · rw [if_neg c13] at H
              have c13b0 : (a0_0 == 5) = false := beq_eq_false_iff_ne.mpr c13
              have c13b1 : (a0_0 != 5) = true := bne_iff_ne.mpr c13
              have H' := Aside0.mk H
              clear H
              go_wp2
              go_loopg [3, 4] kj4 (fun kq v3 v4 w' => ∃ (x3_2 : Int) (x4_2 : Int), v3 = .int .i64 x3_2 ∧ v4 = .int .i64 x4_2 ∧ Aside0 (passepartoutref04_Least.l0 kq x3_2 x4_2 a0_0 a0_1 a0_2 a0_3 a0_4 l0_5 = some r) ∧ Aside0 (kq ≤ kj4) ∧ Aside0 (w'.heap[gb141]? = some (.cells #[.int .i64 a0_0, .int .i64 a0_1, .int .i64 a0_2, .int .i64 a0_3, .int .i64 a0_4, (.slice A0_5 l0_5.length c0_5)] 27 (0, 0))) ∧ Aside0 (Below w.heap.size w w'))
              case atStart => exact ⟨(0), (0), (by first | rfl | (simp; done) | (simp [*]; done)), (by first | rfl | (simp; done) | (simp [*]; done)), H', ⟨Nat.le_refl _⟩, ⟨by (with_reducible repeat (first | refine blk_drewN ?_ _ | refine blk_drew ?_ | refine blk_alloc ?_ _)); exact BK141.out⟩, ⟨by repeat (first | (with_reducible first | exact HB.out | apply below_alloc | apply pw_below_drewN | apply below_drew1 | refine below_set ?_ GE141.out) | exact HB.out)⟩⟩
              case round =>
                clear H'
                try clear c1
                try clear c2
                try clear c2b0
                try clear c2b1
                try clear p2
                try clear c3
                try clear p6
                try clear c8
                try clear c8b0
                try clear c8b1
                try clear c9
                try clear c11
                try clear c11b0
                try clear c11b1
                try clear c13
                try clear c13b0
                try clear c13b1
                try clear hcz10_0
                try clear hcz10_1
                try clear hcz10_2
                try clear hcz10_3
                try clear hcz10_4
                try clear hcz10_5
                try clear hcz12_0
                try clear hcz12_1
                try clear hcz12_2
                try clear hcz12_3
                try clear hcz12_4
                try clear hcz12_5
                try clear hcz14_0
                try clear hcz14_1
                try clear hcz14_2
                try clear hcz14_3
                try clear hcz14_4
                try clear hcz14_5
                try clear hcz4_0
                try clear hcz4_1
                try clear hcz4_2
                try clear hcz4_3
                try clear hcz4_4
                try clear hcz4_5
                try clear hcz7_0
                try clear hcz7_1
                try clear hcz7_2
                try clear hcz7_3
                try clear hcz7_4
                try clear hcz7_5
                try clear hfz10_0
                try clear hfz10_1
                try clear hfz10_2
                try clear hfz10_3
                try clear hfz10_4
                try clear hfz10_5
                try clear hfz12_0
                try clear hfz12_1
                try clear hfz12_2
                try clear hfz12_3
                try clear hfz12_4
                try clear hfz12_5
                try clear hfz14_0
                try clear hfz14_1
                try clear hfz14_2
                try clear hfz14_3
                try clear hfz14_4
                try clear hfz14_5
                try clear hfz4_0
                try clear hfz4_1
                try clear hfz4_2
                try clear hfz4_3
                try clear hfz4_4
                try clear hfz4_5
                try clear hfz7_0
                try clear hfz7_1
                try clear hfz7_2
                try clear hfz7_3
                try clear hfz7_4
                try clear hfz7_5
                try clear p2
                obtain ⟨x3_2, x4_2, rfl, rfl, HA, HK2, BK141, HB⟩ := hrel
                cases gk with
                | zero => exact absurd HA.out (by simp [passepartoutref04_Least.l0])
                | succ k2 =>
                  have H := HA.out
                  clear HA
                  simp only [passepartoutref04_Least.l0] at H
                  by_cases c15 : x4_2 < (l0_5.length : Int)
                  · rw [if_pos c15] at H
                    have c15b0 : decide (x4_2 < (l0_5.length : Int)) = true := decide_eq_true c15
                    clear c15
                    by_cases c16 : 0 ≤ x4_2
                    · rw [if_pos c16] at H
                      have c16b0 : decide (0 ≤ x4_2) = true := decide_eq_true c16
                      clear c16
                      replace H := Option.bind_eq_some_iff.mp H
                      obtain ⟨t143, A170, H⟩ := H
                      replace H : (passepartoutref04_Least.l0 k2 (wrap64 (x3_2 + t143)) (wrap64 (x4_2 + 1)) a0_0 a0_1 a0_2 a0_3 a0_4 l0_5) = some r := H
                      have A17 := Aside0.mk A170
                      clear A170
                      have H' := Aside0.mk H
                      clear H
                      have hcz18_0 : wr.cell? ⟨gb141, 0, none⟩ = some (.int .i64 a0_0) := (blk_cell BK141.out 0).trans rfl
                      have hcz18_1 : wr.cell? ⟨gb141, 1, none⟩ = some (.int .i64 a0_1) := (blk_cell BK141.out 1).trans rfl
                      have hcz18_2 : wr.cell? ⟨gb141, 2, none⟩ = some (.int .i64 a0_2) := (blk_cell BK141.out 2).trans rfl
                      have hcz18_3 : wr.cell? ⟨gb141, 3, none⟩ = some (.int .i64 a0_3) := (blk_cell BK141.out 3).trans rfl
                      have hcz18_4 : wr.cell? ⟨gb141, 4, none⟩ = some (.int .i64 a0_4) := (blk_cell BK141.out 4).trans rfl
                      have hcz18_5 : wr.cell? ⟨gb141, 5, none⟩ = some (.slice A0_5 l0_5.length c0_5) := (blk_cell BK141.out 5).trans rfl
                      have hfz18_0 := blk_frozen BK141.out 0
                      have hfz18_1 := blk_frozen BK141.out 1
                      have hfz18_2 := blk_frozen BK141.out 2
                      have hfz18_3 := blk_frozen BK141.out 3
                      have hfz18_4 := blk_frozen BK141.out 4
                      have hfz18_5 := blk_frozen BK141.out 5
                      have p142 : 0 ≤ (x4_2 : Int) := of_decide_eq_true (by first | (with_reducible assumption) | assumption)
                      have q142 : x4_2 < (l0_5.length : Int) := of_decide_eq_true (by first | (with_reducible assumption) | assumption)
                      obtain ⟨ad142, A142_5, c142_5, e142, hx142_0, hx142_1, hx142_2, hx142_3, hx142_4, hx142_5, hl142_5, hi142_5⟩ := at_T27 HR0_5.out x4_2 p142 q142
                      cases e142
                      replace hx142_0 := (HB.out.cell (World.block_lt_of_cell? w _ hx142_0)).trans hx142_0
                      replace hx142_1 := (HB.out.cell (World.block_lt_of_cell? w _ hx142_1)).trans hx142_1
                      replace hx142_2 := (HB.out.cell (World.block_lt_of_cell? w _ hx142_2)).trans hx142_2
                      replace hx142_3 := (HB.out.cell (World.block_lt_of_cell? w _ hx142_3)).trans hx142_3
                      replace hx142_4 := (HB.out.cell (World.block_lt_of_cell? w _ hx142_4)).trans hx142_4
                      replace hx142_5 := (HB.out.cell (World.block_lt_of_cell? w _ hx142_5)).trans hx142_5
                      have HR142_5 := Aside0.mk hi142_5
                      have HC142_5 := Aside0.mk hl142_5
                      clear hi142_5 hl142_5
                      replace p142 := eq_true p142
                      replace q142 := eq_true q142
                      go_wp2_with (first | ((with_reducible refine gate_callee (f := 34) rfl ?_); refine goesL_ (some 37) rfl rfl Try.func34 (by kernel_rfl) rfl #[.agg #[.int .i64 ((rd_T27 l0_5 x4_2).f0), .int .i64 ((rd_T27 l0_5 x4_2).f1), .int .i64 ((rd_T27 l0_5 x4_2).f2), .int .i64 ((rd_T27 l0_5 x4_2).f3), .int .i64 ((rd_T27 l0_5 x4_2).f4), .slice A142_5 ((rd_T27 l0_5 x4_2).f5).length c142_5]] rfl (by (try simp only [List.map_toArray, List.map_cons, List.map_nil]); first | done | rfl | (simp only [List.length_drop, List.length_take]; rfl)) ?_; (with_reducible refine (ih k2 (by have := HJ4.out; have := HK2.out; omega) ((rd_T27 l0_5 x4_2).f0) ((rd_T27 l0_5 x4_2).f1) ((rd_T27 l0_5 x4_2).f2) ((rd_T27 l0_5 x4_2).f3) ((rd_T27 l0_5 x4_2).f4) _ _ ((rd_T27 l0_5 x4_2).f5) t143 _ ?side1 ?side2 A17.out).mono ?_); (case side1 => repeat (first | exact (Kd.C_below HR142_5.out HB.out) | (with_reducible refine Kd.C_alloc ?_ _) | (with_reducible refine Kd.C_drewN ?_ _) | (with_reducible refine Kd.C_drew ?_))); (case side2 => exact HC142_5.out); rintro e w19 ⟨rfl, hb⟩; refine ⟨_, rfl, ?_⟩; have n0_ := Aside0.mk (blk_below (g := gb141) (o := .cells #[.int .i64 a0_0, .int .i64 a0_1, .int .i64 a0_2, .int .i64 a0_3, .int .i64 a0_4, .slice (some ad142) l0_5.length c0_5] 27 (0, 0)) (by (with_reducible repeat (first | refine blk_drewN ?_ _ | refine blk_drew ?_ | refine blk_alloc ?_ _)); exact BK141.out) hb); have n1_ := Aside0.mk (below_step (by repeat (first | (with_reducible first | exact HB.out | apply below_alloc | apply pw_below_drewN | apply below_drew1 | refine below_set ?_ GE141.out) | exact HB.out)) hb); clear BK141; clear HB; have BK141 := n0_; have HB := n1_; clear n0_ n1_; (try clear hb); (try clear hb2); (try clear hk); (try clear hi)))
                      go_roundg k2
                      case measure => have := HJ4.out; have := HK2.out; omega
                      case rel => exact ⟨(wrap64 (x3_2 + t143)), (wrap64 (x4_2 + 1)), (by first | rfl | (simp; done) | (simp [*]; done)), (by first | rfl | (simp; done) | (simp [*]; done)), H', ⟨by have := HJ4.out; have := HK2.out; omega⟩, ⟨by (with_reducible repeat (first | refine blk_drewN ?_ _ | refine blk_drew ?_ | refine blk_alloc ?_ _)); exact BK141.out⟩, ⟨by repeat (first | (with_reducible first | exact HB.out | apply below_alloc | apply pw_below_drewN | apply below_drew1 | refine below_set ?_ GE141.out) | exact HB.out)⟩⟩
                    · rw [if_neg c16] at H
                      exact absurd H (by simp)
                  · rw [if_neg c15] at H
                    have c15b0 : decide (x4_2 < (l0_5.length : Int)) = false := decide_eq_false c15
                    clear c15
                    obtain rfl := Option.some.inj H
                    have hcz20_0 : wr.cell? ⟨gb141, 0, none⟩ = some (.int .i64 a0_0) := (blk_cell BK141.out 0).trans rfl
                    have hcz20_1 : wr.cell? ⟨gb141, 1, none⟩ = some (.int .i64 a0_1) := (blk_cell BK141.out 1).trans rfl
                    have hcz20_2 : wr.cell? ⟨gb141, 2, none⟩ = some (.int .i64 a0_2) := (blk_cell BK141.out 2).trans rfl
                    have hcz20_3 : wr.cell? ⟨gb141, 3, none⟩ = some (.int .i64 a0_3) := (blk_cell BK141.out 3).trans rfl
                    have hcz20_4 : wr.cell? ⟨gb141, 4, none⟩ = some (.int .i64 a0_4) := (blk_cell BK141.out 4).trans rfl
                    have hcz20_5 : wr.cell? ⟨gb141, 5, none⟩ = some (.slice A0_5 l0_5.length c0_5) := (blk_cell BK141.out 5).trans rfl
                    have hfz20_0 := blk_frozen BK141.out 0
                    have hfz20_1 := blk_frozen BK141.out 1
                    have hfz20_2 := blk_frozen BK141.out 2
                    have hfz20_3 := blk_frozen BK141.out 3
                    have hfz20_4 := blk_frozen BK141.out 4
                    have hfz20_5 := blk_frozen BK141.out 5
                    go_wp2
                    go_ret
                    exact ⟨by first | rfl | (simp [errW_none, errW_some] <;> rfl) | (simp [*, errW_none, errW_some] <;> rfl), by repeat (first | (with_reducible first | exact HB.out | apply below_alloc | apply pw_below_drewN | apply below_drew1 | refine below_set ?_ GE141.out) | exact HB.out)⟩

end Go.Proofs.Ytfcghajnnllmhaa.QP

namespace Go.Proofs.Ytfcghajnnllmhaa
open Go.RowKit

set_option maxRecDepth 100000 in
theorem rtop_any (s : Int) (hs : s = 1 ∨ s = 2 ∨ s = 3) (w : World) : Calls Try.prog 69 #[.int .i64 s] w fun e w' => e = .returned (.int .i64 (256 ^ s.toNat - 1)) ∧ w' = w := by
  rcases hs with rfl | rfl | rfl
  all_goals
    go_enter Try.func69, Try.ntmps69
    go_wp2_with fail
    refine wp_loop_rounds 5 ?_
    iterate 5 (first | (rw [rounds_succ]; go_wp2_with fail) | skip)
    go_ret
    exact ⟨by first | rfl | (congr 2), rfl⟩
set_option maxRecDepth 100000 in
set_option maxHeartbeats 6400000 in
theorem rown_any (ok : Nat → Prop) (v : Value) (f : Fm) (w : World) (hv : FmR w ok v f) :
    Calls Try.prog 64 #[v] w fun e w' => e = .returned (.int .i64 (ownR f)) ∧ Kp (fun _ => False) w w' := by
  obtain ⟨⟨k, s, lo, hi, st⟩, ps⟩ := f
  obtain ⟨r, hr⟩ : ∃ r, ownR (.mk ⟨k, s, lo, hi, st⟩ ps) = r := ⟨_, rfl⟩
  rw [hr]
  have hr' : ownN k s lo hi st ps.length = r := hr
  clear hr
  obtain ⟨A, c, rfl, h1, h2, _, _, _, _, _, _⟩ := hv.parts
  clear hv
  have hk1 := (Kp.refl (fun _ => False) w).alloc (.cells #[.int .i64 k, .int .i64 s, .int .i64 lo, .int .i64 hi, .int .i64 st, .slice A ps.length c] 27)
  have HK := Lib.hid (fun n => hk1.drewN n)
  have HK0 := Lib.hid hk1
  clear hk1
  unfold ownN at hr'
  by_cases kl : k < 0
  · rw [if_neg (by omega), if_neg (by omega), if_neg (by omega), if_neg (by omega), if_neg (by omega)] at hr'
    subst hr'
    have t : decide (k < 0) = true := decide_eq_true kl
    clear kl
    go_enter Try.func64, Try.ntmps64
    go_wp2_with fail
    go_ret
    exact ⟨rfl, HK0.out⟩
  by_cases kg : 5 < k
  · rw [if_neg (by omega), if_neg (by omega), if_neg (by omega), if_neg (by omega), if_neg (by omega)] at hr'
    subst hr'
    have t : decide (k < 0) = false := decide_eq_false kl
    have t2 : decide (5 < k) = true := decide_eq_true kg
    clear kl kg
    go_enter Try.func64, Try.ntmps64
    go_wp2_with fail
    go_ret
    exact ⟨rfl, HK0.out⟩
  by_cases k0 : k = 0
  · subst k0
    rw [if_pos rfl] at hr'
    clear kl kg
    by_cases s1 : s = 1
    · subst s1
      obtain rfl : (0 : Int) = r := by simpa using hr'
      go_enter Try.func64, Try.ntmps64
      go_wp2_with fail
      go_ret
      exact ⟨rfl, HK0.out⟩
    by_cases s2 : s = 2
    · subst s2
      obtain rfl : (0 : Int) = r := by simpa using hr'
      go_enter Try.func64, Try.ntmps64
      go_wp2_with fail
      go_ret
      exact ⟨rfl, HK0.out⟩
    by_cases s3 : s = 3
    · subst s3
      obtain rfl : (0 : Int) = r := by simpa using hr'
      go_enter Try.func64, Try.ntmps64
      go_wp2_with fail
      go_ret
      exact ⟨rfl, HK0.out⟩
    by_cases s4 : s = 4
    · subst s4
      obtain rfl : (0 : Int) = r := by simpa using hr'
      go_enter Try.func64, Try.ntmps64
      go_wp2_with fail
      go_ret
      exact ⟨rfl, HK0.out⟩
    by_cases s8 : s = 8
    · subst s8
      obtain rfl : (0 : Int) = r := by simpa using hr'
      go_enter Try.func64, Try.ntmps64
      go_wp2_with fail
      go_ret
      exact ⟨rfl, HK0.out⟩
    rw [if_pos (by omega)] at hr'
    subst hr'
    have t1 : (s != 1) = true := by simpa using s1
    have t2 : (s != 2) = true := by simpa using s2
    have t3 : (s != 3) = true := by simpa using s3
    have t4 : (s != 4) = true := by simpa using s4
    have t8 : (s != 8) = true := by simpa using s8
    clear s1 s2 s3 s4 s8
    go_enter Try.func64, Try.ntmps64
    go_wp2_with fail
    go_ret
    exact ⟨rfl, HK0.out⟩
  rw [if_neg k0] at hr'
  by_cases k12 : k = 2 ∨ k = 1
  · rw [if_pos k12] at hr'
    have tl : decide (k < 0) = false := decide_eq_false kl
    have tg : decide (5 < k) = false := decide_eq_false kg
    have t0 : (k == 0) = false := by simpa using k0
    have t4 : (k == 4) = false := by simp; omega
    have t5 : (k == 5) = false := by simp; omega
    have t3 : (k == 3) = false := by simp; omega
    have hlen : ((ps.length : Int) != 1) = decide (ps.length ≠ 1) := by rw [Bool.eq_iff_iff]; simp; omega
    have htk : ((k == 1) = true ∧ (k == 2) = false ∧ k ≠ 2) ∨ ((k == 1) = false ∧ (k == 2) = true ∧ k = 2) := by
      rcases k12 with rfl | rfl
      · exact .inr ⟨by simp, by simp, rfl⟩
      · exact .inl ⟨by simp, by simp, by omega⟩
    clear kl kg k0 k12
    by_cases s1 : s < 1
    · have u1 : decide (s < 1) = true := decide_eq_true s1
      rw [if_pos (.inl s1)] at hr'
      subst hr'
      clear s1
      rcases htk with ⟨t1, t2, _⟩ | ⟨t1, t2, rfl⟩
      all_goals
        go_enter Try.func64, Try.ntmps64
        go_wp2_with fail
        go_ret
        exact ⟨rfl, HK0.out⟩
    have u1 : decide (s < 1) = false := decide_eq_false s1
    by_cases s3 : 3 < s
    · have u3 : decide (3 < s) = true := decide_eq_true s3
      rw [if_pos (.inr s3)] at hr'
      subst hr'
      clear s1 s3
      rcases htk with ⟨t1, t2, _⟩ | ⟨t1, t2, rfl⟩
      all_goals
        go_enter Try.func64, Try.ntmps64
        go_wp2_with fail
        go_ret
        exact ⟨rfl, HK0.out⟩
    have u3 : decide (3 < s) = false := decide_eq_false s3
    rw [if_neg (by omega)] at hr'
    have HT := Lib.hid (fun W => rtop_any s (by omega) W)
    clear s1 s3
    generalize (256 : Int) ^ s.toNat - 1 = M at HT hr'
    have hb : boundsR lo hi M = if lo < 0 ∨ hi < lo ∨ M < hi then 5 else 0 := rfl
    by_cases a1 : lo < 0
    · have e5 : boundsR lo hi M = 5 := by rw [hb, if_pos (.inl a1)]
      rw [if_pos (.inl (by omega))] at hr'
      subst hr'
      have v1 : decide (lo < 0) = true := decide_eq_true a1
      clear a1 hb e5
      rcases htk with ⟨t1, t2, _⟩ | ⟨t1, t2, rfl⟩
      all_goals
        go_enter Try.func64, Try.ntmps64
        go_wp2_with fail
        go_quiet ((go_at_call 69; exact Calls.quiet_of_same (HT.out _)))
        go_wp2_with fail
        go_ret
        exact ⟨rfl, HK.out _⟩
    have v1 : decide (lo < 0) = false := decide_eq_false a1
    by_cases a2 : hi < lo
    · have e5 : boundsR lo hi M = 5 := by rw [hb, if_pos (.inr (.inl a2))]
      rw [if_pos (.inl (by omega))] at hr'
      subst hr'
      have v2 : decide (hi < lo) = true := decide_eq_true a2
      clear a1 a2 hb e5
      rcases htk with ⟨t1, t2, _⟩ | ⟨t1, t2, rfl⟩
      all_goals
        go_enter Try.func64, Try.ntmps64
        go_wp2_with fail
        go_quiet ((go_at_call 69; exact Calls.quiet_of_same (HT.out _)))
        go_wp2_with fail
        go_ret
        exact ⟨rfl, HK.out _⟩
    have v2 : decide (hi < lo) = false := decide_eq_false a2
    by_cases a3 : M < hi
    · have e5 : boundsR lo hi M = 5 := by rw [hb, if_pos (.inr (.inr a3))]
      rw [if_pos (.inl (by omega))] at hr'
      subst hr'
      have v3 : decide (M < hi) = true := decide_eq_true a3
      clear a1 a2 a3 hb e5
      rcases htk with ⟨t1, t2, _⟩ | ⟨t1, t2, rfl⟩
      all_goals
        go_enter Try.func64, Try.ntmps64
        go_wp2_with fail
        go_quiet ((go_at_call 69; exact Calls.quiet_of_same (HT.out _)))
        go_wp2_with fail
        go_ret
        exact ⟨rfl, HK.out _⟩
    have v3 : decide (M < hi) = false := decide_eq_false a3
    have e0 : boundsR lo hi M = 0 := by rw [hb, if_neg (by omega)]
    by_cases a4 : st < 1
    · rw [if_pos (.inr (.inl a4))] at hr'
      subst hr'
      have v4 : decide (st < 1) = true := decide_eq_true a4
      clear a1 a2 a3 a4 hb e0
      rcases htk with ⟨t1, t2, _⟩ | ⟨t1, t2, rfl⟩
      all_goals
        go_enter Try.func64, Try.ntmps64
        go_wp2_with fail
        go_quiet ((go_at_call 69; exact Calls.quiet_of_same (HT.out _)))
        go_wp2_with fail
        go_ret
        exact ⟨rfl, HK.out _⟩
    have v4 : decide (st < 1) = false := decide_eq_false a4
    by_cases a5 : 65536 < st
    · rw [if_pos (.inr (.inr a5))] at hr'
      subst hr'
      have v5 : decide (65536 < st) = true := decide_eq_true a5
      clear a1 a2 a3 a4 a5 hb e0
      rcases htk with ⟨t1, t2, _⟩ | ⟨t1, t2, rfl⟩
      all_goals
        go_enter Try.func64, Try.ntmps64
        go_wp2_with fail
        go_quiet ((go_at_call 69; exact Calls.quiet_of_same (HT.out _)))
        go_wp2_with fail
        go_ret
        exact ⟨rfl, HK.out _⟩
    have v5 : decide (65536 < st) = false := decide_eq_false a5
    rw [if_neg (by omega)] at hr'
    clear a1 a2 a3 a4 a5 hb e0
    rcases htk with ⟨t1, t2, k2⟩ | ⟨t1, t2, rfl⟩
    · rw [if_neg (fun h => k2 h.1)] at hr'
      subst hr'
      clear k2 hlen
      go_enter Try.func64, Try.ntmps64
      go_wp2_with fail
      go_quiet ((go_at_call 69; exact Calls.quiet_of_same (HT.out _)))
      go_wp2_with fail
      go_ret
      exact ⟨rfl, HK.out _⟩
    · by_cases hl : ps.length = 1
      · rw [if_neg (fun h => h.2 hl)] at hr'
        subst hr'
        rw [decide_eq_false (by simpa using hl)] at hlen
        clear hl
        go_enter Try.func64, Try.ntmps64
        go_wp2_with fail
        go_quiet ((go_at_call 69; exact Calls.quiet_of_same (HT.out _)))
        go_wp2_with fail
        go_ret
        exact ⟨rfl, HK.out _⟩
      · rw [if_pos ⟨rfl, hl⟩] at hr'
        subst hr'
        rw [decide_eq_true hl] at hlen
        clear hl
        go_enter Try.func64, Try.ntmps64
        go_wp2_with fail
        go_quiet ((go_at_call 69; exact Calls.quiet_of_same (HT.out _)))
        go_wp2_with fail
        go_ret
        exact ⟨rfl, HK.out _⟩
  rw [if_neg k12] at hr'
  by_cases k3 : k = 3
  · subst k3
    rw [if_pos rfl] at hr'
    clear kl kg k0 k12
    have hlen : decide (32 < (ps.length : Int)) = decide (32 < ps.length) := by rw [Bool.eq_iff_iff]; simp; omega
    by_cases hl : 32 < ps.length
    · rw [if_pos hl] at hr'
      subst hr'
      rw [decide_eq_true hl] at hlen
      have hl2 : decide (32 < ps.length) = true := decide_eq_true hl
      clear hl
      go_enter Try.func64, Try.ntmps64
      go_wp2_with fail
      go_ret
      exact ⟨rfl, HK0.out⟩
    · rw [if_neg hl] at hr'
      subst hr'
      rw [decide_eq_false hl] at hlen
      have hl2 : decide (32 < ps.length) = false := decide_eq_false hl
      clear hl
      go_enter Try.func64, Try.ntmps64
      go_wp2_with fail
      go_ret
      exact ⟨rfl, HK0.out⟩
  rw [if_neg k3] at hr'
  have hb : ∀ x y M : Int, boundsR x y M = if x < 0 ∨ y < x ∨ M < y then 5 else 0 := fun _ _ _ => rfl
  by_cases k4 : k = 4
  · subst k4
    rw [if_pos rfl, hb] at hr'
    clear kl kg k0 k12 k3 hb
    by_cases a1 : lo < 0
    · rw [if_pos (.inl a1)] at hr'
      subst hr'
      have v1 : decide (lo < 0) = true := decide_eq_true a1
      clear a1
      go_enter Try.func64, Try.ntmps64
      go_wp2_with fail
      go_ret
      exact ⟨rfl, HK0.out⟩
    have v1 : decide (lo < 0) = false := decide_eq_false a1
    by_cases a2 : hi < lo
    · rw [if_pos (.inr (.inl a2))] at hr'
      subst hr'
      have v2 : decide (hi < lo) = true := decide_eq_true a2
      clear a1 a2
      go_enter Try.func64, Try.ntmps64
      go_wp2_with fail
      go_ret
      exact ⟨rfl, HK0.out⟩
    have v2 : decide (hi < lo) = false := decide_eq_false a2
    by_cases a3 : 16777215 < hi
    · rw [if_pos (.inr (.inr a3))] at hr'
      subst hr'
      have v3 : decide (16777215 < hi) = true := decide_eq_true a3
      clear a1 a2 a3
      go_enter Try.func64, Try.ntmps64
      go_wp2_with fail
      go_ret
      exact ⟨rfl, HK0.out⟩
    have v3 : decide (16777215 < hi) = false := decide_eq_false a3
    rw [if_neg (by omega)] at hr'
    subst hr'
    clear a1 a2 a3
    go_enter Try.func64, Try.ntmps64
    go_wp2_with fail
    go_ret
    exact ⟨rfl, HK0.out⟩
  rw [if_neg k4] at hr'
  obtain rfl : k = 5 := by omega
  rw [if_pos rfl, hb] at hr'
  clear kl kg k0 k12 k3 k4 hb
  by_cases a1 : lo < 0
  · rw [if_pos (.inl a1)] at hr'
    subst hr'
    have v1 : decide (lo < 0) = true := decide_eq_true a1
    clear a1
    go_enter Try.func64, Try.ntmps64
    go_wp2_with fail
    go_ret
    exact ⟨rfl, HK0.out⟩
  have v1 : decide (lo < 0) = false := decide_eq_false a1
  by_cases a3 : 16777215 < lo
  · rw [if_pos (.inr (.inr a3))] at hr'
    subst hr'
    have v3 : decide (16777215 < lo) = true := decide_eq_true a3
    clear a1 a3
    go_enter Try.func64, Try.ntmps64
    go_wp2_with fail
    go_ret
    exact ⟨rfl, HK0.out⟩
  have v3 : decide (16777215 < lo) = false := decide_eq_false a3
  rw [if_neg (by omega)] at hr'
  subst hr'
  clear a1 a3
  go_enter Try.func64, Try.ntmps64
  go_wp2_with fail
  go_ret
  exact ⟨rfl, HK0.out⟩
end Go.Proofs.Ytfcghajnnllmhaa

namespace Go.Proofs.Ytfcghajnnllmhaa.QP
open Go.RowKit Go.Proofs.YtfcghajnnllmhaaW.PrintWords Go.Proofs.YtfcghajnnllmhaaW.PrintLast Go.Proofs.YtfcghajnnllmhaaW.PrintMore
attribute [local go_sem] max2_int min2_int max_two min_two max_three min_three max_four min_four   -- for this text's walks alone
set_option linter.unusedVariables false
set_option linter.unusedSimpArgs false

/-! ### passepartoutref04_own: function 64 -/
def passepartoutref04_own.f (a0_0 : Int) (a0_1 : Int) (a0_2 : Int) (a0_3 : Int) (a0_4 : Int) (l0_5 : List (S27)) : Option (Int) := if wfF (toF ⟨a0_0, a0_1, a0_2, a0_3, a0_4, l0_5⟩) = true then some (ownR (toF ⟨a0_0, a0_1, a0_2, a0_3, a0_4, l0_5⟩)) else none
set_option maxHeartbeats 8000000 in
set_option maxRecDepth 100000 in
theorem passepartoutref04_own.calls (a0_0 : Int) (a0_1 : Int) (a0_2 : Int) (a0_3 : Int) (a0_4 : Int) (A0_5 : Option Addr) (c0_5 : Nat) (l0_5 : List (S27)) (r : Int) (w : World) (hr0_5 : Kd.C k27 w A0_5 l0_5.length l0_5) (hc0_5 : l0_5.length ≤ c0_5) (h : passepartoutref04_own.f a0_0 a0_1 a0_2 a0_3 a0_4 l0_5 = some r) :
    Calls Try.prog 64 #[.agg #[.int .i64 a0_0, .int .i64 a0_1, .int .i64 a0_2, .int .i64 a0_3, .int .i64 a0_4, .slice A0_5 l0_5.length c0_5]] w fun e w' => e = .returned (.int .i64 r) ∧ Below w.heap.size w w' := by
  unfold passepartoutref04_own.f at h
  split at h
  · rename_i hw
    injection h with h
    subst h
    exact (rown_any (fun x => x < w.heap.size) _ (toF ⟨a0_0, a0_1, a0_2, a0_3, a0_4, l0_5⟩) w (c_FmR hr0_5 hc0_5 hw)).mono fun e w' h => ⟨h.1, h.2.below⟩
  · cases h

end Go.Proofs.Ytfcghajnnllmhaa.QP

namespace Go.Proofs.Ytfcghajnnllmhaa.QP
open Go.RowKit Go.Proofs.YtfcghajnnllmhaaW.PrintWords Go.Proofs.YtfcghajnnllmhaaW.PrintLast Go.Proofs.YtfcghajnnllmhaaW.PrintMore
attribute [local go_sem] max2_int min2_int max_two min_two max_three min_three max_four min_four   -- for this text's walks alone
set_option linter.unusedVariables false
set_option linter.unusedSimpArgs false

/-! ### passepartoutref04_Open: function 65 -/
def passepartoutref04_Open.f : Nat → Int → Int → Int → Int → Int → List (S27) → Option (Bool)
  | 0, _, _, _, _, _, _ => none
  | k + 1, a0_0, a0_1, a0_2, a0_3, a0_4, l0_5 => if a0_0 = 4 then (some true) else (if a0_0 = 3 then (if (l0_5.length : Int) = 0 then (some false) else (if 0 ≤ (wrap64 ((l0_5.length : Int) - 1)) then (if (wrap64 ((l0_5.length : Int) - 1)) < (l0_5.length : Int) then ((passepartoutref04_Open.f k ((rd_T27 l0_5 (wrap64 ((l0_5.length : Int) - 1))).f0) ((rd_T27 l0_5 (wrap64 ((l0_5.length : Int) - 1))).f1) ((rd_T27 l0_5 (wrap64 ((l0_5.length : Int) - 1))).f2) ((rd_T27 l0_5 (wrap64 ((l0_5.length : Int) - 1))).f3) ((rd_T27 l0_5 (wrap64 ((l0_5.length : Int) - 1))).f4) ((rd_T27 l0_5 (wrap64 ((l0_5.length : Int) - 1))).f5)).bind fun t146 => (some t146)) else (none)) else (none))) else (some false))
theorem passepartoutref04_Open.mono_l : ∀ k, (∀ y0 y1 y2 y3 y4 y5, LeO (passepartoutref04_Open.f k y0 y1 y2 y3 y4 y5) (passepartoutref04_Open.f (k + 1) y0 y1 y2 y3 y4 y5))
  | 0 => fun _ _ _ _ _ _ r h => by simp [passepartoutref04_Open.f] at h
  | k + 1 => by
    have ih0 := passepartoutref04_Open.mono_l k
    · intro y0 y1 y2 y3 y4 y5
      unfold passepartoutref04_Open.f
      repeat' first
      | (with_reducible exact ih0 _ _ _ _ _ _)
      | (with_reducible exact LeO.refl _)
      | (with_reducible exact LeO.none _)
      | (with_reducible refine LeO.ite ?_ ?_)
      | (with_reducible refine LeO.bind ?_ (fun _ => ?_))
      | exact ih0 _ _ _ _ _ _
      | exact LeO.none _
      | refine LeO.ite ?_ ?_
      | refine LeO.bind ?_ (fun _ => ?_)
theorem passepartoutref04_Open.mono : ∀ a0 a1 a2 a3 a4 a5 k, LeO (passepartoutref04_Open.f k a0 a1 a2 a3 a4 a5) (passepartoutref04_Open.f (k + 1) a0 a1 a2 a3 a4 a5) := by
  intro a0 a1 a2 a3 a4 a5 k
  have ih0 := passepartoutref04_Open.mono_l k
  exact ih0 a0 a1 a2 a3 a4 a5
set_option maxHeartbeats 8000000 in
set_option maxRecDepth 100000 in
theorem passepartoutref04_Open.calls (k : Nat) : ∀ (a0_0 : Int) (a0_1 : Int) (a0_2 : Int) (a0_3 : Int) (a0_4 : Int) (A0_5 : Option Addr) (c0_5 : Nat) (l0_5 : List (S27)) (r : Bool) (w : World) (hr0_5 : Kd.C k27 w A0_5 l0_5.length l0_5) (hc0_5 : l0_5.length ≤ c0_5) (h : passepartoutref04_Open.f k a0_0 a0_1 a0_2 a0_3 a0_4 l0_5 = some r),
    Calls Try.prog 65 #[.agg #[.int .i64 a0_0, .int .i64 a0_1, .int .i64 a0_2, .int .i64 a0_3, .int .i64 a0_4, .slice A0_5 l0_5.length c0_5]] w fun e w' => e = .returned (.bool r) ∧ Below w.heap.size w w' := by
  induction k using Nat.strongRecOn with
  | _ k ih =>
  intro a0_0 a0_1 a0_2 a0_3 a0_4 A0_5 c0_5 l0_5 r w hr0_5 hc0_5 h
  cases k with
  | zero => exact absurd h (by simp [passepartoutref04_Open.f])
  | succ k =>
  simp only [passepartoutref04_Open.f] at h
  have hu27 := Try.underlying27
  have HR0_5 := Aside0.mk hr0_5
  have HC0_5 := Aside0.mk hc0_5
  clear hr0_5 hc0_5
  have HB := Aside0.mk (Below.refl w.heap.size w)
  have H : (if a0_0 = 4 then (some true) else (if a0_0 = 3 then (if (l0_5.length : Int) = 0 then (some false) else (if 0 ≤ (wrap64 ((l0_5.length : Int) - 1)) then (if (wrap64 ((l0_5.length : Int) - 1)) < (l0_5.length : Int) then ((passepartoutref04_Open.f k ((rd_T27 l0_5 (wrap64 ((l0_5.length : Int) - 1))).f0) ((rd_T27 l0_5 (wrap64 ((l0_5.length : Int) - 1))).f1) ((rd_T27 l0_5 (wrap64 ((l0_5.length : Int) - 1))).f2) ((rd_T27 l0_5 (wrap64 ((l0_5.length : Int) - 1))).f3) ((rd_T27 l0_5 (wrap64 ((l0_5.length : Int) - 1))).f4) ((rd_T27 l0_5 (wrap64 ((l0_5.length : Int) - 1))).f5)).bind fun t146 => (some t146)) else (none)) else (none))) else (some false))) = some r := h
  clear h
  by_cases c2 : a0_0 = 4
  · rw [if_pos c2] at H
    have c2b0 : (a0_0 == 4) = true := beq_iff_eq.mpr c2
    have c2b1 : (a0_0 != 4) = false := bne_eq_false_iff_eq.mpr c2
    clear c2
    obtain rfl := Option.some.inj H
    go_enter Try.func65, Try.ntmps65
    go_wp2_with (first | ((with_reducible refine gate_dst (N := 1) rfl ?_); (try (refine gate_guard (by rfl) ?_; dsimp only)); refine box_event ?hg (N := 1) ?hd (cs := #[.int .i64 a0_0, .int .i64 a0_1, .int .i64 a0_2, .int .i64 a0_3, .int .i64 a0_4, .slice A0_5 l0_5.length c0_5]) (t := 27) ?hr ?_; (case hd => rfl); (case hg => rfl); (case hr => first | (go_simp; done) | (go_simp; rfl)); intro gb144 hg w3 hbox hb; have n0_ := Aside0.mk (below_step (by repeat (first | (with_reducible first | exact HB.out | apply below_alloc | apply pw_below_drewN | apply below_drew1) | exact HB.out)) hb); have n1_ := Aside0.mk (hbox); have n2_ := Aside0.mk ((by rw [hg]; exact (below_size (by repeat (first | (with_reducible first | exact HB.out | apply below_alloc | apply pw_below_drewN | apply below_drew1) | exact HB.out))) : w.heap.size ≤ gb144)); have n3_ := Aside0.mk ((by rw [hg]; exact (below_size (by repeat (first | (with_reducible first | exact HB.out | apply below_alloc | apply pw_below_drewN | apply below_drew1) | exact HB.out))) : w.heap.size ≤ gb144)); clear HB; have HB := n0_; have BK144 := n1_; have GW144 := n2_; have GE144 := n3_; clear n0_ n1_ n2_ n3_; clear hb hbox hg; have hcz4_0 : w3.cell? ⟨gb144, 0, none⟩ = some (.int .i64 a0_0) := (blk_cell BK144.out 0).trans rfl; have hcz4_1 : w3.cell? ⟨gb144, 1, none⟩ = some (.int .i64 a0_1) := (blk_cell BK144.out 1).trans rfl; have hcz4_2 : w3.cell? ⟨gb144, 2, none⟩ = some (.int .i64 a0_2) := (blk_cell BK144.out 2).trans rfl; have hcz4_3 : w3.cell? ⟨gb144, 3, none⟩ = some (.int .i64 a0_3) := (blk_cell BK144.out 3).trans rfl; have hcz4_4 : w3.cell? ⟨gb144, 4, none⟩ = some (.int .i64 a0_4) := (blk_cell BK144.out 4).trans rfl; have hcz4_5 : w3.cell? ⟨gb144, 5, none⟩ = some (.slice A0_5 l0_5.length c0_5) := (blk_cell BK144.out 5).trans rfl; have hfz4_0 := blk_frozen BK144.out 0; have hfz4_1 := blk_frozen BK144.out 1; have hfz4_2 := blk_frozen BK144.out 2; have hfz4_3 := blk_frozen BK144.out 3; have hfz4_4 := blk_frozen BK144.out 4; have hfz4_5 := blk_frozen BK144.out 5))
    go_ret
    exact ⟨by first | rfl | (simp [errW_none, errW_some] <;> rfl) | (simp [*, errW_none, errW_some] <;> rfl), by repeat (first | (with_reducible first | exact HB.out | apply below_alloc | apply pw_below_drewN | apply below_drew1 | refine below_set ?_ GE144.out) | exact HB.out)⟩
  · rw [if_neg c2] at H
    have c2b0 : (a0_0 == 4) = false := beq_eq_false_iff_ne.mpr c2
    have c2b1 : (a0_0 != 4) = true := bne_iff_ne.mpr c2
    by_cases c5 : a0_0 = 3
    · rw [if_pos c5] at H
      have c5b0 : (a0_0 == 3) = true := beq_iff_eq.mpr c5
      have c5b1 : (a0_0 != 3) = false := bne_eq_false_iff_eq.mpr c5
      clear c5
      by_cases c6 : (l0_5.length : Int) = 0
      · rw [if_pos c6] at H
        have c6b0 : ((l0_5.length : Int) == 0) = true := beq_iff_eq.mpr c6
        have c6b1 : ((l0_5.length : Int) != 0) = false := bne_eq_false_iff_eq.mpr c6
        clear c6
        obtain rfl := Option.some.inj H
        go_enter Try.func65, Try.ntmps65
        go_wp2_with (first | ((with_reducible refine gate_dst (N := 1) rfl ?_); (try (refine gate_guard (by rfl) ?_; dsimp only)); refine box_event ?hg (N := 1) ?hd (cs := #[.int .i64 a0_0, .int .i64 a0_1, .int .i64 a0_2, .int .i64 a0_3, .int .i64 a0_4, .slice A0_5 l0_5.length c0_5]) (t := 27) ?hr ?_; (case hd => rfl); (case hg => rfl); (case hr => first | (go_simp; done) | (go_simp; rfl)); intro gb144 hg w7 hbox hb; have n0_ := Aside0.mk (below_step (by repeat (first | (with_reducible first | exact HB.out | apply below_alloc | apply pw_below_drewN | apply below_drew1) | exact HB.out)) hb); have n1_ := Aside0.mk (hbox); have n2_ := Aside0.mk ((by rw [hg]; exact (below_size (by repeat (first | (with_reducible first | exact HB.out | apply below_alloc | apply pw_below_drewN | apply below_drew1) | exact HB.out))) : w.heap.size ≤ gb144)); have n3_ := Aside0.mk ((by rw [hg]; exact (below_size (by repeat (first | (with_reducible first | exact HB.out | apply below_alloc | apply pw_below_drewN | apply below_drew1) | exact HB.out))) : w.heap.size ≤ gb144)); clear HB; have HB := n0_; have BK144 := n1_; have GW144 := n2_; have GE144 := n3_; clear n0_ n1_ n2_ n3_; clear hb hbox hg; have hcz8_0 : w7.cell? ⟨gb144, 0, none⟩ = some (.int .i64 a0_0) := (blk_cell BK144.out 0).trans rfl; have hcz8_1 : w7.cell? ⟨gb144, 1, none⟩ = some (.int .i64 a0_1) := (blk_cell BK144.out 1).trans rfl; have hcz8_2 : w7.cell? ⟨gb144, 2, none⟩ = some (.int .i64 a0_2) := (blk_cell BK144.out 2).trans rfl; have hcz8_3 : w7.cell? ⟨gb144, 3, none⟩ = some (.int .i64 a0_3) := (blk_cell BK144.out 3).trans rfl; have hcz8_4 : w7.cell? ⟨gb144, 4, none⟩ = some (.int .i64 a0_4) := (blk_cell BK144.out 4).trans rfl; have hcz8_5 : w7.cell? ⟨gb144, 5, none⟩ = some (.slice A0_5 l0_5.length c0_5) := (blk_cell BK144.out 5).trans rfl; have hfz8_0 := blk_frozen BK144.out 0; have hfz8_1 := blk_frozen BK144.out 1; have hfz8_2 := blk_frozen BK144.out 2; have hfz8_3 := blk_frozen BK144.out 3; have hfz8_4 := blk_frozen BK144.out 4; have hfz8_5 := blk_frozen BK144.out 5))
        go_ret
        exact ⟨by first | rfl | (simp [errW_none, errW_some] <;> rfl) | (simp [*, errW_none, errW_some] <;> rfl), by repeat (first | (with_reducible first | exact HB.out | apply below_alloc | apply pw_below_drewN | apply below_drew1 | refine below_set ?_ GE144.out) | exact HB.out)⟩
      · rw [if_neg c6] at H
        have c6b0 : ((l0_5.length : Int) == 0) = false := beq_eq_false_iff_ne.mpr c6
        have c6b1 : ((l0_5.length : Int) != 0) = true := bne_iff_ne.mpr c6
        have c6b2 : ¬ (l0_5 = []) := fun h_ => c6 (by rw [h_]; rfl)
        obtain ⟨ji9, hji9⟩ : ∃ j_ : Int, (wrap64 ((l0_5.length : Int) - 1)) = j_ := ⟨_, rfl⟩
        replace H : (if 0 ≤ (ji9) then (if (ji9) < (l0_5.length : Int) then ((passepartoutref04_Open.f k ((rd_T27 l0_5 (ji9)).f0) ((rd_T27 l0_5 (ji9)).f1) ((rd_T27 l0_5 (ji9)).f2) ((rd_T27 l0_5 (ji9)).f3) ((rd_T27 l0_5 (ji9)).f4) ((rd_T27 l0_5 (ji9)).f5)).bind fun t146 => (some t146)) else (none)) else (none)) = some r := by first | (rw [hji9] at H; exact H) | (simp only [hji9] at H ⊢; exact H)
        have hji9w : (IntKind.i64.wrap ((l0_5.length : Int) - 1)) = ji9 := (i64_w _).trans hji9
        by_cases c10 : 0 ≤ (ji9)
        · rw [if_pos c10] at H
          have c10b0 : decide (0 ≤ (ji9)) = true := decide_eq_true c10
          clear c10
          by_cases c11 : (ji9) < (l0_5.length : Int)
          · rw [if_pos c11] at H
            have c11b0 : decide ((ji9) < (l0_5.length : Int)) = true := decide_eq_true c11
            clear c11
            replace H := Option.bind_eq_some_iff.mp H
            obtain ⟨t146, A120, H⟩ := H
            replace H : (some t146) = some r := H
            have A12 := Aside0.mk A120
            clear A120
            obtain rfl := Option.some.inj H
            go_enter Try.func65, Try.ntmps65
            go_wp2_with (first | ((with_reducible refine gate_dst (N := 1) rfl ?_); (try (refine gate_guard (by rfl) ?_; dsimp only)); refine box_event ?hg (N := 1) ?hd (cs := #[.int .i64 a0_0, .int .i64 a0_1, .int .i64 a0_2, .int .i64 a0_3, .int .i64 a0_4, .slice A0_5 l0_5.length c0_5]) (t := 27) ?hr ?_; (case hd => rfl); (case hg => rfl); (case hr => first | (go_simp; done) | (go_simp; rfl)); intro gb144 hg w13 hbox hb; have n0_ := Aside0.mk (below_step (by repeat (first | (with_reducible first | exact HB.out | apply below_alloc | apply pw_below_drewN | apply below_drew1) | exact HB.out)) hb); have n1_ := Aside0.mk (hbox); have n2_ := Aside0.mk ((by rw [hg]; exact (below_size (by repeat (first | (with_reducible first | exact HB.out | apply below_alloc | apply pw_below_drewN | apply below_drew1) | exact HB.out))) : w.heap.size ≤ gb144)); have n3_ := Aside0.mk ((by rw [hg]; exact (below_size (by repeat (first | (with_reducible first | exact HB.out | apply below_alloc | apply pw_below_drewN | apply below_drew1) | exact HB.out))) : w.heap.size ≤ gb144)); clear HB; have HB := n0_; have BK144 := n1_; have GW144 := n2_; have GE144 := n3_; clear n0_ n1_ n2_ n3_; clear hb hbox hg; have hcz14_0 : w13.cell? ⟨gb144, 0, none⟩ = some (.int .i64 a0_0) := (blk_cell BK144.out 0).trans rfl; have hcz14_1 : w13.cell? ⟨gb144, 1, none⟩ = some (.int .i64 a0_1) := (blk_cell BK144.out 1).trans rfl; have hcz14_2 : w13.cell? ⟨gb144, 2, none⟩ = some (.int .i64 a0_2) := (blk_cell BK144.out 2).trans rfl; have hcz14_3 : w13.cell? ⟨gb144, 3, none⟩ = some (.int .i64 a0_3) := (blk_cell BK144.out 3).trans rfl; have hcz14_4 : w13.cell? ⟨gb144, 4, none⟩ = some (.int .i64 a0_4) := (blk_cell BK144.out 4).trans rfl; have hcz14_5 : w13.cell? ⟨gb144, 5, none⟩ = some (.slice A0_5 l0_5.length c0_5) := (blk_cell BK144.out 5).trans rfl; have hfz14_0 := blk_frozen BK144.out 0; have hfz14_1 := blk_frozen BK144.out 1; have hfz14_2 := blk_frozen BK144.out 2; have hfz14_3 := blk_frozen BK144.out 3; have hfz14_4 := blk_frozen BK144.out 4; have hfz14_5 := blk_frozen BK144.out 5; have p145 : 0 ≤ ((ji9) : Int) := of_decide_eq_true (by first | (with_reducible assumption) | assumption); have q145 : (ji9) < (l0_5.length : Int) := of_decide_eq_true (by first | (with_reducible assumption) | assumption); obtain ⟨ad145, A145_5, c145_5, e145, hx145_0, hx145_1, hx145_2, hx145_3, hx145_4, hx145_5, hl145_5, hi145_5⟩ := at_T27 HR0_5.out (ji9) p145 q145; cases e145; replace hx145_0 := (HB.out.cell (World.block_lt_of_cell? w _ hx145_0)).trans hx145_0; replace hx145_1 := (HB.out.cell (World.block_lt_of_cell? w _ hx145_1)).trans hx145_1; replace hx145_2 := (HB.out.cell (World.block_lt_of_cell? w _ hx145_2)).trans hx145_2; replace hx145_3 := (HB.out.cell (World.block_lt_of_cell? w _ hx145_3)).trans hx145_3; replace hx145_4 := (HB.out.cell (World.block_lt_of_cell? w _ hx145_4)).trans hx145_4; replace hx145_5 := (HB.out.cell (World.block_lt_of_cell? w _ hx145_5)).trans hx145_5; have HR145_5 := Aside0.mk hi145_5; have HC145_5 := Aside0.mk hl145_5; clear hi145_5 hl145_5; replace p145 := eq_true p145; replace q145 := eq_true q145) | ((with_reducible refine gate_callee (f := 65) rfl ?_); refine goesL_ (some 23) rfl rfl Try.func65 (by kernel_rfl) rfl #[.agg #[.int .i64 ((rd_T27 l0_5 (ji9)).f0), .int .i64 ((rd_T27 l0_5 (ji9)).f1), .int .i64 ((rd_T27 l0_5 (ji9)).f2), .int .i64 ((rd_T27 l0_5 (ji9)).f3), .int .i64 ((rd_T27 l0_5 (ji9)).f4), .slice A145_5 ((rd_T27 l0_5 (ji9)).f5).length c145_5]] rfl (by (try simp only [List.map_toArray, List.map_cons, List.map_nil]); first | done | (simp only [hji9]; rfl) | rfl | (simp only [List.length_drop, List.length_take]; rfl)) ?_; (with_reducible refine (ih k (by omega) ((rd_T27 l0_5 (ji9)).f0) ((rd_T27 l0_5 (ji9)).f1) ((rd_T27 l0_5 (ji9)).f2) ((rd_T27 l0_5 (ji9)).f3) ((rd_T27 l0_5 (ji9)).f4) _ _ ((rd_T27 l0_5 (ji9)).f5) t146 _ ?side1 ?side2 A12.out).mono ?_); (case side1 => repeat (first | exact (Kd.C_below HR145_5.out HB.out) | (with_reducible refine Kd.C_alloc ?_ _) | (with_reducible refine Kd.C_drewN ?_ _) | (with_reducible refine Kd.C_drew ?_))); (case side2 => exact HC145_5.out); rintro e w15 ⟨rfl, hb⟩; refine ⟨_, rfl, ?_⟩; have n0_ := Aside0.mk (blk_below (g := gb144) (o := .cells #[.int .i64 a0_0, .int .i64 a0_1, .int .i64 a0_2, .int .i64 a0_3, .int .i64 a0_4, .slice (some ad145) l0_5.length c0_5] 27 (0, 0)) (by (with_reducible repeat (first | refine blk_drewN ?_ _ | refine blk_drew ?_ | refine blk_alloc ?_ _)); exact BK144.out) hb); have n1_ := Aside0.mk (below_step (by repeat (first | (with_reducible first | exact HB.out | apply below_alloc | apply pw_below_drewN | apply below_drew1 | refine below_set ?_ GE144.out) | exact HB.out)) hb); clear BK144; clear HB; have BK144 := n0_; have HB := n1_; clear n0_ n1_; (try clear hb); (try clear hb2); (try clear hk); (try clear hi)))
            go_ret
            exact ⟨by first | rfl | (simp [errW_none, errW_some] <;> rfl) | (simp only [← hji9]; first | rfl | (simp [errW_none, errW_some] <;> rfl)) | (simp [*, errW_none, errW_some] <;> rfl), by repeat (first | (with_reducible first | exact HB.out | apply below_alloc | apply pw_below_drewN | apply below_drew1 | refine below_set ?_ GE144.out) | exact HB.out)⟩
          · rw [if_neg c11] at H
            exact absurd H (by simp)
        · rw [if_neg c10] at H
          exact absurd H (by simp)
    · rw [if_neg c5] at H
      have c5b0 : (a0_0 == 3) = false := beq_eq_false_iff_ne.mpr c5
      have c5b1 : (a0_0 != 3) = true := bne_iff_ne.mpr c5
      obtain rfl := Option.some.inj H
      go_enter Try.func65, Try.ntmps65
      go_wp2_with (first | ((with_reducible refine gate_dst (N := 1) rfl ?_); (try (refine gate_guard (by rfl) ?_; dsimp only)); refine box_event ?hg (N := 1) ?hd (cs := #[.int .i64 a0_0, .int .i64 a0_1, .int .i64 a0_2, .int .i64 a0_3, .int .i64 a0_4, .slice A0_5 l0_5.length c0_5]) (t := 27) ?hr ?_; (case hd => rfl); (case hg => rfl); (case hr => first | (go_simp; done) | (go_simp; rfl)); intro gb144 hg w16 hbox hb; have n0_ := Aside0.mk (below_step (by repeat (first | (with_reducible first | exact HB.out | apply below_alloc | apply pw_below_drewN | apply below_drew1) | exact HB.out)) hb); have n1_ := Aside0.mk (hbox); have n2_ := Aside0.mk ((by rw [hg]; exact (below_size (by repeat (first | (with_reducible first | exact HB.out | apply below_alloc | apply pw_below_drewN | apply below_drew1) | exact HB.out))) : w.heap.size ≤ gb144)); have n3_ := Aside0.mk ((by rw [hg]; exact (below_size (by repeat (first | (with_reducible first | exact HB.out | apply below_alloc | apply pw_below_drewN | apply below_drew1) | exact HB.out))) : w.heap.size ≤ gb144)); clear HB; have HB := n0_; have BK144 := n1_; have GW144 := n2_; have GE144 := n3_; clear n0_ n1_ n2_ n3_; clear hb hbox hg; have hcz17_0 : w16.cell? ⟨gb144, 0, none⟩ = some (.int .i64 a0_0) := (blk_cell BK144.out 0).trans rfl; have hcz17_1 : w16.cell? ⟨gb144, 1, none⟩ = some (.int .i64 a0_1) := (blk_cell BK144.out 1).trans rfl; have hcz17_2 : w16.cell? ⟨gb144, 2, none⟩ = some (.int .i64 a0_2) := (blk_cell BK144.out 2).trans rfl; have hcz17_3 : w16.cell? ⟨gb144, 3, none⟩ = some (.int .i64 a0_3) := (blk_cell BK144.out 3).trans rfl; have hcz17_4 : w16.cell? ⟨gb144, 4, none⟩ = some (.int .i64 a0_4) := (blk_cell BK144.out 4).trans rfl; have hcz17_5 : w16.cell? ⟨gb144, 5, none⟩ = some (.slice A0_5 l0_5.length c0_5) := (blk_cell BK144.out 5).trans rfl; have hfz17_0 := blk_frozen BK144.out 0; have hfz17_1 := blk_frozen BK144.out 1; have hfz17_2 := blk_frozen BK144.out 2; have hfz17_3 := blk_frozen BK144.out 3; have hfz17_4 := blk_frozen BK144.out 4; have hfz17_5 := blk_frozen BK144.out 5))
      go_ret
      exact ⟨by first | rfl | (simp [errW_none, errW_some] <;> rfl) | (simp [*, errW_none, errW_some] <;> rfl), by repeat (first | (with_reducible first | exact HB.out | apply below_alloc | apply pw_below_drewN | apply below_drew1 | refine below_set ?_ GE144.out) | exact HB.out)⟩

end Go.Proofs.Ytfcghajnnllmhaa.QP

namespace Go.Proofs.Ytfcghajnnllmhaa.QP
open Go.RowKit Go.Proofs.YtfcghajnnllmhaaW.PrintWords Go.Proofs.YtfcghajnnllmhaaW.PrintLast Go.Proofs.YtfcghajnnllmhaaW.PrintMore
attribute [local go_sem] max2_int min2_int max_two min_two max_three min_three max_four min_four   -- for this text's walks alone
set_option linter.unusedVariables false
set_option linter.unusedSimpArgs false

/-! ### passepartoutref04_check: function 46 -/
mutual
def passepartoutref04_check.l0 : Nat → List (S27) → Int → Int → Int → Int → Int → Int → List (S27) → Option (Int)
  | 0, _, _, _, _, _, _, _, _ => none
  | k + 1, x4, x5, x148000, x148001, x148002, x148003, x148004, x148005 => if x5 < (x4.length : Int) then (if 0 ≤ x5 then ((passepartoutref04_check.f k ((rd_T27 x4 x5).f0) ((rd_T27 x4 x5).f1) ((rd_T27 x4 x5).f2) ((rd_T27 x4 x5).f3) ((rd_T27 x4 x5).f4) ((rd_T27 x4 x5).f5)).bind fun t153 => (if t153 = 0 then (passepartoutref04_check.l0 k x4 (wrap64 (x5 + 1)) x148000 x148001 x148002 x148003 x148004 x148005) else (some t153))) else (none)) else (passepartoutref04_check.l1 k x4 0 x148000 x148001 x148002 x148003 x148004 x148005)
def passepartoutref04_check.l1 : Nat → List (S27) → Int → Int → Int → Int → Int → Int → List (S27) → Option (Int)
  | 0, _, _, _, _, _, _, _, _ => none
  | k + 1, x4, x6, x148000, x148001, x148002, x148003, x148004, x148005 => if x6 < (x4.length : Int) then (if 0 ≤ x6 then ((passepartoutref04_Open.f k ((rd_T27 x4 x6).f0) ((rd_T27 x4 x6).f1) ((rd_T27 x4 x6).f2) ((rd_T27 x4 x6).f3) ((rd_T27 x4 x6).f4) ((rd_T27 x4 x6).f5)).bind fun t155 => (if t155 = true then (if x148000 = 2 then (some 15) else (if (wrap64 (x6 + 1)) < (x4.length : Int) then (some 15) else (passepartoutref04_check.l1 k x4 (wrap64 (x6 + 1)) x148000 x148001 x148002 x148003 x148004 x148005))) else (passepartoutref04_check.l1 k x4 (wrap64 (x6 + 1)) x148000 x148001 x148002 x148003 x148004 x148005))) else (none)) else (if x148000 = 2 then (if 0 < (x4.length : Int) then ((passepartoutref04_Least.f k ((rd_T27 x4 0).f0) ((rd_T27 x4 0).f1) ((rd_T27 x4 0).f2) ((rd_T27 x4 0).f3) ((rd_T27 x4 0).f4) ((rd_T27 x4 0).f5)).bind fun t157 => (if t157 = 0 then (some 15) else (some 0))) else (none)) else (some 0))
def passepartoutref04_check.f : Nat → Int → Int → Int → Int → Int → List (S27) → Option (Int)
  | 0, _, _, _, _, _, _ => none
  | k + 1, a0_0, a0_1, a0_2, a0_3, a0_4, l0_5 => (passepartoutref04_own.f a0_0 a0_1 a0_2 a0_3 a0_4 l0_5).bind fun t148 => (if t148 = 0 then ((passepartoutref04_parts.f a0_0 a0_1 a0_2 a0_3 a0_4 l0_5).bind fun t149 => (passepartoutref04_check.l0 k t149 0 a0_0 a0_1 a0_2 a0_3 a0_4 l0_5)) else (some t148))
end
theorem passepartoutref04_check.mono_l : ∀ k, (∀ y0 y1 y2 y3 y4 y5, LeO (passepartoutref04_check.f k y0 y1 y2 y3 y4 y5) (passepartoutref04_check.f (k + 1) y0 y1 y2 y3 y4 y5)) ∧ (∀ y0 y1 y2 y3 y4 y5 y6 y7, LeO (passepartoutref04_check.l0 k y0 y1 y2 y3 y4 y5 y6 y7) (passepartoutref04_check.l0 (k + 1) y0 y1 y2 y3 y4 y5 y6 y7)) ∧ (∀ y0 y1 y2 y3 y4 y5 y6 y7, LeO (passepartoutref04_check.l1 k y0 y1 y2 y3 y4 y5 y6 y7) (passepartoutref04_check.l1 (k + 1) y0 y1 y2 y3 y4 y5 y6 y7))
  | 0 => ⟨fun _ _ _ _ _ _ r h => by simp [passepartoutref04_check.f] at h, fun _ _ _ _ _ _ _ _ r h => by simp [passepartoutref04_check.l0] at h, fun _ _ _ _ _ _ _ _ r h => by simp [passepartoutref04_check.l1] at h⟩
  | k + 1 => by
    obtain ⟨ih0, ih1, ih2⟩ := passepartoutref04_check.mono_l k
    refine ⟨?_, ?_, ?_⟩
    · intro y0 y1 y2 y3 y4 y5
      unfold passepartoutref04_check.f
      repeat' first
      | (with_reducible exact ih0 _ _ _ _ _ _)
      | (with_reducible exact ih1 _ _ _ _ _ _ _ _)
      | (with_reducible exact ih2 _ _ _ _ _ _ _ _)
      | (with_reducible exact passepartoutref04_Least.mono _ _ _ _ _ _ _)
      | (with_reducible exact passepartoutref04_Open.mono _ _ _ _ _ _ _)
      | (with_reducible exact LeO.refl _)
      | (with_reducible exact LeO.none _)
      | (with_reducible refine LeO.ite ?_ ?_)
      | (with_reducible refine LeO.bind ?_ (fun _ => ?_))
      | exact ih0 _ _ _ _ _ _
      | exact ih1 _ _ _ _ _ _ _ _
      | exact ih2 _ _ _ _ _ _ _ _
      | exact passepartoutref04_Least.mono _ _ _ _ _ _ _
      | exact passepartoutref04_Open.mono _ _ _ _ _ _ _
      | exact LeO.none _
      | refine LeO.ite ?_ ?_
      | refine LeO.bind ?_ (fun _ => ?_)
    · intro y0 y1 y2 y3 y4 y5 y6 y7
      unfold passepartoutref04_check.l0
      repeat' first
      | (with_reducible exact ih0 _ _ _ _ _ _)
      | (with_reducible exact ih1 _ _ _ _ _ _ _ _)
      | (with_reducible exact ih2 _ _ _ _ _ _ _ _)
      | (with_reducible exact passepartoutref04_Least.mono _ _ _ _ _ _ _)
      | (with_reducible exact passepartoutref04_Open.mono _ _ _ _ _ _ _)
      | (with_reducible exact LeO.refl _)
      | (with_reducible exact LeO.none _)
      | (with_reducible refine LeO.ite ?_ ?_)
      | (with_reducible refine LeO.bind ?_ (fun _ => ?_))
      | exact ih0 _ _ _ _ _ _
      | exact ih1 _ _ _ _ _ _ _ _
      | exact ih2 _ _ _ _ _ _ _ _
      | exact passepartoutref04_Least.mono _ _ _ _ _ _ _
      | exact passepartoutref04_Open.mono _ _ _ _ _ _ _
      | exact LeO.none _
      | refine LeO.ite ?_ ?_
      | refine LeO.bind ?_ (fun _ => ?_)
    · intro y0 y1 y2 y3 y4 y5 y6 y7
      unfold passepartoutref04_check.l1
      repeat' first
      | (with_reducible exact ih0 _ _ _ _ _ _)
      | (with_reducible exact ih1 _ _ _ _ _ _ _ _)
      | (with_reducible exact ih2 _ _ _ _ _ _ _ _)
      | (with_reducible exact passepartoutref04_Least.mono _ _ _ _ _ _ _)
      | (with_reducible exact passepartoutref04_Open.mono _ _ _ _ _ _ _)
      | (with_reducible exact LeO.refl _)
      | (with_reducible exact LeO.none _)
      | (with_reducible refine LeO.ite ?_ ?_)
      | (with_reducible refine LeO.bind ?_ (fun _ => ?_))
      | exact ih0 _ _ _ _ _ _
      | exact ih1 _ _ _ _ _ _ _ _
      | exact ih2 _ _ _ _ _ _ _ _
      | exact passepartoutref04_Least.mono _ _ _ _ _ _ _
      | exact passepartoutref04_Open.mono _ _ _ _ _ _ _
      | exact LeO.none _
      | refine LeO.ite ?_ ?_
      | refine LeO.bind ?_ (fun _ => ?_)
theorem passepartoutref04_check.mono : ∀ a0 a1 a2 a3 a4 a5 k, LeO (passepartoutref04_check.f k a0 a1 a2 a3 a4 a5) (passepartoutref04_check.f (k + 1) a0 a1 a2 a3 a4 a5) := by
  intro a0 a1 a2 a3 a4 a5 k
  obtain ⟨ih0, ih1, ih2⟩ := passepartoutref04_check.mono_l k
  exact ih0 a0 a1 a2 a3 a4 a5
set_option maxHeartbeats 8000000 in
set_option maxRecDepth 100000 in
theorem passepartoutref04_check.calls (k : Nat) : ∀ (a0_0 : Int) (a0_1 : Int) (a0_2 : Int) (a0_3 : Int) (a0_4 : Int) (A0_5 : Option Addr) (c0_5 : Nat) (l0_5 : List (S27)) (r : Int) (w : World) (hr0_5 : Kd.C k27 w A0_5 l0_5.length l0_5) (hc0_5 : l0_5.length ≤ c0_5) (h : passepartoutref04_check.f k a0_0 a0_1 a0_2 a0_3 a0_4 l0_5 = some r),
    Calls Try.prog 46 #[.agg #[.int .i64 a0_0, .int .i64 a0_1, .int .i64 a0_2, .int .i64 a0_3, .int .i64 a0_4, .slice A0_5 l0_5.length c0_5]] w fun e w' => e = .returned (.int .i64 r) ∧ Below w.heap.size w w' := by
  induction k using Nat.strongRecOn with
  | _ k ih =>
  intro a0_0 a0_1 a0_2 a0_3 a0_4 A0_5 c0_5 l0_5 r w hr0_5 hc0_5 h
  cases k with
  | zero => exact absurd h (by simp [passepartoutref04_check.f])
  | succ k =>
  simp only [passepartoutref04_check.f] at h
  have hu27 := Try.underlying27
  have HR0_5 := Aside0.mk hr0_5
  have HC0_5 := Aside0.mk hc0_5
  clear hr0_5 hc0_5
  have HB := Aside0.mk (Below.refl w.heap.size w)
  have H : ((passepartoutref04_own.f a0_0 a0_1 a0_2 a0_3 a0_4 l0_5).bind fun t148 => (if t148 = 0 then ((passepartoutref04_parts.f a0_0 a0_1 a0_2 a0_3 a0_4 l0_5).bind fun t149 => (passepartoutref04_check.l0 k t149 0 a0_0 a0_1 a0_2 a0_3 a0_4 l0_5)) else (some t148))) = some r := h
  clear h
  replace H := Option.bind_eq_some_iff.mp H
  obtain ⟨t148, A20, H⟩ := H
  replace H : (if t148 = 0 then ((passepartoutref04_parts.f a0_0 a0_1 a0_2 a0_3 a0_4 l0_5).bind fun t149 => (passepartoutref04_check.l0 k t149 0 a0_0 a0_1 a0_2 a0_3 a0_4 l0_5)) else (some t148)) = some r := H
  have A2 := Aside0.mk A20
  clear A20
  by_cases c3 : t148 = 0
  · rw [if_pos c3] at H
    have c3b0 : (t148 == 0) = true := beq_iff_eq.mpr c3
    have c3b1 : (t148 != 0) = false := bne_eq_false_iff_eq.mpr c3
    clear c3
    replace H := Option.bind_eq_some_iff.mp H
    obtain ⟨t149, A40, H⟩ := H
    replace H : (passepartoutref04_check.l0 k t149 0 a0_0 a0_1 a0_2 a0_3 a0_4 l0_5) = some r := H
    have A4 := Aside0.mk A40
    clear A40
    have H' := Aside0.mk H
    clear H
    go_enter Try.func46, Try.ntmps46
    go_wp2_with (first | ((with_reducible refine gate_dst (N := 1) rfl ?_); (try (refine gate_guard (by rfl) ?_; dsimp only)); refine box_event ?hg (N := 1) ?hd (cs := #[.int .i64 a0_0, .int .i64 a0_1, .int .i64 a0_2, .int .i64 a0_3, .int .i64 a0_4, .slice A0_5 l0_5.length c0_5]) (t := 27) ?hr ?_; (case hd => rfl); (case hg => rfl); (case hr => first | (go_simp; done) | (go_simp; rfl)); intro gb147 hg w5 hbox hb; have n0_ := Aside0.mk (below_step (by repeat (first | (with_reducible first | exact HB.out | apply below_alloc | apply pw_below_drewN | apply below_drew1) | exact HB.out)) hb); have n1_ := Aside0.mk (hbox); have n2_ := Aside0.mk ((by rw [hg]; exact (below_size (by repeat (first | (with_reducible first | exact HB.out | apply below_alloc | apply pw_below_drewN | apply below_drew1) | exact HB.out))) : w.heap.size ≤ gb147)); have n3_ := Aside0.mk ((by rw [hg]; exact (below_size (by repeat (first | (with_reducible first | exact HB.out | apply below_alloc | apply pw_below_drewN | apply below_drew1) | exact HB.out))) : w.heap.size ≤ gb147)); clear HB; have HB := n0_; have BK147 := n1_; have GW147 := n2_; have GE147 := n3_; clear n0_ n1_ n2_ n3_; clear hb hbox hg; have hcz6_0 : w5.cell? ⟨gb147, 0, none⟩ = some (.int .i64 a0_0) := (blk_cell BK147.out 0).trans rfl; have hcz6_1 : w5.cell? ⟨gb147, 1, none⟩ = some (.int .i64 a0_1) := (blk_cell BK147.out 1).trans rfl; have hcz6_2 : w5.cell? ⟨gb147, 2, none⟩ = some (.int .i64 a0_2) := (blk_cell BK147.out 2).trans rfl; have hcz6_3 : w5.cell? ⟨gb147, 3, none⟩ = some (.int .i64 a0_3) := (blk_cell BK147.out 3).trans rfl; have hcz6_4 : w5.cell? ⟨gb147, 4, none⟩ = some (.int .i64 a0_4) := (blk_cell BK147.out 4).trans rfl; have hcz6_5 : w5.cell? ⟨gb147, 5, none⟩ = some (.slice A0_5 l0_5.length c0_5) := (blk_cell BK147.out 5).trans rfl; have hfz6_0 := blk_frozen BK147.out 0; have hfz6_1 := blk_frozen BK147.out 1; have hfz6_2 := blk_frozen BK147.out 2; have hfz6_3 := blk_frozen BK147.out 3; have hfz6_4 := blk_frozen BK147.out 4; have hfz6_5 := blk_frozen BK147.out 5) | ((with_reducible refine gate_callee (f := 64) rfl ?_); refine goesL_ (some 9) rfl rfl Try.func64 (by kernel_rfl) rfl #[.agg #[.int .i64 a0_0, .int .i64 a0_1, .int .i64 a0_2, .int .i64 a0_3, .int .i64 a0_4, .slice A0_5 l0_5.length c0_5]] rfl (by (try simp only [List.map_toArray, List.map_cons, List.map_nil]); first | done | rfl | (simp only [List.length_drop, List.length_take]; rfl)) ?_; (with_reducible refine (passepartoutref04_own.calls a0_0 a0_1 a0_2 a0_3 a0_4 _ _ l0_5 t148 _ ?side1 ?side2 A2.out).mono ?_); (case side1 => repeat (first | exact (Kd.C_below HR0_5.out HB.out) | (with_reducible refine Kd.C_alloc ?_ _) | (with_reducible refine Kd.C_drewN ?_ _) | (with_reducible refine Kd.C_drew ?_))); (case side2 => exact HC0_5.out); rintro e w7 ⟨rfl, hb⟩; refine ⟨_, rfl, ?_⟩; have n0_ := Aside0.mk (blk_below (g := gb147) (o := .cells #[.int .i64 a0_0, .int .i64 a0_1, .int .i64 a0_2, .int .i64 a0_3, .int .i64 a0_4, .slice A0_5 l0_5.length c0_5] 27 (0, 0)) (by (with_reducible repeat (first | refine blk_drewN ?_ _ | refine blk_drew ?_ | refine blk_alloc ?_ _)); exact BK147.out) hb); have n1_ := Aside0.mk (below_step (by repeat (first | (with_reducible first | exact HB.out | apply below_alloc | apply pw_below_drewN | apply below_drew1 | refine below_set ?_ GE147.out) | exact HB.out)) hb); clear BK147; clear HB; have BK147 := n0_; have HB := n1_; clear n0_ n1_; (try clear hb); (try clear hb2); (try clear hk); (try clear hi); have hcz8_0 : w7.cell? ⟨gb147, 0, none⟩ = some (.int .i64 a0_0) := (blk_cell BK147.out 0).trans rfl; have hcz8_1 : w7.cell? ⟨gb147, 1, none⟩ = some (.int .i64 a0_1) := (blk_cell BK147.out 1).trans rfl; have hcz8_2 : w7.cell? ⟨gb147, 2, none⟩ = some (.int .i64 a0_2) := (blk_cell BK147.out 2).trans rfl; have hcz8_3 : w7.cell? ⟨gb147, 3, none⟩ = some (.int .i64 a0_3) := (blk_cell BK147.out 3).trans rfl; have hcz8_4 : w7.cell? ⟨gb147, 4, none⟩ = some (.int .i64 a0_4) := (blk_cell BK147.out 4).trans rfl; have hcz8_5 : w7.cell? ⟨gb147, 5, none⟩ = some (.slice A0_5 l0_5.length c0_5) := (blk_cell BK147.out 5).trans rfl; have hfz8_0 := blk_frozen BK147.out 0; have hfz8_1 := blk_frozen BK147.out 1; have hfz8_2 := blk_frozen BK147.out 2; have hfz8_3 := blk_frozen BK147.out 3; have hfz8_4 := blk_frozen BK147.out 4; have hfz8_5 := blk_frozen BK147.out 5) | ((with_reducible refine gate_callee (f := 47) rfl ?_); refine goesL_ (some 14) rfl rfl Try.func47 (by kernel_rfl) rfl #[.agg #[.int .i64 a0_0, .int .i64 a0_1, .int .i64 a0_2, .int .i64 a0_3, .int .i64 a0_4, .slice A0_5 l0_5.length c0_5]] rfl (by (try simp only [List.map_toArray, List.map_cons, List.map_nil]); first | done | rfl | (simp only [List.length_drop, List.length_take]; rfl)) ?_; (with_reducible refine (passepartoutref04_parts.calls a0_0 a0_1 a0_2 a0_3 a0_4 (fun k_ => k_ < w.heap.size) _ _ l0_5 t149 _ ?side1 A4.out).mono ?_); (case side1 => exact Kd.V_mk HC0_5.out (Kd.F_below (Kd.C_F k27_heap HR0_5.out) (by repeat (first | (with_reducible first | exact HB.out | apply below_alloc | apply pw_below_drewN | apply below_drew1 | refine below_set ?_ GE147.out) | exact HB.out)))); rintro e w9 ⟨v150, rfl, ho0, hb⟩; refine ⟨_, rfl, ?_⟩; have n0_ := Aside0.mk (Kd.V_lower (Kd.V_mono (ok' := fun k_ => k_ ≠ gb147) ho0 (fun k_ hk_ => Or.elim hk_ (fun hs_ => fun e_ => Nat.not_le.2 hs_ (by rw [e_]; exact GW147.out)) (fun hn_ => (Kd.freshB (g := gb147) (o := .cells #[.int .i64 a0_0, .int .i64 a0_1, .int .i64 a0_2, .int .i64 a0_3, .int .i64 a0_4, .slice A0_5 l0_5.length c0_5] 27 (0, 0)) (by (with_reducible repeat (first | refine blk_drewN ?_ _ | refine blk_drew ?_ | refine blk_alloc ?_ _)); exact BK147.out) k_ hn_)))) (below_size (by repeat (first | (with_reducible first | exact HB.out | apply below_alloc | apply pw_below_drewN | apply below_drew1 | refine below_set ?_ GE147.out) | exact HB.out)))); have n1_ := Aside0.mk (blk_below (g := gb147) (o := .cells #[.int .i64 a0_0, .int .i64 a0_1, .int .i64 a0_2, .int .i64 a0_3, .int .i64 a0_4, .slice A0_5 l0_5.length c0_5] 27 (0, 0)) (by (with_reducible repeat (first | refine blk_drewN ?_ _ | refine blk_drew ?_ | refine blk_alloc ?_ _)); exact BK147.out) hb); have n2_ := Aside0.mk (below_step (by repeat (first | (with_reducible first | exact HB.out | apply below_alloc | apply pw_below_drewN | apply below_drew1 | refine below_set ?_ GE147.out) | exact HB.out)) hb); clear BK147; clear HB; have HO151 := n0_; have BK147 := n1_; have HB := n2_; clear n0_ n1_ n2_; (try clear hb); (try clear hb2); (try clear hk); (try clear hi); (try clear ho0)))
    go_loopg [5] k (fun kq v5 w' => ∃ (x5_1 : Int), v5 = .int .i64 x5_1 ∧ Aside0 (passepartoutref04_check.l0 kq t149 x5_1 a0_0 a0_1 a0_2 a0_3 a0_4 l0_5 = some r) ∧ Aside0 (kq ≤ k) ∧ Aside0 (Kd.V k27 27 w' w.heap.size (fun k_ => k_ ≠ gb147) v150 t149) ∧ Aside0 (w'.heap[gb147]? = some (.cells #[.int .i64 a0_0, .int .i64 a0_1, .int .i64 a0_2, .int .i64 a0_3, .int .i64 a0_4, (.slice A0_5 l0_5.length c0_5)] 27 (0, 0))) ∧ Aside0 (Below w.heap.size w w'))
    case atStart => exact ⟨(0), (by first | rfl | (simp; done) | (simp [*]; done)), H', ⟨Nat.le_refl _⟩, ⟨by (with_reducible repeat (first | apply Kd.V_alloc | apply Kd.V_drewN | apply Kd.V_drew)); exact HO151.out⟩, ⟨by (with_reducible repeat (first | refine blk_drewN ?_ _ | refine blk_drew ?_ | refine blk_alloc ?_ _)); exact BK147.out⟩, ⟨by repeat (first | (with_reducible first | exact HB.out | apply below_alloc | apply pw_below_drewN | apply below_drew1 | refine below_set ?_ GE147.out) | exact HB.out)⟩⟩
    case round =>
      clear H'
      try clear p2
      try clear c3
      try clear c3b0
      try clear c3b1
      try clear c4
      try clear c6
      try clear hcz6_0
      try clear hcz6_1
      try clear hcz6_2
      try clear hcz6_3
      try clear hcz6_4
      try clear hcz6_5
      try clear hcz8_0
      try clear hcz8_1
      try clear hcz8_2
      try clear hcz8_3
      try clear hcz8_4
      try clear hcz8_5
      try clear hfz6_0
      try clear hfz6_1
      try clear hfz6_2
      try clear hfz6_3
      try clear hfz6_4
      try clear hfz6_5
      try clear hfz8_0
      try clear hfz8_1
      try clear hfz8_2
      try clear hfz8_3
      try clear hfz8_4
      try clear hfz8_5
      obtain ⟨x5_1, rfl, HA, HK1, HO_4, BK147, HB⟩ := hrel
      cases gk with
      | zero => exact absurd HA.out (by simp [passepartoutref04_check.l0])
      | succ k1 =>
        have H := HA.out
        clear HA
        simp only [passepartoutref04_check.l0] at H
        by_cases c10 : x5_1 < (t149.length : Int)
        · rw [if_pos c10] at H
          have c10b0 : decide (x5_1 < (t149.length : Int)) = true := decide_eq_true c10
          clear c10
          by_cases c11 : 0 ≤ x5_1
          · rw [if_pos c11] at H
            have c11b0 : decide (0 ≤ x5_1) = true := decide_eq_true c11
            clear c11
            replace H := Option.bind_eq_some_iff.mp H
            obtain ⟨t153, A120, H⟩ := H
            replace H : (if t153 = 0 then (passepartoutref04_check.l0 k1 t149 (wrap64 (x5_1 + 1)) a0_0 a0_1 a0_2 a0_3 a0_4 l0_5) else (some t153)) = some r := H
            have A12 := Aside0.mk A120
            clear A120
            by_cases c13 : t153 = 0
            · rw [if_pos c13] at H
              have c13b0 : (t153 == 0) = true := beq_iff_eq.mpr c13
              have c13b1 : (t153 != 0) = false := bne_eq_false_iff_eq.mpr c13
              clear c13
              have H' := Aside0.mk H
              clear H
              obtain ⟨Ao14, co14, eo14⟩ := Kd.V_slice HO_4.out
              subst eo14
              have p152 : 0 ≤ (x5_1 : Int) := of_decide_eq_true (by first | (with_reducible assumption) | assumption)
              have q152 : x5_1 < (t149.length : Int) := of_decide_eq_true (by first | (with_reducible assumption) | assumption)
              obtain ⟨ad152, A152_5, c152_5, e152, hx152_0, hx152_1, hx152_2, hx152_3, hx152_4, hx152_5, hl152_5, hi152_5⟩ := at_T27 (Kd.V_reads' HO_4.out).2.2 x5_1 p152 q152
              cases e152
              obtain ⟨ce152, hce152, hMe152, hcc152⟩ := Kd.V_get HO_4.out z27 x5_1 p152 (by first | exact q152 | exact of_decide_eq_true (by first | (with_reducible assumption) | assumption) | (have e_ := (Kd.V_reads' HO_4.out).1; omega))
              obtain ⟨ua152_5, uc152_5, rfl, ul152_5, ge152_5⟩ := k27_openF hMe152
              have hv152_5 := hcc152 5 _ rfl
              rw [add_field _ _ 5 (by omega)] at hv152_5
              replace hv152_5 := Option.some.inj (hv152_5.symm.trans hx152_5)
              injection hv152_5 with hva_ hvn_ hvc_
              rw [hva_] at ge152_5
              rw [hvc_] at ul152_5
              have HL152_5 := Aside0.mk (show Kd.V k27 27 _ w.heap.size _ _ ((rd_T27 t149 x5_1).f5) from Kd.V_mk ul152_5 ge152_5)
              clear hva_ hvn_ hvc_ ge152_5 ul152_5
              clear hcc152 hce152
              have HR152_5 := Aside0.mk hi152_5
              have HC152_5 := Aside0.mk hl152_5
              clear hi152_5 hl152_5
              replace p152 := eq_true p152
              replace q152 := eq_true q152
              go_wp2_with (first | ((with_reducible refine gate_callee (f := 46) rfl ?_); refine goesL_ (some 25) rfl rfl Try.func46 (by kernel_rfl) rfl #[.agg #[.int .i64 ((rd_T27 t149 x5_1).f0), .int .i64 ((rd_T27 t149 x5_1).f1), .int .i64 ((rd_T27 t149 x5_1).f2), .int .i64 ((rd_T27 t149 x5_1).f3), .int .i64 ((rd_T27 t149 x5_1).f4), .slice A152_5 ((rd_T27 t149 x5_1).f5).length c152_5]] rfl (by (try simp only [List.map_toArray, List.map_cons, List.map_nil]); first | done | rfl | (simp only [List.length_drop, List.length_take]; rfl)) ?_; (with_reducible refine (ih k1 (by have := HK1.out; omega) ((rd_T27 t149 x5_1).f0) ((rd_T27 t149 x5_1).f1) ((rd_T27 t149 x5_1).f2) ((rd_T27 t149 x5_1).f3) ((rd_T27 t149 x5_1).f4) _ _ ((rd_T27 t149 x5_1).f5) t153 _ ?side1 ?side2 A12.out).mono ?_); (case side1 => repeat (first | exact (by repeat (first | (with_reducible exact HR152_5.out) | (with_reducible refine Kd.C_alloc ?_ _) | (with_reducible refine Kd.C_drewN ?_ _) | (with_reducible refine Kd.C_drew ?_) | exact HR152_5.out)) | (with_reducible refine Kd.C_alloc ?_ _) | (with_reducible refine Kd.C_drewN ?_ _) | (with_reducible refine Kd.C_drew ?_))); (case side2 => exact HC152_5.out); rintro e w15 ⟨rfl, hb⟩; refine ⟨_, rfl, ?_⟩; have n0_ := Aside0.mk (Kd.V_below (by (with_reducible repeat (first | apply Kd.V_alloc | apply Kd.V_drewN | apply Kd.V_drew)); exact HO_4.out) hb); have n1_ := Aside0.mk (Kd.V_below (by (with_reducible repeat (first | apply Kd.V_alloc | apply Kd.V_drewN | apply Kd.V_drew)); exact HL152_5.out) hb); have n2_ := Aside0.mk (blk_below (g := gb147) (o := .cells #[.int .i64 a0_0, .int .i64 a0_1, .int .i64 a0_2, .int .i64 a0_3, .int .i64 a0_4, .slice A0_5 l0_5.length c0_5] 27 (0, 0)) (by (with_reducible repeat (first | refine blk_drewN ?_ _ | refine blk_drew ?_ | refine blk_alloc ?_ _)); exact BK147.out) hb); have n3_ := Aside0.mk (Kd.C_below (by repeat (first | (with_reducible exact HR152_5.out) | (with_reducible refine Kd.C_alloc ?_ _) | (with_reducible refine Kd.C_drewN ?_ _) | (with_reducible refine Kd.C_drew ?_) | exact HR152_5.out)) hb); have n4_ := Aside0.mk (below_step (by repeat (first | (with_reducible first | exact HB.out | apply below_alloc | apply pw_below_drewN | apply below_drew1 | refine below_set ?_ GE147.out) | exact HB.out)) hb); clear HO_4; clear HL152_5; clear BK147; clear HR152_5; clear HB; have HO_4 := n0_; have HL152_5 := n1_; have BK147 := n2_; have HR152_5 := n3_; have HB := n4_; clear n0_ n1_ n2_ n3_ n4_; (try clear hb); (try clear hb2); (try clear hk); (try clear hi)))
              go_roundg k1
              case measure => have := HK1.out; omega
              case rel => exact ⟨(wrap64 (x5_1 + 1)), (by first | rfl | (simp; done) | (simp [*]; done)), H', ⟨by have := HK1.out; omega⟩, ⟨by (with_reducible repeat (first | apply Kd.V_alloc | apply Kd.V_drewN | apply Kd.V_drew)); exact HO_4.out⟩, ⟨by (with_reducible repeat (first | refine blk_drewN ?_ _ | refine blk_drew ?_ | refine blk_alloc ?_ _)); exact BK147.out⟩, ⟨by repeat (first | (with_reducible first | exact HB.out | apply below_alloc | apply pw_below_drewN | apply below_drew1 | refine below_set ?_ GE147.out) | exact HB.out)⟩⟩
            · rw [if_neg c13] at H
              have c13b0 : (t153 == 0) = false := beq_eq_false_iff_ne.mpr c13
              have c13b1 : (t153 != 0) = true := bne_iff_ne.mpr c13
              obtain rfl := Option.some.inj H
              obtain ⟨Ao16, co16, eo16⟩ := Kd.V_slice HO_4.out
              subst eo16
              have p152 : 0 ≤ (x5_1 : Int) := of_decide_eq_true (by first | (with_reducible assumption) | assumption)
              have q152 : x5_1 < (t149.length : Int) := of_decide_eq_true (by first | (with_reducible assumption) | assumption)
              obtain ⟨ad152, A152_5, c152_5, e152, hx152_0, hx152_1, hx152_2, hx152_3, hx152_4, hx152_5, hl152_5, hi152_5⟩ := at_T27 (Kd.V_reads' HO_4.out).2.2 x5_1 p152 q152
              cases e152
              obtain ⟨ce152, hce152, hMe152, hcc152⟩ := Kd.V_get HO_4.out z27 x5_1 p152 (by first | exact q152 | exact of_decide_eq_true (by first | (with_reducible assumption) | assumption) | (have e_ := (Kd.V_reads' HO_4.out).1; omega))
              obtain ⟨ua152_5, uc152_5, rfl, ul152_5, ge152_5⟩ := k27_openF hMe152
              have hv152_5 := hcc152 5 _ rfl
              rw [add_field _ _ 5 (by omega)] at hv152_5
              replace hv152_5 := Option.some.inj (hv152_5.symm.trans hx152_5)
              injection hv152_5 with hva_ hvn_ hvc_
              rw [hva_] at ge152_5
              rw [hvc_] at ul152_5
              have HL152_5 := Aside0.mk (show Kd.V k27 27 _ w.heap.size _ _ ((rd_T27 t149 x5_1).f5) from Kd.V_mk ul152_5 ge152_5)
              clear hva_ hvn_ hvc_ ge152_5 ul152_5
              clear hcc152 hce152
              have HR152_5 := Aside0.mk hi152_5
              have HC152_5 := Aside0.mk hl152_5
              clear hi152_5 hl152_5
              replace p152 := eq_true p152
              replace q152 := eq_true q152
              go_wp2_with (first | ((with_reducible refine gate_callee (f := 46) rfl ?_); refine goesL_ (some 25) rfl rfl Try.func46 (by kernel_rfl) rfl #[.agg #[.int .i64 ((rd_T27 t149 x5_1).f0), .int .i64 ((rd_T27 t149 x5_1).f1), .int .i64 ((rd_T27 t149 x5_1).f2), .int .i64 ((rd_T27 t149 x5_1).f3), .int .i64 ((rd_T27 t149 x5_1).f4), .slice A152_5 ((rd_T27 t149 x5_1).f5).length c152_5]] rfl (by (try simp only [List.map_toArray, List.map_cons, List.map_nil]); first | done | rfl | (simp only [List.length_drop, List.length_take]; rfl)) ?_; (with_reducible refine (ih k1 (by have := HK1.out; omega) ((rd_T27 t149 x5_1).f0) ((rd_T27 t149 x5_1).f1) ((rd_T27 t149 x5_1).f2) ((rd_T27 t149 x5_1).f3) ((rd_T27 t149 x5_1).f4) _ _ ((rd_T27 t149 x5_1).f5) t153 _ ?side1 ?side2 A12.out).mono ?_); (case side1 => repeat (first | exact (by repeat (first | (with_reducible exact HR152_5.out) | (with_reducible refine Kd.C_alloc ?_ _) | (with_reducible refine Kd.C_drewN ?_ _) | (with_reducible refine Kd.C_drew ?_) | exact HR152_5.out)) | (with_reducible refine Kd.C_alloc ?_ _) | (with_reducible refine Kd.C_drewN ?_ _) | (with_reducible refine Kd.C_drew ?_))); (case side2 => exact HC152_5.out); rintro e w17 ⟨rfl, hb⟩; refine ⟨_, rfl, ?_⟩; have n0_ := Aside0.mk (Kd.V_below (by (with_reducible repeat (first | apply Kd.V_alloc | apply Kd.V_drewN | apply Kd.V_drew)); exact HO_4.out) hb); have n1_ := Aside0.mk (Kd.V_below (by (with_reducible repeat (first | apply Kd.V_alloc | apply Kd.V_drewN | apply Kd.V_drew)); exact HL152_5.out) hb); have n2_ := Aside0.mk (blk_below (g := gb147) (o := .cells #[.int .i64 a0_0, .int .i64 a0_1, .int .i64 a0_2, .int .i64 a0_3, .int .i64 a0_4, .slice A0_5 l0_5.length c0_5] 27 (0, 0)) (by (with_reducible repeat (first | refine blk_drewN ?_ _ | refine blk_drew ?_ | refine blk_alloc ?_ _)); exact BK147.out) hb); have n3_ := Aside0.mk (Kd.C_below (by repeat (first | (with_reducible exact HR152_5.out) | (with_reducible refine Kd.C_alloc ?_ _) | (with_reducible refine Kd.C_drewN ?_ _) | (with_reducible refine Kd.C_drew ?_) | exact HR152_5.out)) hb); have n4_ := Aside0.mk (below_step (by repeat (first | (with_reducible first | exact HB.out | apply below_alloc | apply pw_below_drewN | apply below_drew1 | refine below_set ?_ GE147.out) | exact HB.out)) hb); clear HO_4; clear HL152_5; clear BK147; clear HR152_5; clear HB; have HO_4 := n0_; have HL152_5 := n1_; have BK147 := n2_; have HR152_5 := n3_; have HB := n4_; clear n0_ n1_ n2_ n3_ n4_; (try clear hb); (try clear hb2); (try clear hk); (try clear hi)))
              go_ret
              exact ⟨by first | rfl | (simp [errW_none, errW_some] <;> rfl) | (simp [*, errW_none, errW_some] <;> rfl), by repeat (first | (with_reducible first | exact HB.out | apply below_alloc | apply pw_below_drewN | apply below_drew1 | refine below_set ?_ GE147.out) | exact HB.out)⟩
          · rw [if_neg c11] at H
            exact absurd H (by simp)
        · rw [if_neg c10] at H
          have c10b0 : decide (x5_1 < (t149.length : Int)) = false := decide_eq_false c10
          clear c10
          have H' := Aside0.mk H
          clear H
          obtain ⟨Ao18, co18, eo18⟩ := Kd.V_slice HO_4.out
          subst eo18
          go_wp2
          go_loopg [6] k1 (fun kq v6 w' => ∃ (x6_2 : Int), v6 = .int .i64 x6_2 ∧ Aside0 (passepartoutref04_check.l1 kq t149 x6_2 a0_0 a0_1 a0_2 a0_3 a0_4 l0_5 = some r) ∧ Aside0 (kq ≤ k1) ∧ Aside0 (Kd.V k27 27 w' w.heap.size (fun k_ => k_ ≠ gb147) (.slice Ao18 t149.length co18) t149) ∧ Aside0 (w'.heap[gb147]? = some (.cells #[.int .i64 a0_0, .int .i64 a0_1, .int .i64 a0_2, .int .i64 a0_3, .int .i64 a0_4, (.slice A0_5 l0_5.length c0_5)] 27 (0, 0))) ∧ Aside0 (Below w.heap.size w w'))
          case atStart => exact ⟨(0), (by first | rfl | (simp; done) | (simp [*]; done)), H', ⟨Nat.le_refl _⟩, ⟨by (with_reducible repeat (first | apply Kd.V_alloc | apply Kd.V_drewN | apply Kd.V_drew)); exact HO_4.out⟩, ⟨by (with_reducible repeat (first | refine blk_drewN ?_ _ | refine blk_drew ?_ | refine blk_alloc ?_ _)); exact BK147.out⟩, ⟨by repeat (first | (with_reducible first | exact HB.out | apply below_alloc | apply pw_below_drewN | apply below_drew1 | refine below_set ?_ GE147.out) | exact HB.out)⟩⟩
          case round =>
            clear H'
            try clear c1
            try clear p1
            try clear q1
            try clear hx1
            try clear p2
            try clear c3
            try clear c3b0
            try clear c3b1
            try clear c4
            try clear c6
            try clear p6
            try clear c10
            try clear c10b0
            try clear c11
            try clear c11b0
            try clear c13
            try clear c13b0
            try clear c13b1
            try clear c15
            try clear p15
            try clear q15
            try clear hx15
            try clear hcz6_0
            try clear hcz6_1
            try clear hcz6_2
            try clear hcz6_3
            try clear hcz6_4
            try clear hcz6_5
            try clear hcz8_0
            try clear hcz8_1
            try clear hcz8_2
            try clear hcz8_3
            try clear hcz8_4
            try clear hcz8_5
            try clear hfz6_0
            try clear hfz6_1
            try clear hfz6_2
            try clear hfz6_3
            try clear hfz6_4
            try clear hfz6_5
            try clear hfz8_0
            try clear hfz8_1
            try clear hfz8_2
            try clear hfz8_3
            try clear hfz8_4
            try clear hfz8_5
            try clear hx152_0
            try clear hx152_1
            try clear hx152_2
            try clear hx152_3
            try clear hx152_4
            try clear hx152_5
            try clear p152
            try clear p2
            try clear q152
            obtain ⟨x6_2, rfl, HA, HK2, HO_4, BK147, HB⟩ := hrel
            cases gk with
            | zero => exact absurd HA.out (by simp [passepartoutref04_check.l1])
            | succ k2 =>
              have H := HA.out
              clear HA
              simp only [passepartoutref04_check.l1] at H
              by_cases c19 : x6_2 < (t149.length : Int)
              · rw [if_pos c19] at H
                have c19b0 : decide (x6_2 < (t149.length : Int)) = true := decide_eq_true c19
                clear c19
                by_cases c20 : 0 ≤ x6_2
                · rw [if_pos c20] at H
                  have c20b0 : decide (0 ≤ x6_2) = true := decide_eq_true c20
                  clear c20
                  replace H := Option.bind_eq_some_iff.mp H
                  obtain ⟨t155, A210, H⟩ := H
                  replace H : (if t155 = true then (if a0_0 = 2 then (some 15) else (if (wrap64 (x6_2 + 1)) < (t149.length : Int) then (some 15) else (passepartoutref04_check.l1 k2 t149 (wrap64 (x6_2 + 1)) a0_0 a0_1 a0_2 a0_3 a0_4 l0_5))) else (passepartoutref04_check.l1 k2 t149 (wrap64 (x6_2 + 1)) a0_0 a0_1 a0_2 a0_3 a0_4 l0_5)) = some r := H
                  have A21 := Aside0.mk A210
                  clear A210
                  by_cases c22 : t155 = true
                  · subst c22
                    have H1 : (if a0_0 = 2 then (some 15) else (if (wrap64 (x6_2 + 1)) < (t149.length : Int) then (some 15) else (passepartoutref04_check.l1 k2 t149 (wrap64 (x6_2 + 1)) a0_0 a0_1 a0_2 a0_3 a0_4 l0_5))) = some r := by rw [if_pos rfl] at H; exact H
                    clear H
                    have H := H1
                    clear H1
                    by_cases c23 : a0_0 = 2
                    · rw [if_pos c23] at H
                      have c23b0 : (a0_0 == 2) = true := beq_iff_eq.mpr c23
                      have c23b1 : (a0_0 != 2) = false := bne_eq_false_iff_eq.mpr c23
                      clear c23
                      obtain rfl := Option.some.inj H
                      have p154 : 0 ≤ (x6_2 : Int) := of_decide_eq_true (by first | (with_reducible assumption) | assumption)
                      have q154 : x6_2 < (t149.length : Int) := of_decide_eq_true (by first | (with_reducible assumption) | assumption)
                      obtain ⟨ad154, A154_5, c154_5, e154, hx154_0, hx154_1, hx154_2, hx154_3, hx154_4, hx154_5, hl154_5, hi154_5⟩ := at_T27 (Kd.V_reads' HO_4.out).2.2 x6_2 p154 q154
                      cases e154
                      obtain ⟨ce154, hce154, hMe154, hcc154⟩ := Kd.V_get HO_4.out z27 x6_2 p154 (by first | exact q154 | exact of_decide_eq_true (by first | (with_reducible assumption) | assumption) | (have e_ := (Kd.V_reads' HO_4.out).1; omega))
                      obtain ⟨ua154_5, uc154_5, rfl, ul154_5, ge154_5⟩ := k27_openF hMe154
                      have hv154_5 := hcc154 5 _ rfl
                      rw [add_field _ _ 5 (by omega)] at hv154_5
                      replace hv154_5 := Option.some.inj (hv154_5.symm.trans hx154_5)
                      injection hv154_5 with hva_ hvn_ hvc_
                      rw [hva_] at ge154_5
                      rw [hvc_] at ul154_5
                      have HL154_5 := Aside0.mk (show Kd.V k27 27 _ w.heap.size _ _ ((rd_T27 t149 x6_2).f5) from Kd.V_mk ul154_5 ge154_5)
                      clear hva_ hvn_ hvc_ ge154_5 ul154_5
                      clear hcc154 hce154
                      have HR154_5 := Aside0.mk hi154_5
                      have HC154_5 := Aside0.mk hl154_5
                      clear hi154_5 hl154_5
                      replace p154 := eq_true p154
                      replace q154 := eq_true q154
                      go_wp2_with (first | ((with_reducible refine gate_callee (f := 65) rfl ?_); refine goesL_ (some 39) rfl rfl Try.func65 (by kernel_rfl) rfl #[.agg #[.int .i64 ((rd_T27 t149 x6_2).f0), .int .i64 ((rd_T27 t149 x6_2).f1), .int .i64 ((rd_T27 t149 x6_2).f2), .int .i64 ((rd_T27 t149 x6_2).f3), .int .i64 ((rd_T27 t149 x6_2).f4), .slice A154_5 ((rd_T27 t149 x6_2).f5).length c154_5]] rfl (by (try simp only [List.map_toArray, List.map_cons, List.map_nil]); first | done | rfl | (simp only [List.length_drop, List.length_take]; rfl)) ?_; (with_reducible refine (passepartoutref04_Open.calls k2 ((rd_T27 t149 x6_2).f0) ((rd_T27 t149 x6_2).f1) ((rd_T27 t149 x6_2).f2) ((rd_T27 t149 x6_2).f3) ((rd_T27 t149 x6_2).f4) _ _ ((rd_T27 t149 x6_2).f5) true _ ?side1 ?side2 A21.out).mono ?_); (case side1 => repeat (first | exact (by repeat (first | (with_reducible exact HR154_5.out) | (with_reducible refine Kd.C_alloc ?_ _) | (with_reducible refine Kd.C_drewN ?_ _) | (with_reducible refine Kd.C_drew ?_) | exact HR154_5.out)) | (with_reducible refine Kd.C_alloc ?_ _) | (with_reducible refine Kd.C_drewN ?_ _) | (with_reducible refine Kd.C_drew ?_))); (case side2 => exact HC154_5.out); rintro e w24 ⟨rfl, hb⟩; refine ⟨_, rfl, ?_⟩; have n0_ := Aside0.mk (Kd.V_below (by (with_reducible repeat (first | apply Kd.V_alloc | apply Kd.V_drewN | apply Kd.V_drew)); exact HO_4.out) hb); have n1_ := Aside0.mk (Kd.V_below (by (with_reducible repeat (first | apply Kd.V_alloc | apply Kd.V_drewN | apply Kd.V_drew)); exact HL154_5.out) hb); have n2_ := Aside0.mk (blk_below (g := gb147) (o := .cells #[.int .i64 a0_0, .int .i64 a0_1, .int .i64 a0_2, .int .i64 a0_3, .int .i64 a0_4, .slice A0_5 l0_5.length c0_5] 27 (0, 0)) (by (with_reducible repeat (first | refine blk_drewN ?_ _ | refine blk_drew ?_ | refine blk_alloc ?_ _)); exact BK147.out) hb); have n3_ := Aside0.mk (Kd.C_below (by repeat (first | (with_reducible exact HR154_5.out) | (with_reducible refine Kd.C_alloc ?_ _) | (with_reducible refine Kd.C_drewN ?_ _) | (with_reducible refine Kd.C_drew ?_) | exact HR154_5.out)) hb); have n4_ := Aside0.mk (below_step (by repeat (first | (with_reducible first | exact HB.out | apply below_alloc | apply pw_below_drewN | apply below_drew1 | refine below_set ?_ GE147.out) | exact HB.out)) hb); clear HO_4; clear HL154_5; clear BK147; clear HR154_5; clear HB; have HO_4 := n0_; have HL154_5 := n1_; have BK147 := n2_; have HR154_5 := n3_; have HB := n4_; clear n0_ n1_ n2_ n3_ n4_; (try clear hb); (try clear hb2); (try clear hk); (try clear hi); have hcz25_0 : w24.cell? ⟨gb147, 0, none⟩ = some (.int .i64 a0_0) := (blk_cell BK147.out 0).trans rfl; have hcz25_1 : w24.cell? ⟨gb147, 1, none⟩ = some (.int .i64 a0_1) := (blk_cell BK147.out 1).trans rfl; have hcz25_2 : w24.cell? ⟨gb147, 2, none⟩ = some (.int .i64 a0_2) := (blk_cell BK147.out 2).trans rfl; have hcz25_3 : w24.cell? ⟨gb147, 3, none⟩ = some (.int .i64 a0_3) := (blk_cell BK147.out 3).trans rfl; have hcz25_4 : w24.cell? ⟨gb147, 4, none⟩ = some (.int .i64 a0_4) := (blk_cell BK147.out 4).trans rfl; have hcz25_5 : w24.cell? ⟨gb147, 5, none⟩ = some (.slice A0_5 l0_5.length c0_5) := (blk_cell BK147.out 5).trans rfl; have hfz25_0 := blk_frozen BK147.out 0; have hfz25_1 := blk_frozen BK147.out 1; have hfz25_2 := blk_frozen BK147.out 2; have hfz25_3 := blk_frozen BK147.out 3; have hfz25_4 := blk_frozen BK147.out 4; have hfz25_5 := blk_frozen BK147.out 5))
                      go_ret
                      exact ⟨by first | rfl | (simp [errW_none, errW_some] <;> rfl) | (simp [*, errW_none, errW_some] <;> rfl), by repeat (first | (with_reducible first | exact HB.out | apply below_alloc | apply pw_below_drewN | apply below_drew1 | refine below_set ?_ GE147.out) | exact HB.out)⟩
                    · rw [if_neg c23] at H
                      have c23b0 : (a0_0 == 2) = false := beq_eq_false_iff_ne.mpr c23
                      have c23b1 : (a0_0 != 2) = true := bne_iff_ne.mpr c23
                      by_cases c26 : (wrap64 (x6_2 + 1)) < (t149.length : Int)
                      · rw [if_pos c26] at H
                        have c26b0 : decide ((wrap64 (x6_2 + 1)) < (t149.length : Int)) = true := decide_eq_true c26
                        clear c26
                        obtain rfl := Option.some.inj H
                        have p154 : 0 ≤ (x6_2 : Int) := of_decide_eq_true (by first | (with_reducible assumption) | assumption)
                        have q154 : x6_2 < (t149.length : Int) := of_decide_eq_true (by first | (with_reducible assumption) | assumption)
                        obtain ⟨ad154, A154_5, c154_5, e154, hx154_0, hx154_1, hx154_2, hx154_3, hx154_4, hx154_5, hl154_5, hi154_5⟩ := at_T27 (Kd.V_reads' HO_4.out).2.2 x6_2 p154 q154
                        cases e154
                        obtain ⟨ce154, hce154, hMe154, hcc154⟩ := Kd.V_get HO_4.out z27 x6_2 p154 (by first | exact q154 | exact of_decide_eq_true (by first | (with_reducible assumption) | assumption) | (have e_ := (Kd.V_reads' HO_4.out).1; omega))
                        obtain ⟨ua154_5, uc154_5, rfl, ul154_5, ge154_5⟩ := k27_openF hMe154
                        have hv154_5 := hcc154 5 _ rfl
                        rw [add_field _ _ 5 (by omega)] at hv154_5
                        replace hv154_5 := Option.some.inj (hv154_5.symm.trans hx154_5)
                        injection hv154_5 with hva_ hvn_ hvc_
                        rw [hva_] at ge154_5
                        rw [hvc_] at ul154_5
                        have HL154_5 := Aside0.mk (show Kd.V k27 27 _ w.heap.size _ _ ((rd_T27 t149 x6_2).f5) from Kd.V_mk ul154_5 ge154_5)
                        clear hva_ hvn_ hvc_ ge154_5 ul154_5
                        clear hcc154 hce154
                        have HR154_5 := Aside0.mk hi154_5
                        have HC154_5 := Aside0.mk hl154_5
                        clear hi154_5 hl154_5
                        replace p154 := eq_true p154
                        replace q154 := eq_true q154
                        go_wp2_with (first | ((with_reducible refine gate_callee (f := 65) rfl ?_); refine goesL_ (some 39) rfl rfl Try.func65 (by kernel_rfl) rfl #[.agg #[.int .i64 ((rd_T27 t149 x6_2).f0), .int .i64 ((rd_T27 t149 x6_2).f1), .int .i64 ((rd_T27 t149 x6_2).f2), .int .i64 ((rd_T27 t149 x6_2).f3), .int .i64 ((rd_T27 t149 x6_2).f4), .slice A154_5 ((rd_T27 t149 x6_2).f5).length c154_5]] rfl (by (try simp only [List.map_toArray, List.map_cons, List.map_nil]); first | done | rfl | (simp only [List.length_drop, List.length_take]; rfl)) ?_; (with_reducible refine (passepartoutref04_Open.calls k2 ((rd_T27 t149 x6_2).f0) ((rd_T27 t149 x6_2).f1) ((rd_T27 t149 x6_2).f2) ((rd_T27 t149 x6_2).f3) ((rd_T27 t149 x6_2).f4) _ _ ((rd_T27 t149 x6_2).f5) true _ ?side1 ?side2 A21.out).mono ?_); (case side1 => repeat (first | exact (by repeat (first | (with_reducible exact HR154_5.out) | (with_reducible refine Kd.C_alloc ?_ _) | (with_reducible refine Kd.C_drewN ?_ _) | (with_reducible refine Kd.C_drew ?_) | exact HR154_5.out)) | (with_reducible refine Kd.C_alloc ?_ _) | (with_reducible refine Kd.C_drewN ?_ _) | (with_reducible refine Kd.C_drew ?_))); (case side2 => exact HC154_5.out); rintro e w27 ⟨rfl, hb⟩; refine ⟨_, rfl, ?_⟩; have n0_ := Aside0.mk (Kd.V_below (by (with_reducible repeat (first | apply Kd.V_alloc | apply Kd.V_drewN | apply Kd.V_drew)); exact HO_4.out) hb); have n1_ := Aside0.mk (Kd.V_below (by (with_reducible repeat (first | apply Kd.V_alloc | apply Kd.V_drewN | apply Kd.V_drew)); exact HL154_5.out) hb); have n2_ := Aside0.mk (blk_below (g := gb147) (o := .cells #[.int .i64 a0_0, .int .i64 a0_1, .int .i64 a0_2, .int .i64 a0_3, .int .i64 a0_4, .slice A0_5 l0_5.length c0_5] 27 (0, 0)) (by (with_reducible repeat (first | refine blk_drewN ?_ _ | refine blk_drew ?_ | refine blk_alloc ?_ _)); exact BK147.out) hb); have n3_ := Aside0.mk (Kd.C_below (by repeat (first | (with_reducible exact HR154_5.out) | (with_reducible refine Kd.C_alloc ?_ _) | (with_reducible refine Kd.C_drewN ?_ _) | (with_reducible refine Kd.C_drew ?_) | exact HR154_5.out)) hb); have n4_ := Aside0.mk (below_step (by repeat (first | (with_reducible first | exact HB.out | apply below_alloc | apply pw_below_drewN | apply below_drew1 | refine below_set ?_ GE147.out) | exact HB.out)) hb); clear HO_4; clear HL154_5; clear BK147; clear HR154_5; clear HB; have HO_4 := n0_; have HL154_5 := n1_; have BK147 := n2_; have HR154_5 := n3_; have HB := n4_; clear n0_ n1_ n2_ n3_ n4_; (try clear hb); (try clear hb2); (try clear hk); (try clear hi); have hcz28_0 : w27.cell? ⟨gb147, 0, none⟩ = some (.int .i64 a0_0) := (blk_cell BK147.out 0).trans rfl; have hcz28_1 : w27.cell? ⟨gb147, 1, none⟩ = some (.int .i64 a0_1) := (blk_cell BK147.out 1).trans rfl; have hcz28_2 : w27.cell? ⟨gb147, 2, none⟩ = some (.int .i64 a0_2) := (blk_cell BK147.out 2).trans rfl; have hcz28_3 : w27.cell? ⟨gb147, 3, none⟩ = some (.int .i64 a0_3) := (blk_cell BK147.out 3).trans rfl; have hcz28_4 : w27.cell? ⟨gb147, 4, none⟩ = some (.int .i64 a0_4) := (blk_cell BK147.out 4).trans rfl; have hcz28_5 : w27.cell? ⟨gb147, 5, none⟩ = some (.slice A0_5 l0_5.length c0_5) := (blk_cell BK147.out 5).trans rfl; have hfz28_0 := blk_frozen BK147.out 0; have hfz28_1 := blk_frozen BK147.out 1; have hfz28_2 := blk_frozen BK147.out 2; have hfz28_3 := blk_frozen BK147.out 3; have hfz28_4 := blk_frozen BK147.out 4; have hfz28_5 := blk_frozen BK147.out 5))
                        go_ret
                        exact ⟨by first | rfl | (simp [errW_none, errW_some] <;> rfl) | (simp [*, errW_none, errW_some] <;> rfl), by repeat (first | (with_reducible first | exact HB.out | apply below_alloc | apply pw_below_drewN | apply below_drew1 | refine below_set ?_ GE147.out) | exact HB.out)⟩
                      · rw [if_neg c26] at H
                        have c26b0 : decide ((wrap64 (x6_2 + 1)) < (t149.length : Int)) = false := decide_eq_false c26
                        clear c26
                        have H' := Aside0.mk H
                        clear H
                        have p154 : 0 ≤ (x6_2 : Int) := of_decide_eq_true (by first | (with_reducible assumption) | assumption)
                        have q154 : x6_2 < (t149.length : Int) := of_decide_eq_true (by first | (with_reducible assumption) | assumption)
                        obtain ⟨ad154, A154_5, c154_5, e154, hx154_0, hx154_1, hx154_2, hx154_3, hx154_4, hx154_5, hl154_5, hi154_5⟩ := at_T27 (Kd.V_reads' HO_4.out).2.2 x6_2 p154 q154
                        cases e154
                        obtain ⟨ce154, hce154, hMe154, hcc154⟩ := Kd.V_get HO_4.out z27 x6_2 p154 (by first | exact q154 | exact of_decide_eq_true (by first | (with_reducible assumption) | assumption) | (have e_ := (Kd.V_reads' HO_4.out).1; omega))
                        obtain ⟨ua154_5, uc154_5, rfl, ul154_5, ge154_5⟩ := k27_openF hMe154
                        have hv154_5 := hcc154 5 _ rfl
                        rw [add_field _ _ 5 (by omega)] at hv154_5
                        replace hv154_5 := Option.some.inj (hv154_5.symm.trans hx154_5)
                        injection hv154_5 with hva_ hvn_ hvc_
                        rw [hva_] at ge154_5
                        rw [hvc_] at ul154_5
                        have HL154_5 := Aside0.mk (show Kd.V k27 27 _ w.heap.size _ _ ((rd_T27 t149 x6_2).f5) from Kd.V_mk ul154_5 ge154_5)
                        clear hva_ hvn_ hvc_ ge154_5 ul154_5
                        clear hcc154 hce154
                        have HR154_5 := Aside0.mk hi154_5
                        have HC154_5 := Aside0.mk hl154_5
                        clear hi154_5 hl154_5
                        replace p154 := eq_true p154
                        replace q154 := eq_true q154
                        go_wp2_with (first | ((with_reducible refine gate_callee (f := 65) rfl ?_); refine goesL_ (some 39) rfl rfl Try.func65 (by kernel_rfl) rfl #[.agg #[.int .i64 ((rd_T27 t149 x6_2).f0), .int .i64 ((rd_T27 t149 x6_2).f1), .int .i64 ((rd_T27 t149 x6_2).f2), .int .i64 ((rd_T27 t149 x6_2).f3), .int .i64 ((rd_T27 t149 x6_2).f4), .slice A154_5 ((rd_T27 t149 x6_2).f5).length c154_5]] rfl (by (try simp only [List.map_toArray, List.map_cons, List.map_nil]); first | done | rfl | (simp only [List.length_drop, List.length_take]; rfl)) ?_; (with_reducible refine (passepartoutref04_Open.calls k2 ((rd_T27 t149 x6_2).f0) ((rd_T27 t149 x6_2).f1) ((rd_T27 t149 x6_2).f2) ((rd_T27 t149 x6_2).f3) ((rd_T27 t149 x6_2).f4) _ _ ((rd_T27 t149 x6_2).f5) true _ ?side1 ?side2 A21.out).mono ?_); (case side1 => repeat (first | exact (by repeat (first | (with_reducible exact HR154_5.out) | (with_reducible refine Kd.C_alloc ?_ _) | (with_reducible refine Kd.C_drewN ?_ _) | (with_reducible refine Kd.C_drew ?_) | exact HR154_5.out)) | (with_reducible refine Kd.C_alloc ?_ _) | (with_reducible refine Kd.C_drewN ?_ _) | (with_reducible refine Kd.C_drew ?_))); (case side2 => exact HC154_5.out); rintro e w29 ⟨rfl, hb⟩; refine ⟨_, rfl, ?_⟩; have n0_ := Aside0.mk (Kd.V_below (by (with_reducible repeat (first | apply Kd.V_alloc | apply Kd.V_drewN | apply Kd.V_drew)); exact HO_4.out) hb); have n1_ := Aside0.mk (Kd.V_below (by (with_reducible repeat (first | apply Kd.V_alloc | apply Kd.V_drewN | apply Kd.V_drew)); exact HL154_5.out) hb); have n2_ := Aside0.mk (blk_below (g := gb147) (o := .cells #[.int .i64 a0_0, .int .i64 a0_1, .int .i64 a0_2, .int .i64 a0_3, .int .i64 a0_4, .slice A0_5 l0_5.length c0_5] 27 (0, 0)) (by (with_reducible repeat (first | refine blk_drewN ?_ _ | refine blk_drew ?_ | refine blk_alloc ?_ _)); exact BK147.out) hb); have n3_ := Aside0.mk (Kd.C_below (by repeat (first | (with_reducible exact HR154_5.out) | (with_reducible refine Kd.C_alloc ?_ _) | (with_reducible refine Kd.C_drewN ?_ _) | (with_reducible refine Kd.C_drew ?_) | exact HR154_5.out)) hb); have n4_ := Aside0.mk (below_step (by repeat (first | (with_reducible first | exact HB.out | apply below_alloc | apply pw_below_drewN | apply below_drew1 | refine below_set ?_ GE147.out) | exact HB.out)) hb); clear HO_4; clear HL154_5; clear BK147; clear HR154_5; clear HB; have HO_4 := n0_; have HL154_5 := n1_; have BK147 := n2_; have HR154_5 := n3_; have HB := n4_; clear n0_ n1_ n2_ n3_ n4_; (try clear hb); (try clear hb2); (try clear hk); (try clear hi); have hcz30_0 : w29.cell? ⟨gb147, 0, none⟩ = some (.int .i64 a0_0) := (blk_cell BK147.out 0).trans rfl; have hcz30_1 : w29.cell? ⟨gb147, 1, none⟩ = some (.int .i64 a0_1) := (blk_cell BK147.out 1).trans rfl; have hcz30_2 : w29.cell? ⟨gb147, 2, none⟩ = some (.int .i64 a0_2) := (blk_cell BK147.out 2).trans rfl; have hcz30_3 : w29.cell? ⟨gb147, 3, none⟩ = some (.int .i64 a0_3) := (blk_cell BK147.out 3).trans rfl; have hcz30_4 : w29.cell? ⟨gb147, 4, none⟩ = some (.int .i64 a0_4) := (blk_cell BK147.out 4).trans rfl; have hcz30_5 : w29.cell? ⟨gb147, 5, none⟩ = some (.slice A0_5 l0_5.length c0_5) := (blk_cell BK147.out 5).trans rfl; have hfz30_0 := blk_frozen BK147.out 0; have hfz30_1 := blk_frozen BK147.out 1; have hfz30_2 := blk_frozen BK147.out 2; have hfz30_3 := blk_frozen BK147.out 3; have hfz30_4 := blk_frozen BK147.out 4; have hfz30_5 := blk_frozen BK147.out 5))
                        go_roundg k2
                        case measure => have := HK1.out; have := HK2.out; omega
                        case rel => exact ⟨(wrap64 (x6_2 + 1)), (by first | rfl | (simp; done) | (simp [*]; done)), H', ⟨by have := HK1.out; have := HK2.out; omega⟩, ⟨by (with_reducible repeat (first | apply Kd.V_alloc | apply Kd.V_drewN | apply Kd.V_drew)); exact HO_4.out⟩, ⟨by (with_reducible repeat (first | refine blk_drewN ?_ _ | refine blk_drew ?_ | refine blk_alloc ?_ _)); exact BK147.out⟩, ⟨by repeat (first | (with_reducible first | exact HB.out | apply below_alloc | apply pw_below_drewN | apply below_drew1 | refine below_set ?_ GE147.out) | exact HB.out)⟩⟩
                  · replace c22 := Bool.eq_false_iff.mpr c22
                    subst c22
                    have H1 : (passepartoutref04_check.l1 k2 t149 (wrap64 (x6_2 + 1)) a0_0 a0_1 a0_2 a0_3 a0_4 l0_5) = some r := by rw [if_neg (show ¬ (false = true) by decide)] at H; exact H
                    clear H
                    have H := H1
                    clear H1
                    have H' := Aside0.mk H
                    clear H
                    have p154 : 0 ≤ (x6_2 : Int) := of_decide_eq_true (by first | (with_reducible assumption) | assumption)
                    have q154 : x6_2 < (t149.length : Int) := of_decide_eq_true (by first | (with_reducible assumption) | assumption)
                    obtain ⟨ad154, A154_5, c154_5, e154, hx154_0, hx154_1, hx154_2, hx154_3, hx154_4, hx154_5, hl154_5, hi154_5⟩ := at_T27 (Kd.V_reads' HO_4.out).2.2 x6_2 p154 q154
                    cases e154
                    obtain ⟨ce154, hce154, hMe154, hcc154⟩ := Kd.V_get HO_4.out z27 x6_2 p154 (by first | exact q154 | exact of_decide_eq_true (by first | (with_reducible assumption) | assumption) | (have e_ := (Kd.V_reads' HO_4.out).1; omega))
                    obtain ⟨ua154_5, uc154_5, rfl, ul154_5, ge154_5⟩ := k27_openF hMe154
                    have hv154_5 := hcc154 5 _ rfl
                    rw [add_field _ _ 5 (by omega)] at hv154_5
                    replace hv154_5 := Option.some.inj (hv154_5.symm.trans hx154_5)
                    injection hv154_5 with hva_ hvn_ hvc_
                    rw [hva_] at ge154_5
                    rw [hvc_] at ul154_5
                    have HL154_5 := Aside0.mk (show Kd.V k27 27 _ w.heap.size _ _ ((rd_T27 t149 x6_2).f5) from Kd.V_mk ul154_5 ge154_5)
                    clear hva_ hvn_ hvc_ ge154_5 ul154_5
                    clear hcc154 hce154
                    have HR154_5 := Aside0.mk hi154_5
                    have HC154_5 := Aside0.mk hl154_5
                    clear hi154_5 hl154_5
                    replace p154 := eq_true p154
                    replace q154 := eq_true q154
                    go_wp2_with (first | ((with_reducible refine gate_callee (f := 65) rfl ?_); refine goesL_ (some 39) rfl rfl Try.func65 (by kernel_rfl) rfl #[.agg #[.int .i64 ((rd_T27 t149 x6_2).f0), .int .i64 ((rd_T27 t149 x6_2).f1), .int .i64 ((rd_T27 t149 x6_2).f2), .int .i64 ((rd_T27 t149 x6_2).f3), .int .i64 ((rd_T27 t149 x6_2).f4), .slice A154_5 ((rd_T27 t149 x6_2).f5).length c154_5]] rfl (by (try simp only [List.map_toArray, List.map_cons, List.map_nil]); first | done | rfl | (simp only [List.length_drop, List.length_take]; rfl)) ?_; (with_reducible refine (passepartoutref04_Open.calls k2 ((rd_T27 t149 x6_2).f0) ((rd_T27 t149 x6_2).f1) ((rd_T27 t149 x6_2).f2) ((rd_T27 t149 x6_2).f3) ((rd_T27 t149 x6_2).f4) _ _ ((rd_T27 t149 x6_2).f5) false _ ?side1 ?side2 A21.out).mono ?_); (case side1 => repeat (first | exact (by repeat (first | (with_reducible exact HR154_5.out) | (with_reducible refine Kd.C_alloc ?_ _) | (with_reducible refine Kd.C_drewN ?_ _) | (with_reducible refine Kd.C_drew ?_) | exact HR154_5.out)) | (with_reducible refine Kd.C_alloc ?_ _) | (with_reducible refine Kd.C_drewN ?_ _) | (with_reducible refine Kd.C_drew ?_))); (case side2 => exact HC154_5.out); rintro e w31 ⟨rfl, hb⟩; refine ⟨_, rfl, ?_⟩; have n0_ := Aside0.mk (Kd.V_below (by (with_reducible repeat (first | apply Kd.V_alloc | apply Kd.V_drewN | apply Kd.V_drew)); exact HO_4.out) hb); have n1_ := Aside0.mk (Kd.V_below (by (with_reducible repeat (first | apply Kd.V_alloc | apply Kd.V_drewN | apply Kd.V_drew)); exact HL154_5.out) hb); have n2_ := Aside0.mk (blk_below (g := gb147) (o := .cells #[.int .i64 a0_0, .int .i64 a0_1, .int .i64 a0_2, .int .i64 a0_3, .int .i64 a0_4, .slice A0_5 l0_5.length c0_5] 27 (0, 0)) (by (with_reducible repeat (first | refine blk_drewN ?_ _ | refine blk_drew ?_ | refine blk_alloc ?_ _)); exact BK147.out) hb); have n3_ := Aside0.mk (Kd.C_below (by repeat (first | (with_reducible exact HR154_5.out) | (with_reducible refine Kd.C_alloc ?_ _) | (with_reducible refine Kd.C_drewN ?_ _) | (with_reducible refine Kd.C_drew ?_) | exact HR154_5.out)) hb); have n4_ := Aside0.mk (below_step (by repeat (first | (with_reducible first | exact HB.out | apply below_alloc | apply pw_below_drewN | apply below_drew1 | refine below_set ?_ GE147.out) | exact HB.out)) hb); clear HO_4; clear HL154_5; clear BK147; clear HR154_5; clear HB; have HO_4 := n0_; have HL154_5 := n1_; have BK147 := n2_; have HR154_5 := n3_; have HB := n4_; clear n0_ n1_ n2_ n3_ n4_; (try clear hb); (try clear hb2); (try clear hk); (try clear hi)))
                    go_roundg k2
                    case measure => have := HK1.out; have := HK2.out; omega
                    case rel => exact ⟨(wrap64 (x6_2 + 1)), (by first | rfl | (simp; done) | (simp [*]; done)), H', ⟨by have := HK1.out; have := HK2.out; omega⟩, ⟨by (with_reducible repeat (first | apply Kd.V_alloc | apply Kd.V_drewN | apply Kd.V_drew)); exact HO_4.out⟩, ⟨by (with_reducible repeat (first | refine blk_drewN ?_ _ | refine blk_drew ?_ | refine blk_alloc ?_ _)); exact BK147.out⟩, ⟨by repeat (first | (with_reducible first | exact HB.out | apply below_alloc | apply pw_below_drewN | apply below_drew1 | refine below_set ?_ GE147.out) | exact HB.out)⟩⟩
                · rw [if_neg c20] at H
                  exact absurd H (by simp)
              · rw [if_neg c19] at H
                have c19b0 : decide (x6_2 < (t149.length : Int)) = false := decide_eq_false c19
                clear c19
                by_cases c32 : a0_0 = 2
                · rw [if_pos c32] at H
                  have c32b0 : (a0_0 == 2) = true := beq_iff_eq.mpr c32
                  have c32b1 : (a0_0 != 2) = false := bne_eq_false_iff_eq.mpr c32
                  clear c32
                  by_cases c33 : 0 < (t149.length : Int)
                  · rw [if_pos c33] at H
                    have c33b0 : decide (0 < (t149.length : Int)) = true := decide_eq_true c33
                    have c33b1 : decide (0 < t149.length) = true := decide_eq_true (by omega)
                    clear c33
                    replace H := Option.bind_eq_some_iff.mp H
                    obtain ⟨t157, A340, H⟩ := H
                    replace H : (if t157 = 0 then (some 15) else (some 0)) = some r := H
                    have A34 := Aside0.mk A340
                    clear A340
                    by_cases c35 : t157 = 0
                    · rw [if_pos c35] at H
                      have c35b0 : (t157 == 0) = true := beq_iff_eq.mpr c35
                      have c35b1 : (t157 != 0) = false := bne_eq_false_iff_eq.mpr c35
                      clear c35
                      obtain rfl := Option.some.inj H
                      have hcz36_0 : wr.cell? ⟨gb147, 0, none⟩ = some (.int .i64 a0_0) := (blk_cell BK147.out 0).trans rfl
                      have hcz36_1 : wr.cell? ⟨gb147, 1, none⟩ = some (.int .i64 a0_1) := (blk_cell BK147.out 1).trans rfl
                      have hcz36_2 : wr.cell? ⟨gb147, 2, none⟩ = some (.int .i64 a0_2) := (blk_cell BK147.out 2).trans rfl
                      have hcz36_3 : wr.cell? ⟨gb147, 3, none⟩ = some (.int .i64 a0_3) := (blk_cell BK147.out 3).trans rfl
                      have hcz36_4 : wr.cell? ⟨gb147, 4, none⟩ = some (.int .i64 a0_4) := (blk_cell BK147.out 4).trans rfl
                      have hcz36_5 : wr.cell? ⟨gb147, 5, none⟩ = some (.slice A0_5 l0_5.length c0_5) := (blk_cell BK147.out 5).trans rfl
                      have hfz36_0 := blk_frozen BK147.out 0
                      have hfz36_1 := blk_frozen BK147.out 1
                      have hfz36_2 := blk_frozen BK147.out 2
                      have hfz36_3 := blk_frozen BK147.out 3
                      have hfz36_4 := blk_frozen BK147.out 4
                      have hfz36_5 := blk_frozen BK147.out 5
                      have p156 : 0 ≤ (0 : Int) := (by omega)
                      have q156 : 0 < (t149.length : Int) := of_decide_eq_true (by first | (with_reducible assumption) | assumption)
                      obtain ⟨ad156, A156_5, c156_5, e156, hx156_0, hx156_1, hx156_2, hx156_3, hx156_4, hx156_5, hl156_5, hi156_5⟩ := at_T27 (Kd.V_reads' HO_4.out).2.2 0 p156 q156
                      cases e156
                      obtain ⟨ce156, hce156, hMe156, hcc156⟩ := Kd.V_get HO_4.out z27 0 p156 (by first | exact q156 | exact of_decide_eq_true (by first | (with_reducible assumption) | assumption) | (have e_ := (Kd.V_reads' HO_4.out).1; omega))
                      obtain ⟨ua156_5, uc156_5, rfl, ul156_5, ge156_5⟩ := k27_openF hMe156
                      have hv156_5 := hcc156 5 _ rfl
                      rw [add_field _ _ 5 (by omega)] at hv156_5
                      replace hv156_5 := Option.some.inj (hv156_5.symm.trans hx156_5)
                      injection hv156_5 with hva_ hvn_ hvc_
                      rw [hva_] at ge156_5
                      rw [hvc_] at ul156_5
                      have HL156_5 := Aside0.mk (show Kd.V k27 27 _ w.heap.size _ _ ((rd_T27 t149 0).f5) from Kd.V_mk ul156_5 ge156_5)
                      clear hva_ hvn_ hvc_ ge156_5 ul156_5
                      clear hcc156 hce156
                      have qi156 : (0 < t149.length) = True := eq_true (by omega)
                      (try rw [show ((0 : Int)).toNat = 0 from rfl] at hx156_0)
                      (try rw [show 0 * 6 = 0 from rfl] at hx156_0)
                      (try rw [Addr.add_zero'] at hx156_0)
                      (try rw [show ((0 : Int)).toNat = 0 from rfl] at hx156_1)
                      (try rw [show 0 * 6 = 0 from rfl] at hx156_1)
                      (try rw [Addr.add_zero'] at hx156_1)
                      (try rw [show ((0 : Int)).toNat = 0 from rfl] at hx156_2)
                      (try rw [show 0 * 6 = 0 from rfl] at hx156_2)
                      (try rw [Addr.add_zero'] at hx156_2)
                      (try rw [show ((0 : Int)).toNat = 0 from rfl] at hx156_3)
                      (try rw [show 0 * 6 = 0 from rfl] at hx156_3)
                      (try rw [Addr.add_zero'] at hx156_3)
                      (try rw [show ((0 : Int)).toNat = 0 from rfl] at hx156_4)
                      (try rw [show 0 * 6 = 0 from rfl] at hx156_4)
                      (try rw [Addr.add_zero'] at hx156_4)
                      (try rw [show ((0 : Int)).toNat = 0 from rfl] at hx156_5)
                      (try rw [show 0 * 6 = 0 from rfl] at hx156_5)
                      (try rw [Addr.add_zero'] at hx156_5)
                      have HR156_5 := Aside0.mk hi156_5
                      have HC156_5 := Aside0.mk hl156_5
                      clear hi156_5 hl156_5
                      replace p156 := eq_true p156
                      replace q156 := eq_true q156
                      go_wp2_with (first | (go_at_call 34; (with_reducible refine (passepartoutref04_Least.calls k2 ((rd_T27 t149 0).f0) ((rd_T27 t149 0).f1) ((rd_T27 t149 0).f2) ((rd_T27 t149 0).f3) ((rd_T27 t149 0).f4) _ _ ((rd_T27 t149 0).f5) t157 _ ?side1 ?side2 A34.out).mono ?_); (case side1 => repeat (first | exact (by repeat (first | (with_reducible exact HR156_5.out) | (with_reducible refine Kd.C_alloc ?_ _) | (with_reducible refine Kd.C_drewN ?_ _) | (with_reducible refine Kd.C_drew ?_) | exact HR156_5.out)) | (with_reducible refine Kd.C_alloc ?_ _) | (with_reducible refine Kd.C_drewN ?_ _) | (with_reducible refine Kd.C_drew ?_))); (case side2 => exact HC156_5.out); rintro e w37 ⟨rfl, hb⟩; have n0_ := Aside0.mk (Kd.V_below (by (with_reducible repeat (first | apply Kd.V_alloc | apply Kd.V_drewN | apply Kd.V_drew)); exact HO_4.out) hb); have n1_ := Aside0.mk (Kd.V_below (by (with_reducible repeat (first | apply Kd.V_alloc | apply Kd.V_drewN | apply Kd.V_drew)); exact HL156_5.out) hb); have n2_ := Aside0.mk (blk_below (g := gb147) (o := .cells #[.int .i64 a0_0, .int .i64 a0_1, .int .i64 a0_2, .int .i64 a0_3, .int .i64 a0_4, .slice A0_5 l0_5.length c0_5] 27 (0, 0)) (by (with_reducible repeat (first | refine blk_drewN ?_ _ | refine blk_drew ?_ | refine blk_alloc ?_ _)); exact BK147.out) hb); have n3_ := Aside0.mk (Kd.C_below (by repeat (first | (with_reducible exact HR156_5.out) | (with_reducible refine Kd.C_alloc ?_ _) | (with_reducible refine Kd.C_drewN ?_ _) | (with_reducible refine Kd.C_drew ?_) | exact HR156_5.out)) hb); have n4_ := Aside0.mk (below_step (by repeat (first | (with_reducible first | exact HB.out | apply below_alloc | apply pw_below_drewN | apply below_drew1 | refine below_set ?_ GE147.out) | exact HB.out)) hb); clear HO_4; clear HL156_5; clear BK147; clear HR156_5; clear HB; have HO_4 := n0_; have HL156_5 := n1_; have BK147 := n2_; have HR156_5 := n3_; have HB := n4_; clear n0_ n1_ n2_ n3_ n4_; (try clear hb); (try clear hb2); (try clear hk); (try clear hi)))
                      go_ret
                      exact ⟨by first | rfl | (simp [errW_none, errW_some] <;> rfl) | (simp [*, errW_none, errW_some] <;> rfl), by repeat (first | (with_reducible first | exact HB.out | apply below_alloc | apply pw_below_drewN | apply below_drew1 | refine below_set ?_ GE147.out) | exact HB.out)⟩
                    · rw [if_neg c35] at H
                      have c35b0 : (t157 == 0) = false := beq_eq_false_iff_ne.mpr c35
                      have c35b1 : (t157 != 0) = true := bne_iff_ne.mpr c35
                      obtain rfl := Option.some.inj H
                      have hcz38_0 : wr.cell? ⟨gb147, 0, none⟩ = some (.int .i64 a0_0) := (blk_cell BK147.out 0).trans rfl
                      have hcz38_1 : wr.cell? ⟨gb147, 1, none⟩ = some (.int .i64 a0_1) := (blk_cell BK147.out 1).trans rfl
                      have hcz38_2 : wr.cell? ⟨gb147, 2, none⟩ = some (.int .i64 a0_2) := (blk_cell BK147.out 2).trans rfl
                      have hcz38_3 : wr.cell? ⟨gb147, 3, none⟩ = some (.int .i64 a0_3) := (blk_cell BK147.out 3).trans rfl
                      have hcz38_4 : wr.cell? ⟨gb147, 4, none⟩ = some (.int .i64 a0_4) := (blk_cell BK147.out 4).trans rfl
                      have hcz38_5 : wr.cell? ⟨gb147, 5, none⟩ = some (.slice A0_5 l0_5.length c0_5) := (blk_cell BK147.out 5).trans rfl
                      have hfz38_0 := blk_frozen BK147.out 0
                      have hfz38_1 := blk_frozen BK147.out 1
                      have hfz38_2 := blk_frozen BK147.out 2
                      have hfz38_3 := blk_frozen BK147.out 3
                      have hfz38_4 := blk_frozen BK147.out 4
                      have hfz38_5 := blk_frozen BK147.out 5
                      have p156 : 0 ≤ (0 : Int) := (by omega)
                      have q156 : 0 < (t149.length : Int) := of_decide_eq_true (by first | (with_reducible assumption) | assumption)
                      obtain ⟨ad156, A156_5, c156_5, e156, hx156_0, hx156_1, hx156_2, hx156_3, hx156_4, hx156_5, hl156_5, hi156_5⟩ := at_T27 (Kd.V_reads' HO_4.out).2.2 0 p156 q156
                      cases e156
                      obtain ⟨ce156, hce156, hMe156, hcc156⟩ := Kd.V_get HO_4.out z27 0 p156 (by first | exact q156 | exact of_decide_eq_true (by first | (with_reducible assumption) | assumption) | (have e_ := (Kd.V_reads' HO_4.out).1; omega))
                      obtain ⟨ua156_5, uc156_5, rfl, ul156_5, ge156_5⟩ := k27_openF hMe156
                      have hv156_5 := hcc156 5 _ rfl
                      rw [add_field _ _ 5 (by omega)] at hv156_5
                      replace hv156_5 := Option.some.inj (hv156_5.symm.trans hx156_5)
                      injection hv156_5 with hva_ hvn_ hvc_
                      rw [hva_] at ge156_5
                      rw [hvc_] at ul156_5
                      have HL156_5 := Aside0.mk (show Kd.V k27 27 _ w.heap.size _ _ ((rd_T27 t149 0).f5) from Kd.V_mk ul156_5 ge156_5)
                      clear hva_ hvn_ hvc_ ge156_5 ul156_5
                      clear hcc156 hce156
                      have qi156 : (0 < t149.length) = True := eq_true (by omega)
                      (try rw [show ((0 : Int)).toNat = 0 from rfl] at hx156_0)
                      (try rw [show 0 * 6 = 0 from rfl] at hx156_0)
                      (try rw [Addr.add_zero'] at hx156_0)
                      (try rw [show ((0 : Int)).toNat = 0 from rfl] at hx156_1)
                      (try rw [show 0 * 6 = 0 from rfl] at hx156_1)
                      (try rw [Addr.add_zero'] at hx156_1)
                      (try rw [show ((0 : Int)).toNat = 0 from rfl] at hx156_2)
                      (try rw [show 0 * 6 = 0 from rfl] at hx156_2)
                      (try rw [Addr.add_zero'] at hx156_2)
                      (try rw [show ((0 : Int)).toNat = 0 from rfl] at hx156_3)
                      (try rw [show 0 * 6 = 0 from rfl] at hx156_3)
                      (try rw [Addr.add_zero'] at hx156_3)
                      (try rw [show ((0 : Int)).toNat = 0 from rfl] at hx156_4)
                      (try rw [show 0 * 6 = 0 from rfl] at hx156_4)
                      (try rw [Addr.add_zero'] at hx156_4)
                      (try rw [show ((0 : Int)).toNat = 0 from rfl] at hx156_5)
                      (try rw [show 0 * 6 = 0 from rfl] at hx156_5)
                      (try rw [Addr.add_zero'] at hx156_5)
                      have HR156_5 := Aside0.mk hi156_5
                      have HC156_5 := Aside0.mk hl156_5
                      clear hi156_5 hl156_5
                      replace p156 := eq_true p156
                      replace q156 := eq_true q156
                      go_wp2_with (first | (go_at_call 34; (with_reducible refine (passepartoutref04_Least.calls k2 ((rd_T27 t149 0).f0) ((rd_T27 t149 0).f1) ((rd_T27 t149 0).f2) ((rd_T27 t149 0).f3) ((rd_T27 t149 0).f4) _ _ ((rd_T27 t149 0).f5) t157 _ ?side1 ?side2 A34.out).mono ?_); (case side1 => repeat (first | exact (by repeat (first | (with_reducible exact HR156_5.out) | (with_reducible refine Kd.C_alloc ?_ _) | (with_reducible refine Kd.C_drewN ?_ _) | (with_reducible refine Kd.C_drew ?_) | exact HR156_5.out)) | (with_reducible refine Kd.C_alloc ?_ _) | (with_reducible refine Kd.C_drewN ?_ _) | (with_reducible refine Kd.C_drew ?_))); (case side2 => exact HC156_5.out); rintro e w39 ⟨rfl, hb⟩; have n0_ := Aside0.mk (Kd.V_below (by (with_reducible repeat (first | apply Kd.V_alloc | apply Kd.V_drewN | apply Kd.V_drew)); exact HO_4.out) hb); have n1_ := Aside0.mk (Kd.V_below (by (with_reducible repeat (first | apply Kd.V_alloc | apply Kd.V_drewN | apply Kd.V_drew)); exact HL156_5.out) hb); have n2_ := Aside0.mk (blk_below (g := gb147) (o := .cells #[.int .i64 a0_0, .int .i64 a0_1, .int .i64 a0_2, .int .i64 a0_3, .int .i64 a0_4, .slice A0_5 l0_5.length c0_5] 27 (0, 0)) (by (with_reducible repeat (first | refine blk_drewN ?_ _ | refine blk_drew ?_ | refine blk_alloc ?_ _)); exact BK147.out) hb); have n3_ := Aside0.mk (Kd.C_below (by repeat (first | (with_reducible exact HR156_5.out) | (with_reducible refine Kd.C_alloc ?_ _) | (with_reducible refine Kd.C_drewN ?_ _) | (with_reducible refine Kd.C_drew ?_) | exact HR156_5.out)) hb); have n4_ := Aside0.mk (below_step (by repeat (first | (with_reducible first | exact HB.out | apply below_alloc | apply pw_below_drewN | apply below_drew1 | refine below_set ?_ GE147.out) | exact HB.out)) hb); clear HO_4; clear HL156_5; clear BK147; clear HR156_5; clear HB; have HO_4 := n0_; have HL156_5 := n1_; have BK147 := n2_; have HR156_5 := n3_; have HB := n4_; clear n0_ n1_ n2_ n3_ n4_; (try clear hb); (try clear hb2); (try clear hk); (try clear hi)))
                      go_ret
                      exact ⟨by first | rfl | (simp [errW_none, errW_some] <;> rfl) | (simp [*, errW_none, errW_some] <;> rfl), by repeat (first | (with_reducible first | exact HB.out | apply below_alloc | apply pw_below_drewN | apply below_drew1 | refine below_set ?_ GE147.out) | exact HB.out)⟩
                  · rw [if_neg c33] at H
                    exact absurd H (by simp)
                · rw [if_neg c32] at H
                  have c32b0 : (a0_0 == 2) = false := beq_eq_false_iff_ne.mpr c32
                  have c32b1 : (a0_0 != 2) = true := bne_iff_ne.mpr c32
                  obtain rfl := Option.some.inj H
                  have hcz40_0 : wr.cell? ⟨gb147, 0, none⟩ = some (.int .i64 a0_0) := (blk_cell BK147.out 0).trans rfl
                  have hcz40_1 : wr.cell? ⟨gb147, 1, none⟩ = some (.int .i64 a0_1) := (blk_cell BK147.out 1).trans rfl
                  have hcz40_2 : wr.cell? ⟨gb147, 2, none⟩ = some (.int .i64 a0_2) := (blk_cell BK147.out 2).trans rfl
                  have hcz40_3 : wr.cell? ⟨gb147, 3, none⟩ = some (.int .i64 a0_3) := (blk_cell BK147.out 3).trans rfl
                  have hcz40_4 : wr.cell? ⟨gb147, 4, none⟩ = some (.int .i64 a0_4) := (blk_cell BK147.out 4).trans rfl
                  have hcz40_5 : wr.cell? ⟨gb147, 5, none⟩ = some (.slice A0_5 l0_5.length c0_5) := (blk_cell BK147.out 5).trans rfl
                  have hfz40_0 := blk_frozen BK147.out 0
                  have hfz40_1 := blk_frozen BK147.out 1
                  have hfz40_2 := blk_frozen BK147.out 2
                  have hfz40_3 := blk_frozen BK147.out 3
                  have hfz40_4 := blk_frozen BK147.out 4
                  have hfz40_5 := blk_frozen BK147.out 5
                  go_wp2
                  go_ret
                  exact ⟨by first | rfl | (simp [errW_none, errW_some] <;> rfl) | (simp [*, errW_none, errW_some] <;> rfl), by repeat (first | (with_reducible first | exact HB.out | apply below_alloc | apply pw_below_drewN | apply below_drew1 | refine below_set ?_ GE147.out) | exact HB.out)⟩
  · rw [if_neg c3] at H
    have c3b0 : (t148 == 0) = false := beq_eq_false_iff_ne.mpr c3
    have c3b1 : (t148 != 0) = true := bne_iff_ne.mpr c3
    obtain rfl := Option.some.inj H
    go_enter Try.func46, Try.ntmps46
    go_wp2_with (first | ((with_reducible refine gate_dst (N := 1) rfl ?_); (try (refine gate_guard (by rfl) ?_; dsimp only)); refine box_event ?hg (N := 1) ?hd (cs := #[.int .i64 a0_0, .int .i64 a0_1, .int .i64 a0_2, .int .i64 a0_3, .int .i64 a0_4, .slice A0_5 l0_5.length c0_5]) (t := 27) ?hr ?_; (case hd => rfl); (case hg => rfl); (case hr => first | (go_simp; done) | (go_simp; rfl)); intro gb147 hg w41 hbox hb; have n0_ := Aside0.mk (below_step (by repeat (first | (with_reducible first | exact HB.out | apply below_alloc | apply pw_below_drewN | apply below_drew1) | exact HB.out)) hb); have n1_ := Aside0.mk (hbox); have n2_ := Aside0.mk ((by rw [hg]; exact (below_size (by repeat (first | (with_reducible first | exact HB.out | apply below_alloc | apply pw_below_drewN | apply below_drew1) | exact HB.out))) : w.heap.size ≤ gb147)); have n3_ := Aside0.mk ((by rw [hg]; exact (below_size (by repeat (first | (with_reducible first | exact HB.out | apply below_alloc | apply pw_below_drewN | apply below_drew1) | exact HB.out))) : w.heap.size ≤ gb147)); clear HB; have HB := n0_; have BK147 := n1_; have GW147 := n2_; have GE147 := n3_; clear n0_ n1_ n2_ n3_; clear hb hbox hg; have hcz42_0 : w41.cell? ⟨gb147, 0, none⟩ = some (.int .i64 a0_0) := (blk_cell BK147.out 0).trans rfl; have hcz42_1 : w41.cell? ⟨gb147, 1, none⟩ = some (.int .i64 a0_1) := (blk_cell BK147.out 1).trans rfl; have hcz42_2 : w41.cell? ⟨gb147, 2, none⟩ = some (.int .i64 a0_2) := (blk_cell BK147.out 2).trans rfl; have hcz42_3 : w41.cell? ⟨gb147, 3, none⟩ = some (.int .i64 a0_3) := (blk_cell BK147.out 3).trans rfl; have hcz42_4 : w41.cell? ⟨gb147, 4, none⟩ = some (.int .i64 a0_4) := (blk_cell BK147.out 4).trans rfl; have hcz42_5 : w41.cell? ⟨gb147, 5, none⟩ = some (.slice A0_5 l0_5.length c0_5) := (blk_cell BK147.out 5).trans rfl; have hfz42_0 := blk_frozen BK147.out 0; have hfz42_1 := blk_frozen BK147.out 1; have hfz42_2 := blk_frozen BK147.out 2; have hfz42_3 := blk_frozen BK147.out 3; have hfz42_4 := blk_frozen BK147.out 4; have hfz42_5 := blk_frozen BK147.out 5) | ((with_reducible refine gate_callee (f := 64) rfl ?_); refine goesL_ (some 9) rfl rfl Try.func64 (by kernel_rfl) rfl #[.agg #[.int .i64 a0_0, .int .i64 a0_1, .int .i64 a0_2, .int .i64 a0_3, .int .i64 a0_4, .slice A0_5 l0_5.length c0_5]] rfl (by (try simp only [List.map_toArray, List.map_cons, List.map_nil]); first | done | rfl | (simp only [List.length_drop, List.length_take]; rfl)) ?_; (with_reducible refine (passepartoutref04_own.calls a0_0 a0_1 a0_2 a0_3 a0_4 _ _ l0_5 t148 _ ?side1 ?side2 A2.out).mono ?_); (case side1 => repeat (first | exact (Kd.C_below HR0_5.out HB.out) | (with_reducible refine Kd.C_alloc ?_ _) | (with_reducible refine Kd.C_drewN ?_ _) | (with_reducible refine Kd.C_drew ?_))); (case side2 => exact HC0_5.out); rintro e w43 ⟨rfl, hb⟩; refine ⟨_, rfl, ?_⟩; have n0_ := Aside0.mk (blk_below (g := gb147) (o := .cells #[.int .i64 a0_0, .int .i64 a0_1, .int .i64 a0_2, .int .i64 a0_3, .int .i64 a0_4, .slice A0_5 l0_5.length c0_5] 27 (0, 0)) (by (with_reducible repeat (first | refine blk_drewN ?_ _ | refine blk_drew ?_ | refine blk_alloc ?_ _)); exact BK147.out) hb); have n1_ := Aside0.mk (below_step (by repeat (first | (with_reducible first | exact HB.out | apply below_alloc | apply pw_below_drewN | apply below_drew1 | refine below_set ?_ GE147.out) | exact HB.out)) hb); clear BK147; clear HB; have BK147 := n0_; have HB := n1_; clear n0_ n1_; (try clear hb); (try clear hb2); (try clear hk); (try clear hi)))
    go_ret
    exact ⟨by first | rfl | (simp [errW_none, errW_some] <;> rfl) | (simp [*, errW_none, errW_some] <;> rfl), by repeat (first | (with_reducible first | exact HB.out | apply below_alloc | apply pw_below_drewN | apply below_drew1 | refine below_set ?_ GE147.out) | exact HB.out)⟩

end Go.Proofs.Ytfcghajnnllmhaa.QP

namespace Go.Proofs.Ytfcghajnnllmhaa.QP
open Go.RowKit Go.Proofs.YtfcghajnnllmhaaW.PrintWords Go.Proofs.YtfcghajnnllmhaaW.PrintLast Go.Proofs.YtfcghajnnllmhaaW.PrintMore
attribute [local go_sem] max2_int min2_int max_two min_two max_three min_three max_four min_four   -- for this text's walks alone
set_option linter.unusedVariables false
set_option linter.unusedSimpArgs false

/-! ### passepartoutref04_Check: function 21 -/
def passepartoutref04_Check.f (k : Nat) (a0_0 : Int) (a0_1 : Int) (a0_2 : Int) (a0_3 : Int) (a0_4 : Int) (l0_5 : List (S27)) : Option (Int) := (passepartoutref04_Depth.f k a0_0 a0_1 a0_2 a0_3 a0_4 l0_5 9).bind fun t159 => (if t159 > 8 then (some 14) else ((passepartoutref04_check.f k a0_0 a0_1 a0_2 a0_3 a0_4 l0_5).bind fun t160 => (some t160)))
theorem passepartoutref04_Check.mono : ∀ a0 a1 a2 a3 a4 a5 k, LeO (passepartoutref04_Check.f k a0 a1 a2 a3 a4 a5) (passepartoutref04_Check.f (k + 1) a0 a1 a2 a3 a4 a5) := by
  intro a0 a1 a2 a3 a4 a5 k
  unfold passepartoutref04_Check.f
  repeat' first
      | (with_reducible exact passepartoutref04_Depth.mono _ _ _ _ _ _ _ _)
      | (with_reducible exact passepartoutref04_check.mono _ _ _ _ _ _ _)
      | (with_reducible exact LeO.refl _)
      | (with_reducible exact LeO.none _)
      | (with_reducible refine LeO.ite ?_ ?_)
      | (with_reducible refine LeO.bind ?_ (fun _ => ?_))
      | exact passepartoutref04_Depth.mono _ _ _ _ _ _ _ _
      | exact passepartoutref04_check.mono _ _ _ _ _ _ _
      | exact LeO.none _
      | refine LeO.ite ?_ ?_
      | refine LeO.bind ?_ (fun _ => ?_)
set_option maxHeartbeats 8000000 in
set_option maxRecDepth 100000 in
theorem passepartoutref04_Check.calls (k : Nat) (a0_0 : Int) (a0_1 : Int) (a0_2 : Int) (a0_3 : Int) (a0_4 : Int) (A0_5 : Option Addr) (c0_5 : Nat) (l0_5 : List (S27)) (r : Int) (w : World) (hr0_5 : Kd.C k27 w A0_5 l0_5.length l0_5) (hc0_5 : l0_5.length ≤ c0_5) (h : passepartoutref04_Check.f k a0_0 a0_1 a0_2 a0_3 a0_4 l0_5 = some r) :
    Calls Try.prog 21 #[.agg #[.int .i64 a0_0, .int .i64 a0_1, .int .i64 a0_2, .int .i64 a0_3, .int .i64 a0_4, .slice A0_5 l0_5.length c0_5]] w fun e w' => e = .returned (.int .i64 r) ∧ Below w.heap.size w w' := by
  have hu27 := Try.underlying27
  have HR0_5 := Aside0.mk hr0_5
  have HC0_5 := Aside0.mk hc0_5
  clear hr0_5 hc0_5
  have HB := Aside0.mk (Below.refl w.heap.size w)
  have H : ((passepartoutref04_Depth.f k a0_0 a0_1 a0_2 a0_3 a0_4 l0_5 9).bind fun t159 => (if t159 > 8 then (some 14) else ((passepartoutref04_check.f k a0_0 a0_1 a0_2 a0_3 a0_4 l0_5).bind fun t160 => (some t160)))) = some r := h
  clear h
  replace H := Option.bind_eq_some_iff.mp H
  obtain ⟨t159, A20, H⟩ := H
  replace H : (if t159 > 8 then (some 14) else ((passepartoutref04_check.f k a0_0 a0_1 a0_2 a0_3 a0_4 l0_5).bind fun t160 => (some t160))) = some r := H
  have A2 := Aside0.mk A20
  clear A20
  by_cases c3 : t159 > 8
  · rw [if_pos c3] at H
    have c3b0 : decide (8 < t159) = true := decide_eq_true c3
    clear c3
    obtain rfl := Option.some.inj H
    go_enter Try.func21, Try.ntmps21
    go_wp2_with (first | ((with_reducible refine gate_dst (N := 1) rfl ?_); refine box_event ?hg (N := 1) ?hd (cs := #[.int .i64 a0_0, .int .i64 a0_1, .int .i64 a0_2, .int .i64 a0_3, .int .i64 a0_4, .slice A0_5 l0_5.length c0_5]) (t := 27) ?hr ?_; (case hd => rfl); (case hg => rfl); (case hr => first | (go_simp; done) | (go_simp; rfl)); intro gb158 hg w4 hbox hb; have n0_ := Aside0.mk (below_step (by repeat (first | (with_reducible first | exact HB.out | apply below_alloc | apply pw_below_drewN | apply below_drew1) | exact HB.out)) hb); have n1_ := Aside0.mk (hbox); have n2_ := Aside0.mk ((by rw [hg]; exact (below_size (by repeat (first | (with_reducible first | exact HB.out | apply below_alloc | apply pw_below_drewN | apply below_drew1) | exact HB.out))) : w.heap.size ≤ gb158)); have n3_ := Aside0.mk ((by rw [hg]; exact (below_size (by repeat (first | (with_reducible first | exact HB.out | apply below_alloc | apply pw_below_drewN | apply below_drew1) | exact HB.out))) : w.heap.size ≤ gb158)); clear HB; have HB := n0_; have BK158 := n1_; have GW158 := n2_; have GE158 := n3_; clear n0_ n1_ n2_ n3_; clear hb hbox hg; have hcz5_0 : w4.cell? ⟨gb158, 0, none⟩ = some (.int .i64 a0_0) := (blk_cell BK158.out 0).trans rfl; have hcz5_1 : w4.cell? ⟨gb158, 1, none⟩ = some (.int .i64 a0_1) := (blk_cell BK158.out 1).trans rfl; have hcz5_2 : w4.cell? ⟨gb158, 2, none⟩ = some (.int .i64 a0_2) := (blk_cell BK158.out 2).trans rfl; have hcz5_3 : w4.cell? ⟨gb158, 3, none⟩ = some (.int .i64 a0_3) := (blk_cell BK158.out 3).trans rfl; have hcz5_4 : w4.cell? ⟨gb158, 4, none⟩ = some (.int .i64 a0_4) := (blk_cell BK158.out 4).trans rfl; have hcz5_5 : w4.cell? ⟨gb158, 5, none⟩ = some (.slice A0_5 l0_5.length c0_5) := (blk_cell BK158.out 5).trans rfl; have hfz5_0 := blk_frozen BK158.out 0; have hfz5_1 := blk_frozen BK158.out 1; have hfz5_2 := blk_frozen BK158.out 2; have hfz5_3 := blk_frozen BK158.out 3; have hfz5_4 := blk_frozen BK158.out 4; have hfz5_5 := blk_frozen BK158.out 5) | ((with_reducible refine gate_callee (f := 22) rfl ?_); refine goesL_ (some 4) rfl rfl Try.func22 (by kernel_rfl) rfl #[.agg #[.int .i64 a0_0, .int .i64 a0_1, .int .i64 a0_2, .int .i64 a0_3, .int .i64 a0_4, .slice A0_5 l0_5.length c0_5], .int .i64 9] rfl (by (try simp only [List.map_toArray, List.map_cons, List.map_nil]); first | done | rfl | (simp only [List.length_drop, List.length_take]; rfl)) ?_; (with_reducible refine (passepartoutref04_Depth.calls k a0_0 a0_1 a0_2 a0_3 a0_4 _ _ l0_5 9 t159 _ ?side1 ?side2 A2.out).mono ?_); (case side1 => repeat (first | exact (Kd.C_below HR0_5.out HB.out) | (with_reducible refine Kd.C_alloc ?_ _) | (with_reducible refine Kd.C_drewN ?_ _) | (with_reducible refine Kd.C_drew ?_))); (case side2 => exact HC0_5.out); rintro e w6 ⟨rfl, hb⟩; refine ⟨_, rfl, ?_⟩; have n0_ := Aside0.mk (blk_below (g := gb158) (o := .cells #[.int .i64 a0_0, .int .i64 a0_1, .int .i64 a0_2, .int .i64 a0_3, .int .i64 a0_4, .slice A0_5 l0_5.length c0_5] 27 (0, 0)) (by (with_reducible repeat (first | refine blk_drewN ?_ _ | refine blk_drew ?_ | refine blk_alloc ?_ _)); exact BK158.out) hb); have n1_ := Aside0.mk (below_step (by repeat (first | (with_reducible first | exact HB.out | apply below_alloc | apply pw_below_drewN | apply below_drew1 | refine below_set ?_ GE158.out) | exact HB.out)) hb); clear BK158; clear HB; have BK158 := n0_; have HB := n1_; clear n0_ n1_; (try clear hb); (try clear hb2); (try clear hk); (try clear hi)))
    go_ret
    exact ⟨by first | rfl | (simp [errW_none, errW_some] <;> rfl) | (simp [*, errW_none, errW_some] <;> rfl), by repeat (first | (with_reducible first | exact HB.out | apply below_alloc | apply pw_below_drewN | apply below_drew1 | refine below_set ?_ GE158.out) | exact HB.out)⟩
  · rw [if_neg c3] at H
    have c3b0 : decide (8 < t159) = false := decide_eq_false c3
    clear c3
    replace H := Option.bind_eq_some_iff.mp H
    obtain ⟨t160, A70, H⟩ := H
    replace H : (some t160) = some r := H
    have A7 := Aside0.mk A70
    clear A70
    obtain rfl := Option.some.inj H
    go_enter Try.func21, Try.ntmps21
    go_wp2_with (first | ((with_reducible refine gate_dst (N := 1) rfl ?_); refine box_event ?hg (N := 1) ?hd (cs := #[.int .i64 a0_0, .int .i64 a0_1, .int .i64 a0_2, .int .i64 a0_3, .int .i64 a0_4, .slice A0_5 l0_5.length c0_5]) (t := 27) ?hr ?_; (case hd => rfl); (case hg => rfl); (case hr => first | (go_simp; done) | (go_simp; rfl)); intro gb158 hg w8 hbox hb; have n0_ := Aside0.mk (below_step (by repeat (first | (with_reducible first | exact HB.out | apply below_alloc | apply pw_below_drewN | apply below_drew1) | exact HB.out)) hb); have n1_ := Aside0.mk (hbox); have n2_ := Aside0.mk ((by rw [hg]; exact (below_size (by repeat (first | (with_reducible first | exact HB.out | apply below_alloc | apply pw_below_drewN | apply below_drew1) | exact HB.out))) : w.heap.size ≤ gb158)); have n3_ := Aside0.mk ((by rw [hg]; exact (below_size (by repeat (first | (with_reducible first | exact HB.out | apply below_alloc | apply pw_below_drewN | apply below_drew1) | exact HB.out))) : w.heap.size ≤ gb158)); clear HB; have HB := n0_; have BK158 := n1_; have GW158 := n2_; have GE158 := n3_; clear n0_ n1_ n2_ n3_; clear hb hbox hg; have hcz9_0 : w8.cell? ⟨gb158, 0, none⟩ = some (.int .i64 a0_0) := (blk_cell BK158.out 0).trans rfl; have hcz9_1 : w8.cell? ⟨gb158, 1, none⟩ = some (.int .i64 a0_1) := (blk_cell BK158.out 1).trans rfl; have hcz9_2 : w8.cell? ⟨gb158, 2, none⟩ = some (.int .i64 a0_2) := (blk_cell BK158.out 2).trans rfl; have hcz9_3 : w8.cell? ⟨gb158, 3, none⟩ = some (.int .i64 a0_3) := (blk_cell BK158.out 3).trans rfl; have hcz9_4 : w8.cell? ⟨gb158, 4, none⟩ = some (.int .i64 a0_4) := (blk_cell BK158.out 4).trans rfl; have hcz9_5 : w8.cell? ⟨gb158, 5, none⟩ = some (.slice A0_5 l0_5.length c0_5) := (blk_cell BK158.out 5).trans rfl; have hfz9_0 := blk_frozen BK158.out 0; have hfz9_1 := blk_frozen BK158.out 1; have hfz9_2 := blk_frozen BK158.out 2; have hfz9_3 := blk_frozen BK158.out 3; have hfz9_4 := blk_frozen BK158.out 4; have hfz9_5 := blk_frozen BK158.out 5) | ((with_reducible refine gate_callee (f := 22) rfl ?_); refine goesL_ (some 4) rfl rfl Try.func22 (by kernel_rfl) rfl #[.agg #[.int .i64 a0_0, .int .i64 a0_1, .int .i64 a0_2, .int .i64 a0_3, .int .i64 a0_4, .slice A0_5 l0_5.length c0_5], .int .i64 9] rfl (by (try simp only [List.map_toArray, List.map_cons, List.map_nil]); first | done | rfl | (simp only [List.length_drop, List.length_take]; rfl)) ?_; (with_reducible refine (passepartoutref04_Depth.calls k a0_0 a0_1 a0_2 a0_3 a0_4 _ _ l0_5 9 t159 _ ?side1 ?side2 A2.out).mono ?_); (case side1 => repeat (first | exact (Kd.C_below HR0_5.out HB.out) | (with_reducible refine Kd.C_alloc ?_ _) | (with_reducible refine Kd.C_drewN ?_ _) | (with_reducible refine Kd.C_drew ?_))); (case side2 => exact HC0_5.out); rintro e w10 ⟨rfl, hb⟩; refine ⟨_, rfl, ?_⟩; have n0_ := Aside0.mk (blk_below (g := gb158) (o := .cells #[.int .i64 a0_0, .int .i64 a0_1, .int .i64 a0_2, .int .i64 a0_3, .int .i64 a0_4, .slice A0_5 l0_5.length c0_5] 27 (0, 0)) (by (with_reducible repeat (first | refine blk_drewN ?_ _ | refine blk_drew ?_ | refine blk_alloc ?_ _)); exact BK158.out) hb); have n1_ := Aside0.mk (below_step (by repeat (first | (with_reducible first | exact HB.out | apply below_alloc | apply pw_below_drewN | apply below_drew1 | refine below_set ?_ GE158.out) | exact HB.out)) hb); clear BK158; clear HB; have BK158 := n0_; have HB := n1_; clear n0_ n1_; (try clear hb); (try clear hb2); (try clear hk); (try clear hi); have hcz11_0 : w10.cell? ⟨gb158, 0, none⟩ = some (.int .i64 a0_0) := (blk_cell BK158.out 0).trans rfl; have hcz11_1 : w10.cell? ⟨gb158, 1, none⟩ = some (.int .i64 a0_1) := (blk_cell BK158.out 1).trans rfl; have hcz11_2 : w10.cell? ⟨gb158, 2, none⟩ = some (.int .i64 a0_2) := (blk_cell BK158.out 2).trans rfl; have hcz11_3 : w10.cell? ⟨gb158, 3, none⟩ = some (.int .i64 a0_3) := (blk_cell BK158.out 3).trans rfl; have hcz11_4 : w10.cell? ⟨gb158, 4, none⟩ = some (.int .i64 a0_4) := (blk_cell BK158.out 4).trans rfl; have hcz11_5 : w10.cell? ⟨gb158, 5, none⟩ = some (.slice A0_5 l0_5.length c0_5) := (blk_cell BK158.out 5).trans rfl; have hfz11_0 := blk_frozen BK158.out 0; have hfz11_1 := blk_frozen BK158.out 1; have hfz11_2 := blk_frozen BK158.out 2; have hfz11_3 := blk_frozen BK158.out 3; have hfz11_4 := blk_frozen BK158.out 4; have hfz11_5 := blk_frozen BK158.out 5) | ((with_reducible refine gate_callee (f := 46) rfl ?_); refine goesL_ (some 7) rfl rfl Try.func46 (by kernel_rfl) rfl #[.agg #[.int .i64 a0_0, .int .i64 a0_1, .int .i64 a0_2, .int .i64 a0_3, .int .i64 a0_4, .slice A0_5 l0_5.length c0_5]] rfl (by (try simp only [List.map_toArray, List.map_cons, List.map_nil]); first | done | rfl | (simp only [List.length_drop, List.length_take]; rfl)) ?_; (with_reducible refine (passepartoutref04_check.calls k a0_0 a0_1 a0_2 a0_3 a0_4 _ _ l0_5 t160 _ ?side1 ?side2 A7.out).mono ?_); (case side1 => repeat (first | exact (Kd.C_below HR0_5.out HB.out) | (with_reducible refine Kd.C_alloc ?_ _) | (with_reducible refine Kd.C_drewN ?_ _) | (with_reducible refine Kd.C_drew ?_))); (case side2 => exact HC0_5.out); rintro e w12 ⟨rfl, hb⟩; refine ⟨_, rfl, ?_⟩; have n0_ := Aside0.mk (blk_below (g := gb158) (o := .cells #[.int .i64 a0_0, .int .i64 a0_1, .int .i64 a0_2, .int .i64 a0_3, .int .i64 a0_4, .slice A0_5 l0_5.length c0_5] 27 (0, 0)) (by (with_reducible repeat (first | refine blk_drewN ?_ _ | refine blk_drew ?_ | refine blk_alloc ?_ _)); exact BK158.out) hb); have n1_ := Aside0.mk (below_step (by repeat (first | (with_reducible first | exact HB.out | apply below_alloc | apply pw_below_drewN | apply below_drew1 | refine below_set ?_ GE158.out) | exact HB.out)) hb); clear BK158; clear HB; have BK158 := n0_; have HB := n1_; clear n0_ n1_; (try clear hb); (try clear hb2); (try clear hk); (try clear hi)))
    go_ret
    exact ⟨by first | rfl | (simp [errW_none, errW_some] <;> rfl) | (simp [*, errW_none, errW_some] <;> rfl), by repeat (first | (with_reducible first | exact HB.out | apply below_alloc | apply pw_below_drewN | apply below_drew1 | refine below_set ?_ GE158.out) | exact HB.out)⟩

end Go.Proofs.Ytfcghajnnllmhaa.QP

namespace Go.Proofs.Ytfcghajnnllmhaa
open Go.RowKit YtfcghajnnllmhaaW.PrintWords

theorem of_f0 (x : Fm) : (ofF x).f0 = x.a.k := by cases x; rw [ofF_mk]; rfl
theorem of_f1 (x : Fm) : (ofF x).f1 = x.a.s := by cases x; rw [ofF_mk]; rfl
theorem of_f2 (x : Fm) : (ofF x).f2 = x.a.lo := by cases x; rw [ofF_mk]; rfl
theorem of_f3 (x : Fm) : (ofF x).f3 = x.a.hi := by cases x; rw [ofF_mk]; rfl
theorem of_f4 (x : Fm) : (ofF x).f4 = x.a.st := by cases x; rw [ofF_mk]; rfl
theorem of_f5 (x : Fm) : (ofF x).f5 = x.l.map ofF := by cases x; rw [ofF_mk]; rfl
theorem rparts_f (a : FH) (l : List Fm) : QP.passepartoutref04_parts.f a.k a.s a.lo a.hi a.st (l.map ofF) = some ((partsF (.mk a l)).map ofF) := by
  rw [QP.passepartoutref04_parts.f]
  show _ = some ((if a.k = 2 ∨ a.k = 3 then l else []).map ofF)
  by_cases h2 : a.k = 2
  · rw [if_pos h2, if_pos (.inl h2)]
  · rw [if_neg h2]
    by_cases h3 : a.k = 3
    · rw [if_pos h3, if_pos (.inr h3)]
    · rw [if_neg h3, if_neg (by omega)]
      rfl
theorem partsF_len (a : FH) (l : List Fm) : (partsF (.mk a l)).length ≤ l.length := by
  show (if a.k = 2 ∨ a.k = 3 then l else []).length ≤ _
  split <;> simp

/-- A number of forms, no more than so many told. -/
theorem cnt_ev (f : Fm) : ∀ m : Nat, m ≤ 100000 → wfF f = true → Ev (fun k => QP.passepartoutref04_Count.f k f.a.k f.a.s f.a.lo f.a.hi f.a.st (f.l.map ofF) (m : Int)) ((cntR m f : Nat) : Int) := by
  induction f using RT.induct with
  | h a l ih =>
  intro m hm hw
  obtain ⟨_, hl, hws⟩ := (wfF_mk _ _).1 hw
  apply Ev.step
  · intro k
    simp only [QP.passepartoutref04_Count.f]
    rfl
  refine Ev.cb (rparts_f a l) ?_
  rw [cntR_parts]
  have hpl := partsF_len a l
  have hmem : ∀ x ∈ partsF (.mk a l), x ∈ l := fun x hx => partsF_mem hx
  generalize partsF (.mk a l) = P at hpl hmem
  have key : ∀ (d j q : Nat), P.length - j = d → j ≤ P.length → 1 ≤ q → q ≤ m + 1 → Ev (fun k => QP.passepartoutref04_Count.l0 k (m : Int) (q : Int) (P.map ofF) (j : Int)) ((cntL m q (P.drop j) : Nat) : Int) := by
    intro d
    induction d with
    | zero =>
      intro j q hd hj hq1 hq2
      apply Ev.step
      · intro k
        simp only [QP.passepartoutref04_Count.l0]
        rfl
      refine Ev.in_ (by simp; omega) ?_
      rw [cntL_end (by omega)]
      exact Ev.now _
    | succ d ihd =>
      intro j q hd hj hq1 hq2
      have hlt : j < P.length := by omega
      apply Ev.step
      · intro k
        simp only [QP.passepartoutref04_Count.l0, rd_ofF P j hlt, of_f0, of_f1, of_f2, of_f3, of_f4, of_f5]
        rfl
      refine Ev.ip (by simp; omega) ?_
      refine Ev.sp (fun hqm => ?_) (fun hqm => ?_)
      · have hqm' : q ≤ m := by omega
        have hb := cnt_bound P[j] (m - q)
        refine Ev.ip (by omega) ?_
        have h1 := ih P[j] (hmem _ (List.getElem_mem hlt)) (m - q) (by omega) (hws _ (hmem _ (List.getElem_mem hlt)))
        rw [w64 (by omega) (by omega), show (m : Int) - (q : Int) = ((m - q : Nat) : Int) by omega]
        refine Ev.bind h1 ?_
        rw [w64 (by omega) (by omega), w64 (by omega) (by omega), show (q : Int) + ((cntR (m - q) P[j] : Nat) : Int) = ((q + cntR (m - q) P[j] : Nat) : Int) by omega, show (j : Int) + 1 = ((j + 1 : Nat) : Int) by omega]
        refine Ev.eq_ (ihd (j + 1) (q + cntR (m - q) P[j]) (by omega) (by omega) (by omega) (by omega)) ?_
        rw [cntL_drop (k := j) hlt, if_pos hqm']
      · rw [cntL_end (by omega)]
        exact Ev.now _
  have h0 := key P.length 0 1 (by omega) (by omega) (by omega) (by omega)
  rw [List.drop_zero] at h0
  exact h0

mutual
/-- How deep; no more than so much (and one) is told. -/
def depR : Nat → Fm → Nat
  | m, .mk a l => (if a.k = 2 ∨ a.k = 3 then depL m 0 l else 0) + 1
def depL : Nat → Nat → List Fm → Nat
  | _, b, [] => b
  | 0, b, _ :: _ => b
  | m + 1, b, f :: t => depL (m + 1) (max b (depR m f)) t
end
theorem depR_parts (m : Nat) (f : Fm) : depR m f = depL m 0 (partsF f) + 1 := by
  obtain ⟨a, l⟩ := f
  rw [depR]
  show _ = depL m 0 (if a.k = 2 ∨ a.k = 3 then l else []) + 1
  split
  · rfl
  · cases m <;> rw [depL]
theorem depL_end {l : List Fm} {k m b : Nat} (hk : l.length ≤ k ∨ m = 0) : depL m b (l.drop k) = b := by
  rcases hk with hk | rfl
  · rw [List.drop_of_length_le hk]
    cases m <;> rw [depL]
  · cases l.drop k <;> rw [depL]
theorem depL_drop {l : List Fm} {k m b : Nat} (hk : k < l.length) : depL (m + 1) b (l.drop k) = depL (m + 1) (max b (depR m l[k])) (l.drop (k + 1)) := by
  rw [List.drop_eq_getElem_cons hk, depL]
theorem dep_bound (f : Fm) : ∀ m, depR m f ≤ m + 1 := by
  induction f using RT.induct with
  | h a l ih =>
  intro m
  rw [depR]
  split
  · have key : ∀ (t : List Fm), (∀ f ∈ t, ∀ m, depR m f ≤ m + 1) → ∀ b, b ≤ m → depL m b t ≤ m := by
      intro t
      induction t with
      | nil => intro _ b hb; cases m <;> rw [depL] <;> omega
      | cons f t ih2 =>
        intro hf b hb
        cases m with
        | zero => rw [depL]; omega
        | succ m =>
          rw [depL]
          have h1 := hf f (by simp) m
          exact ih2 (fun g hg => hf g (by simp [hg])) _ (by omega)
    have := key l ih 0 (by omega)
    omega
  · omega
theorem dep_deep (f : Fm) : ∀ n m, n ≤ m → deepB n f = decide (n < depR m f) := by
  induction f using RT.induct with
  | h a l ih =>
  intro n m hnm
  cases n with
  | zero => rw [depR]; simp [deepB]
  | succ n =>
    obtain ⟨m, rfl⟩ : ∃ q, m = q + 1 := ⟨m - 1, by omega⟩
    rw [depR_parts, deepB]
    have key : ∀ (t : List Fm), (∀ f ∈ t, f ∈ l) → ∀ b, (decide (n < b) || t.any (deepB n)) = decide (n < depL (m + 1) b t) := by
      intro t
      induction t with
      | nil => intro _ b; rw [depL]; simp
      | cons f t ih2 =>
        intro hf b
        rw [depL, List.any_cons, ← ih2 (fun g hg => hf g (by simp [hg])), ih f (hf f (by simp)) n m (by omega), Bool.eq_iff_iff]
        simp only [Bool.or_eq_true, decide_eq_true_eq]
        constructor
        · rintro (h | h | h)
          · exact .inl (by omega)
          · exact .inl (by omega)
          · exact .inr h
        · rintro (h | h)
          · rcases Nat.lt_or_ge n b with hb | hb
            · exact .inl hb
            · exact .inr (.inl (by omega))
          · exact .inr (.inr h)
    have h0 := key (partsF (.mk a l)) (fun f hf => partsF_mem hf) 0
    rw [Bool.eq_iff_iff] at h0 ⊢
    simp only [Bool.or_eq_true, decide_eq_true_eq] at h0 ⊢
    constructor
    · intro h
      have := h0.1 (.inr h)
      omega
    · intro h
      rcases h0.2 (by omega) with h2 | h2
      · omega
      · exact h2

theorem dep_ev (f : Fm) : ∀ m : Nat, m ≤ 100000 → wfF f = true → Ev (fun k => QP.passepartoutref04_Depth.f k f.a.k f.a.s f.a.lo f.a.hi f.a.st (f.l.map ofF) (m : Int)) ((depR m f : Nat) : Int) := by
  induction f using RT.induct with
  | h a l ih =>
  intro m hm hw
  obtain ⟨_, hl, hws⟩ := (wfF_mk _ _).1 hw
  apply Ev.step
  · intro k
    simp only [QP.passepartoutref04_Depth.f]
    rfl
  refine Ev.cb (rparts_f a l) ?_
  rw [depR_parts]
  have hpl := partsF_len a l
  have hmem : ∀ x ∈ partsF (.mk a l), x ∈ l := fun x hx => partsF_mem hx
  generalize partsF (.mk a l) = P at hpl hmem
  have key : ∀ (d j q : Nat), P.length - j = d → j ≤ P.length → q ≤ m + 1 → Ev (fun k => QP.passepartoutref04_Depth.l0 k (m : Int) (q : Int) (P.map ofF) (j : Int)) ((depL m q (P.drop j) + 1 : Nat) : Int) := by
    intro d
    induction d with
    | zero =>
      intro j q hd hj hq2
      apply Ev.step
      · intro k
        simp only [QP.passepartoutref04_Depth.l0]
        rfl
      refine Ev.in_ (by simp; omega) ?_
      apply Ev.step
      · intro k
        simp only [QP.passepartoutref04_Depth.j1]
        rfl
      refine Ev.in_ (by simp) ?_
      rw [depL_end (.inl (by omega)), w64 (by omega) (by omega)]
      exact Ev.is (by simp)
    | succ d ihd =>
      intro j q hd hj hq2
      have hlt : j < P.length := by omega
      apply Ev.step
      · intro k
        simp only [QP.passepartoutref04_Depth.l0]
        rfl
      refine Ev.ip (by simp; omega) ?_
      apply Ev.step
      · intro k
        simp only [QP.passepartoutref04_Depth.j1, rd_ofF P j hlt, of_f0, of_f1, of_f2, of_f3, of_f4, of_f5]
        rfl
      cases m with
      | zero =>
        refine Ev.in_ (by simp) ?_
        rw [depL_end (.inr rfl), w64 (by omega) (by omega)]
        exact Ev.is (by simp)
      | succ m =>
        refine Ev.ip (by simp) ?_
        refine Ev.ip (by omega) (Ev.ip (by simp; omega) ?_)
        have h1 := ih P[j] (hmem _ (List.getElem_mem hlt)) m (by omega) (hws _ (hmem _ (List.getElem_mem hlt)))
        have hb := dep_bound P[j] m
        rw [w64 (x := ((m + 1 : Nat) : Int) - 1) (by omega) (by omega), show ((m + 1 : Nat) : Int) - 1 = (m : Int) by omega]
        refine Ev.bind h1 ?_
        rw [depL_drop hlt, w64 (x := (j : Int) + 1) (by omega) (by omega), show (j : Int) + 1 = ((j + 1 : Nat) : Int) by omega]
        refine Ev.sp (fun hx => ?_) (fun hx => ?_)
        · refine Ev.eq_ (ihd (j + 1) (depR m P[j]) (by omega) (by omega) (by omega)) ?_
          rw [show max q (depR m P[j]) = depR m P[j] by omega]
        · refine Ev.eq_ (ihd (j + 1) q (by omega) (by omega) (by omega)) ?_
          rw [show max q (depR m P[j]) = q by omega]
  have h0 := key P.length 0 0 (by omega) (by omega) (by omega)
  rw [List.drop_zero] at h0
  exact h0

theorem bounds_ne (lo hi M : Int) : boundsR lo hi M ≠ 0 ↔ lo < 0 ∨ hi < lo ∨ M < hi := by
  unfold boundsR
  split
  · rename_i h
    simp [h]
  · rename_i h
    simp only [ne_eq, not_true_eq_false, false_iff]
    exact h
theorem to_mk (f : Fm) : toF ⟨f.a.k, f.a.s, f.a.lo, f.a.hi, f.a.st, f.l.map ofF⟩ = f := by
  obtain ⟨a, l⟩ := f
  rw [toF_mk, map_to_ofF]
  rfl
theorem own_f (f : Fm) (hw : wfF f = true) : QP.passepartoutref04_own.f f.a.k f.a.s f.a.lo f.a.hi f.a.st (f.l.map ofF) = some (ownN f.a.k f.a.s f.a.lo f.a.hi f.a.st f.l.length) := by
  rw [QP.passepartoutref04_own.f, to_mk, if_pos hw]
  obtain ⟨a, l⟩ := f
  rfl
theorem least_ev (f : Fm) : wfF f = true → Ev (fun k => QP.passepartoutref04_Least.f k f.a.k f.a.s f.a.lo f.a.hi f.a.st (f.l.map ofF)) (spanR FH.lo f) := by
  induction f using RT.induct with
  | h a l ih =>
  intro hw
  obtain ⟨_, hl, hws⟩ := (wfF_mk _ _).1 hw
  rw [spanR_mk]
  simp only [RT.a, RT.l]
  apply Ev.step
  · intro k
    simp only [QP.passepartoutref04_Least.f]
    rfl
  by_cases k0 : a.k = 0
  · rw [if_pos k0]
    exact Ev.ip k0 (Ev.now _)
  rw [if_neg k0]
  refine Ev.in_ k0 ?_
  by_cases k1 : a.k = 1
  · rw [if_pos (.inl k1)]
    refine Ev.ip k1 ?_
    apply Ev.step
    · intro k
      simp only [QP.passepartoutref04_Least.j0]
      rfl
    exact Ev.ip (by simp [k1]) (Ev.now _)
  refine Ev.in_ k1 ?_
  apply Ev.step
  · intro k
    simp only [QP.passepartoutref04_Least.j0]
    rfl
  by_cases k2 : a.k = 2
  · rw [if_pos (.inr k2)]
    exact Ev.ip (by simp [k2]) (Ev.now _)
  rw [if_neg (by omega)]
  refine Ev.in_ (by simp [k2]) ?_
  by_cases k4 : a.k = 4
  · rw [if_pos k4]
    exact Ev.ip k4 (Ev.now _)
  rw [if_neg k4]
  refine Ev.in_ k4 ?_
  by_cases k5 : a.k = 5
  · rw [if_pos k5]
    exact Ev.ip k5 (Ev.now _)
  rw [if_neg k5]
  refine Ev.in_ k5 ?_
  have key : ∀ (d j : Nat) (q : Int), l.length - j = d → j ≤ l.length → Ev (fun k => QP.passepartoutref04_Least.l0 k q (j : Int) a.k a.s a.lo a.hi a.st (l.map ofF)) (spanL FH.lo q (l.drop j)) := by
    intro d
    induction d with
    | zero =>
      intro j q hd hj
      apply Ev.step
      · intro k
        simp only [QP.passepartoutref04_Least.l0]
        rfl
      refine Ev.in_ (by simp; omega) ?_
      rw [List.drop_of_length_le (by omega), spanL]
      exact Ev.now _
    | succ d ihd =>
      intro j q hd hj
      have hlt : j < l.length := by omega
      apply Ev.step
      · intro k
        simp only [QP.passepartoutref04_Least.l0, rd_ofF l j hlt, of_f0, of_f1, of_f2, of_f3, of_f4, of_f5]
        rfl
      refine Ev.ip (by simp; omega) (Ev.ip (by omega) ?_)
      refine Ev.bind (ih l[j] (List.getElem_mem hlt) (hws _ (List.getElem_mem hlt))) ?_
      rw [w64 (x := (j : Int) + 1) (by omega) (by omega), show (j : Int) + 1 = ((j + 1 : Nat) : Int) by omega]
      refine Ev.eq_ (ihd (j + 1) _ (by omega) (by omega)) ?_
      rw [List.drop_eq_getElem_cons hlt, spanL]
  have h0 := key l.length 0 0 (by omega) (by omega)
  rw [List.drop_zero] at h0
  exact h0

theorem open_ev (f : Fm) : wfF f = true → Ev (fun k => QP.passepartoutref04_Open.f k f.a.k f.a.s f.a.lo f.a.hi f.a.st (f.l.map ofF)) (openR f) := by
  induction f using RT.induct with
  | h a l ih =>
  intro hw
  obtain ⟨_, hl, hws⟩ := (wfF_mk _ _).1 hw
  rw [openR_mk]
  simp only [RT.a, RT.l]
  apply Ev.step
  · intro k
    simp only [QP.passepartoutref04_Open.f]
    rfl
  by_cases k4 : a.k = 4
  · rw [if_neg (by omega), decide_eq_true k4]
    exact Ev.ip k4 (Ev.now _)
  refine Ev.in_ k4 ?_
  by_cases k3 : a.k = 3
  · rw [if_pos k3]
    refine Ev.ip k3 ?_
    by_cases h0 : l.length = 0
    · obtain rfl : l = [] := List.eq_nil_of_length_eq_zero h0
      exact Ev.ip (by simp) (Ev.now _)
    · obtain ⟨n, hn⟩ : ∃ n, l.length = n + 1 := ⟨l.length - 1, by omega⟩
      rw [openL_last l n hn]
      refine Ev.in_ (by simp; intro h; simp [h] at h0) ?_
      rw [w64 (x := ((l.map ofF).length : Int) - 1) (by rw [List.length_map]; omega) (by rw [List.length_map]; omega), show ((l.map ofF).length : Int) - 1 = (n : Int) by rw [List.length_map]; omega]
      refine Ev.ip (by omega) (Ev.ip (by rw [List.length_map]; omega) ?_)
      simp only [rd_ofF l n (by omega), of_f0, of_f1, of_f2, of_f3, of_f4, of_f5]
      have hm : l[n]'(by omega) ∈ l := List.getElem_mem _
      exact Ev.bind (ih _ hm (hws _ hm)) (Ev.now _)
  · rw [if_neg k3, decide_eq_false k4]
    exact Ev.in_ k3 (Ev.now _)

theorem check_ev (f : Fm) : wfF f = true → Ev (fun k => QP.passepartoutref04_check.f k f.a.k f.a.s f.a.lo f.a.hi f.a.st (f.l.map ofF)) (checkR f) := by
  induction f using RT.induct with
  | h a l ih =>
  intro hw
  obtain ⟨_, hl, hws⟩ := (wfF_mk _ _).1 hw
  rw [checkR_parts]
  simp only [RT.a, RT.l]
  apply Ev.step
  · intro k
    simp only [QP.passepartoutref04_check.f]
    rfl
  refine Ev.cb (own_f (.mk a l) hw) ?_
  show Ev _ (if ownN a.k a.s a.lo a.hi a.st l.length ≠ 0 then ownN a.k a.s a.lo a.hi a.st l.length else restR a.k (partsF (.mk a l)))
  by_cases h0 : ownN a.k a.s a.lo a.hi a.st l.length = 0
  rotate_left
  · rw [if_pos h0]
    exact Ev.in_ h0 (Ev.now _)
  rw [if_neg (by omega)]
  refine Ev.ip h0 (Ev.cb (rparts_f a l) ?_)
  have hpl := partsF_len a l
  have hmem : ∀ x ∈ partsF (.mk a l), x ∈ l := fun x hx => partsF_mem hx
  have hone : a.k = 2 → (partsF (.mk a l)).length = 1 := by
    intro k2
    show (if a.k = 2 ∨ a.k = 3 then l else []).length = 1
    rw [if_pos (.inl k2)]
    by_cases h1 : l.length = 1
    · exact h1
    · exfalso
      rw [ownN, if_neg (by omega), if_pos (.inl k2)] at h0
      split at h0
      · omega
      · split at h0
        · omega
        · rw [if_pos ⟨k2, h1⟩] at h0
          omega
  generalize partsF (.mk a l) = P at hpl hmem hone
  have hP : ∀ j (h : j < P.length), wfF P[j] = true := fun j h => hws _ (hmem _ (List.getElem_mem h))
  -- the second loop
  let opn : Nat → List Fm → Bool := fun j t => (t.zipIdx j).any (fun x => openR x.1 && (decide (a.k = 2) || decide (x.2 + 1 < P.length)))
  have hopn : ∀ j (h : j < P.length), opn j (P.drop j) = ((openR P[j] && (decide (a.k = 2) || decide (j + 1 < P.length))) || opn (j + 1) (P.drop (j + 1))) := by
    intro j h
    simp only [opn]
    rw [List.drop_eq_getElem_cons h, List.zipIdx_cons, List.any_cons]
  have key2 : ∀ (d j : Nat), P.length - j = d → j ≤ P.length → Ev (fun k => QP.passepartoutref04_check.l1 k (P.map ofF) (j : Int) a.k a.s a.lo a.hi a.st (l.map ofF)) (if opn j (P.drop j) then 15 else if a.k = 2 ∧ ∃ h : 0 < P.length, leastR (P[0]'h) = 0 then 15 else 0) := by
    intro d
    induction d with
    | zero =>
      intro j hd hj
      apply Ev.step
      · intro k
        simp only [QP.passepartoutref04_check.l1]
        rfl
      refine Ev.in_ (by simp; omega) ?_
      rw [List.drop_of_length_le (by omega), if_neg (by simp [opn])]
      by_cases k2 : a.k = 2
      · have h1 := hone k2
        have hlt : 0 < P.length := by omega
        refine Ev.ip k2 (Ev.ip (by simp; omega) ?_)
        have hrd := rd_ofF P 0 hlt
        simp only [Int.natCast_zero] at hrd
        simp only [hrd, of_f0, of_f1, of_f2, of_f3, of_f4, of_f5]
        refine Ev.bind (least_ev P[0] (hP 0 hlt)) ?_
        show Ev _ _
        by_cases hz : spanR FH.lo P[0] = 0
        · exact Ev.eq_ (Ev.ip hz (Ev.now _)) (if_pos ⟨k2, hlt, hz⟩).symm
        · exact Ev.eq_ (Ev.in_ hz (Ev.now _)) (if_neg (by rintro ⟨_, _, h⟩; exact hz h)).symm
      · rw [if_neg (by rintro ⟨h, _⟩; exact k2 h)]
        exact Ev.in_ k2 (Ev.now _)
    | succ d ihd =>
      intro j hd hj
      have hlt : j < P.length := by omega
      apply Ev.step
      · intro k
        simp only [QP.passepartoutref04_check.l1, rd_ofF P j hlt, of_f0, of_f1, of_f2, of_f3, of_f4, of_f5]
        rfl
      refine Ev.ip (by simp; omega) (Ev.ip (by omega) ?_)
      refine Ev.bind (open_ev P[j] (hP j hlt)) ?_
      rw [hopn j hlt, w64 (x := (j : Int) + 1) (by omega) (by omega), show (j : Int) + 1 = ((j + 1 : Nat) : Int) by omega]
      have hn := ihd (j + 1) (by omega) (by omega)
      cases ho : openR P[j]
      · refine Ev.in_ (by simp) ?_
        simpa using hn
      · refine Ev.ip rfl ?_
        by_cases k2 : a.k = 2
        · rw [if_pos (by simp [k2])]
          exact Ev.ip k2 (Ev.now _)
        · refine Ev.in_ k2 ?_
          by_cases hj1 : j + 1 < P.length
          · rw [if_pos (by simp [hj1])]
            exact Ev.ip (by simp; omega) (Ev.now _)
          · refine Ev.in_ (by simp; omega) ?_
            simpa [k2, hj1] using hn
  have hbad : (if opn 0 P then (15 : Int) else if a.k = 2 ∧ ∃ h : 0 < P.length, leastR (P[0]'h) = 0 then 15 else 0) = if badF a.k P.length 0 P then 15 else 0 := by
    have hb : ∀ (t : List Fm) (j : Nat), badF a.k P.length j t = ((t.zipIdx j).any (fun x => openR x.1 && (decide (a.k = 2) || decide (x.2 + 1 < P.length))) || (decide (a.k = 2) && t.any (fun x => decide (leastR x = 0)))) := by
      intro t
      induction t with
      | nil => intro j; simp [badF]
      | cons f t ih2 =>
        intro j
        rw [badF, ih2, badI, List.zipIdx_cons, List.any_cons, List.any_cons]
        cases openR f <;> cases decide (a.k = 2) <;> cases decide (j + 1 < P.length) <;> cases decide (leastR f = 0) <;> simp
    rw [hb P 0]
    show (if opn 0 P then (15 : Int) else _) = if (opn 0 P || _) = true then 15 else 0
    cases opn 0 P
    · by_cases k2 : a.k = 2
      · have h1 := hone k2
        obtain ⟨x, rfl⟩ : ∃ x, P = [x] := List.length_eq_one_iff.1 h1
        simp [k2]
      · simp [k2]
    · simp
  have key : ∀ (d j : Nat), P.length - j = d → j ≤ P.length → Ev (fun k => QP.passepartoutref04_check.l0 k (P.map ofF) (j : Int) a.k a.s a.lo a.hi a.st (l.map ofF)) (if checkL (P.drop j) ≠ 0 then checkL (P.drop j) else if badF a.k P.length 0 P then 15 else 0) := by
    intro d
    induction d with
    | zero =>
      intro j hd hj
      apply Ev.step
      · intro k
        simp only [QP.passepartoutref04_check.l0]
        rfl
      refine Ev.in_ (by simp; omega) ?_
      rw [List.drop_of_length_le (by omega), checkL, if_neg (by omega)]
      have h2 := key2 P.length 0 (by omega) (by omega)
      rw [List.drop_zero, hbad] at h2
      exact h2
    | succ d ihd =>
      intro j hd hj
      have hlt : j < P.length := by omega
      apply Ev.step
      · intro k
        simp only [QP.passepartoutref04_check.l0, rd_ofF P j hlt, of_f0, of_f1, of_f2, of_f3, of_f4, of_f5]
        rfl
      refine Ev.ip (by simp; omega) (Ev.ip (by omega) ?_)
      refine Ev.bind (ih P[j] (hmem _ (List.getElem_mem hlt)) (hP j hlt)) ?_
      rw [w64 (x := (j : Int) + 1) (by omega) (by omega), show (j : Int) + 1 = ((j + 1 : Nat) : Int) by omega, checkL_drop hlt]
      by_cases hc : checkR P[j] = 0
      · refine Ev.ip hc ?_
        rw [if_neg (show ¬ checkR P[j] ≠ 0 by omega)]
        exact ihd (j + 1) (by omega) (by omega)
      · refine Ev.in_ hc ?_
        rw [if_pos hc, if_pos hc]
        exact Ev.now _
  have h0 := key P.length 0 (by omega) (by omega)
  rw [List.drop_zero] at h0
  exact h0

/-- The document's word on a form. -/
theorem Check_ev (f : Fm) (hw : wfF f = true) : Ev (fun k => QP.passepartoutref04_Check.f k f.a.k f.a.s f.a.lo f.a.hi f.a.st (f.l.map ofF)) (if deepB 8 f then 14 else checkR f) := by
  have hd := dep_ev f 9 (by omega) hw
  rw [dep_deep f 8 9 (by omega)]
  simp only [QP.passepartoutref04_Check.f]
  refine Ev.bind hd ?_
  by_cases h : 8 < depR 9 f
  · rw [if_pos (by simpa using h)]
    exact Ev.ip (by omega) (Ev.now _)
  · rw [if_neg (by simpa using h)]
    exact Ev.in_ (by omega) (Ev.bind (check_ev f hw) (Ev.now _))
end Go.Proofs.Ytfcghajnnllmhaa

namespace Go.Proofs.Ytfcghajnnllmhaa.QP
open Go.RowKit Go.Proofs.YtfcghajnnllmhaaW.PrintWords Go.Proofs.YtfcghajnnllmhaaW.PrintLast Go.Proofs.YtfcghajnnllmhaaW.PrintMore
attribute [local go_sem] max2_int min2_int max_two min_two max_three min_three max_four min_four   -- for this text's walks alone
set_option linter.unusedVariables false
set_option linter.unusedSimpArgs false

/-! ### passepartoutref04_Most: function 35 -/
mutual
def passepartoutref04_Most.j0 : Nat → Int → Bool → Int → Int → Int → Int → Int → List (S27) → Option (Int)
  | 0, _, _, _, _, _, _, _, _ => none
  | k + 1, x6, x11, x284000, x284001, x284002, x284003, x284004, x284005 => if x11 = true then (some (wrap64 (x284001 + x284003))) else (if x6 = 4 then (some x284003) else (if x6 = 5 then (some x284002) else (passepartoutref04_Most.l0 k 0 0 x284000 x284001 x284002 x284003 x284004 x284005)))
def passepartoutref04_Most.l0 : Nat → Int → Int → Int → Int → Int → Int → Int → List (S27) → Option (Int)
  | 0, _, _, _, _, _, _, _, _ => none
  | k + 1, x3, x4, x284000, x284001, x284002, x284003, x284004, x284005 => if x4 < (x284005.length : Int) then (if 0 ≤ x4 then ((passepartoutref04_Most.f k ((rd_T27 x284005 x4).f0) ((rd_T27 x284005 x4).f1) ((rd_T27 x284005 x4).f2) ((rd_T27 x284005 x4).f3) ((rd_T27 x284005 x4).f4) ((rd_T27 x284005 x4).f5)).bind fun t285 => (passepartoutref04_Most.l0 k (wrap64 (x3 + t285)) (wrap64 (x4 + 1)) x284000 x284001 x284002 x284003 x284004 x284005)) else (none)) else (some x3)
def passepartoutref04_Most.f : Nat → Int → Int → Int → Int → Int → List (S27) → Option (Int)
  | 0, _, _, _, _, _, _ => none
  | k + 1, a0_0, a0_1, a0_2, a0_3, a0_4, l0_5 => if a0_0 = 0 then (some a0_1) else (if a0_0 = 1 then (passepartoutref04_Most.j0 k a0_0 (a0_0 == 1) a0_0 a0_1 a0_2 a0_3 a0_4 l0_5) else (passepartoutref04_Most.j0 k a0_0 (a0_0 == 2) a0_0 a0_1 a0_2 a0_3 a0_4 l0_5))
end
theorem passepartoutref04_Most.mono_l : ∀ k, (∀ y0 y1 y2 y3 y4 y5, LeO (passepartoutref04_Most.f k y0 y1 y2 y3 y4 y5) (passepartoutref04_Most.f (k + 1) y0 y1 y2 y3 y4 y5)) ∧ (∀ y0 y1 y2 y3 y4 y5 y6 y7, LeO (passepartoutref04_Most.j0 k y0 y1 y2 y3 y4 y5 y6 y7) (passepartoutref04_Most.j0 (k + 1) y0 y1 y2 y3 y4 y5 y6 y7)) ∧ (∀ y0 y1 y2 y3 y4 y5 y6 y7, LeO (passepartoutref04_Most.l0 k y0 y1 y2 y3 y4 y5 y6 y7) (passepartoutref04_Most.l0 (k + 1) y0 y1 y2 y3 y4 y5 y6 y7))
  | 0 => ⟨fun _ _ _ _ _ _ r h => by simp [passepartoutref04_Most.f] at h, fun _ _ _ _ _ _ _ _ r h => by simp [passepartoutref04_Most.j0] at h, fun _ _ _ _ _ _ _ _ r h => by simp [passepartoutref04_Most.l0] at h⟩
  | k + 1 => by
    obtain ⟨ih0, ih1, ih2⟩ := passepartoutref04_Most.mono_l k
    refine ⟨?_, ?_, ?_⟩
    · intro y0 y1 y2 y3 y4 y5
      unfold passepartoutref04_Most.f
      repeat' first
      | (with_reducible exact ih0 _ _ _ _ _ _)
      | (with_reducible exact ih1 _ _ _ _ _ _ _ _)
      | (with_reducible exact ih2 _ _ _ _ _ _ _ _)
      | (with_reducible exact LeO.refl _)
      | (with_reducible exact LeO.none _)
      | (with_reducible refine LeO.ite ?_ ?_)
      | (with_reducible refine LeO.bind ?_ (fun _ => ?_))
      | exact ih0 _ _ _ _ _ _
      | exact ih1 _ _ _ _ _ _ _ _
      | exact ih2 _ _ _ _ _ _ _ _
      | exact LeO.none _
      | refine LeO.ite ?_ ?_
      | refine LeO.bind ?_ (fun _ => ?_)
    · intro y0 y1 y2 y3 y4 y5 y6 y7
      unfold passepartoutref04_Most.j0
      repeat' first
      | (with_reducible exact ih0 _ _ _ _ _ _)
      | (with_reducible exact ih1 _ _ _ _ _ _ _ _)
      | (with_reducible exact ih2 _ _ _ _ _ _ _ _)
      | (with_reducible exact LeO.refl _)
      | (with_reducible exact LeO.none _)
      | (with_reducible refine LeO.ite ?_ ?_)
      | (with_reducible refine LeO.bind ?_ (fun _ => ?_))
      | exact ih0 _ _ _ _ _ _
      | exact ih1 _ _ _ _ _ _ _ _
      | exact ih2 _ _ _ _ _ _ _ _
      | exact LeO.none _
      | refine LeO.ite ?_ ?_
      | refine LeO.bind ?_ (fun _ => ?_)
    · intro y0 y1 y2 y3 y4 y5 y6 y7
      unfold passepartoutref04_Most.l0
      repeat' first
      | (with_reducible exact ih0 _ _ _ _ _ _)
      | (with_reducible exact ih1 _ _ _ _ _ _ _ _)
      | (with_reducible exact ih2 _ _ _ _ _ _ _ _)
      | (with_reducible exact LeO.refl _)
      | (with_reducible exact LeO.none _)
      | (with_reducible refine LeO.ite ?_ ?_)
      | (with_reducible refine LeO.bind ?_ (fun _ => ?_))
      | exact ih0 _ _ _ _ _ _
      | exact ih1 _ _ _ _ _ _ _ _
      | exact ih2 _ _ _ _ _ _ _ _
      | exact LeO.none _
      | refine LeO.ite ?_ ?_
      | refine LeO.bind ?_ (fun _ => ?_)
theorem passepartoutref04_Most.mono : ∀ a0 a1 a2 a3 a4 a5 k, LeO (passepartoutref04_Most.f k a0 a1 a2 a3 a4 a5) (passepartoutref04_Most.f (k + 1) a0 a1 a2 a3 a4 a5) := by
  intro a0 a1 a2 a3 a4 a5 k
  obtain ⟨ih0, ih1, ih2⟩ := passepartoutref04_Most.mono_l k
  exact ih0 a0 a1 a2 a3 a4 a5
set_option maxHeartbeats 8000000 in
set_option maxRecDepth 100000 in
theorem passepartoutref04_Most.calls (k : Nat) : ∀ (a0_0 : Int) (a0_1 : Int) (a0_2 : Int) (a0_3 : Int) (a0_4 : Int) (A0_5 : Option Addr) (c0_5 : Nat) (l0_5 : List (S27)) (r : Int) (w : World) (hr0_5 : Kd.C k27 w A0_5 l0_5.length l0_5) (hc0_5 : l0_5.length ≤ c0_5) (h : passepartoutref04_Most.f k a0_0 a0_1 a0_2 a0_3 a0_4 l0_5 = some r),
    Calls Try.prog 35 #[.agg #[.int .i64 a0_0, .int .i64 a0_1, .int .i64 a0_2, .int .i64 a0_3, .int .i64 a0_4, .slice A0_5 l0_5.length c0_5]] w fun e w' => e = .returned (.int .i64 r) ∧ Below w.heap.size w w' := by
  induction k using Nat.strongRecOn with
  | _ k ih =>
  intro a0_0 a0_1 a0_2 a0_3 a0_4 A0_5 c0_5 l0_5 r w hr0_5 hc0_5 h
  cases k with
  | zero => exact absurd h (by simp [passepartoutref04_Most.f])
  | succ k =>
  simp only [passepartoutref04_Most.f] at h
  have hu27 := Try.underlying27
  have HR0_5 := Aside0.mk hr0_5
  have HC0_5 := Aside0.mk hc0_5
  clear hr0_5 hc0_5
  have HB := Aside0.mk (Below.refl w.heap.size w)
  have H : (if a0_0 = 0 then (some a0_1) else (if a0_0 = 1 then (passepartoutref04_Most.j0 k a0_0 (a0_0 == 1) a0_0 a0_1 a0_2 a0_3 a0_4 l0_5) else (passepartoutref04_Most.j0 k a0_0 (a0_0 == 2) a0_0 a0_1 a0_2 a0_3 a0_4 l0_5))) = some r := h
  clear h
  by_cases c2 : a0_0 = 0
  · rw [if_pos c2] at H
    have c2b0 : (a0_0 == 0) = true := beq_iff_eq.mpr c2
    have c2b1 : (a0_0 != 0) = false := bne_eq_false_iff_eq.mpr c2
    clear c2
    obtain rfl := Option.some.inj H
    go_enter Try.func35, Try.ntmps35
    go_wp2_with (first | ((with_reducible refine gate_dst (N := 1) rfl ?_); refine box_event ?hg (N := 1) ?hd (cs := #[.int .i64 a0_0, .int .i64 a0_1, .int .i64 a0_2, .int .i64 a0_3, .int .i64 a0_4, .slice A0_5 l0_5.length c0_5]) (t := 27) ?hr ?_; (case hd => rfl); (case hg => rfl); (case hr => first | (go_simp; done) | (go_simp; rfl)); intro gb283 hg w3 hbox hb; have n0_ := Aside0.mk (below_step (by repeat (first | (with_reducible first | exact HB.out | apply below_alloc | apply pw_below_drewN | apply below_drew1) | exact HB.out)) hb); have n1_ := Aside0.mk (hbox); have n2_ := Aside0.mk ((by rw [hg]; exact (below_size (by repeat (first | (with_reducible first | exact HB.out | apply below_alloc | apply pw_below_drewN | apply below_drew1) | exact HB.out))) : w.heap.size ≤ gb283)); have n3_ := Aside0.mk ((by rw [hg]; exact (below_size (by repeat (first | (with_reducible first | exact HB.out | apply below_alloc | apply pw_below_drewN | apply below_drew1) | exact HB.out))) : w.heap.size ≤ gb283)); clear HB; have HB := n0_; have BK283 := n1_; have GW283 := n2_; have GE283 := n3_; clear n0_ n1_ n2_ n3_; clear hb hbox hg; have hcz4_0 : w3.cell? ⟨gb283, 0, none⟩ = some (.int .i64 a0_0) := (blk_cell BK283.out 0).trans rfl; have hcz4_1 : w3.cell? ⟨gb283, 1, none⟩ = some (.int .i64 a0_1) := (blk_cell BK283.out 1).trans rfl; have hcz4_2 : w3.cell? ⟨gb283, 2, none⟩ = some (.int .i64 a0_2) := (blk_cell BK283.out 2).trans rfl; have hcz4_3 : w3.cell? ⟨gb283, 3, none⟩ = some (.int .i64 a0_3) := (blk_cell BK283.out 3).trans rfl; have hcz4_4 : w3.cell? ⟨gb283, 4, none⟩ = some (.int .i64 a0_4) := (blk_cell BK283.out 4).trans rfl; have hcz4_5 : w3.cell? ⟨gb283, 5, none⟩ = some (.slice A0_5 l0_5.length c0_5) := (blk_cell BK283.out 5).trans rfl; have hfz4_0 := blk_frozen BK283.out 0; have hfz4_1 := blk_frozen BK283.out 1; have hfz4_2 := blk_frozen BK283.out 2; have hfz4_3 := blk_frozen BK283.out 3; have hfz4_4 := blk_frozen BK283.out 4; have hfz4_5 := blk_frozen BK283.out 5))
    go_ret
    exact ⟨by first | rfl | (simp [errW_none, errW_some] <;> rfl) | (simp [*, errW_none, errW_some] <;> rfl), by repeat (first | (with_reducible first | exact HB.out | apply below_alloc | apply pw_below_drewN | apply below_drew1 | refine below_set ?_ GE283.out) | exact HB.out)⟩
  · rw [if_neg c2] at H
    have c2b0 : (a0_0 == 0) = false := beq_eq_false_iff_ne.mpr c2
    have c2b1 : (a0_0 != 0) = true := bne_iff_ne.mpr c2
    have HC5 := Aside0.mk H
    clear H
    go_enter Try.func35, Try.ntmps35
    go_upto_if 11 with (first | ((with_reducible refine gate_dst (N := 1) rfl ?_); refine box_event ?hg (N := 1) ?hd (cs := #[.int .i64 a0_0, .int .i64 a0_1, .int .i64 a0_2, .int .i64 a0_3, .int .i64 a0_4, .slice A0_5 l0_5.length c0_5]) (t := 27) ?hr ?_; (case hd => rfl); (case hg => rfl); (case hr => first | (go_simp; done) | (go_simp; rfl)); intro gb283 hg w6 hbox hb; have n0_ := Aside0.mk (below_step (by repeat (first | (with_reducible first | exact HB.out | apply below_alloc | apply pw_below_drewN | apply below_drew1) | exact HB.out)) hb); have n1_ := Aside0.mk (hbox); have n2_ := Aside0.mk ((by rw [hg]; exact (below_size (by repeat (first | (with_reducible first | exact HB.out | apply below_alloc | apply pw_below_drewN | apply below_drew1) | exact HB.out))) : w.heap.size ≤ gb283)); have n3_ := Aside0.mk ((by rw [hg]; exact (below_size (by repeat (first | (with_reducible first | exact HB.out | apply below_alloc | apply pw_below_drewN | apply below_drew1) | exact HB.out))) : w.heap.size ≤ gb283)); clear HB; have HB := n0_; have BK283 := n1_; have GW283 := n2_; have GE283 := n3_; clear n0_ n1_ n2_ n3_; clear hb hbox hg; have hcz7_0 : w6.cell? ⟨gb283, 0, none⟩ = some (.int .i64 a0_0) := (blk_cell BK283.out 0).trans rfl; have hcz7_1 : w6.cell? ⟨gb283, 1, none⟩ = some (.int .i64 a0_1) := (blk_cell BK283.out 1).trans rfl; have hcz7_2 : w6.cell? ⟨gb283, 2, none⟩ = some (.int .i64 a0_2) := (blk_cell BK283.out 2).trans rfl; have hcz7_3 : w6.cell? ⟨gb283, 3, none⟩ = some (.int .i64 a0_3) := (blk_cell BK283.out 3).trans rfl; have hcz7_4 : w6.cell? ⟨gb283, 4, none⟩ = some (.int .i64 a0_4) := (blk_cell BK283.out 4).trans rfl; have hcz7_5 : w6.cell? ⟨gb283, 5, none⟩ = some (.slice A0_5 l0_5.length c0_5) := (blk_cell BK283.out 5).trans rfl; have hfz7_0 := blk_frozen BK283.out 0; have hfz7_1 := blk_frozen BK283.out 1; have hfz7_2 := blk_frozen BK283.out 2; have hfz7_3 := blk_frozen BK283.out 3; have hfz7_4 := blk_frozen BK283.out 4; have hfz7_5 := blk_frozen BK283.out 5))
    (try simp only [Act.put, List.setIfInBounds_toArray, List.set_cons_zero, List.set_cons_succ])
    go_cut [11] (fun v11 wc => ∃ (kq : Nat) (x11_4 : Bool), v11 = .bool x11_4 ∧ Aside0 (passepartoutref04_Most.j0 kq a0_0 x11_4 a0_0 a0_1 a0_2 a0_3 a0_4 l0_5 = some r) ∧ Aside0 (kq ≤ k) ∧ Aside0 (wc.heap[gb283]? = some (.cells #[.int .i64 a0_0, .int .i64 a0_1, .int .i64 a0_2, .int .i64 a0_3, .int .i64 a0_4, (.slice A0_5 l0_5.length c0_5)] 27 (0, 0))) ∧ Aside0 (Below w.heap.size w wc))
    case first =>
      have H := HC5.out
      clear HC5
      by_cases c8 : a0_0 = 1
      · rw [if_pos c8] at H
        have c8b0 : (a0_0 == 1) = true := beq_iff_eq.mpr c8
        have c8b1 : (a0_0 != 1) = false := bne_eq_false_iff_eq.mpr c8
        clear c8
        (first | rw [c8b0] | (simp only [i64_w, i32_w]; rw [c8b0]) | skip)
        have H' := Aside0.mk H
        clear H
        go_wp2
        go_meet
        case rel => exact ⟨_, ((a0_0 == 1)), (by first | rfl | (simp; done) | (simp [*]; done)), H', ⟨by first | omega | exact Nat.le_refl _⟩, ⟨by (with_reducible repeat (first | refine blk_drewN ?_ _ | refine blk_drew ?_ | refine blk_alloc ?_ _)); exact BK283.out⟩, ⟨by repeat (first | (with_reducible first | exact HB.out | apply below_alloc | apply pw_below_drewN | apply below_drew1 | refine below_set ?_ GE283.out) | exact HB.out)⟩⟩
      · rw [if_neg c8] at H
        have c8b0 : (a0_0 == 1) = false := beq_eq_false_iff_ne.mpr c8
        have c8b1 : (a0_0 != 1) = true := bne_iff_ne.mpr c8
        (first | rw [c8b0] | (simp only [i64_w, i32_w]; rw [c8b0]) | skip)
        have H' := Aside0.mk H
        clear H
        go_wp2
        go_meet
        case rel => exact ⟨_, ((a0_0 == 2)), (by first | rfl | (simp; done) | (simp [*]; done)), H', ⟨by first | omega | exact Nat.le_refl _⟩, ⟨by (with_reducible repeat (first | refine blk_drewN ?_ _ | refine blk_drew ?_ | refine blk_alloc ?_ _)); exact BK283.out⟩, ⟨by repeat (first | (with_reducible first | exact HB.out | apply below_alloc | apply pw_below_drewN | apply below_drew1 | refine below_set ?_ GE283.out) | exact HB.out)⟩⟩
    case rest =>
      clear HC5
      try clear c2
      try clear c2b0
      try clear c2b1
      try clear p2
      try clear c3
      try clear c8
      try clear c8b0
      try clear c8b1
      try clear hcz4_0
      try clear hcz4_1
      try clear hcz4_2
      try clear hcz4_3
      try clear hcz4_4
      try clear hcz4_5
      try clear hcz7_0
      try clear hcz7_1
      try clear hcz7_2
      try clear hcz7_3
      try clear hcz7_4
      try clear hcz7_5
      try clear hfz4_0
      try clear hfz4_1
      try clear hfz4_2
      try clear hfz4_3
      try clear hfz4_4
      try clear hfz4_5
      try clear hfz7_0
      try clear hfz7_1
      try clear hfz7_2
      try clear hfz7_3
      try clear hfz7_4
      try clear hfz7_5
      obtain ⟨kq, x11_4, rfl, HA, HJ4, BK283, HB⟩ := hcut
      cases kq with
      | zero => exact absurd HA.out (by simp [passepartoutref04_Most.j0])
      | succ kj4 =>
        have H := HA.out
        clear HA
        simp only [passepartoutref04_Most.j0] at H
        by_cases c9 : x11_4 = true
        · subst c9
          have H1 : (some (wrap64 (a0_1 + a0_3))) = some r := by rw [if_pos rfl] at H; exact H
          clear H
          have H := H1
          clear H1
          obtain rfl := Option.some.inj H
          have hcz10_0 : wc.cell? ⟨gb283, 0, none⟩ = some (.int .i64 a0_0) := (blk_cell BK283.out 0).trans rfl
          have hcz10_1 : wc.cell? ⟨gb283, 1, none⟩ = some (.int .i64 a0_1) := (blk_cell BK283.out 1).trans rfl
          have hcz10_2 : wc.cell? ⟨gb283, 2, none⟩ = some (.int .i64 a0_2) := (blk_cell BK283.out 2).trans rfl
          have hcz10_3 : wc.cell? ⟨gb283, 3, none⟩ = some (.int .i64 a0_3) := (blk_cell BK283.out 3).trans rfl
          have hcz10_4 : wc.cell? ⟨gb283, 4, none⟩ = some (.int .i64 a0_4) := (blk_cell BK283.out 4).trans rfl
          have hcz10_5 : wc.cell? ⟨gb283, 5, none⟩ = some (.slice A0_5 l0_5.length c0_5) := (blk_cell BK283.out 5).trans rfl
          have hfz10_0 := blk_frozen BK283.out 0
          have hfz10_1 := blk_frozen BK283.out 1
          have hfz10_2 := blk_frozen BK283.out 2
          have hfz10_3 := blk_frozen BK283.out 3
          have hfz10_4 := blk_frozen BK283.out 4
          have hfz10_5 := blk_frozen BK283.out 5
          go_wp2
          go_ret
          exact ⟨by first | rfl | (simp [errW_none, errW_some] <;> rfl) | (simp [*, errW_none, errW_some] <;> rfl), by repeat (first | (with_reducible first | exact HB.out | apply below_alloc | apply pw_below_drewN | apply below_drew1 | refine below_set ?_ GE283.out) | exact HB.out)⟩
        · replace c9 := Bool.eq_false_iff.mpr c9
          subst c9
          have H1 : (if a0_0 = 4 then (some a0_3) else (if a0_0 = 5 then (some a0_2) else (passepartoutref04_Most.l0 kj4 0 0 a0_0 a0_1 a0_2 a0_3 a0_4 l0_5))) = some r := by rw [if_neg (show ¬ (false = true) by decide)] at H; exact H
          clear H
          have H := H1
          clear H1
          by_cases c11 : a0_0 = 4
          · rw [if_pos c11] at H
            have c11b0 : (a0_0 == 4) = true := beq_iff_eq.mpr c11
            have c11b1 : (a0_0 != 4) = false := bne_eq_false_iff_eq.mpr c11
            clear c11
            obtain rfl := Option.some.inj H
            have hcz12_0 : wc.cell? ⟨gb283, 0, none⟩ = some (.int .i64 a0_0) := (blk_cell BK283.out 0).trans rfl
            have hcz12_1 : wc.cell? ⟨gb283, 1, none⟩ = some (.int .i64 a0_1) := (blk_cell BK283.out 1).trans rfl
            have hcz12_2 : wc.cell? ⟨gb283, 2, none⟩ = some (.int .i64 a0_2) := (blk_cell BK283.out 2).trans rfl
            have hcz12_3 : wc.cell? ⟨gb283, 3, none⟩ = some (.int .i64 a0_3) := (blk_cell BK283.out 3).trans rfl
            have hcz12_4 : wc.cell? ⟨gb283, 4, none⟩ = some (.int .i64 a0_4) := (blk_cell BK283.out 4).trans rfl
            have hcz12_5 : wc.cell? ⟨gb283, 5, none⟩ = some (.slice A0_5 l0_5.length c0_5) := (blk_cell BK283.out 5).trans rfl
            have hfz12_0 := blk_frozen BK283.out 0
            have hfz12_1 := blk_frozen BK283.out 1
            have hfz12_2 := blk_frozen BK283.out 2
            have hfz12_3 := blk_frozen BK283.out 3
            have hfz12_4 := blk_frozen BK283.out 4
            have hfz12_5 := blk_frozen BK283.out 5
            go_wp2
            go_ret
            exact ⟨by first | rfl | (simp [errW_none, errW_some] <;> rfl) | (simp [*, errW_none, errW_some] <;> rfl), by repeat (first | (with_reducible first | exact HB.out | apply below_alloc | apply pw_below_drewN | apply below_drew1 | refine below_set ?_ GE283.out) | exact HB.out)⟩
          · rw [if_neg c11] at H
            have c11b0 : (a0_0 == 4) = false := beq_eq_false_iff_ne.mpr c11
            have c11b1 : (a0_0 != 4) = true := bne_iff_ne.mpr c11
            by_cases c13 : a0_0 = 5
            · rw [if_pos c13] at H
              have c13b0 : (a0_0 == 5) = true := beq_iff_eq.mpr c13
              have c13b1 : (a0_0 != 5) = false := bne_eq_false_iff_eq.mpr c13
              clear c13
              obtain rfl := Option.some.inj H
              have hcz14_0 : wc.cell? ⟨gb283, 0, none⟩ = some (.int .i64 a0_0) := (blk_cell BK283.out 0).trans rfl
              have hcz14_1 : wc.cell? ⟨gb283, 1, none⟩ = some (.int .i64 a0_1) := (blk_cell BK283.out 1).trans rfl
              have hcz14_2 : wc.cell? ⟨gb283, 2, none⟩ = some (.int .i64 a0_2) := (blk_cell BK283.out 2).trans rfl
              have hcz14_3 : wc.cell? ⟨gb283, 3, none⟩ = some (.int .i64 a0_3) := (blk_cell BK283.out 3).trans rfl
              have hcz14_4 : wc.cell? ⟨gb283, 4, none⟩ = some (.int .i64 a0_4) := (blk_cell BK283.out 4).trans rfl
              have hcz14_5 : wc.cell? ⟨gb283, 5, none⟩ = some (.slice A0_5 l0_5.length c0_5) := (blk_cell BK283.out 5).trans rfl
              have hfz14_0 := blk_frozen BK283.out 0
              have hfz14_1 := blk_frozen BK283.out 1
              have hfz14_2 := blk_frozen BK283.out 2
              have hfz14_3 := blk_frozen BK283.out 3
              have hfz14_4 := blk_frozen BK283.out 4
              have hfz14_5 := blk_frozen BK283.out 5
              go_wp2
              go_ret
              exact ⟨by first | rfl | (simp [errW_none, errW_some] <;> rfl) | (simp [*, errW_none, errW_some] <;> rfl), by repeat (first | (with_reducible first | exact HB.out | apply below_alloc | apply pw_below_drewN | apply below_drew1 | refine below_set ?_ GE283.out) | exact HB.out)⟩
            · rw [if_neg c13] at H
              have c13b0 : (a0_0 == 5) = false := beq_eq_false_iff_ne.mpr c13
              have c13b1 : (a0_0 != 5) = true := bne_iff_ne.mpr c13
              have H' := Aside0.mk H
              clear H
              go_wp2
              go_loopg [3, 4] kj4 (fun kq v3 v4 w' => ∃ (x3_2 : Int) (x4_2 : Int), v3 = .int .i64 x3_2 ∧ v4 = .int .i64 x4_2 ∧ Aside0 (passepartoutref04_Most.l0 kq x3_2 x4_2 a0_0 a0_1 a0_2 a0_3 a0_4 l0_5 = some r) ∧ Aside0 (kq ≤ kj4) ∧ Aside0 (w'.heap[gb283]? = some (.cells #[.int .i64 a0_0, .int .i64 a0_1, .int .i64 a0_2, .int .i64 a0_3, .int .i64 a0_4, (.slice A0_5 l0_5.length c0_5)] 27 (0, 0))) ∧ Aside0 (Below w.heap.size w w'))
              case atStart => exact ⟨(0), (0), (by first | rfl | (simp; done) | (simp [*]; done)), (by first | rfl | (simp; done) | (simp [*]; done)), H', ⟨Nat.le_refl _⟩, ⟨by (with_reducible repeat (first | refine blk_drewN ?_ _ | refine blk_drew ?_ | refine blk_alloc ?_ _)); exact BK283.out⟩, ⟨by repeat (first | (with_reducible first | exact HB.out | apply below_alloc | apply pw_below_drewN | apply below_drew1 | refine below_set ?_ GE283.out) | exact HB.out)⟩⟩
              case round =>
                clear H'
                try clear c1
                try clear c2
                try clear c2b0
                try clear c2b1
                try clear p2
                try clear c3
                try clear p6
                try clear c8
                try clear c8b0
                try clear c8b1
                try clear c9
                try clear c11
                try clear c11b0
                try clear c11b1
                try clear c13
                try clear c13b0
                try clear c13b1
                try clear hcz10_0
                try clear hcz10_1
                try clear hcz10_2
                try clear hcz10_3
                try clear hcz10_4
                try clear hcz10_5
                try clear hcz12_0
                try clear hcz12_1
                try clear hcz12_2
                try clear hcz12_3
                try clear hcz12_4
                try clear hcz12_5
                try clear hcz14_0
                try clear hcz14_1
                try clear hcz14_2
                try clear hcz14_3
                try clear hcz14_4
                try clear hcz14_5
                try clear hcz4_0
                try clear hcz4_1
                try clear hcz4_2
                try clear hcz4_3
                try clear hcz4_4
                try clear hcz4_5
                try clear hcz7_0
                try clear hcz7_1
                try clear hcz7_2
                try clear hcz7_3
                try clear hcz7_4
                try clear hcz7_5
                try clear hfz10_0
                try clear hfz10_1
                try clear hfz10_2
                try clear hfz10_3
                try clear hfz10_4
                try clear hfz10_5
                try clear hfz12_0
                try clear hfz12_1
                try clear hfz12_2
                try clear hfz12_3
                try clear hfz12_4
                try clear hfz12_5
                try clear hfz14_0
                try clear hfz14_1
                try clear hfz14_2
                try clear hfz14_3
                try clear hfz14_4
                try clear hfz14_5
                try clear hfz4_0
                try clear hfz4_1
                try clear hfz4_2
                try clear hfz4_3
                try clear hfz4_4
                try clear hfz4_5
                try clear hfz7_0
                try clear hfz7_1
                try clear hfz7_2
                try clear hfz7_3
                try clear hfz7_4
                try clear hfz7_5
                try clear p2
                obtain ⟨x3_2, x4_2, rfl, rfl, HA, HK2, BK283, HB⟩ := hrel
                cases gk with
                | zero => exact absurd HA.out (by simp [passepartoutref04_Most.l0])
                | succ k2 =>
                  have H := HA.out
                  clear HA
                  simp only [passepartoutref04_Most.l0] at H
                  by_cases c15 : x4_2 < (l0_5.length : Int)
                  · rw [if_pos c15] at H
                    have c15b0 : decide (x4_2 < (l0_5.length : Int)) = true := decide_eq_true c15
                    clear c15
                    by_cases c16 : 0 ≤ x4_2
                    · rw [if_pos c16] at H
                      have c16b0 : decide (0 ≤ x4_2) = true := decide_eq_true c16
                      clear c16
                      replace H := Option.bind_eq_some_iff.mp H
                      obtain ⟨t285, A170, H⟩ := H
                      replace H : (passepartoutref04_Most.l0 k2 (wrap64 (x3_2 + t285)) (wrap64 (x4_2 + 1)) a0_0 a0_1 a0_2 a0_3 a0_4 l0_5) = some r := H
                      have A17 := Aside0.mk A170
                      clear A170
                      have H' := Aside0.mk H
                      clear H
                      have hcz18_0 : wr.cell? ⟨gb283, 0, none⟩ = some (.int .i64 a0_0) := (blk_cell BK283.out 0).trans rfl
                      have hcz18_1 : wr.cell? ⟨gb283, 1, none⟩ = some (.int .i64 a0_1) := (blk_cell BK283.out 1).trans rfl
                      have hcz18_2 : wr.cell? ⟨gb283, 2, none⟩ = some (.int .i64 a0_2) := (blk_cell BK283.out 2).trans rfl
                      have hcz18_3 : wr.cell? ⟨gb283, 3, none⟩ = some (.int .i64 a0_3) := (blk_cell BK283.out 3).trans rfl
                      have hcz18_4 : wr.cell? ⟨gb283, 4, none⟩ = some (.int .i64 a0_4) := (blk_cell BK283.out 4).trans rfl
                      have hcz18_5 : wr.cell? ⟨gb283, 5, none⟩ = some (.slice A0_5 l0_5.length c0_5) := (blk_cell BK283.out 5).trans rfl
                      have hfz18_0 := blk_frozen BK283.out 0
                      have hfz18_1 := blk_frozen BK283.out 1
                      have hfz18_2 := blk_frozen BK283.out 2
                      have hfz18_3 := blk_frozen BK283.out 3
                      have hfz18_4 := blk_frozen BK283.out 4
                      have hfz18_5 := blk_frozen BK283.out 5
                      have p284 : 0 ≤ (x4_2 : Int) := of_decide_eq_true (by first | (with_reducible assumption) | assumption)
                      have q284 : x4_2 < (l0_5.length : Int) := of_decide_eq_true (by first | (with_reducible assumption) | assumption)
                      obtain ⟨ad284, A284_5, c284_5, e284, hx284_0, hx284_1, hx284_2, hx284_3, hx284_4, hx284_5, hl284_5, hi284_5⟩ := at_T27 HR0_5.out x4_2 p284 q284
                      cases e284
                      replace hx284_0 := (HB.out.cell (World.block_lt_of_cell? w _ hx284_0)).trans hx284_0
                      replace hx284_1 := (HB.out.cell (World.block_lt_of_cell? w _ hx284_1)).trans hx284_1
                      replace hx284_2 := (HB.out.cell (World.block_lt_of_cell? w _ hx284_2)).trans hx284_2
                      replace hx284_3 := (HB.out.cell (World.block_lt_of_cell? w _ hx284_3)).trans hx284_3
                      replace hx284_4 := (HB.out.cell (World.block_lt_of_cell? w _ hx284_4)).trans hx284_4
                      replace hx284_5 := (HB.out.cell (World.block_lt_of_cell? w _ hx284_5)).trans hx284_5
                      have HR284_5 := Aside0.mk hi284_5
                      have HC284_5 := Aside0.mk hl284_5
                      clear hi284_5 hl284_5
                      replace p284 := eq_true p284
                      replace q284 := eq_true q284
                      go_wp2_with (first | ((with_reducible refine gate_callee (f := 35) rfl ?_); refine goesL_ (some 40) rfl rfl Try.func35 (by kernel_rfl) rfl #[.agg #[.int .i64 ((rd_T27 l0_5 x4_2).f0), .int .i64 ((rd_T27 l0_5 x4_2).f1), .int .i64 ((rd_T27 l0_5 x4_2).f2), .int .i64 ((rd_T27 l0_5 x4_2).f3), .int .i64 ((rd_T27 l0_5 x4_2).f4), .slice A284_5 ((rd_T27 l0_5 x4_2).f5).length c284_5]] rfl (by (try simp only [List.map_toArray, List.map_cons, List.map_nil]); first | done | rfl | (simp only [List.length_drop, List.length_take]; rfl)) ?_; (with_reducible refine (ih k2 (by have := HJ4.out; have := HK2.out; omega) ((rd_T27 l0_5 x4_2).f0) ((rd_T27 l0_5 x4_2).f1) ((rd_T27 l0_5 x4_2).f2) ((rd_T27 l0_5 x4_2).f3) ((rd_T27 l0_5 x4_2).f4) _ _ ((rd_T27 l0_5 x4_2).f5) t285 _ ?side1 ?side2 A17.out).mono ?_); (case side1 => repeat (first | exact (Kd.C_below HR284_5.out HB.out) | (with_reducible refine Kd.C_alloc ?_ _) | (with_reducible refine Kd.C_drewN ?_ _) | (with_reducible refine Kd.C_drew ?_))); (case side2 => exact HC284_5.out); rintro e w19 ⟨rfl, hb⟩; refine ⟨_, rfl, ?_⟩; have n0_ := Aside0.mk (blk_below (g := gb283) (o := .cells #[.int .i64 a0_0, .int .i64 a0_1, .int .i64 a0_2, .int .i64 a0_3, .int .i64 a0_4, .slice (some ad284) l0_5.length c0_5] 27 (0, 0)) (by (with_reducible repeat (first | refine blk_drewN ?_ _ | refine blk_drew ?_ | refine blk_alloc ?_ _)); exact BK283.out) hb); have n1_ := Aside0.mk (below_step (by repeat (first | (with_reducible first | exact HB.out | apply below_alloc | apply pw_below_drewN | apply below_drew1 | refine below_set ?_ GE283.out) | exact HB.out)) hb); clear BK283; clear HB; have BK283 := n0_; have HB := n1_; clear n0_ n1_; (try clear hb); (try clear hb2); (try clear hk); (try clear hi)))
                      go_roundg k2
                      case measure => have := HJ4.out; have := HK2.out; omega
                      case rel => exact ⟨(wrap64 (x3_2 + t285)), (wrap64 (x4_2 + 1)), (by first | rfl | (simp; done) | (simp [*]; done)), (by first | rfl | (simp; done) | (simp [*]; done)), H', ⟨by have := HJ4.out; have := HK2.out; omega⟩, ⟨by (with_reducible repeat (first | refine blk_drewN ?_ _ | refine blk_drew ?_ | refine blk_alloc ?_ _)); exact BK283.out⟩, ⟨by repeat (first | (with_reducible first | exact HB.out | apply below_alloc | apply pw_below_drewN | apply below_drew1 | refine below_set ?_ GE283.out) | exact HB.out)⟩⟩
                    · rw [if_neg c16] at H
                      exact absurd H (by simp)
                  · rw [if_neg c15] at H
                    have c15b0 : decide (x4_2 < (l0_5.length : Int)) = false := decide_eq_false c15
                    clear c15
                    obtain rfl := Option.some.inj H
                    have hcz20_0 : wr.cell? ⟨gb283, 0, none⟩ = some (.int .i64 a0_0) := (blk_cell BK283.out 0).trans rfl
                    have hcz20_1 : wr.cell? ⟨gb283, 1, none⟩ = some (.int .i64 a0_1) := (blk_cell BK283.out 1).trans rfl
                    have hcz20_2 : wr.cell? ⟨gb283, 2, none⟩ = some (.int .i64 a0_2) := (blk_cell BK283.out 2).trans rfl
                    have hcz20_3 : wr.cell? ⟨gb283, 3, none⟩ = some (.int .i64 a0_3) := (blk_cell BK283.out 3).trans rfl
                    have hcz20_4 : wr.cell? ⟨gb283, 4, none⟩ = some (.int .i64 a0_4) := (blk_cell BK283.out 4).trans rfl
                    have hcz20_5 : wr.cell? ⟨gb283, 5, none⟩ = some (.slice A0_5 l0_5.length c0_5) := (blk_cell BK283.out 5).trans rfl
                    have hfz20_0 := blk_frozen BK283.out 0
                    have hfz20_1 := blk_frozen BK283.out 1
                    have hfz20_2 := blk_frozen BK283.out 2
                    have hfz20_3 := blk_frozen BK283.out 3
                    have hfz20_4 := blk_frozen BK283.out 4
                    have hfz20_5 := blk_frozen BK283.out 5
                    go_wp2
                    go_ret
                    exact ⟨by first | rfl | (simp [errW_none, errW_some] <;> rfl) | (simp [*, errW_none, errW_some] <;> rfl), by repeat (first | (with_reducible first | exact HB.out | apply below_alloc | apply pw_below_drewN | apply below_drew1 | refine below_set ?_ GE283.out) | exact HB.out)⟩

end Go.Proofs.Ytfcghajnnllmhaa.QP

namespace Go.Proofs.Ytfcghajnnllmhaa
open Go.RowKit YtfcghajnnllmhaaW.PrintWords

end Go.Proofs.Ytfcghajnnllmhaa
