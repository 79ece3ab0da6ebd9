/-
  layout.Check.
-/
import Derived.Test.YtfcghajnnllmhaaF4
namespace Go.Proofs.Ytfcghajnnllmhaa
open Go.RowKit

/-- Does a part not fit there? -/
def badI (k : Int) (n i : Nat) (f : Fm) : Bool := (openR f && (decide (k = 2) || decide (i + 1 < n))) || (decide (k = 2) && decide (leastR f = 0))
def badF (k : Int) (n : Nat) : Nat → List Fm → Bool
  | _, [] => false
  | i, f :: t => badI k n i f || badF k n (i + 1) t
mutual
/-- What is wrong with a form and its parts. -/
def checkR : Fm → Int
  | .mk a l => if ownN a.k a.s a.lo a.hi a.st l.length ≠ 0 then ownN a.k a.s a.lo a.hi a.st l.length else if a.k = 2 ∨ a.k = 3 then (if checkL l ≠ 0 then checkL l else if badF a.k l.length 0 l then 15 else 0) else 0
def checkL : List Fm → Int
  | [] => 0
  | f :: t => if checkR f ≠ 0 then checkR f else checkL t
end
theorem checkR_mk (a : FH) (l : List Fm) : checkR (.mk a l) = if ownN a.k a.s a.lo a.hi a.st l.length ≠ 0 then ownN a.k a.s a.lo a.hi a.st l.length else if a.k = 2 ∨ a.k = 3 then (if checkL l ≠ 0 then checkL l else if badF a.k l.length 0 l then 15 else 0) else 0 := by rw [checkR]
/-- The rest, behind a form's own numbers. -/
def restR (k : Int) (P : List Fm) : Int := if checkL P ≠ 0 then checkL P else if badF k P.length 0 P then 15 else 0
theorem checkR_parts (a : FH) (l : List Fm) : checkR (.mk a l) = if ownR (.mk a l) ≠ 0 then ownR (.mk a l) else restR a.k (partsF (.mk a l)) := by
  rw [checkR_mk]
  show _ = if ownN a.k a.s a.lo a.hi a.st l.length ≠ 0 then ownN a.k a.s a.lo a.hi a.st l.length else restR a.k (if a.k = 2 ∨ a.k = 3 then l else [])
  by_cases h : a.k = 2 ∨ a.k = 3
  · rw [if_pos h, if_pos h]
    rfl
  · rw [if_neg h, if_neg h]
    have e : restR a.k [] = 0 := by rw [restR, checkL]; simp [badF]
    rw [e]
theorem partsF_mem {a : FH} {l : List Fm} {f : Fm} (h : f ∈ partsF (.mk a l)) : f ∈ l := by
  have e : partsF (.mk a l) = if a.k = 2 ∨ a.k = 3 then l else [] := rfl
  rw [e] at h
  split at h
  · exact h
  · simp at h
theorem checkL_drop {l : List Fm} {k : Nat} (hk : k < l.length) : checkL (l.drop k) = if checkR l[k] ≠ 0 then checkR l[k] else checkL (l.drop (k + 1)) := by
  rw [List.drop_eq_getElem_cons hk, checkL]
theorem badF_drop {l : List Fm} {k n i : Nat} (c : Int) (hk : k < l.length) : badF c n i (l.drop k) = (badI c n i l[k] || badF c n (i + 1) (l.drop (k + 1))) := by
  rw [List.drop_eq_getElem_cons hk, badF]

set_option maxRecDepth 100000 in
set_option maxHeartbeats 12800000 in
theorem chk_any (ok : Nat → Prop) : ∀ (f : Fm) (v : Value) (w : World), (∀ i, ok i → i < w.heap.size) → FmR w ok v f →
    Calls Try.prog 44 #[v] w fun e w' => e = .returned (.int .i64 (checkR f)) ∧ Kp (fun _ => False) w w' := by
  intro f
  induction f using RT.induct with
  | h a l ih =>
  intro v w hlt hv
  obtain ⟨r, hr⟩ : ∃ r, checkR (.mk a l) = r := ⟨_, rfl⟩
  rw [hr]
  rw [checkR_parts] at hr
  have HOW := Lib.hid (fun o => own_any ok v (.mk a l) (w.alloc o) (hv.kp ((Kp.refl (fun _ => False) w).alloc o) (fun _ _ h => h)))
  have HPA := Lib.hid (fun W hk => parts_any ok v (.mk a l) W (hv.kp (S := fun _ => False) (w := w) (w' := W) hk (fun _ _ h => h)))
  have IH := Lib.hid (fun f (hm : f ∈ partsF (.mk a l)) => ih f (partsF_mem hm))
  generalize partsF (.mk a l) = P at hr HPA IH
  generalize ownR (.mk a l) = o at hr HOW
  obtain ⟨k, s, lo, hi, st⟩ := a
  obtain ⟨A, c, rfl, h1, h2, _, _, _, _, _, _⟩ := hv.parts
  have hka : Kp (fun _ => False) w (w.alloc (.cells #[.int .i64 k, .int .i64 s, .int .i64 lo, .int .i64 hi, .int .i64 st, .slice A l.length c] 27)) := (Kp.refl _ _).alloc _
  have hbk := Blk.new w 27 #[.int .i64 k, .int .i64 s, .int .i64 lo, .int .i64 hi, .int .i64 st, .slice A l.length c]
  have HK := Lib.hid hka
  have HB := Lib.hid hbk
  have HLT := Lib.hid hlt
  have hr' : (if o ≠ 0 then o else restR k P) = r := hr
  clear hv ih hr hlt hka hbk
  by_cases ho : o ≠ 0
  · rw [if_pos ho] at hr'
    subst hr'
    have t0 : (o != 0) = true := by simpa using ho
    clear ho
    go_enter Try.func44, Try.ntmps44
    go_wp2_with fail
    refine (HOW.out _).mono ?_
    rintro e w1 ⟨rfl, hk1⟩
    have hk := HK.out.then_ hk1 (fun _ h => h.elim)
    go_wp2_with fail
    go_ret
    exact ⟨rfl, hk⟩
  have ho' : o = 0 := by omega
  subst ho'
  rw [if_neg ho] at hr'
  rw [restR] at hr'
  have HR := Lib.hid hr'
  clear ho hr'
  go_enter Try.func44, Try.ntmps44
  go_wp2_with fail
  refine (HOW.out _).mono ?_
  rintro e w1 ⟨rfl, hk1⟩
  have hk01 := HK.out.then_ hk1 (fun _ h => h.elim)
  have hb1 := HB.out.kp hk1 (fun h => h)
  have c0 := hb1.cell 0
  have c1 := hb1.cell 1
  have c2 := hb1.cell 2
  have c3 := hb1.cell 3
  have c4 := hb1.cell 4
  have c5 := hb1.cell 5
  simp at c0 c1 c2 c3 c4 c5
  have HK1 := Lib.hid hk01
  have HB1 := Lib.hid hb1
  clear hk1 hk01 hb1
  go_wp2_with fail
  refine (HPA.out _ HK1.out).mono ?_
  rintro e w2 ⟨A2, n, cp, rfl, hn, hs2, hk2⟩
  have HK2 := Lib.hid (HK1.out.then_ hk2 (fun _ h => h.elim))
  have HB2 := Lib.hid (HB1.out.kp hk2 (fun h => h))
  have HS2 := Lib.hid hs2
  have hnc : n ≤ cp ∧ n ≤ 140737488355328 := by
    obtain ⟨A', c', e, q1, q2, _⟩ := hs2
    injection e with _ e2 e3
    omega
  obtain ⟨hn1, hn2⟩ := hnc
  have HN := Lib.hid hn
  clear hk2 hs2 c0 c1 c2 c3 c4 c5 hn
  go_wp2_with fail
  go_loopw [19] (fun i wr => ∃ j : Nat, j ≤ n ∧ i = .int .i64 j ∧ checkL P = checkL (P.drop j) ∧ Kp (fun _ => False) w2 wr) (fun i _ => n - (intOf i).toNat)
  case atStart => exact ⟨0, Nat.zero_le _, rfl, rfl, Kp.refl _ _⟩
  case round =>
    obtain ⟨j, hj, rfl, he, hkr⟩ := hrel
    have HKR := Lib.hid hkr
    have HE := Lib.hid he
    clear he
    by_cases hlt : j < n
    · have hjP : j < P.length := by have := HN.out; omega
      obtain ⟨b, off, A3, c3, rfl, hb, hf, q0, q1, q2, q3, q4, q5⟩ := (HS2.out.kp hkr (fun _ _ h => h)).at_ hjP
      have hmem : P[j] ∈ P := List.getElem_mem hjP
      have hdr := checkL_drop hjP
      obtain ⟨f, hfe⟩ : ∃ f, P[j] = f := ⟨_, rfl⟩
      rw [hfe] at hf q0 q1 q2 q3 q4 q5 hmem hdr
      have hi0 : (0 : Int) ≤ (j : Int) := by omega
      have hi1 : (j : Int) < (n : Int) := by omega
      have hkx : ∀ o, Kp (fun _ => False) wr (wr.alloc o) := fun o => (Kp.refl _ _).alloc o
      have hltw : ∀ o i, ok i → i < (wr.alloc o).heap.size := fun o i hi => Nat.lt_of_lt_of_le (HLT.out i hi) (Nat.le_trans HK2.out.size (Nat.le_trans hkr.size (hkx o).size))
      have HC := Lib.hid (fun o => IH.out f hmem _ _ (hltw o) (hf.kp (hkx o) (fun _ _ h => h)))
      have HKX := Lib.hid hkx
      generalize checkR f = x at hdr HC
      by_cases hx : x ≠ 0
      · have t0 : (x != 0) = true := by simpa using hx
        have HX := Lib.hid (show x = r by
          have := HR.out
          rw [HE.out, hdr, if_pos hx, if_pos hx] at this
          exact this)
        clear hx hdr hf hfe hmem hkr hkx hltw
        go_wp2_with fail
        refine (HC.out _).mono ?_
        rintro e w3 ⟨rfl, hk3⟩
        have hk := HK2.out.then_ (HKR.out.then_ ((HKX.out _).then_ hk3 (fun _ h => h.elim)) (fun _ h => h.elim)) (fun _ h => h.elim)
        go_wp2_with fail
        go_ret
        exact ⟨by rw [← HX.out]; rfl, hk⟩
      · have hx0 : x = 0 := by omega
        subst hx0
        have HD := Lib.hid (show checkL P = checkL (P.drop (j + 1)) by rw [HE.out, hdr, if_neg hx])
        clear hx hdr hf hfe hmem hkr hkx hltw
        go_wp2_with fail
        refine (HC.out _).mono ?_
        rintro e w3 ⟨rfl, hk3⟩
        have HK3 := Lib.hid (HKR.out.then_ ((HKX.out _).then_ hk3 (fun _ h => h.elim)) (fun _ h => h.elim))
        clear hk3
        go_wp2_with fail
        go_roundw
        case rel => exact ⟨j + 1, by omega, by go_num, HD.out, HK3.out⟩
        case measure => simp [intOf]; omega
    · obtain rfl : j = n := by omega
      have hz : checkL P = 0 := by
        rw [HE.out, List.drop_of_length_le (by have := HN.out; omega), checkL]
      have HR2 := Lib.hid (show (if badF k j 0 P then (15 : Int) else 0) = r by
        have := HR.out
        rw [hz, if_neg (by omega)] at this
        rw [HN.out]
        exact this)
      have HKS := Lib.hid (HK2.out.then_ hkr (fun _ h => h.elim))
      have HSS := Lib.hid (HS2.out.kp hkr (fun _ _ h => h))
      have HBS := Lib.hid (HB2.out.kp hkr (fun h => h))
      obtain ⟨wx, hwx⟩ : ∃ wx : World, wr = wx := ⟨_, rfl⟩
      rw [hwx] at HKS HSS HBS ⊢
      clear hkr HKR hz hwx HE hlt
      go_wp2_with fail
      go_loopw [31] (fun i wr => ∃ m : Nat, m ≤ j ∧ i = .int .i64 m ∧ badF k j 0 P = badF k j m (P.drop m) ∧ Kp (fun _ => False) wx wr) (fun i _ => j - (intOf i).toNat)
      case atStart => exact ⟨0, Nat.zero_le _, rfl, rfl, Kp.refl _ _⟩
      case round =>
        obtain ⟨m, hm, rfl, he, hkr⟩ := hrel
        have HKR := Lib.hid hkr
        have HE := Lib.hid he
        clear he
        by_cases hlt : m < j
        · have hmP : m < P.length := by have := HN.out; omega
          obtain ⟨b, off, A3, c3, rfl, hb, hf, q0, q1, q2, q3, q4, q5⟩ := (HSS.out.kp hkr (fun _ _ h => h)).at_ hmP
          have hdr := badF_drop (n := j) (i := m) k hmP
          obtain ⟨f, hfe⟩ : ∃ f, P[m] = f := ⟨_, rfl⟩
          rw [hfe] at hf q0 q1 q2 q3 q4 q5 hdr
          have hi0 : (0 : Int) ≤ (m : Int) := by omega
          have hi1 : (m : Int) < (j : Int) := by omega
          have hkx : ∀ o, Kp (fun _ => False) wr (wr.alloc o) := fun o => (Kp.refl _ _).alloc o
          have hltw : ∀ o i, ok i → i < (wr.alloc o).heap.size := fun o i hi => Nat.lt_of_lt_of_le (HLT.out i hi) (Nat.le_trans HKS.out.size (Nat.le_trans hkr.size (hkx o).size))
          have HOP := Lib.hid (fun o => open_any ok _ f _ (hltw o) (hf.kp (hkx o) (fun _ _ h => h)))
          have HLE := Lib.hid (fun W (hk : Kp (fun _ => False) wr W) => least_any ok _ f W (hf.kp hk (fun _ _ h => h)))
          have HKX := Lib.hid hkx
          have HCK := Lib.hid (show ∀ W, Kp (fun _ => False) wr W → W.cell? ⟨w.heap.size, 0, none⟩ = some (.int .i64 k) from fun W hk => (HBS.out.kp (hkr.then_ hk (fun _ h => h.elim)) (fun h => h)).cell 0)
          have HNB := Lib.hid (HBS.out.kp hkr (fun h => h))
          rw [badI] at hdr
          generalize openR f = op at hdr HOP
          generalize leastR f = ls at hdr HLE
          have hk2 : (k == 2) = decide (k = 2) := by rw [Bool.eq_iff_iff]; simp
          have hls : (ls == 0) = decide (ls = 0) := by rw [Bool.eq_iff_iff]; simp
          have hmj : decide ((m : Int) < (j : Int) - 1) = decide (m + 1 < j) := by rw [Bool.eq_iff_iff]; simp; omega
          have HDR := Lib.hid hdr
          clear hf hfe hkx hltw hdr hkr
          generalize decide (k = 2) = pk at hk2 HDR
          generalize decide (ls = 0) = pl at hls HDR
          generalize decide (m + 1 < j) = pm at hmj HDR
          cases op <;> cases pk <;> cases pl <;> cases pm
          all_goals
            first
              | (have HD := Lib.hid (show badF k j 0 P = badF k j (m + 1) (P.drop (m + 1)) by rw [HE.out, HDR.out]; rfl)
                 clear HDR
                 go_wp2_with fail
                 refine (HOP.out _).mono ?_
                 rintro e w3 ⟨rfl, hk3⟩
                 have hk3' := (HKX.out _).then_ hk3 (fun _ h => h.elim)
                 have HK3 := Lib.hid hk3'
                 have ck := HCK.out w3 hk3'
                 have hbe := (Blk.new wr 27 #[.int .i64 f.a.k, .int .i64 f.a.s, .int .i64 f.a.lo, .int .i64 f.a.hi, .int .i64 f.a.st, .slice A3 f.l.length c3]).kp hk3 (fun h => h)
                 have d0 := hbe.cell 0
                 have d1 := hbe.cell 1
                 have d2 := hbe.cell 2
                 have d3 := hbe.cell 3
                 have d4 := hbe.cell 4
                 have d5 := hbe.cell 5
                 simp at d0 d1 d2 d3 d4 d5
                 clear hbe
                 clear hk3 hk3'
                 go_wp2_with (go_at_call 24; (refine (HLE.out _ HK3.out).mono ?_); rintro e w4 ⟨rfl, hk4⟩; have HK4 := Lib.hid (HK3.out.then_ hk4 (fun _ h => h.elim)); clear hk4)
                 go_roundw
                 case rel => exact ⟨m + 1, by omega, by go_num, HD.out, by first | exact HKR.out.then_ HK4.out (fun _ h => h.elim) | exact HKR.out.then_ HK3.out (fun _ h => h.elim)⟩
                 case measure => simp [intOf]; omega)
              | (have HR3 := Lib.hid (show r = 15 by rw [← HR2.out, HE.out, HDR.out]; rfl)
                 clear HDR
                 go_wp2_with fail
                 refine (HOP.out _).mono ?_
                 rintro e w3 ⟨rfl, hk3⟩
                 have hk3' := (HKX.out _).then_ hk3 (fun _ h => h.elim)
                 have HK3 := Lib.hid hk3'
                 have ck := HCK.out w3 hk3'
                 have hbe := (Blk.new wr 27 #[.int .i64 f.a.k, .int .i64 f.a.s, .int .i64 f.a.lo, .int .i64 f.a.hi, .int .i64 f.a.st, .slice A3 f.l.length c3]).kp hk3 (fun h => h)
                 have d0 := hbe.cell 0
                 have d1 := hbe.cell 1
                 have d2 := hbe.cell 2
                 have d3 := hbe.cell 3
                 have d4 := hbe.cell 4
                 have d5 := hbe.cell 5
                 simp at d0 d1 d2 d3 d4 d5
                 clear hbe
                 clear hk3 hk3'
                 go_wp2_with (go_at_call 24; (refine (HLE.out _ HK3.out).mono ?_); rintro e w4 ⟨rfl, hk4⟩; have HK4 := Lib.hid (HK3.out.then_ hk4 (fun _ h => h.elim)); clear hk4)
                 go_ret
                 first
                   | exact ⟨by rw [HR3.out]; rfl, HKS.out.then_ (HKR.out.then_ HK4.out (fun _ h => h.elim)) (fun _ h => h.elim)⟩
                   | exact ⟨by rw [HR3.out]; rfl, HKS.out.then_ (HKR.out.then_ HK3.out (fun _ h => h.elim)) (fun _ h => h.elim)⟩)
        · obtain rfl : m = j := by omega
          have hbf : badF k m 0 P = false := by
            rw [HE.out, List.drop_of_length_le (by have := HN.out; omega), badF]
          have HR3 := Lib.hid (show r = 0 by rw [← HR2.out, hbf]; rfl)
          clear hbf hkr
          go_wp2_with fail
          go_ret
          exact ⟨by rw [HR3.out]; rfl, HKS.out.then_ HKR.out (fun _ h => h.elim)⟩

set_option maxRecDepth 100000 in
theorem check_any (ok : Nat → Prop) (f : Fm) (v : Value) (w : World) (hlt : ∀ i, ok i → i < w.heap.size) (hv : FmR w ok v f) :
    Calls Try.prog 14 #[v] w fun e w' => e = .returned (.int .i64 (if deepB 8 f then 14 else checkR f)) ∧ Kp (fun _ => False) w w' := by
  have HD := Lib.hid (fun o => deep_any 8 (by omega) ok v f (w.alloc o) (hv.kp ((Kp.refl (fun _ => False) w).alloc o) (fun _ _ h => h)))
  have HC := Lib.hid (fun W (hk : Kp (fun _ => False) w W) => chk_any ok f v W (fun i hi => Nat.lt_of_lt_of_le (hlt i hi) hk.size) (hv.kp hk (fun _ _ h => h)))
  obtain ⟨sv, rfl, hok, A, c, rfl, _, _, _⟩ := hv
  have HK := Lib.hid (show ∀ o, Kp (fun _ => False) w (w.alloc o) from fun o => (Kp.refl _ _).alloc o)
  have HB := Lib.hid (Blk.new w 27 #[.int .i64 f.a.k, .int .i64 f.a.s, .int .i64 f.a.lo, .int .i64 f.a.hi, .int .i64 f.a.st, .slice A f.l.length c])
  generalize deepB 8 f = d at HD ⊢
  generalize checkR f = r at HC ⊢
  have hdd : (if d = true then (14 : Int) else r) = if d then 14 else r := rfl
  clear hok hlt
  cases d
  · show Calls Try.prog 14 _ w fun e w' => e = .returned (.int .i64 r) ∧ Kp (fun _ => False) w w'
    clear hdd
    go_enter Try.func14, Try.ntmps14
    go_wp2_with fail
    refine (HD.out _).mono ?_
    rintro e w1 ⟨rfl, hk1⟩
    have HK1 := Lib.hid ((HK.out _).then_ hk1 (fun _ h => h.elim))
    have hb1 := HB.out.kp hk1 (fun h => h)
    have c0 := hb1.cell 0
    have c1 := hb1.cell 1
    have c2 := hb1.cell 2
    have c3 := hb1.cell 3
    have c4 := hb1.cell 4
    have c5 := hb1.cell 5
    simp at c0 c1 c2 c3 c4 c5
    clear hk1 hb1
    go_wp2_with fail
    refine (HC.out _ HK1.out).mono ?_
    rintro e w2 ⟨rfl, hk2⟩
    have hk := HK1.out.then_ hk2 (fun _ h => h.elim)
    go_wp2_with fail
    go_ret
    exact ⟨rfl, hk⟩
  · show Calls Try.prog 14 _ w fun e w' => e = .returned (.int .i64 14) ∧ Kp (fun _ => False) w w'
    clear hdd
    go_enter Try.func14, Try.ntmps14
    go_wp2_with fail
    refine (HD.out _).mono ?_
    rintro e w1 ⟨rfl, hk1⟩
    have hk := (HK.out _).then_ hk1 (fun _ h => h.elim)
    go_wp2_with fail
    go_ret
    exact ⟨rfl, hk⟩
end Go.Proofs.Ytfcghajnnllmhaa
