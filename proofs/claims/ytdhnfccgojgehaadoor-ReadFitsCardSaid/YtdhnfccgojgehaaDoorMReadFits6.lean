/-
  The law ReadFits: for every input it returns true, and its arguments read behind the call as before it. No condition.
-/
import Derived.Test.YtdhnfccgojgehaaDoorProg
import Derived.Lib.SmallJoins
import Derived.Test.YtdhnfccgojgehaaDoorRows
import Derived.Test.YtdhnfccgojgehaaDoorCards
import Derived.Test.YtdhnfccgojgehaaDoorTie
import Derived.SevenTiedAt
import Derived.ProofKit
import Derived.LaidMore
import Derived.Stop.Joined
import Derived.Test.YtdhnfccgojgehaaDoorMReadFits1
import Derived.Test.YtdhnfccgojgehaaDoorMReadFits4
import Derived.Test.YtdhnfccgojgehaaDoorMReadFits5

set_option linter.unusedVariables false
set_option linter.unusedSimpArgs false
namespace Go.Proofs.YtdhnfccgojgehaaDoor
open Go.RowKit

/-- What is read of other bytes, one more or one fewer, is another thing. -/
theorem fits_other {f : Fm} {b b' : List UInt8} {x x' : Vt} {o o' h : Int} (hz : szF f ≤ 100000) (hb : b.length ≤ 140737488351232) (hb' : b'.length ≤ 140737488351232) (hR : readAll false f b = (x, o, 0)) (hR' : readAll false f b' = (x', o', h)) (hne : b.length ≠ b'.length) : (h == 0) = true → sameV x x' = false := by
 intro hh
 have h0 : h = 0 := by simpa using hh
 subst h0
 have p1 := (all_fits hR hz hb).1
 have p2 := (all_fits hR' hz hb').1
 have e1 : o = b.length := by
  obtain ⟨_, r, q, _, ho, hr⟩ := all_ok hR hz hb
  have := hr rfl
  subst this
  simpa using ho
 have e2 : o' = b'.length := by
  obtain ⟨_, r, q, _, ho, hr⟩ := all_ok hR' hz hb'
  have := hr rfl
  subst this
  simpa using ho
 cases hs : sameV x x' with
 | false => rfl
 | true =>
  have := (sameV_iff x x').1 hs
  subst this
  rw [p1] at p2
  injection p2 with p2 _
  omega

set_option maxRecDepth 100000 in
set_option maxHeartbeats 6400000 in
theorem rfits_walk (w : World) (tab : Tab06 w) (v : Value) (f : Fm) (hv : FmR w (· < w.heap.size) v f) (bv : Value) (b : List UInt8) (hb : BR w (· < w.heap.size) bv b) (_hl : b.length ≤ 140737488351232) (d : UInt8) :
  Calls Tryd.prog 3 #[v, bv, .int .u8 (d.toNat : Int)] w fun e w' => e = .returned (.bool true) ∧ Below w.heap.size w w' := by
 refine Calls.mono (R := fun e w' => e = .returned (.bool true) ∧ Kp (fun _ => False) w w') ?_ fun _ _ ⟨h1, h2⟩ => ⟨h1, h2.below⟩
 obtain ⟨Ab, cb, rfl, hbc, _⟩ := id hb
 obtain ⟨⟨k, s, lo, hi, st⟩, P⟩ := f
 obtain ⟨A0, c0, rfl⟩ : ∃ A c, v = fv ⟨k, s, lo, hi, st⟩ A P.length c := hv.fv_
 have ka : Kp (fun _ => False) w (w.alloc (.cells #[.int .i64 k, .int .i64 s, .int .i64 lo, .int .i64 hi, .int .i64 st, .slice A0 P.length c0] 24)) := (Kp.refl _ w).alloc _
 have HBF := Lib.hid (Blk.new w 24 #[.int .i64 k, .int .i64 s, .int .i64 lo, .int .i64 hi, .int .i64 st, .slice A0 P.length c0])
 have HKA := Lib.hid ka
 have HAL := Lib.hid (fun W (hk : Kp (fun _ => False) w W) => alive06_any W (tab.kp hk (fun h => h)))
 have HFV := Lib.hid (fun W (hk : Kp (fun _ => False) w W) => show FmR W (· < w.heap.size) (fv ⟨k, s, lo, hi, st⟩ A0 P.length c0) (.mk ⟨k, s, lo, hi, st⟩ P) from hv.kp hk (fun _ _ h => h))
 have HTB := Lib.hid (fun W (hk : Kp (fun _ => False) w W) => (show Tab06 W from tab.kp hk (fun h => h)))
 have HOK := Lib.hid (okk tab)
 have HGR := Lib.hid (fun W (hk : Kp (fun _ => False) w W) => great06_any (· < w.heap.size) (.mk ⟨k, s, lo, hi, st⟩ P) (fv ⟨k, s, lo, hi, st⟩ A0 P.length c0) _ b (· < w.heap.size) W (hv.kp hk (fun _ _ h => h)) (hb.kp hk (fun _ _ h => h)))
 have HBR := Lib.hid (fun W (hk : Kp (fun _ => False) w W) => hb.kp hk (fun _ _ h => h))
 have HBC := Lib.hid hbc
 clear ka hv tab hb hbc
 go_enter Tryd.func3, Tryd.ntmps3
 go_upto_region 1 with fail
 generalize w.alloc (.cells #[.int .i64 k, .int .i64 s, .int .i64 lo, .int .i64 hi, .int .i64 st, .slice A0 P.length c0] 24) = W0 at HBF HKA ⊢
 have HA0 := Lib.hid (HAL.out W0 HKA.out)
 go_wp2_with fail
 refine HA0.out.mono ?_
 rintro e w1 ⟨rfl, hk1⟩
 have HK1 := Lib.hid (HKA.out.then_ hk1 (fun _ h => h.elim))
 have HBF1 := Lib.hid (HBF.out.kp hk1 (fun h => h))
 have f0 := HBF1.out.cell 0
 have f1 := HBF1.out.cell 1
 have f2 := HBF1.out.cell 2
 have f3 := HBF1.out.cell 3
 have f4 := HBF1.out.cell 4
 have f5 := HBF1.out.cell 5
 simp at f0 f1 f2 f3 f4 f5
 clear hk1 HA0 HBF HKA
 have HG1 := Lib.hid (HGR.out w1 HK1.out)
 obtain ⟨gr, hgr⟩ : ∃ gr, (decide (500 < cntR 500 (.mk ⟨k, s, lo, hi, st⟩ P)) || decide (2000 < b.length)) = gr := ⟨_, rfl⟩
 rw [hgr] at HG1
 have HGE := Lib.hid hgr
 clear hgr
 cases gr with
 | true =>
  go_wp2_with fail
  refine HG1.out.mono ?_
  rintro e w2 ⟨rfl, hk⟩
  have HK2 := Lib.hid (HK1.out.then_ hk (fun _ h => h.elim))
  have HBF2 := Lib.hid (HBF1.out.kp hk (fun h => h))
  clear hk f0 f1 f2 f3 f4 f5 HG1 HBF1
  have g0 := HBF2.out.cell 0
  have g1 := HBF2.out.cell 1
  have g2 := HBF2.out.cell 2
  have g3 := HBF2.out.cell 3
  have g4 := HBF2.out.cell 4
  have g5 := HBF2.out.cell 5
  simp at g0 g1 g2 g3 g4 g5
  have HAZ := Lib.hid (HAL.out _ HK2.out)
  go_wp2_with fail
  refine HAZ.out.mono ?_
  rintro e w9 ⟨rfl, hk9⟩
  have HK9 := Lib.hid (HK2.out.then_ hk9 (fun _ h => h.elim))
  clear hk9
  go_wp2_with fail
  go_ret
  exact ⟨rfl, HK9.out⟩
 | false =>
  have hge := HGE.out
  rw [Bool.or_eq_false_iff, decide_eq_false_iff_not, decide_eq_false_iff_not] at hge
  have hsz := sz_ok hge.1
  have hbl : b.length ≤ 2000 := by omega
  clear hge
  go_wp2_with fail
  refine HG1.out.mono ?_
  rintro e w4 ⟨rfl, hk⟩
  have HK4 := Lib.hid (HK1.out.then_ hk (fun _ h => h.elim))
  have HBF4 := Lib.hid (HBF1.out.kp hk (fun h => h))
  clear hk f0 f1 f2 f3 f4 f5 HG1 HBF1
  have g0 := HBF4.out.cell 0
  have g1 := HBF4.out.cell 1
  have g2 := HBF4.out.cell 2
  have g3 := HBF4.out.cell 3
  have g4 := HBF4.out.cell 4
  have g5 := HBF4.out.cell 5
  simp at g0 g1 g2 g3 g4 g5
  obtain ⟨⟨x, o, er⟩, hRA⟩ : ∃ RA, readAll false (.mk ⟨k, s, lo, hi, st⟩ P) b = RA := ⟨_, rfl⟩
  obtain ⟨n5, l5, l6, rfl⟩ := vt_parts x
  have HR := Lib.hid (read_at (· < w.heap.size) (.mk ⟨k, s, lo, hi, st⟩ P) (fv ⟨k, s, lo, hi, st⟩ A0 P.length c0) (.slice Ab b.length cb) b 0 w4 n5 l5 l6 o er hRA hsz (HFV.out w4 HK4.out) (HBR.out w4 HK4.out) (fun i hi => Nat.lt_of_lt_of_le hi HK4.out.size) HOK.out (by omega) (by omega) (by omega) (HTB.out w4 HK4.out))
  simp only [Int.zero_add] at HR
  obtain ⟨ho1, ho2⟩ := all_place hsz (by omega) hRA
  by_cases her : er = 0
  rotate_left
  ·have hner : (er != 0) = true := by simpa using her
   have hx := all_err hRA her
   injection hx with hx1 hx2
   injection hx1 with hx1 hx3
   subst hx1 hx2 hx3
   clear her hRA
   go_upto_region 5 with (go_at_call 12; refine HR.out.mono ?_; rintro e w5 ⟨A1, c1, A2, c2, rfl, hv, hk⟩)
   have hk6 := hk.then_ ((Kp.refl (fun _ => False) w5).alloc (.cells #[.int .u64 0, .slice A1 ([] : List UInt8).length c1, .slice A2 ([] : List Vt).length c2] 31)) (fun _ h => h.elim)
   have HV6 := Lib.hid (hv.kp ((Kp.refl (fun _ => False) w5).alloc (.cells #[.int .u64 0, .slice A1 ([] : List UInt8).length c1, .slice A2 ([] : List Vt).length c2] 31)) (fun _ _ h => h))
   have HBV := Lib.hid (Blk.new w5 31 #[.int .u64 0, .slice A1 ([] : List UInt8).length c1, .slice A2 ([] : List Vt).length c2])
   simp only [List.length_nil] at hk6 HV6 HBV ⊢
   generalize w5.heap.size = V1 at HBV ⊢
   generalize w5.alloc (.cells #[.int .u64 0, .slice A1 0 c1, .slice A2 0 c2] 31) = W6 at hk6 HV6 HBV ⊢
   have HK6 := Lib.hid (HK4.out.then_ hk6 (fun _ h => h.elim))
   have HSM := Lib.hid (same05_any _ (fun _ => True) _ (.mk ⟨0, []⟩ []) _ _ W6 HV6.out VtR.zero)
   rw [sameV_refl] at HSM
   clear hv hk hk6 HR HBF4 g0 g1 g2 g3 g4 g5
   have v0 := HBV.out.cell 0
   have v1 := HBV.out.cell 1
   have v2 := HBV.out.cell 2
   simp at v0 v1 v2
   go_wp2_with fail
   refine HSM.out.mono ?_
   rintro e w10 ⟨rfl, hk10⟩
   have HK10 := Lib.hid (HK6.out.then_ hk10 (fun _ h => h.elim))
   clear hk10
   go_wp2_with fail
   go_ret
   exact ⟨rfl, HK10.out⟩
  subst her
  have hof : o = (b.length : Int) := by
   obtain ⟨_, r, q, _, ho, hr⟩ := all_ok hRA hsz (by omega)
   have := hr rfl
   subst this
   simpa using ho
  subst hof
  have HSZ := Lib.hid (all_fits hRA hsz (by omega)).1
  have HRA := Lib.hid hRA
  clear hRA ho1 ho2
  go_upto_region 6 with (go_at_call 12; refine HR.out.mono ?_; rintro e w5 ⟨A1, c1, A2, c2, rfl, hv, hk⟩)
  have hk6 := hk.then_ ((Kp.refl (fun _ => False) w5).alloc (.cells #[.int .u64 n5, .slice A1 l5.length c1, .slice A2 l6.length c2] 31)) (fun _ h => h.elim)
  have HV6 := Lib.hid ((hv.kp ((Kp.refl (fun _ => False) w5).alloc (.cells #[.int .u64 n5, .slice A1 l5.length c1, .slice A2 l6.length c2] 31)) (fun _ _ h => h)).ltx)
  have HBV := Lib.hid (Blk.new w5 31 #[.int .u64 n5, .slice A1 l5.length c1, .slice A2 l6.length c2])
  generalize w5.heap.size = V1 at HBV ⊢
  generalize w5.alloc (.cells #[.int .u64 n5, .slice A1 l5.length c1, .slice A2 l6.length c2] 31) = W6 at hk6 HV6 HBV ⊢
  have HK6 := Lib.hid (HK4.out.then_ hk6 (fun _ h => h.elim))
  have HBF6 := Lib.hid (HBF4.out.kp hk6 (fun h => h))
  clear hv hk hk6 HR HBF4 g0 g1 g2 g3 g4 g5
  have HFT := Lib.hid (fits05_any (· < w.heap.size) _ _ (.mk ⟨n5, l5⟩ l6) (fv ⟨k, s, lo, hi, st⟩ A0 P.length c0) _ W6 (HFV.out W6 HK6.out) HV6.out)
  rw [HSZ.out] at HFT
  have v0 := HBV.out.cell 0
  have v1 := HBV.out.cell 1
  have v2 := HBV.out.cell 2
  simp at v0 v1 v2
  have g0 := HBF6.out.cell 0
  have g1 := HBF6.out.cell 1
  have g2 := HBF6.out.cell 2
  have g3 := HBF6.out.cell 3
  have g4 := HBF6.out.cell 4
  have g5 := HBF6.out.cell 5
  simp at g0 g1 g2 g3 g4 g5
  go_upto_region 9 with (go_at_call 14; refine HFT.out.mono ?_; rintro e w7 ⟨rfl, hk7⟩)
  have HK7 := Lib.hid (HK6.out.then_ hk7 (fun _ h => h.elim))
  have HBF7 := Lib.hid (HBF6.out.kp hk7 (fun h => h))
  have HV7 := Lib.hid (HV6.out.kp hk7 (fun _ _ h => h))
  have HBV7 := Lib.hid (HBV.out.kp hk7 (fun h => h))
  clear hk7 HK6 HBF6 HV6 HBV HFT HSZ v0 v1 v2 g0 g1 g2 g3 g4 g5
  obtain ⟨bm, hbm⟩ : ∃ bm, bm = b ++ [d] := ⟨_, rfl⟩
  have hbml : bm.length ≤ 2500 := by rw [hbm, List.length_append]; simp; omega
  have hbmn : b.length ≠ bm.length := by rw [hbm, List.length_append]; simp
  have HBL := Lib.hid (show b.length + 1 = bm.length by rw [hbm, List.length_append]; rfl)
  have HBM := Lib.hid hbm
  clear hbm
  obtain ⟨⟨x2, o2, er2⟩, hR2⟩ : ∃ RA, readAll false (.mk ⟨k, s, lo, hi, st⟩ P) bm = RA := ⟨_, rfl⟩
  obtain ⟨m5, m6, m7, rfl⟩ := vt_parts x2
  have HNE := Lib.hid (fits_other hsz (by omega) (by omega) HRA.out hR2 hbmn)
  have HR2 := Lib.hid hR2
  clear hR2 hbmn
  have HSE := Lib.hid (fun Wx (hk : Kp (fun _ => False) w7 Wx) => show (fun w' : World => w'.cell? ⟨w.heap.size, 0, none⟩ = some (.int .i64 k) ∧ w'.cell? ⟨w.heap.size, 1, none⟩ = some (.int .i64 s) ∧ w'.cell? ⟨w.heap.size, 2, none⟩ = some (.int .i64 lo) ∧ w'.cell? ⟨w.heap.size, 3, none⟩ = some (.int .i64 hi) ∧ w'.cell? ⟨w.heap.size, 4, none⟩ = some (.int .i64 st) ∧ w'.cell? ⟨w.heap.size, 5, none⟩ = some (.slice A0 P.length c0)) Wx from by have hb := HBF7.out.kp hk (fun h => h); exact ⟨hb.cell 0, hb.cell 1, hb.cell 2, hb.cell 3, hb.cell 4, hb.cell 5⟩)
  have HSK := Lib.hid (fun Wx (hk : Kp (w7.heap.size ≤ ·) w7 Wx) => HSE.out Wx (hk.mono (fun i hi h => by omega)))
  have HKX := Lib.hid (fun Wx (hk : Kp (w7.heap.size ≤ ·) w7 Wx) => HK7.out.then_ (hk.mono (T := fun _ => False) (fun i hi h => by omega)) (fun _ h => h.elim))
  have HPX := Lib.hid (fun Wx A c (hk : Kp (w7.heap.size ≤ ·) w7 Wx) (hr : BR Wx (· < Wx.heap.size) (.slice A bm.length c) bm) => read_at (· < Wx.heap.size) (.mk ⟨k, s, lo, hi, st⟩ P) (fv ⟨k, s, lo, hi, st⟩ A0 P.length c0) (.slice A bm.length c) bm 0 Wx m5 m6 m7 o2 er2 HR2.out hsz ((HFV.out Wx (HKX.out Wx hk)).mono (fun i hi => Nat.lt_of_lt_of_le hi (HKX.out Wx hk).size)) hr (fun i hi => hi) (Nat.lt_of_lt_of_le HOK.out (HKX.out Wx hk).size) (by omega) (by omega) (by omega) (HTB.out Wx (HKX.out Wx hk)))
  simp only [Int.zero_add] at HPX
  go_cut [12, 13, 14] (fun p c e wx => ∃ V A3 c3 A4 c4, p = .pointer (some ⟨V, 0, none⟩) ∧ c = .int .i64 o2 ∧ e = .int .i64 er2 ∧ Rend w7 wx V m5 (.slice A3 m6.length c3) (.slice A4 m7.length c4) (.mk ⟨m5, m6⟩ m7))
  case first =>
   refine wp_region_noPanic ?_
   have HS0 := Lib.hid (Ra.start w7)
   refine wp_region_held_drew (S := (fun w' : World => w'.cell? ⟨w.heap.size, 0, none⟩ = some (.int .i64 k) ∧ w'.cell? ⟨w.heap.size, 1, none⟩ = some (.int .i64 s) ∧ w'.cell? ⟨w.heap.size, 2, none⟩ = some (.int .i64 lo) ∧ w'.cell? ⟨w.heap.size, 3, none⟩ = some (.int .i64 hi) ∧ w'.cell? ⟨w.heap.size, 4, none⟩ = some (.int .i64 st) ∧ w'.cell? ⟨w.heap.size, 5, none⟩ = some (.slice A0 P.length c0))) (by kernel_rfl) (HSK.out _ HS0.out.kp) (fun hHeld => ?_)
   generalize w7.drew = y0 at HS0 hHeld ⊢
   refine wpAnyH_take (i := 0) (v := ?vx0) (by simp only [List.getElem?_toArray, List.getElem?_cons_zero]; rfl) (by kernel_rfl) (by kernel_rfl) (by kernel_rfl) (fun _ _ _ h => h) (Or.inl ⟨by rfl, ?hyx0⟩) (by assumption) ?restx0
   case hyx0 => (intro w hSw; (try dsimp only at hSw); go_simp; (try with_reducible rfl))
   try simp only [Act.put, List.setIfInBounds_toArray, List.set_cons_zero, List.set_cons_succ]
   refine wpAnyH_take (i := 2) (v := ?vx2) (by simp only [List.getElem?_toArray, List.getElem?_cons_succ, List.getElem?_cons_zero]; rfl) (by kernel_rfl) (by kernel_rfl) (by kernel_rfl) (fun _ _ _ h => h) (Or.inl ⟨by rfl, ?hyx2⟩) (by assumption) ?restx2
   case hyx2 => (intro w hSw; (try dsimp only at hSw); go_simp; (try with_reducible rfl))
   try simp only [Act.put, List.setIfInBounds_toArray, List.set_cons_zero, List.set_cons_succ]
   refine wpAnyH_take (i := 4) (v := ?vx4) (by simp only [List.getElem?_toArray, List.getElem?_cons_succ, List.getElem?_cons_zero]; rfl) (by kernel_rfl) (by kernel_rfl) (by kernel_rfl) (fun _ _ _ h => h) (Or.inl ⟨by rfl, ?hyx4⟩) (by assumption) ?restx4
   case hyx4 => (intro w hSw; (try dsimp only at hSw); go_simp; (try with_reducible rfl))
   try simp only [Act.put, List.setIfInBounds_toArray, List.set_cons_zero, List.set_cons_succ]
   refine wpAnyH_ready (rs := [1, 5, 12]) (by kernel_rfl) (by simp) ?_
   refine (AllReadyH.cons (o := _) rfl (fun K hK => ?_) (AllReadyH.cons (o := _) rfl (fun K hK => ?_) (AllReadyH.cons (o := _) rfl (fun K hK => ?_) AllReadyH.nil)))
   ·go_simp
    have HS1 := Lib.hid (Ra.lit HS0.out)
    generalize y0.alloc (.cells #[] 5) = y1 at HS1 ⊢
    generalize y0.heap.size = gA at HS1 ⊢
    clear HS0
    try dsimp only
    refine hK.out _ _ (HSK.out _ HS1.out.1.kp) (fun hHeld => ?_)
    clear hK K
    refine wpAnyH_ready (rs := [3, 5, 12]) (by kernel_rfl) (by simp) ?_
    refine (AllReadyH.cons (o := _) rfl (fun K hK => ?_) (AllReadyH.cons (o := _) rfl (fun K hK => ?_) (AllReadyH.cons (o := _) rfl (fun K hK => ?_) AllReadyH.nil)))
    ·refine step_app_row rfl (.tmp 70) (.tmp 71) rfl _ _ _ [] (by simp [Act.eval]) HS1.out.2 (· < w.heap.size) Ab b.length cb b (by simp [Act.eval]) rfl (HBR.out y1 (HKX.out y1 HS1.out.1.kp)) (b.length) (by simp) (by omega) ?_
     intro A5 c5 y2 ho hk
     have HS2 := Lib.hid (Rr.app HS1.out ho hk)
     rw [List.nil_append] at HS2
     clear ho hk
     try simp only [Act.put, List.setIfInBounds_toArray, List.set_cons_zero, List.set_cons_succ]
     clear HS1
     try dsimp only
     refine hK.out _ _ (HSK.out _ HS2.out.1.kp) (fun hHeld => ?_)
     clear hK K
     refine wpAnyH_ready (rs := [5, 12]) (by kernel_rfl) (by simp) ?_
     refine (AllReadyH.cons (o := _) rfl (fun K hK => ?_) (AllReadyH.cons (o := _) rfl (fun K hK => ?_) AllReadyH.nil))
     ·go_simp
      have HS3 := Lib.hid (Rr.byte HS2.out d #[.int .u8 (d.toNat : Int)] rfl)
      generalize y2.alloc (.cells #[.int .u8 (d.toNat : Int)] 5) = y3 at HS3 ⊢
      generalize y2.heap.size = gB at HS3 ⊢
      clear HS2
      try dsimp only
      refine hK.out _ _ (HSK.out _ HS3.out.1.kp) (fun hHeld => ?_)
      clear hK K
      refine wpAnyH_ready (rs := [6, 12]) (by kernel_rfl) (by simp) ?_
      refine (AllReadyH.cons (o := _) rfl (fun K hK => ?_) (AllReadyH.cons (o := _) rfl (fun K hK => ?_) AllReadyH.nil))
      ·refine step_app_row rfl (.tmp 72) (.tmp 74) rfl A5 b.length c5 b (by simp [Act.eval]) HS3.out.2 (fun j => j = gB) (some ⟨gB, 0, none⟩) 1 1 [d] (by simp [Act.eval]) rfl (Ra.one HS3.out.1) (bm.length) (HBL.out) (by omega) ?_
       intro A6 c6 y4 ho hk
       have HS4 := Lib.hid (Rr.app HS3.out ho hk)
       rw [← HBM.out] at HS4
       clear ho hk
       try simp only [Act.put, List.setIfInBounds_toArray, List.set_cons_zero, List.set_cons_succ]
       clear HS3
       try dsimp only
       refine hK.out _ _ (HSK.out _ HS4.out.1.kp) (fun hHeld => ?_)
       clear hK K
       refine wpAnyH_ready (rs := [7, 12]) (by kernel_rfl) (by simp) ?_
       refine (AllReadyH.cons (o := _) rfl (fun K hK => ?_) (AllReadyH.cons (o := _) rfl (fun K hK => ?_) AllReadyH.nil))
       ·go_simp
        refine (HPX.out y4 A6 c6 HS4.out.1.kp (Rr.read HS4.out rfl)).mono ?_
        rintro e y5 ⟨A3, c3, A4, c4, rfl, hv, hk⟩
        have HS5 := Lib.hid (Ra.call HS4.out.1 hk hv)
        clear hv hk
        clear HS4
        try dsimp only
        refine hK.out _ _ (HSK.out _ HS5.out.1.kp) (fun hHeld => ?_)
        clear hK K
        refine wpAnyH_take (i := 8) (v := ?vxl0_8) (by simp only [List.getElem?_toArray, List.getElem?_cons_succ, List.getElem?_cons_zero]; rfl) (by kernel_rfl) (by kernel_rfl) (by kernel_rfl) (fun _ _ _ h => h) (Or.inl ⟨by rfl, ?hyxl0_8⟩) (by assumption) ?restxl0_8
        case hyxl0_8 => (intro w hSw; (try dsimp only at hSw); go_simp; (try with_reducible rfl))
        try simp only [Act.put, List.setIfInBounds_toArray, List.set_cons_zero, List.set_cons_succ]
        refine wpAnyH_take (i := 9) (v := ?vxl0_9) (by simp only [List.getElem?_toArray, List.getElem?_cons_succ, List.getElem?_cons_zero]; rfl) (by kernel_rfl) (by kernel_rfl) (by kernel_rfl) (fun _ _ _ h => h) (Or.inl ⟨by rfl, ?hyxl0_9⟩) (by assumption) ?restxl0_9
        case hyxl0_9 => (intro w hSw; (try dsimp only at hSw); go_simp; (try with_reducible rfl))
        try simp only [Act.put, List.setIfInBounds_toArray, List.set_cons_zero, List.set_cons_succ]
        refine wpAnyH_take (i := 10) (v := ?vxl0_10) (by simp only [List.getElem?_toArray, List.getElem?_cons_succ, List.getElem?_cons_zero]; rfl) (by kernel_rfl) (by kernel_rfl) (by kernel_rfl) (fun _ _ _ h => h) (Or.inl ⟨by rfl, ?hyxl0_10⟩) (by assumption) ?restxl0_10
        case hyxl0_10 => (intro w hSw; (try dsimp only at hSw); go_simp; (try with_reducible rfl))
        try simp only [Act.put, List.setIfInBounds_toArray, List.set_cons_zero, List.set_cons_succ]
        refine wpAnyH_take (i := 11) (v := ?vxl0_11) (by simp only [List.getElem?_toArray, List.getElem?_cons_succ, List.getElem?_cons_zero]; rfl) (by kernel_rfl) (by kernel_rfl) (by kernel_rfl) (fun _ _ _ h => h) (Or.inl ⟨by rfl, ?hyxl0_11⟩) (by assumption) ?restxl0_11
        case hyxl0_11 => (intro w hSw; (try dsimp only at hSw); go_simp; (try with_reducible rfl))
        try simp only [Act.put, List.setIfInBounds_toArray, List.set_cons_zero, List.set_cons_succ]
        refine wpAnyH_ready (rs := [12]) (by kernel_rfl) (by simp) ?_
        refine (AllReadyH.cons (o := _) rfl (fun K hK => ?_) AllReadyH.nil)
        go_simp
        have HS6 := Lib.hid (Rc.more HS5.out)
        generalize y5.alloc (.cells #[.int .u64 0, .slice none 0 0, .slice none 0 0] 31) = y6 at HS6 ⊢
        generalize y5.heap.size = V2 at HS6 ⊢
        clear HS5
        try dsimp only
        refine hK.out _ _ (HSK.out _ HS6.out.1.kp) (fun hHeld => ?_)
        clear hK K
        refine wpAnyH_ready (rs := [13]) (by kernel_rfl) (by simp) ?_
        refine (AllReadyH.cons (o := _) rfl (fun K hK => ?_) AllReadyH.nil)
        have hzb := (HS6.out.1.2.1 V2 rfl).2
        have z0 := hzb.cell 0
        have z1 := hzb.cell 1
        have z2 := hzb.cell 2
        simp at z0 z1 z2
        have q0 := hzb.frozen 0
        have q1 := hzb.frozen 1
        have q2 := hzb.frozen 2
        clear hzb
        have HE := Lib.hid (Rc.fin HS6.out)
        go_simp
        try dsimp only
        refine hK.out _ _ (HSE.out _ (HE.out.1)) (fun hHeld => ?_)
        clear hK K z0 z1 z2 q0 q1 q2
        refine wpAnyH_take (i := 14) (v := ?vxa1_14) (by simp only [List.getElem?_toArray, List.getElem?_cons_succ, List.getElem?_cons_zero]; rfl) (by kernel_rfl) (by kernel_rfl) (by kernel_rfl) (fun _ _ _ h => h) (Or.inl ⟨by rfl, ?hyxa1_14⟩) (by assumption) ?restxa1_14
        case hyxa1_14 => (intro w hSw; (try dsimp only at hSw); go_simp; (try with_reducible rfl))
        try simp only [Act.put, List.setIfInBounds_toArray, List.set_cons_zero, List.set_cons_succ]
        refine wpAnyH_take (i := 15) (v := ?vxa1_15) (by simp only [List.getElem?_toArray, List.getElem?_cons_succ, List.getElem?_cons_zero]; rfl) (by kernel_rfl) (by kernel_rfl) (by kernel_rfl) (fun _ _ _ h => h) (Or.inl ⟨by rfl, ?hyxa1_15⟩) (by assumption) ?restxa1_15
        case hyxa1_15 => (intro w hSw; (try dsimp only at hSw); go_simp; (try with_reducible rfl))
        try simp only [Act.put, List.setIfInBounds_toArray, List.set_cons_zero, List.set_cons_succ]
        refine wpAnyH_done (by kernel_rfl) ?_ _
        refine NoPanic.normal ?_
        go_wp2_with fail
        go_meet
        exact ⟨V2, A3, c3, A4, c4, rfl, rfl, rfl, HE.out⟩
       ·go_simp
        have HS5 := Lib.hid (Rr.more HS4.out)
        generalize y4.alloc (.cells #[.int .u64 0, .slice none 0 0, .slice none 0 0] 31) = y5 at HS5 ⊢
        generalize y4.heap.size = V2 at HS5 ⊢
        clear HS4
        try dsimp only
        refine hK.out _ _ (HSK.out _ HS5.out.1.kp) (fun hHeld => ?_)
        clear hK K
        refine wpAnyH_ready (rs := [7]) (by kernel_rfl) (by simp) ?_
        refine (AllReadyH.cons (o := _) rfl (fun K hK => ?_) AllReadyH.nil)
        go_simp
        refine (HPX.out y5 A6 c6 HS5.out.1.kp (Rr.read HS5.out rfl)).mono ?_
        rintro e y6 ⟨A3, c3, A4, c4, rfl, hv, hk⟩
        have HS6 := Lib.hid (Ra.call HS5.out.1 hk hv)
        clear hv hk
        clear HS5
        try dsimp only
        refine hK.out _ _ (HSK.out _ HS6.out.1.kp) (fun hHeld => ?_)
        clear hK K
        refine wpAnyH_take (i := 8) (v := ?vxl2_8) (by simp only [List.getElem?_toArray, List.getElem?_cons_succ, List.getElem?_cons_zero]; rfl) (by kernel_rfl) (by kernel_rfl) (by kernel_rfl) (fun _ _ _ h => h) (Or.inl ⟨by rfl, ?hyxl2_8⟩) (by assumption) ?restxl2_8
        case hyxl2_8 => (intro w hSw; (try dsimp only at hSw); go_simp; (try with_reducible rfl))
        try simp only [Act.put, List.setIfInBounds_toArray, List.set_cons_zero, List.set_cons_succ]
        refine wpAnyH_take (i := 9) (v := ?vxl2_9) (by simp only [List.getElem?_toArray, List.getElem?_cons_succ, List.getElem?_cons_zero]; rfl) (by kernel_rfl) (by kernel_rfl) (by kernel_rfl) (fun _ _ _ h => h) (Or.inl ⟨by rfl, ?hyxl2_9⟩) (by assumption) ?restxl2_9
        case hyxl2_9 => (intro w hSw; (try dsimp only at hSw); go_simp; (try with_reducible rfl))
        try simp only [Act.put, List.setIfInBounds_toArray, List.set_cons_zero, List.set_cons_succ]
        refine wpAnyH_take (i := 10) (v := ?vxl2_10) (by simp only [List.getElem?_toArray, List.getElem?_cons_succ, List.getElem?_cons_zero]; rfl) (by kernel_rfl) (by kernel_rfl) (by kernel_rfl) (fun _ _ _ h => h) (Or.inl ⟨by rfl, ?hyxl2_10⟩) (by assumption) ?restxl2_10
        case hyxl2_10 => (intro w hSw; (try dsimp only at hSw); go_simp; (try with_reducible rfl))
        try simp only [Act.put, List.setIfInBounds_toArray, List.set_cons_zero, List.set_cons_succ]
        refine wpAnyH_take (i := 11) (v := ?vxl2_11) (by simp only [List.getElem?_toArray, List.getElem?_cons_succ, List.getElem?_cons_zero]; rfl) (by kernel_rfl) (by kernel_rfl) (by kernel_rfl) (fun _ _ _ h => h) (Or.inl ⟨by rfl, ?hyxl2_11⟩) (by assumption) ?restxl2_11
        case hyxl2_11 => (intro w hSw; (try dsimp only at hSw); go_simp; (try with_reducible rfl))
        try simp only [Act.put, List.setIfInBounds_toArray, List.set_cons_zero, List.set_cons_succ]
        refine wpAnyH_ready (rs := [13]) (by kernel_rfl) (by simp) ?_
        refine (AllReadyH.cons (o := _) rfl (fun K hK => ?_) AllReadyH.nil)
        have hzb := (HS6.out.1.2.1 V2 rfl).2
        have z0 := hzb.cell 0
        have z1 := hzb.cell 1
        have z2 := hzb.cell 2
        simp at z0 z1 z2
        have q0 := hzb.frozen 0
        have q1 := hzb.frozen 1
        have q2 := hzb.frozen 2
        clear hzb
        have HE := Lib.hid (Rc.fin HS6.out)
        go_simp
        try dsimp only
        refine hK.out _ _ (HSE.out _ (HE.out.1)) (fun hHeld => ?_)
        clear hK K z0 z1 z2 q0 q1 q2
        refine wpAnyH_take (i := 14) (v := ?vxa3_14) (by simp only [List.getElem?_toArray, List.getElem?_cons_succ, List.getElem?_cons_zero]; rfl) (by kernel_rfl) (by kernel_rfl) (by kernel_rfl) (fun _ _ _ h => h) (Or.inl ⟨by rfl, ?hyxa3_14⟩) (by assumption) ?restxa3_14
        case hyxa3_14 => (intro w hSw; (try dsimp only at hSw); go_simp; (try with_reducible rfl))
        try simp only [Act.put, List.setIfInBounds_toArray, List.set_cons_zero, List.set_cons_succ]
        refine wpAnyH_take (i := 15) (v := ?vxa3_15) (by simp only [List.getElem?_toArray, List.getElem?_cons_succ, List.getElem?_cons_zero]; rfl) (by kernel_rfl) (by kernel_rfl) (by kernel_rfl) (fun _ _ _ h => h) (Or.inl ⟨by rfl, ?hyxa3_15⟩) (by assumption) ?restxa3_15
        case hyxa3_15 => (intro w hSw; (try dsimp only at hSw); go_simp; (try with_reducible rfl))
        try simp only [Act.put, List.setIfInBounds_toArray, List.set_cons_zero, List.set_cons_succ]
        refine wpAnyH_done (by kernel_rfl) ?_ _
        refine NoPanic.normal ?_
        go_wp2_with fail
        go_meet
        exact ⟨V2, A3, c3, A4, c4, rfl, rfl, rfl, HE.out⟩
      ·go_simp
       have HS4 := Lib.hid (Rr.more HS3.out)
       generalize y3.alloc (.cells #[.int .u64 0, .slice none 0 0, .slice none 0 0] 31) = y4 at HS4 ⊢
       generalize y3.heap.size = V2 at HS4 ⊢
       clear HS3
       try dsimp only
       refine hK.out _ _ (HSK.out _ HS4.out.1.kp) (fun hHeld => ?_)
       clear hK K
       refine wpAnyH_ready (rs := [6]) (by kernel_rfl) (by simp) ?_
       refine (AllReadyH.cons (o := _) rfl (fun K hK => ?_) AllReadyH.nil)
       refine step_app_row rfl (.tmp 72) (.tmp 74) rfl A5 b.length c5 b (by simp [Act.eval]) HS4.out.2 (fun j => j = gB) (some ⟨gB, 0, none⟩) 1 1 [d] (by simp [Act.eval]) rfl (Ra.one HS4.out.1) (bm.length) (HBL.out) (by omega) ?_
       intro A6 c6 y5 ho hk
       have HS5 := Lib.hid (Rr.app HS4.out ho hk)
       rw [← HBM.out] at HS5
       clear ho hk
       try simp only [Act.put, List.setIfInBounds_toArray, List.set_cons_zero, List.set_cons_succ]
       clear HS4
       try dsimp only
       refine hK.out _ _ (HSK.out _ HS5.out.1.kp) (fun hHeld => ?_)
       clear hK K
       refine wpAnyH_ready (rs := [7]) (by kernel_rfl) (by simp) ?_
       refine (AllReadyH.cons (o := _) rfl (fun K hK => ?_) AllReadyH.nil)
       go_simp
       refine (HPX.out y5 A6 c6 HS5.out.1.kp (Rr.read HS5.out rfl)).mono ?_
       rintro e y6 ⟨A3, c3, A4, c4, rfl, hv, hk⟩
       have HS6 := Lib.hid (Ra.call HS5.out.1 hk hv)
       clear hv hk
       clear HS5
       try dsimp only
       refine hK.out _ _ (HSK.out _ HS6.out.1.kp) (fun hHeld => ?_)
       clear hK K
       refine wpAnyH_take (i := 8) (v := ?vxl4_8) (by simp only [List.getElem?_toArray, List.getElem?_cons_succ, List.getElem?_cons_zero]; rfl) (by kernel_rfl) (by kernel_rfl) (by kernel_rfl) (fun _ _ _ h => h) (Or.inl ⟨by rfl, ?hyxl4_8⟩) (by assumption) ?restxl4_8
       case hyxl4_8 => (intro w hSw; (try dsimp only at hSw); go_simp; (try with_reducible rfl))
       try simp only [Act.put, List.setIfInBounds_toArray, List.set_cons_zero, List.set_cons_succ]
       refine wpAnyH_take (i := 9) (v := ?vxl4_9) (by simp only [List.getElem?_toArray, List.getElem?_cons_succ, List.getElem?_cons_zero]; rfl) (by kernel_rfl) (by kernel_rfl) (by kernel_rfl) (fun _ _ _ h => h) (Or.inl ⟨by rfl, ?hyxl4_9⟩) (by assumption) ?restxl4_9
       case hyxl4_9 => (intro w hSw; (try dsimp only at hSw); go_simp; (try with_reducible rfl))
       try simp only [Act.put, List.setIfInBounds_toArray, List.set_cons_zero, List.set_cons_succ]
       refine wpAnyH_take (i := 10) (v := ?vxl4_10) (by simp only [List.getElem?_toArray, List.getElem?_cons_succ, List.getElem?_cons_zero]; rfl) (by kernel_rfl) (by kernel_rfl) (by kernel_rfl) (fun _ _ _ h => h) (Or.inl ⟨by rfl, ?hyxl4_10⟩) (by assumption) ?restxl4_10
       case hyxl4_10 => (intro w hSw; (try dsimp only at hSw); go_simp; (try with_reducible rfl))
       try simp only [Act.put, List.setIfInBounds_toArray, List.set_cons_zero, List.set_cons_succ]
       refine wpAnyH_take (i := 11) (v := ?vxl4_11) (by simp only [List.getElem?_toArray, List.getElem?_cons_succ, List.getElem?_cons_zero]; rfl) (by kernel_rfl) (by kernel_rfl) (by kernel_rfl) (fun _ _ _ h => h) (Or.inl ⟨by rfl, ?hyxl4_11⟩) (by assumption) ?restxl4_11
       case hyxl4_11 => (intro w hSw; (try dsimp only at hSw); go_simp; (try with_reducible rfl))
       try simp only [Act.put, List.setIfInBounds_toArray, List.set_cons_zero, List.set_cons_succ]
       refine wpAnyH_ready (rs := [13]) (by kernel_rfl) (by simp) ?_
       refine (AllReadyH.cons (o := _) rfl (fun K hK => ?_) AllReadyH.nil)
       have hzb := (HS6.out.1.2.1 V2 rfl).2
       have z0 := hzb.cell 0
       have z1 := hzb.cell 1
       have z2 := hzb.cell 2
       simp at z0 z1 z2
       have q0 := hzb.frozen 0
       have q1 := hzb.frozen 1
       have q2 := hzb.frozen 2
       clear hzb
       have HE := Lib.hid (Rc.fin HS6.out)
       go_simp
       try dsimp only
       refine hK.out _ _ (HSE.out _ (HE.out.1)) (fun hHeld => ?_)
       clear hK K z0 z1 z2 q0 q1 q2
       refine wpAnyH_take (i := 14) (v := ?vxa5_14) (by simp only [List.getElem?_toArray, List.getElem?_cons_succ, List.getElem?_cons_zero]; rfl) (by kernel_rfl) (by kernel_rfl) (by kernel_rfl) (fun _ _ _ h => h) (Or.inl ⟨by rfl, ?hyxa5_14⟩) (by assumption) ?restxa5_14
       case hyxa5_14 => (intro w hSw; (try dsimp only at hSw); go_simp; (try with_reducible rfl))
       try simp only [Act.put, List.setIfInBounds_toArray, List.set_cons_zero, List.set_cons_succ]
       refine wpAnyH_take (i := 15) (v := ?vxa5_15) (by simp only [List.getElem?_toArray, List.getElem?_cons_succ, List.getElem?_cons_zero]; rfl) (by kernel_rfl) (by kernel_rfl) (by kernel_rfl) (fun _ _ _ h => h) (Or.inl ⟨by rfl, ?hyxa5_15⟩) (by assumption) ?restxa5_15
       case hyxa5_15 => (intro w hSw; (try dsimp only at hSw); go_simp; (try with_reducible rfl))
       try simp only [Act.put, List.setIfInBounds_toArray, List.set_cons_zero, List.set_cons_succ]
       refine wpAnyH_done (by kernel_rfl) ?_ _
       refine NoPanic.normal ?_
       go_wp2_with fail
       go_meet
       exact ⟨V2, A3, c3, A4, c4, rfl, rfl, rfl, HE.out⟩
     ·go_simp
      have HS3 := Lib.hid (Rr.more HS2.out)
      generalize y2.alloc (.cells #[.int .u64 0, .slice none 0 0, .slice none 0 0] 31) = y3 at HS3 ⊢
      generalize y2.heap.size = V2 at HS3 ⊢
      clear HS2
      try dsimp only
      refine hK.out _ _ (HSK.out _ HS3.out.1.kp) (fun hHeld => ?_)
      clear hK K
      refine wpAnyH_ready (rs := [5]) (by kernel_rfl) (by simp) ?_
      refine (AllReadyH.cons (o := _) rfl (fun K hK => ?_) AllReadyH.nil)
      go_simp
      have HS4 := Lib.hid (Rr.byte HS3.out d #[.int .u8 (d.toNat : Int)] rfl)
      generalize y3.alloc (.cells #[.int .u8 (d.toNat : Int)] 5) = y4 at HS4 ⊢
      generalize y3.heap.size = gB at HS4 ⊢
      clear HS3
      try dsimp only
      refine hK.out _ _ (HSK.out _ HS4.out.1.kp) (fun hHeld => ?_)
      clear hK K
      refine wpAnyH_ready (rs := [6]) (by kernel_rfl) (by simp) ?_
      refine (AllReadyH.cons (o := _) rfl (fun K hK => ?_) AllReadyH.nil)
      refine step_app_row rfl (.tmp 72) (.tmp 74) rfl A5 b.length c5 b (by simp [Act.eval]) HS4.out.2 (fun j => j = gB) (some ⟨gB, 0, none⟩) 1 1 [d] (by simp [Act.eval]) rfl (Ra.one HS4.out.1) (bm.length) (HBL.out) (by omega) ?_
      intro A6 c6 y5 ho hk
      have HS5 := Lib.hid (Rr.app HS4.out ho hk)
      rw [← HBM.out] at HS5
      clear ho hk
      try simp only [Act.put, List.setIfInBounds_toArray, List.set_cons_zero, List.set_cons_succ]
      clear HS4
      try dsimp only
      refine hK.out _ _ (HSK.out _ HS5.out.1.kp) (fun hHeld => ?_)
      clear hK K
      refine wpAnyH_ready (rs := [7]) (by kernel_rfl) (by simp) ?_
      refine (AllReadyH.cons (o := _) rfl (fun K hK => ?_) AllReadyH.nil)
      go_simp
      refine (HPX.out y5 A6 c6 HS5.out.1.kp (Rr.read HS5.out rfl)).mono ?_
      rintro e y6 ⟨A3, c3, A4, c4, rfl, hv, hk⟩
      have HS6 := Lib.hid (Ra.call HS5.out.1 hk hv)
      clear hv hk
      clear HS5
      try dsimp only
      refine hK.out _ _ (HSK.out _ HS6.out.1.kp) (fun hHeld => ?_)
      clear hK K
      refine wpAnyH_take (i := 8) (v := ?vxl6_8) (by simp only [List.getElem?_toArray, List.getElem?_cons_succ, List.getElem?_cons_zero]; rfl) (by kernel_rfl) (by kernel_rfl) (by kernel_rfl) (fun _ _ _ h => h) (Or.inl ⟨by rfl, ?hyxl6_8⟩) (by assumption) ?restxl6_8
      case hyxl6_8 => (intro w hSw; (try dsimp only at hSw); go_simp; (try with_reducible rfl))
      try simp only [Act.put, List.setIfInBounds_toArray, List.set_cons_zero, List.set_cons_succ]
      refine wpAnyH_take (i := 9) (v := ?vxl6_9) (by simp only [List.getElem?_toArray, List.getElem?_cons_succ, List.getElem?_cons_zero]; rfl) (by kernel_rfl) (by kernel_rfl) (by kernel_rfl) (fun _ _ _ h => h) (Or.inl ⟨by rfl, ?hyxl6_9⟩) (by assumption) ?restxl6_9
      case hyxl6_9 => (intro w hSw; (try dsimp only at hSw); go_simp; (try with_reducible rfl))
      try simp only [Act.put, List.setIfInBounds_toArray, List.set_cons_zero, List.set_cons_succ]
      refine wpAnyH_take (i := 10) (v := ?vxl6_10) (by simp only [List.getElem?_toArray, List.getElem?_cons_succ, List.getElem?_cons_zero]; rfl) (by kernel_rfl) (by kernel_rfl) (by kernel_rfl) (fun _ _ _ h => h) (Or.inl ⟨by rfl, ?hyxl6_10⟩) (by assumption) ?restxl6_10
      case hyxl6_10 => (intro w hSw; (try dsimp only at hSw); go_simp; (try with_reducible rfl))
      try simp only [Act.put, List.setIfInBounds_toArray, List.set_cons_zero, List.set_cons_succ]
      refine wpAnyH_take (i := 11) (v := ?vxl6_11) (by simp only [List.getElem?_toArray, List.getElem?_cons_succ, List.getElem?_cons_zero]; rfl) (by kernel_rfl) (by kernel_rfl) (by kernel_rfl) (fun _ _ _ h => h) (Or.inl ⟨by rfl, ?hyxl6_11⟩) (by assumption) ?restxl6_11
      case hyxl6_11 => (intro w hSw; (try dsimp only at hSw); go_simp; (try with_reducible rfl))
      try simp only [Act.put, List.setIfInBounds_toArray, List.set_cons_zero, List.set_cons_succ]
      refine wpAnyH_ready (rs := [13]) (by kernel_rfl) (by simp) ?_
      refine (AllReadyH.cons (o := _) rfl (fun K hK => ?_) AllReadyH.nil)
      have hzb := (HS6.out.1.2.1 V2 rfl).2
      have z0 := hzb.cell 0
      have z1 := hzb.cell 1
      have z2 := hzb.cell 2
      simp at z0 z1 z2
      have q0 := hzb.frozen 0
      have q1 := hzb.frozen 1
      have q2 := hzb.frozen 2
      clear hzb
      have HE := Lib.hid (Rc.fin HS6.out)
      go_simp
      try dsimp only
      refine hK.out _ _ (HSE.out _ (HE.out.1)) (fun hHeld => ?_)
      clear hK K z0 z1 z2 q0 q1 q2
      refine wpAnyH_take (i := 14) (v := ?vxa7_14) (by simp only [List.getElem?_toArray, List.getElem?_cons_succ, List.getElem?_cons_zero]; rfl) (by kernel_rfl) (by kernel_rfl) (by kernel_rfl) (fun _ _ _ h => h) (Or.inl ⟨by rfl, ?hyxa7_14⟩) (by assumption) ?restxa7_14
      case hyxa7_14 => (intro w hSw; (try dsimp only at hSw); go_simp; (try with_reducible rfl))
      try simp only [Act.put, List.setIfInBounds_toArray, List.set_cons_zero, List.set_cons_succ]
      refine wpAnyH_take (i := 15) (v := ?vxa7_15) (by simp only [List.getElem?_toArray, List.getElem?_cons_succ, List.getElem?_cons_zero]; rfl) (by kernel_rfl) (by kernel_rfl) (by kernel_rfl) (fun _ _ _ h => h) (Or.inl ⟨by rfl, ?hyxa7_15⟩) (by assumption) ?restxa7_15
      case hyxa7_15 => (intro w hSw; (try dsimp only at hSw); go_simp; (try with_reducible rfl))
      try simp only [Act.put, List.setIfInBounds_toArray, List.set_cons_zero, List.set_cons_succ]
      refine wpAnyH_done (by kernel_rfl) ?_ _
      refine NoPanic.normal ?_
      go_wp2_with fail
      go_meet
      exact ⟨V2, A3, c3, A4, c4, rfl, rfl, rfl, HE.out⟩
    ·go_simp
     have HS2 := Lib.hid (Rr.byte HS1.out d #[.int .u8 (d.toNat : Int)] rfl)
     generalize y1.alloc (.cells #[.int .u8 (d.toNat : Int)] 5) = y2 at HS2 ⊢
     generalize y1.heap.size = gB at HS2 ⊢
     clear HS1
     try dsimp only
     refine hK.out _ _ (HSK.out _ HS2.out.1.kp) (fun hHeld => ?_)
     clear hK K
     refine wpAnyH_ready (rs := [3, 12]) (by kernel_rfl) (by simp) ?_
     refine (AllReadyH.cons (o := _) rfl (fun K hK => ?_) (AllReadyH.cons (o := _) rfl (fun K hK => ?_) AllReadyH.nil))
     ·refine step_app_row rfl (.tmp 70) (.tmp 71) rfl _ _ _ [] (by simp [Act.eval]) HS2.out.2 (· < w.heap.size) Ab b.length cb b (by simp [Act.eval]) rfl (HBR.out y2 (HKX.out y2 HS2.out.1.kp)) (b.length) (by simp) (by omega) ?_
      intro A5 c5 y3 ho hk
      have HS3 := Lib.hid (Rr.app HS2.out ho hk)
      rw [List.nil_append] at HS3
      clear ho hk
      try simp only [Act.put, List.setIfInBounds_toArray, List.set_cons_zero, List.set_cons_succ]
      clear HS2
      try dsimp only
      refine hK.out _ _ (HSK.out _ HS3.out.1.kp) (fun hHeld => ?_)
      clear hK K
      refine wpAnyH_ready (rs := [6, 12]) (by kernel_rfl) (by simp) ?_
      refine (AllReadyH.cons (o := _) rfl (fun K hK => ?_) (AllReadyH.cons (o := _) rfl (fun K hK => ?_) AllReadyH.nil))
      ·refine step_app_row rfl (.tmp 72) (.tmp 74) rfl A5 b.length c5 b (by simp [Act.eval]) HS3.out.2 (fun j => j = gB) (some ⟨gB, 0, none⟩) 1 1 [d] (by simp [Act.eval]) rfl (Ra.one HS3.out.1) (bm.length) (HBL.out) (by omega) ?_
       intro A6 c6 y4 ho hk
       have HS4 := Lib.hid (Rr.app HS3.out ho hk)
       rw [← HBM.out] at HS4
       clear ho hk
       try simp only [Act.put, List.setIfInBounds_toArray, List.set_cons_zero, List.set_cons_succ]
       clear HS3
       try dsimp only
       refine hK.out _ _ (HSK.out _ HS4.out.1.kp) (fun hHeld => ?_)
       clear hK K
       refine wpAnyH_ready (rs := [7, 12]) (by kernel_rfl) (by simp) ?_
       refine (AllReadyH.cons (o := _) rfl (fun K hK => ?_) (AllReadyH.cons (o := _) rfl (fun K hK => ?_) AllReadyH.nil))
       ·go_simp
        refine (HPX.out y4 A6 c6 HS4.out.1.kp (Rr.read HS4.out rfl)).mono ?_
        rintro e y5 ⟨A3, c3, A4, c4, rfl, hv, hk⟩
        have HS5 := Lib.hid (Ra.call HS4.out.1 hk hv)
        clear hv hk
        clear HS4
        try dsimp only
        refine hK.out _ _ (HSK.out _ HS5.out.1.kp) (fun hHeld => ?_)
        clear hK K
        refine wpAnyH_take (i := 8) (v := ?vxl8_8) (by simp only [List.getElem?_toArray, List.getElem?_cons_succ, List.getElem?_cons_zero]; rfl) (by kernel_rfl) (by kernel_rfl) (by kernel_rfl) (fun _ _ _ h => h) (Or.inl ⟨by rfl, ?hyxl8_8⟩) (by assumption) ?restxl8_8
        case hyxl8_8 => (intro w hSw; (try dsimp only at hSw); go_simp; (try with_reducible rfl))
        try simp only [Act.put, List.setIfInBounds_toArray, List.set_cons_zero, List.set_cons_succ]
        refine wpAnyH_take (i := 9) (v := ?vxl8_9) (by simp only [List.getElem?_toArray, List.getElem?_cons_succ, List.getElem?_cons_zero]; rfl) (by kernel_rfl) (by kernel_rfl) (by kernel_rfl) (fun _ _ _ h => h) (Or.inl ⟨by rfl, ?hyxl8_9⟩) (by assumption) ?restxl8_9
        case hyxl8_9 => (intro w hSw; (try dsimp only at hSw); go_simp; (try with_reducible rfl))
        try simp only [Act.put, List.setIfInBounds_toArray, List.set_cons_zero, List.set_cons_succ]
        refine wpAnyH_take (i := 10) (v := ?vxl8_10) (by simp only [List.getElem?_toArray, List.getElem?_cons_succ, List.getElem?_cons_zero]; rfl) (by kernel_rfl) (by kernel_rfl) (by kernel_rfl) (fun _ _ _ h => h) (Or.inl ⟨by rfl, ?hyxl8_10⟩) (by assumption) ?restxl8_10
        case hyxl8_10 => (intro w hSw; (try dsimp only at hSw); go_simp; (try with_reducible rfl))
        try simp only [Act.put, List.setIfInBounds_toArray, List.set_cons_zero, List.set_cons_succ]
        refine wpAnyH_take (i := 11) (v := ?vxl8_11) (by simp only [List.getElem?_toArray, List.getElem?_cons_succ, List.getElem?_cons_zero]; rfl) (by kernel_rfl) (by kernel_rfl) (by kernel_rfl) (fun _ _ _ h => h) (Or.inl ⟨by rfl, ?hyxl8_11⟩) (by assumption) ?restxl8_11
        case hyxl8_11 => (intro w hSw; (try dsimp only at hSw); go_simp; (try with_reducible rfl))
        try simp only [Act.put, List.setIfInBounds_toArray, List.set_cons_zero, List.set_cons_succ]
        refine wpAnyH_ready (rs := [12]) (by kernel_rfl) (by simp) ?_
        refine (AllReadyH.cons (o := _) rfl (fun K hK => ?_) AllReadyH.nil)
        go_simp
        have HS6 := Lib.hid (Rc.more HS5.out)
        generalize y5.alloc (.cells #[.int .u64 0, .slice none 0 0, .slice none 0 0] 31) = y6 at HS6 ⊢
        generalize y5.heap.size = V2 at HS6 ⊢
        clear HS5
        try dsimp only
        refine hK.out _ _ (HSK.out _ HS6.out.1.kp) (fun hHeld => ?_)
        clear hK K
        refine wpAnyH_ready (rs := [13]) (by kernel_rfl) (by simp) ?_
        refine (AllReadyH.cons (o := _) rfl (fun K hK => ?_) AllReadyH.nil)
        have hzb := (HS6.out.1.2.1 V2 rfl).2
        have z0 := hzb.cell 0
        have z1 := hzb.cell 1
        have z2 := hzb.cell 2
        simp at z0 z1 z2
        have q0 := hzb.frozen 0
        have q1 := hzb.frozen 1
        have q2 := hzb.frozen 2
        clear hzb
        have HE := Lib.hid (Rc.fin HS6.out)
        go_simp
        try dsimp only
        refine hK.out _ _ (HSE.out _ (HE.out.1)) (fun hHeld => ?_)
        clear hK K z0 z1 z2 q0 q1 q2
        refine wpAnyH_take (i := 14) (v := ?vxa9_14) (by simp only [List.getElem?_toArray, List.getElem?_cons_succ, List.getElem?_cons_zero]; rfl) (by kernel_rfl) (by kernel_rfl) (by kernel_rfl) (fun _ _ _ h => h) (Or.inl ⟨by rfl, ?hyxa9_14⟩) (by assumption) ?restxa9_14
        case hyxa9_14 => (intro w hSw; (try dsimp only at hSw); go_simp; (try with_reducible rfl))
        try simp only [Act.put, List.setIfInBounds_toArray, List.set_cons_zero, List.set_cons_succ]
        refine wpAnyH_take (i := 15) (v := ?vxa9_15) (by simp only [List.getElem?_toArray, List.getElem?_cons_succ, List.getElem?_cons_zero]; rfl) (by kernel_rfl) (by kernel_rfl) (by kernel_rfl) (fun _ _ _ h => h) (Or.inl ⟨by rfl, ?hyxa9_15⟩) (by assumption) ?restxa9_15
        case hyxa9_15 => (intro w hSw; (try dsimp only at hSw); go_simp; (try with_reducible rfl))
        try simp only [Act.put, List.setIfInBounds_toArray, List.set_cons_zero, List.set_cons_succ]
        refine wpAnyH_done (by kernel_rfl) ?_ _
        refine NoPanic.normal ?_
        go_wp2_with fail
        go_meet
        exact ⟨V2, A3, c3, A4, c4, rfl, rfl, rfl, HE.out⟩
       ·go_simp
        have HS5 := Lib.hid (Rr.more HS4.out)
        generalize y4.alloc (.cells #[.int .u64 0, .slice none 0 0, .slice none 0 0] 31) = y5 at HS5 ⊢
        generalize y4.heap.size = V2 at HS5 ⊢
        clear HS4
        try dsimp only
        refine hK.out _ _ (HSK.out _ HS5.out.1.kp) (fun hHeld => ?_)
        clear hK K
        refine wpAnyH_ready (rs := [7]) (by kernel_rfl) (by simp) ?_
        refine (AllReadyH.cons (o := _) rfl (fun K hK => ?_) AllReadyH.nil)
        go_simp
        refine (HPX.out y5 A6 c6 HS5.out.1.kp (Rr.read HS5.out rfl)).mono ?_
        rintro e y6 ⟨A3, c3, A4, c4, rfl, hv, hk⟩
        have HS6 := Lib.hid (Ra.call HS5.out.1 hk hv)
        clear hv hk
        clear HS5
        try dsimp only
        refine hK.out _ _ (HSK.out _ HS6.out.1.kp) (fun hHeld => ?_)
        clear hK K
        refine wpAnyH_take (i := 8) (v := ?vxl10_8) (by simp only [List.getElem?_toArray, List.getElem?_cons_succ, List.getElem?_cons_zero]; rfl) (by kernel_rfl) (by kernel_rfl) (by kernel_rfl) (fun _ _ _ h => h) (Or.inl ⟨by rfl, ?hyxl10_8⟩) (by assumption) ?restxl10_8
        case hyxl10_8 => (intro w hSw; (try dsimp only at hSw); go_simp; (try with_reducible rfl))
        try simp only [Act.put, List.setIfInBounds_toArray, List.set_cons_zero, List.set_cons_succ]
        refine wpAnyH_take (i := 9) (v := ?vxl10_9) (by simp only [List.getElem?_toArray, List.getElem?_cons_succ, List.getElem?_cons_zero]; rfl) (by kernel_rfl) (by kernel_rfl) (by kernel_rfl) (fun _ _ _ h => h) (Or.inl ⟨by rfl, ?hyxl10_9⟩) (by assumption) ?restxl10_9
        case hyxl10_9 => (intro w hSw; (try dsimp only at hSw); go_simp; (try with_reducible rfl))
        try simp only [Act.put, List.setIfInBounds_toArray, List.set_cons_zero, List.set_cons_succ]
        refine wpAnyH_take (i := 10) (v := ?vxl10_10) (by simp only [List.getElem?_toArray, List.getElem?_cons_succ, List.getElem?_cons_zero]; rfl) (by kernel_rfl) (by kernel_rfl) (by kernel_rfl) (fun _ _ _ h => h) (Or.inl ⟨by rfl, ?hyxl10_10⟩) (by assumption) ?restxl10_10
        case hyxl10_10 => (intro w hSw; (try dsimp only at hSw); go_simp; (try with_reducible rfl))
        try simp only [Act.put, List.setIfInBounds_toArray, List.set_cons_zero, List.set_cons_succ]
        refine wpAnyH_take (i := 11) (v := ?vxl10_11) (by simp only [List.getElem?_toArray, List.getElem?_cons_succ, List.getElem?_cons_zero]; rfl) (by kernel_rfl) (by kernel_rfl) (by kernel_rfl) (fun _ _ _ h => h) (Or.inl ⟨by rfl, ?hyxl10_11⟩) (by assumption) ?restxl10_11
        case hyxl10_11 => (intro w hSw; (try dsimp only at hSw); go_simp; (try with_reducible rfl))
        try simp only [Act.put, List.setIfInBounds_toArray, List.set_cons_zero, List.set_cons_succ]
        refine wpAnyH_ready (rs := [13]) (by kernel_rfl) (by simp) ?_
        refine (AllReadyH.cons (o := _) rfl (fun K hK => ?_) AllReadyH.nil)
        have hzb := (HS6.out.1.2.1 V2 rfl).2
        have z0 := hzb.cell 0
        have z1 := hzb.cell 1
        have z2 := hzb.cell 2
        simp at z0 z1 z2
        have q0 := hzb.frozen 0
        have q1 := hzb.frozen 1
        have q2 := hzb.frozen 2
        clear hzb
        have HE := Lib.hid (Rc.fin HS6.out)
        go_simp
        try dsimp only
        refine hK.out _ _ (HSE.out _ (HE.out.1)) (fun hHeld => ?_)
        clear hK K z0 z1 z2 q0 q1 q2
        refine wpAnyH_take (i := 14) (v := ?vxa11_14) (by simp only [List.getElem?_toArray, List.getElem?_cons_succ, List.getElem?_cons_zero]; rfl) (by kernel_rfl) (by kernel_rfl) (by kernel_rfl) (fun _ _ _ h => h) (Or.inl ⟨by rfl, ?hyxa11_14⟩) (by assumption) ?restxa11_14
        case hyxa11_14 => (intro w hSw; (try dsimp only at hSw); go_simp; (try with_reducible rfl))
        try simp only [Act.put, List.setIfInBounds_toArray, List.set_cons_zero, List.set_cons_succ]
        refine wpAnyH_take (i := 15) (v := ?vxa11_15) (by simp only [List.getElem?_toArray, List.getElem?_cons_succ, List.getElem?_cons_zero]; rfl) (by kernel_rfl) (by kernel_rfl) (by kernel_rfl) (fun _ _ _ h => h) (Or.inl ⟨by rfl, ?hyxa11_15⟩) (by assumption) ?restxa11_15
        case hyxa11_15 => (intro w hSw; (try dsimp only at hSw); go_simp; (try with_reducible rfl))
        try simp only [Act.put, List.setIfInBounds_toArray, List.set_cons_zero, List.set_cons_succ]
        refine wpAnyH_done (by kernel_rfl) ?_ _
        refine NoPanic.normal ?_
        go_wp2_with fail
        go_meet
        exact ⟨V2, A3, c3, A4, c4, rfl, rfl, rfl, HE.out⟩
      ·go_simp
       have HS4 := Lib.hid (Rr.more HS3.out)
       generalize y3.alloc (.cells #[.int .u64 0, .slice none 0 0, .slice none 0 0] 31) = y4 at HS4 ⊢
       generalize y3.heap.size = V2 at HS4 ⊢
       clear HS3
       try dsimp only
       refine hK.out _ _ (HSK.out _ HS4.out.1.kp) (fun hHeld => ?_)
       clear hK K
       refine wpAnyH_ready (rs := [6]) (by kernel_rfl) (by simp) ?_
       refine (AllReadyH.cons (o := _) rfl (fun K hK => ?_) AllReadyH.nil)
       refine step_app_row rfl (.tmp 72) (.tmp 74) rfl A5 b.length c5 b (by simp [Act.eval]) HS4.out.2 (fun j => j = gB) (some ⟨gB, 0, none⟩) 1 1 [d] (by simp [Act.eval]) rfl (Ra.one HS4.out.1) (bm.length) (HBL.out) (by omega) ?_
       intro A6 c6 y5 ho hk
       have HS5 := Lib.hid (Rr.app HS4.out ho hk)
       rw [← HBM.out] at HS5
       clear ho hk
       try simp only [Act.put, List.setIfInBounds_toArray, List.set_cons_zero, List.set_cons_succ]
       clear HS4
       try dsimp only
       refine hK.out _ _ (HSK.out _ HS5.out.1.kp) (fun hHeld => ?_)
       clear hK K
       refine wpAnyH_ready (rs := [7]) (by kernel_rfl) (by simp) ?_
       refine (AllReadyH.cons (o := _) rfl (fun K hK => ?_) AllReadyH.nil)
       go_simp
       refine (HPX.out y5 A6 c6 HS5.out.1.kp (Rr.read HS5.out rfl)).mono ?_
       rintro e y6 ⟨A3, c3, A4, c4, rfl, hv, hk⟩
       have HS6 := Lib.hid (Ra.call HS5.out.1 hk hv)
       clear hv hk
       clear HS5
       try dsimp only
       refine hK.out _ _ (HSK.out _ HS6.out.1.kp) (fun hHeld => ?_)
       clear hK K
       refine wpAnyH_take (i := 8) (v := ?vxl12_8) (by simp only [List.getElem?_toArray, List.getElem?_cons_succ, List.getElem?_cons_zero]; rfl) (by kernel_rfl) (by kernel_rfl) (by kernel_rfl) (fun _ _ _ h => h) (Or.inl ⟨by rfl, ?hyxl12_8⟩) (by assumption) ?restxl12_8
       case hyxl12_8 => (intro w hSw; (try dsimp only at hSw); go_simp; (try with_reducible rfl))
       try simp only [Act.put, List.setIfInBounds_toArray, List.set_cons_zero, List.set_cons_succ]
       refine wpAnyH_take (i := 9) (v := ?vxl12_9) (by simp only [List.getElem?_toArray, List.getElem?_cons_succ, List.getElem?_cons_zero]; rfl) (by kernel_rfl) (by kernel_rfl) (by kernel_rfl) (fun _ _ _ h => h) (Or.inl ⟨by rfl, ?hyxl12_9⟩) (by assumption) ?restxl12_9
       case hyxl12_9 => (intro w hSw; (try dsimp only at hSw); go_simp; (try with_reducible rfl))
       try simp only [Act.put, List.setIfInBounds_toArray, List.set_cons_zero, List.set_cons_succ]
       refine wpAnyH_take (i := 10) (v := ?vxl12_10) (by simp only [List.getElem?_toArray, List.getElem?_cons_succ, List.getElem?_cons_zero]; rfl) (by kernel_rfl) (by kernel_rfl) (by kernel_rfl) (fun _ _ _ h => h) (Or.inl ⟨by rfl, ?hyxl12_10⟩) (by assumption) ?restxl12_10
       case hyxl12_10 => (intro w hSw; (try dsimp only at hSw); go_simp; (try with_reducible rfl))
       try simp only [Act.put, List.setIfInBounds_toArray, List.set_cons_zero, List.set_cons_succ]
       refine wpAnyH_take (i := 11) (v := ?vxl12_11) (by simp only [List.getElem?_toArray, List.getElem?_cons_succ, List.getElem?_cons_zero]; rfl) (by kernel_rfl) (by kernel_rfl) (by kernel_rfl) (fun _ _ _ h => h) (Or.inl ⟨by rfl, ?hyxl12_11⟩) (by assumption) ?restxl12_11
       case hyxl12_11 => (intro w hSw; (try dsimp only at hSw); go_simp; (try with_reducible rfl))
       try simp only [Act.put, List.setIfInBounds_toArray, List.set_cons_zero, List.set_cons_succ]
       refine wpAnyH_ready (rs := [13]) (by kernel_rfl) (by simp) ?_
       refine (AllReadyH.cons (o := _) rfl (fun K hK => ?_) AllReadyH.nil)
       have hzb := (HS6.out.1.2.1 V2 rfl).2
       have z0 := hzb.cell 0
       have z1 := hzb.cell 1
       have z2 := hzb.cell 2
       simp at z0 z1 z2
       have q0 := hzb.frozen 0
       have q1 := hzb.frozen 1
       have q2 := hzb.frozen 2
       clear hzb
       have HE := Lib.hid (Rc.fin HS6.out)
       go_simp
       try dsimp only
       refine hK.out _ _ (HSE.out _ (HE.out.1)) (fun hHeld => ?_)
       clear hK K z0 z1 z2 q0 q1 q2
       refine wpAnyH_take (i := 14) (v := ?vxa13_14) (by simp only [List.getElem?_toArray, List.getElem?_cons_succ, List.getElem?_cons_zero]; rfl) (by kernel_rfl) (by kernel_rfl) (by kernel_rfl) (fun _ _ _ h => h) (Or.inl ⟨by rfl, ?hyxa13_14⟩) (by assumption) ?restxa13_14
       case hyxa13_14 => (intro w hSw; (try dsimp only at hSw); go_simp; (try with_reducible rfl))
       try simp only [Act.put, List.setIfInBounds_toArray, List.set_cons_zero, List.set_cons_succ]
       refine wpAnyH_take (i := 15) (v := ?vxa13_15) (by simp only [List.getElem?_toArray, List.getElem?_cons_succ, List.getElem?_cons_zero]; rfl) (by kernel_rfl) (by kernel_rfl) (by kernel_rfl) (fun _ _ _ h => h) (Or.inl ⟨by rfl, ?hyxa13_15⟩) (by assumption) ?restxa13_15
       case hyxa13_15 => (intro w hSw; (try dsimp only at hSw); go_simp; (try with_reducible rfl))
       try simp only [Act.put, List.setIfInBounds_toArray, List.set_cons_zero, List.set_cons_succ]
       refine wpAnyH_done (by kernel_rfl) ?_ _
       refine NoPanic.normal ?_
       go_wp2_with fail
       go_meet
       exact ⟨V2, A3, c3, A4, c4, rfl, rfl, rfl, HE.out⟩
     ·go_simp
      have HS3 := Lib.hid (Rr.more HS2.out)
      generalize y2.alloc (.cells #[.int .u64 0, .slice none 0 0, .slice none 0 0] 31) = y3 at HS3 ⊢
      generalize y2.heap.size = V2 at HS3 ⊢
      clear HS2
      try dsimp only
      refine hK.out _ _ (HSK.out _ HS3.out.1.kp) (fun hHeld => ?_)
      clear hK K
      refine wpAnyH_ready (rs := [3]) (by kernel_rfl) (by simp) ?_
      refine (AllReadyH.cons (o := _) rfl (fun K hK => ?_) AllReadyH.nil)
      refine step_app_row rfl (.tmp 70) (.tmp 71) rfl _ _ _ [] (by simp [Act.eval]) HS3.out.2 (· < w.heap.size) Ab b.length cb b (by simp [Act.eval]) rfl (HBR.out y3 (HKX.out y3 HS3.out.1.kp)) (b.length) (by simp) (by omega) ?_
      intro A5 c5 y4 ho hk
      have HS4 := Lib.hid (Rr.app HS3.out ho hk)
      rw [List.nil_append] at HS4
      clear ho hk
      try simp only [Act.put, List.setIfInBounds_toArray, List.set_cons_zero, List.set_cons_succ]
      clear HS3
      try dsimp only
      refine hK.out _ _ (HSK.out _ HS4.out.1.kp) (fun hHeld => ?_)
      clear hK K
      refine wpAnyH_ready (rs := [6]) (by kernel_rfl) (by simp) ?_
      refine (AllReadyH.cons (o := _) rfl (fun K hK => ?_) AllReadyH.nil)
      refine step_app_row rfl (.tmp 72) (.tmp 74) rfl A5 b.length c5 b (by simp [Act.eval]) HS4.out.2 (fun j => j = gB) (some ⟨gB, 0, none⟩) 1 1 [d] (by simp [Act.eval]) rfl (Ra.one HS4.out.1) (bm.length) (HBL.out) (by omega) ?_
      intro A6 c6 y5 ho hk
      have HS5 := Lib.hid (Rr.app HS4.out ho hk)
      rw [← HBM.out] at HS5
      clear ho hk
      try simp only [Act.put, List.setIfInBounds_toArray, List.set_cons_zero, List.set_cons_succ]
      clear HS4
      try dsimp only
      refine hK.out _ _ (HSK.out _ HS5.out.1.kp) (fun hHeld => ?_)
      clear hK K
      refine wpAnyH_ready (rs := [7]) (by kernel_rfl) (by simp) ?_
      refine (AllReadyH.cons (o := _) rfl (fun K hK => ?_) AllReadyH.nil)
      go_simp
      refine (HPX.out y5 A6 c6 HS5.out.1.kp (Rr.read HS5.out rfl)).mono ?_
      rintro e y6 ⟨A3, c3, A4, c4, rfl, hv, hk⟩
      have HS6 := Lib.hid (Ra.call HS5.out.1 hk hv)
      clear hv hk
      clear HS5
      try dsimp only
      refine hK.out _ _ (HSK.out _ HS6.out.1.kp) (fun hHeld => ?_)
      clear hK K
      refine wpAnyH_take (i := 8) (v := ?vxl14_8) (by simp only [List.getElem?_toArray, List.getElem?_cons_succ, List.getElem?_cons_zero]; rfl) (by kernel_rfl) (by kernel_rfl) (by kernel_rfl) (fun _ _ _ h => h) (Or.inl ⟨by rfl, ?hyxl14_8⟩) (by assumption) ?restxl14_8
      case hyxl14_8 => (intro w hSw; (try dsimp only at hSw); go_simp; (try with_reducible rfl))
      try simp only [Act.put, List.setIfInBounds_toArray, List.set_cons_zero, List.set_cons_succ]
      refine wpAnyH_take (i := 9) (v := ?vxl14_9) (by simp only [List.getElem?_toArray, List.getElem?_cons_succ, List.getElem?_cons_zero]; rfl) (by kernel_rfl) (by kernel_rfl) (by kernel_rfl) (fun _ _ _ h => h) (Or.inl ⟨by rfl, ?hyxl14_9⟩) (by assumption) ?restxl14_9
      case hyxl14_9 => (intro w hSw; (try dsimp only at hSw); go_simp; (try with_reducible rfl))
      try simp only [Act.put, List.setIfInBounds_toArray, List.set_cons_zero, List.set_cons_succ]
      refine wpAnyH_take (i := 10) (v := ?vxl14_10) (by simp only [List.getElem?_toArray, List.getElem?_cons_succ, List.getElem?_cons_zero]; rfl) (by kernel_rfl) (by kernel_rfl) (by kernel_rfl) (fun _ _ _ h => h) (Or.inl ⟨by rfl, ?hyxl14_10⟩) (by assumption) ?restxl14_10
      case hyxl14_10 => (intro w hSw; (try dsimp only at hSw); go_simp; (try with_reducible rfl))
      try simp only [Act.put, List.setIfInBounds_toArray, List.set_cons_zero, List.set_cons_succ]
      refine wpAnyH_take (i := 11) (v := ?vxl14_11) (by simp only [List.getElem?_toArray, List.getElem?_cons_succ, List.getElem?_cons_zero]; rfl) (by kernel_rfl) (by kernel_rfl) (by kernel_rfl) (fun _ _ _ h => h) (Or.inl ⟨by rfl, ?hyxl14_11⟩) (by assumption) ?restxl14_11
      case hyxl14_11 => (intro w hSw; (try dsimp only at hSw); go_simp; (try with_reducible rfl))
      try simp only [Act.put, List.setIfInBounds_toArray, List.set_cons_zero, List.set_cons_succ]
      refine wpAnyH_ready (rs := [13]) (by kernel_rfl) (by simp) ?_
      refine (AllReadyH.cons (o := _) rfl (fun K hK => ?_) AllReadyH.nil)
      have hzb := (HS6.out.1.2.1 V2 rfl).2
      have z0 := hzb.cell 0
      have z1 := hzb.cell 1
      have z2 := hzb.cell 2
      simp at z0 z1 z2
      have q0 := hzb.frozen 0
      have q1 := hzb.frozen 1
      have q2 := hzb.frozen 2
      clear hzb
      have HE := Lib.hid (Rc.fin HS6.out)
      go_simp
      try dsimp only
      refine hK.out _ _ (HSE.out _ (HE.out.1)) (fun hHeld => ?_)
      clear hK K z0 z1 z2 q0 q1 q2
      refine wpAnyH_take (i := 14) (v := ?vxa15_14) (by simp only [List.getElem?_toArray, List.getElem?_cons_succ, List.getElem?_cons_zero]; rfl) (by kernel_rfl) (by kernel_rfl) (by kernel_rfl) (fun _ _ _ h => h) (Or.inl ⟨by rfl, ?hyxa15_14⟩) (by assumption) ?restxa15_14
      case hyxa15_14 => (intro w hSw; (try dsimp only at hSw); go_simp; (try with_reducible rfl))
      try simp only [Act.put, List.setIfInBounds_toArray, List.set_cons_zero, List.set_cons_succ]
      refine wpAnyH_take (i := 15) (v := ?vxa15_15) (by simp only [List.getElem?_toArray, List.getElem?_cons_succ, List.getElem?_cons_zero]; rfl) (by kernel_rfl) (by kernel_rfl) (by kernel_rfl) (fun _ _ _ h => h) (Or.inl ⟨by rfl, ?hyxa15_15⟩) (by assumption) ?restxa15_15
      case hyxa15_15 => (intro w hSw; (try dsimp only at hSw); go_simp; (try with_reducible rfl))
      try simp only [Act.put, List.setIfInBounds_toArray, List.set_cons_zero, List.set_cons_succ]
      refine wpAnyH_done (by kernel_rfl) ?_ _
      refine NoPanic.normal ?_
      go_wp2_with fail
      go_meet
      exact ⟨V2, A3, c3, A4, c4, rfl, rfl, rfl, HE.out⟩
    ·go_simp
     have HS2 := Lib.hid (Rr.more HS1.out)
     generalize y1.alloc (.cells #[.int .u64 0, .slice none 0 0, .slice none 0 0] 31) = y2 at HS2 ⊢
     generalize y1.heap.size = V2 at HS2 ⊢
     clear HS1
     try dsimp only
     refine hK.out _ _ (HSK.out _ HS2.out.1.kp) (fun hHeld => ?_)
     clear hK K
     refine wpAnyH_ready (rs := [3, 5]) (by kernel_rfl) (by simp) ?_
     refine (AllReadyH.cons (o := _) rfl (fun K hK => ?_) (AllReadyH.cons (o := _) rfl (fun K hK => ?_) AllReadyH.nil))
     ·refine step_app_row rfl (.tmp 70) (.tmp 71) rfl _ _ _ [] (by simp [Act.eval]) HS2.out.2 (· < w.heap.size) Ab b.length cb b (by simp [Act.eval]) rfl (HBR.out y2 (HKX.out y2 HS2.out.1.kp)) (b.length) (by simp) (by omega) ?_
      intro A5 c5 y3 ho hk
      have HS3 := Lib.hid (Rr.app HS2.out ho hk)
      rw [List.nil_append] at HS3
      clear ho hk
      try simp only [Act.put, List.setIfInBounds_toArray, List.set_cons_zero, List.set_cons_succ]
      clear HS2
      try dsimp only
      refine hK.out _ _ (HSK.out _ HS3.out.1.kp) (fun hHeld => ?_)
      clear hK K
      refine wpAnyH_ready (rs := [5]) (by kernel_rfl) (by simp) ?_
      refine (AllReadyH.cons (o := _) rfl (fun K hK => ?_) AllReadyH.nil)
      go_simp
      have HS4 := Lib.hid (Rr.byte HS3.out d #[.int .u8 (d.toNat : Int)] rfl)
      generalize y3.alloc (.cells #[.int .u8 (d.toNat : Int)] 5) = y4 at HS4 ⊢
      generalize y3.heap.size = gB at HS4 ⊢
      clear HS3
      try dsimp only
      refine hK.out _ _ (HSK.out _ HS4.out.1.kp) (fun hHeld => ?_)
      clear hK K
      refine wpAnyH_ready (rs := [6]) (by kernel_rfl) (by simp) ?_
      refine (AllReadyH.cons (o := _) rfl (fun K hK => ?_) AllReadyH.nil)
      refine step_app_row rfl (.tmp 72) (.tmp 74) rfl A5 b.length c5 b (by simp [Act.eval]) HS4.out.2 (fun j => j = gB) (some ⟨gB, 0, none⟩) 1 1 [d] (by simp [Act.eval]) rfl (Ra.one HS4.out.1) (bm.length) (HBL.out) (by omega) ?_
      intro A6 c6 y5 ho hk
      have HS5 := Lib.hid (Rr.app HS4.out ho hk)
      rw [← HBM.out] at HS5
      clear ho hk
      try simp only [Act.put, List.setIfInBounds_toArray, List.set_cons_zero, List.set_cons_succ]
      clear HS4
      try dsimp only
      refine hK.out _ _ (HSK.out _ HS5.out.1.kp) (fun hHeld => ?_)
      clear hK K
      refine wpAnyH_ready (rs := [7]) (by kernel_rfl) (by simp) ?_
      refine (AllReadyH.cons (o := _) rfl (fun K hK => ?_) AllReadyH.nil)
      go_simp
      refine (HPX.out y5 A6 c6 HS5.out.1.kp (Rr.read HS5.out rfl)).mono ?_
      rintro e y6 ⟨A3, c3, A4, c4, rfl, hv, hk⟩
      have HS6 := Lib.hid (Ra.call HS5.out.1 hk hv)
      clear hv hk
      clear HS5
      try dsimp only
      refine hK.out _ _ (HSK.out _ HS6.out.1.kp) (fun hHeld => ?_)
      clear hK K
      refine wpAnyH_take (i := 8) (v := ?vxl16_8) (by simp only [List.getElem?_toArray, List.getElem?_cons_succ, List.getElem?_cons_zero]; rfl) (by kernel_rfl) (by kernel_rfl) (by kernel_rfl) (fun _ _ _ h => h) (Or.inl ⟨by rfl, ?hyxl16_8⟩) (by assumption) ?restxl16_8
      case hyxl16_8 => (intro w hSw; (try dsimp only at hSw); go_simp; (try with_reducible rfl))
      try simp only [Act.put, List.setIfInBounds_toArray, List.set_cons_zero, List.set_cons_succ]
      refine wpAnyH_take (i := 9) (v := ?vxl16_9) (by simp only [List.getElem?_toArray, List.getElem?_cons_succ, List.getElem?_cons_zero]; rfl) (by kernel_rfl) (by kernel_rfl) (by kernel_rfl) (fun _ _ _ h => h) (Or.inl ⟨by rfl, ?hyxl16_9⟩) (by assumption) ?restxl16_9
      case hyxl16_9 => (intro w hSw; (try dsimp only at hSw); go_simp; (try with_reducible rfl))
      try simp only [Act.put, List.setIfInBounds_toArray, List.set_cons_zero, List.set_cons_succ]
      refine wpAnyH_take (i := 10) (v := ?vxl16_10) (by simp only [List.getElem?_toArray, List.getElem?_cons_succ, List.getElem?_cons_zero]; rfl) (by kernel_rfl) (by kernel_rfl) (by kernel_rfl) (fun _ _ _ h => h) (Or.inl ⟨by rfl, ?hyxl16_10⟩) (by assumption) ?restxl16_10
      case hyxl16_10 => (intro w hSw; (try dsimp only at hSw); go_simp; (try with_reducible rfl))
      try simp only [Act.put, List.setIfInBounds_toArray, List.set_cons_zero, List.set_cons_succ]
      refine wpAnyH_take (i := 11) (v := ?vxl16_11) (by simp only [List.getElem?_toArray, List.getElem?_cons_succ, List.getElem?_cons_zero]; rfl) (by kernel_rfl) (by kernel_rfl) (by kernel_rfl) (fun _ _ _ h => h) (Or.inl ⟨by rfl, ?hyxl16_11⟩) (by assumption) ?restxl16_11
      case hyxl16_11 => (intro w hSw; (try dsimp only at hSw); go_simp; (try with_reducible rfl))
      try simp only [Act.put, List.setIfInBounds_toArray, List.set_cons_zero, List.set_cons_succ]
      refine wpAnyH_ready (rs := [13]) (by kernel_rfl) (by simp) ?_
      refine (AllReadyH.cons (o := _) rfl (fun K hK => ?_) AllReadyH.nil)
      have hzb := (HS6.out.1.2.1 V2 rfl).2
      have z0 := hzb.cell 0
      have z1 := hzb.cell 1
      have z2 := hzb.cell 2
      simp at z0 z1 z2
      have q0 := hzb.frozen 0
      have q1 := hzb.frozen 1
      have q2 := hzb.frozen 2
      clear hzb
      have HE := Lib.hid (Rc.fin HS6.out)
      go_simp
      try dsimp only
      refine hK.out _ _ (HSE.out _ (HE.out.1)) (fun hHeld => ?_)
      clear hK K z0 z1 z2 q0 q1 q2
      refine wpAnyH_take (i := 14) (v := ?vxa17_14) (by simp only [List.getElem?_toArray, List.getElem?_cons_succ, List.getElem?_cons_zero]; rfl) (by kernel_rfl) (by kernel_rfl) (by kernel_rfl) (fun _ _ _ h => h) (Or.inl ⟨by rfl, ?hyxa17_14⟩) (by assumption) ?restxa17_14
      case hyxa17_14 => (intro w hSw; (try dsimp only at hSw); go_simp; (try with_reducible rfl))
      try simp only [Act.put, List.setIfInBounds_toArray, List.set_cons_zero, List.set_cons_succ]
      refine wpAnyH_take (i := 15) (v := ?vxa17_15) (by simp only [List.getElem?_toArray, List.getElem?_cons_succ, List.getElem?_cons_zero]; rfl) (by kernel_rfl) (by kernel_rfl) (by kernel_rfl) (fun _ _ _ h => h) (Or.inl ⟨by rfl, ?hyxa17_15⟩) (by assumption) ?restxa17_15
      case hyxa17_15 => (intro w hSw; (try dsimp only at hSw); go_simp; (try with_reducible rfl))
      try simp only [Act.put, List.setIfInBounds_toArray, List.set_cons_zero, List.set_cons_succ]
      refine wpAnyH_done (by kernel_rfl) ?_ _
      refine NoPanic.normal ?_
      go_wp2_with fail
      go_meet
      exact ⟨V2, A3, c3, A4, c4, rfl, rfl, rfl, HE.out⟩
     ·go_simp
      have HS3 := Lib.hid (Rr.byte HS2.out d #[.int .u8 (d.toNat : Int)] rfl)
      generalize y2.alloc (.cells #[.int .u8 (d.toNat : Int)] 5) = y3 at HS3 ⊢
      generalize y2.heap.size = gB at HS3 ⊢
      clear HS2
      try dsimp only
      refine hK.out _ _ (HSK.out _ HS3.out.1.kp) (fun hHeld => ?_)
      clear hK K
      refine wpAnyH_ready (rs := [3]) (by kernel_rfl) (by simp) ?_
      refine (AllReadyH.cons (o := _) rfl (fun K hK => ?_) AllReadyH.nil)
      refine step_app_row rfl (.tmp 70) (.tmp 71) rfl _ _ _ [] (by simp [Act.eval]) HS3.out.2 (· < w.heap.size) Ab b.length cb b (by simp [Act.eval]) rfl (HBR.out y3 (HKX.out y3 HS3.out.1.kp)) (b.length) (by simp) (by omega) ?_
      intro A5 c5 y4 ho hk
      have HS4 := Lib.hid (Rr.app HS3.out ho hk)
      rw [List.nil_append] at HS4
      clear ho hk
      try simp only [Act.put, List.setIfInBounds_toArray, List.set_cons_zero, List.set_cons_succ]
      clear HS3
      try dsimp only
      refine hK.out _ _ (HSK.out _ HS4.out.1.kp) (fun hHeld => ?_)
      clear hK K
      refine wpAnyH_ready (rs := [6]) (by kernel_rfl) (by simp) ?_
      refine (AllReadyH.cons (o := _) rfl (fun K hK => ?_) AllReadyH.nil)
      refine step_app_row rfl (.tmp 72) (.tmp 74) rfl A5 b.length c5 b (by simp [Act.eval]) HS4.out.2 (fun j => j = gB) (some ⟨gB, 0, none⟩) 1 1 [d] (by simp [Act.eval]) rfl (Ra.one HS4.out.1) (bm.length) (HBL.out) (by omega) ?_
      intro A6 c6 y5 ho hk
      have HS5 := Lib.hid (Rr.app HS4.out ho hk)
      rw [← HBM.out] at HS5
      clear ho hk
      try simp only [Act.put, List.setIfInBounds_toArray, List.set_cons_zero, List.set_cons_succ]
      clear HS4
      try dsimp only
      refine hK.out _ _ (HSK.out _ HS5.out.1.kp) (fun hHeld => ?_)
      clear hK K
      refine wpAnyH_ready (rs := [7]) (by kernel_rfl) (by simp) ?_
      refine (AllReadyH.cons (o := _) rfl (fun K hK => ?_) AllReadyH.nil)
      go_simp
      refine (HPX.out y5 A6 c6 HS5.out.1.kp (Rr.read HS5.out rfl)).mono ?_
      rintro e y6 ⟨A3, c3, A4, c4, rfl, hv, hk⟩
      have HS6 := Lib.hid (Ra.call HS5.out.1 hk hv)
      clear hv hk
      clear HS5
      try dsimp only
      refine hK.out _ _ (HSK.out _ HS6.out.1.kp) (fun hHeld => ?_)
      clear hK K
      refine wpAnyH_take (i := 8) (v := ?vxl18_8) (by simp only [List.getElem?_toArray, List.getElem?_cons_succ, List.getElem?_cons_zero]; rfl) (by kernel_rfl) (by kernel_rfl) (by kernel_rfl) (fun _ _ _ h => h) (Or.inl ⟨by rfl, ?hyxl18_8⟩) (by assumption) ?restxl18_8
      case hyxl18_8 => (intro w hSw; (try dsimp only at hSw); go_simp; (try with_reducible rfl))
      try simp only [Act.put, List.setIfInBounds_toArray, List.set_cons_zero, List.set_cons_succ]
      refine wpAnyH_take (i := 9) (v := ?vxl18_9) (by simp only [List.getElem?_toArray, List.getElem?_cons_succ, List.getElem?_cons_zero]; rfl) (by kernel_rfl) (by kernel_rfl) (by kernel_rfl) (fun _ _ _ h => h) (Or.inl ⟨by rfl, ?hyxl18_9⟩) (by assumption) ?restxl18_9
      case hyxl18_9 => (intro w hSw; (try dsimp only at hSw); go_simp; (try with_reducible rfl))
      try simp only [Act.put, List.setIfInBounds_toArray, List.set_cons_zero, List.set_cons_succ]
      refine wpAnyH_take (i := 10) (v := ?vxl18_10) (by simp only [List.getElem?_toArray, List.getElem?_cons_succ, List.getElem?_cons_zero]; rfl) (by kernel_rfl) (by kernel_rfl) (by kernel_rfl) (fun _ _ _ h => h) (Or.inl ⟨by rfl, ?hyxl18_10⟩) (by assumption) ?restxl18_10
      case hyxl18_10 => (intro w hSw; (try dsimp only at hSw); go_simp; (try with_reducible rfl))
      try simp only [Act.put, List.setIfInBounds_toArray, List.set_cons_zero, List.set_cons_succ]
      refine wpAnyH_take (i := 11) (v := ?vxl18_11) (by simp only [List.getElem?_toArray, List.getElem?_cons_succ, List.getElem?_cons_zero]; rfl) (by kernel_rfl) (by kernel_rfl) (by kernel_rfl) (fun _ _ _ h => h) (Or.inl ⟨by rfl, ?hyxl18_11⟩) (by assumption) ?restxl18_11
      case hyxl18_11 => (intro w hSw; (try dsimp only at hSw); go_simp; (try with_reducible rfl))
      try simp only [Act.put, List.setIfInBounds_toArray, List.set_cons_zero, List.set_cons_succ]
      refine wpAnyH_ready (rs := [13]) (by kernel_rfl) (by simp) ?_
      refine (AllReadyH.cons (o := _) rfl (fun K hK => ?_) AllReadyH.nil)
      have hzb := (HS6.out.1.2.1 V2 rfl).2
      have z0 := hzb.cell 0
      have z1 := hzb.cell 1
      have z2 := hzb.cell 2
      simp at z0 z1 z2
      have q0 := hzb.frozen 0
      have q1 := hzb.frozen 1
      have q2 := hzb.frozen 2
      clear hzb
      have HE := Lib.hid (Rc.fin HS6.out)
      go_simp
      try dsimp only
      refine hK.out _ _ (HSE.out _ (HE.out.1)) (fun hHeld => ?_)
      clear hK K z0 z1 z2 q0 q1 q2
      refine wpAnyH_take (i := 14) (v := ?vxa19_14) (by simp only [List.getElem?_toArray, List.getElem?_cons_succ, List.getElem?_cons_zero]; rfl) (by kernel_rfl) (by kernel_rfl) (by kernel_rfl) (fun _ _ _ h => h) (Or.inl ⟨by rfl, ?hyxa19_14⟩) (by assumption) ?restxa19_14
      case hyxa19_14 => (intro w hSw; (try dsimp only at hSw); go_simp; (try with_reducible rfl))
      try simp only [Act.put, List.setIfInBounds_toArray, List.set_cons_zero, List.set_cons_succ]
      refine wpAnyH_take (i := 15) (v := ?vxa19_15) (by simp only [List.getElem?_toArray, List.getElem?_cons_succ, List.getElem?_cons_zero]; rfl) (by kernel_rfl) (by kernel_rfl) (by kernel_rfl) (fun _ _ _ h => h) (Or.inl ⟨by rfl, ?hyxa19_15⟩) (by assumption) ?restxa19_15
      case hyxa19_15 => (intro w hSw; (try dsimp only at hSw); go_simp; (try with_reducible rfl))
      try simp only [Act.put, List.setIfInBounds_toArray, List.set_cons_zero, List.set_cons_succ]
      refine wpAnyH_done (by kernel_rfl) ?_ _
      refine NoPanic.normal ?_
      go_wp2_with fail
      go_meet
      exact ⟨V2, A3, c3, A4, c4, rfl, rfl, rfl, HE.out⟩
   ·go_simp
    have HS1 := Lib.hid (Ra.byte HS0.out d #[.int .u8 (d.toNat : Int)] rfl)
    generalize y0.alloc (.cells #[.int .u8 (d.toNat : Int)] 5) = y1 at HS1 ⊢
    generalize y0.heap.size = gB at HS1 ⊢
    clear HS0
    try dsimp only
    refine hK.out _ _ (HSK.out _ HS1.out.kp) (fun hHeld => ?_)
    clear hK K
    refine wpAnyH_ready (rs := [1, 12]) (by kernel_rfl) (by simp) ?_
    refine (AllReadyH.cons (o := _) rfl (fun K hK => ?_) (AllReadyH.cons (o := _) rfl (fun K hK => ?_) AllReadyH.nil))
    ·go_simp
     have HS2 := Lib.hid (Ra.lit HS1.out)
     generalize y1.alloc (.cells #[] 5) = y2 at HS2 ⊢
     generalize y1.heap.size = gA at HS2 ⊢
     clear HS1
     try dsimp only
     refine hK.out _ _ (HSK.out _ HS2.out.1.kp) (fun hHeld => ?_)
     clear hK K
     refine wpAnyH_ready (rs := [3, 12]) (by kernel_rfl) (by simp) ?_
     refine (AllReadyH.cons (o := _) rfl (fun K hK => ?_) (AllReadyH.cons (o := _) rfl (fun K hK => ?_) AllReadyH.nil))
     ·refine step_app_row rfl (.tmp 70) (.tmp 71) rfl _ _ _ [] (by simp [Act.eval]) HS2.out.2 (· < w.heap.size) Ab b.length cb b (by simp [Act.eval]) rfl (HBR.out y2 (HKX.out y2 HS2.out.1.kp)) (b.length) (by simp) (by omega) ?_
      intro A5 c5 y3 ho hk
      have HS3 := Lib.hid (Rr.app HS2.out ho hk)
      rw [List.nil_append] at HS3
      clear ho hk
      try simp only [Act.put, List.setIfInBounds_toArray, List.set_cons_zero, List.set_cons_succ]
      clear HS2
      try dsimp only
      refine hK.out _ _ (HSK.out _ HS3.out.1.kp) (fun hHeld => ?_)
      clear hK K
      refine wpAnyH_ready (rs := [6, 12]) (by kernel_rfl) (by simp) ?_
      refine (AllReadyH.cons (o := _) rfl (fun K hK => ?_) (AllReadyH.cons (o := _) rfl (fun K hK => ?_) AllReadyH.nil))
      ·refine step_app_row rfl (.tmp 72) (.tmp 74) rfl A5 b.length c5 b (by simp [Act.eval]) HS3.out.2 (fun j => j = gB) (some ⟨gB, 0, none⟩) 1 1 [d] (by simp [Act.eval]) rfl (Ra.one HS3.out.1) (bm.length) (HBL.out) (by omega) ?_
       intro A6 c6 y4 ho hk
       have HS4 := Lib.hid (Rr.app HS3.out ho hk)
       rw [← HBM.out] at HS4
       clear ho hk
       try simp only [Act.put, List.setIfInBounds_toArray, List.set_cons_zero, List.set_cons_succ]
       clear HS3
       try dsimp only
       refine hK.out _ _ (HSK.out _ HS4.out.1.kp) (fun hHeld => ?_)
       clear hK K
       refine wpAnyH_ready (rs := [7, 12]) (by kernel_rfl) (by simp) ?_
       refine (AllReadyH.cons (o := _) rfl (fun K hK => ?_) (AllReadyH.cons (o := _) rfl (fun K hK => ?_) AllReadyH.nil))
       ·go_simp
        refine (HPX.out y4 A6 c6 HS4.out.1.kp (Rr.read HS4.out rfl)).mono ?_
        rintro e y5 ⟨A3, c3, A4, c4, rfl, hv, hk⟩
        have HS5 := Lib.hid (Ra.call HS4.out.1 hk hv)
        clear hv hk
        clear HS4
        try dsimp only
        refine hK.out _ _ (HSK.out _ HS5.out.1.kp) (fun hHeld => ?_)
        clear hK K
        refine wpAnyH_take (i := 8) (v := ?vxl20_8) (by simp only [List.getElem?_toArray, List.getElem?_cons_succ, List.getElem?_cons_zero]; rfl) (by kernel_rfl) (by kernel_rfl) (by kernel_rfl) (fun _ _ _ h => h) (Or.inl ⟨by rfl, ?hyxl20_8⟩) (by assumption) ?restxl20_8
        case hyxl20_8 => (intro w hSw; (try dsimp only at hSw); go_simp; (try with_reducible rfl))
        try simp only [Act.put, List.setIfInBounds_toArray, List.set_cons_zero, List.set_cons_succ]
        refine wpAnyH_take (i := 9) (v := ?vxl20_9) (by simp only [List.getElem?_toArray, List.getElem?_cons_succ, List.getElem?_cons_zero]; rfl) (by kernel_rfl) (by kernel_rfl) (by kernel_rfl) (fun _ _ _ h => h) (Or.inl ⟨by rfl, ?hyxl20_9⟩) (by assumption) ?restxl20_9
        case hyxl20_9 => (intro w hSw; (try dsimp only at hSw); go_simp; (try with_reducible rfl))
        try simp only [Act.put, List.setIfInBounds_toArray, List.set_cons_zero, List.set_cons_succ]
        refine wpAnyH_take (i := 10) (v := ?vxl20_10) (by simp only [List.getElem?_toArray, List.getElem?_cons_succ, List.getElem?_cons_zero]; rfl) (by kernel_rfl) (by kernel_rfl) (by kernel_rfl) (fun _ _ _ h => h) (Or.inl ⟨by rfl, ?hyxl20_10⟩) (by assumption) ?restxl20_10
        case hyxl20_10 => (intro w hSw; (try dsimp only at hSw); go_simp; (try with_reducible rfl))
        try simp only [Act.put, List.setIfInBounds_toArray, List.set_cons_zero, List.set_cons_succ]
        refine wpAnyH_take (i := 11) (v := ?vxl20_11) (by simp only [List.getElem?_toArray, List.getElem?_cons_succ, List.getElem?_cons_zero]; rfl) (by kernel_rfl) (by kernel_rfl) (by kernel_rfl) (fun _ _ _ h => h) (Or.inl ⟨by rfl, ?hyxl20_11⟩) (by assumption) ?restxl20_11
        case hyxl20_11 => (intro w hSw; (try dsimp only at hSw); go_simp; (try with_reducible rfl))
        try simp only [Act.put, List.setIfInBounds_toArray, List.set_cons_zero, List.set_cons_succ]
        refine wpAnyH_ready (rs := [12]) (by kernel_rfl) (by simp) ?_
        refine (AllReadyH.cons (o := _) rfl (fun K hK => ?_) AllReadyH.nil)
        go_simp
        have HS6 := Lib.hid (Rc.more HS5.out)
        generalize y5.alloc (.cells #[.int .u64 0, .slice none 0 0, .slice none 0 0] 31) = y6 at HS6 ⊢
        generalize y5.heap.size = V2 at HS6 ⊢
        clear HS5
        try dsimp only
        refine hK.out _ _ (HSK.out _ HS6.out.1.kp) (fun hHeld => ?_)
        clear hK K
        refine wpAnyH_ready (rs := [13]) (by kernel_rfl) (by simp) ?_
        refine (AllReadyH.cons (o := _) rfl (fun K hK => ?_) AllReadyH.nil)
        have hzb := (HS6.out.1.2.1 V2 rfl).2
        have z0 := hzb.cell 0
        have z1 := hzb.cell 1
        have z2 := hzb.cell 2
        simp at z0 z1 z2
        have q0 := hzb.frozen 0
        have q1 := hzb.frozen 1
        have q2 := hzb.frozen 2
        clear hzb
        have HE := Lib.hid (Rc.fin HS6.out)
        go_simp
        try dsimp only
        refine hK.out _ _ (HSE.out _ (HE.out.1)) (fun hHeld => ?_)
        clear hK K z0 z1 z2 q0 q1 q2
        refine wpAnyH_take (i := 14) (v := ?vxa21_14) (by simp only [List.getElem?_toArray, List.getElem?_cons_succ, List.getElem?_cons_zero]; rfl) (by kernel_rfl) (by kernel_rfl) (by kernel_rfl) (fun _ _ _ h => h) (Or.inl ⟨by rfl, ?hyxa21_14⟩) (by assumption) ?restxa21_14
        case hyxa21_14 => (intro w hSw; (try dsimp only at hSw); go_simp; (try with_reducible rfl))
        try simp only [Act.put, List.setIfInBounds_toArray, List.set_cons_zero, List.set_cons_succ]
        refine wpAnyH_take (i := 15) (v := ?vxa21_15) (by simp only [List.getElem?_toArray, List.getElem?_cons_succ, List.getElem?_cons_zero]; rfl) (by kernel_rfl) (by kernel_rfl) (by kernel_rfl) (fun _ _ _ h => h) (Or.inl ⟨by rfl, ?hyxa21_15⟩) (by assumption) ?restxa21_15
        case hyxa21_15 => (intro w hSw; (try dsimp only at hSw); go_simp; (try with_reducible rfl))
        try simp only [Act.put, List.setIfInBounds_toArray, List.set_cons_zero, List.set_cons_succ]
        refine wpAnyH_done (by kernel_rfl) ?_ _
        refine NoPanic.normal ?_
        go_wp2_with fail
        go_meet
        exact ⟨V2, A3, c3, A4, c4, rfl, rfl, rfl, HE.out⟩
       ·go_simp
        have HS5 := Lib.hid (Rr.more HS4.out)
        generalize y4.alloc (.cells #[.int .u64 0, .slice none 0 0, .slice none 0 0] 31) = y5 at HS5 ⊢
        generalize y4.heap.size = V2 at HS5 ⊢
        clear HS4
        try dsimp only
        refine hK.out _ _ (HSK.out _ HS5.out.1.kp) (fun hHeld => ?_)
        clear hK K
        refine wpAnyH_ready (rs := [7]) (by kernel_rfl) (by simp) ?_
        refine (AllReadyH.cons (o := _) rfl (fun K hK => ?_) AllReadyH.nil)
        go_simp
        refine (HPX.out y5 A6 c6 HS5.out.1.kp (Rr.read HS5.out rfl)).mono ?_
        rintro e y6 ⟨A3, c3, A4, c4, rfl, hv, hk⟩
        have HS6 := Lib.hid (Ra.call HS5.out.1 hk hv)
        clear hv hk
        clear HS5
        try dsimp only
        refine hK.out _ _ (HSK.out _ HS6.out.1.kp) (fun hHeld => ?_)
        clear hK K
        refine wpAnyH_take (i := 8) (v := ?vxl22_8) (by simp only [List.getElem?_toArray, List.getElem?_cons_succ, List.getElem?_cons_zero]; rfl) (by kernel_rfl) (by kernel_rfl) (by kernel_rfl) (fun _ _ _ h => h) (Or.inl ⟨by rfl, ?hyxl22_8⟩) (by assumption) ?restxl22_8
        case hyxl22_8 => (intro w hSw; (try dsimp only at hSw); go_simp; (try with_reducible rfl))
        try simp only [Act.put, List.setIfInBounds_toArray, List.set_cons_zero, List.set_cons_succ]
        refine wpAnyH_take (i := 9) (v := ?vxl22_9) (by simp only [List.getElem?_toArray, List.getElem?_cons_succ, List.getElem?_cons_zero]; rfl) (by kernel_rfl) (by kernel_rfl) (by kernel_rfl) (fun _ _ _ h => h) (Or.inl ⟨by rfl, ?hyxl22_9⟩) (by assumption) ?restxl22_9
        case hyxl22_9 => (intro w hSw; (try dsimp only at hSw); go_simp; (try with_reducible rfl))
        try simp only [Act.put, List.setIfInBounds_toArray, List.set_cons_zero, List.set_cons_succ]
        refine wpAnyH_take (i := 10) (v := ?vxl22_10) (by simp only [List.getElem?_toArray, List.getElem?_cons_succ, List.getElem?_cons_zero]; rfl) (by kernel_rfl) (by kernel_rfl) (by kernel_rfl) (fun _ _ _ h => h) (Or.inl ⟨by rfl, ?hyxl22_10⟩) (by assumption) ?restxl22_10
        case hyxl22_10 => (intro w hSw; (try dsimp only at hSw); go_simp; (try with_reducible rfl))
        try simp only [Act.put, List.setIfInBounds_toArray, List.set_cons_zero, List.set_cons_succ]
        refine wpAnyH_take (i := 11) (v := ?vxl22_11) (by simp only [List.getElem?_toArray, List.getElem?_cons_succ, List.getElem?_cons_zero]; rfl) (by kernel_rfl) (by kernel_rfl) (by kernel_rfl) (fun _ _ _ h => h) (Or.inl ⟨by rfl, ?hyxl22_11⟩) (by assumption) ?restxl22_11
        case hyxl22_11 => (intro w hSw; (try dsimp only at hSw); go_simp; (try with_reducible rfl))
        try simp only [Act.put, List.setIfInBounds_toArray, List.set_cons_zero, List.set_cons_succ]
        refine wpAnyH_ready (rs := [13]) (by kernel_rfl) (by simp) ?_
        refine (AllReadyH.cons (o := _) rfl (fun K hK => ?_) AllReadyH.nil)
        have hzb := (HS6.out.1.2.1 V2 rfl).2
        have z0 := hzb.cell 0
        have z1 := hzb.cell 1
        have z2 := hzb.cell 2
        simp at z0 z1 z2
        have q0 := hzb.frozen 0
        have q1 := hzb.frozen 1
        have q2 := hzb.frozen 2
        clear hzb
        have HE := Lib.hid (Rc.fin HS6.out)
        go_simp
        try dsimp only
        refine hK.out _ _ (HSE.out _ (HE.out.1)) (fun hHeld => ?_)
        clear hK K z0 z1 z2 q0 q1 q2
        refine wpAnyH_take (i := 14) (v := ?vxa23_14) (by simp only [List.getElem?_toArray, List.getElem?_cons_succ, List.getElem?_cons_zero]; rfl) (by kernel_rfl) (by kernel_rfl) (by kernel_rfl) (fun _ _ _ h => h) (Or.inl ⟨by rfl, ?hyxa23_14⟩) (by assumption) ?restxa23_14
        case hyxa23_14 => (intro w hSw; (try dsimp only at hSw); go_simp; (try with_reducible rfl))
        try simp only [Act.put, List.setIfInBounds_toArray, List.set_cons_zero, List.set_cons_succ]
        refine wpAnyH_take (i := 15) (v := ?vxa23_15) (by simp only [List.getElem?_toArray, List.getElem?_cons_succ, List.getElem?_cons_zero]; rfl) (by kernel_rfl) (by kernel_rfl) (by kernel_rfl) (fun _ _ _ h => h) (Or.inl ⟨by rfl, ?hyxa23_15⟩) (by assumption) ?restxa23_15
        case hyxa23_15 => (intro w hSw; (try dsimp only at hSw); go_simp; (try with_reducible rfl))
        try simp only [Act.put, List.setIfInBounds_toArray, List.set_cons_zero, List.set_cons_succ]
        refine wpAnyH_done (by kernel_rfl) ?_ _
        refine NoPanic.normal ?_
        go_wp2_with fail
        go_meet
        exact ⟨V2, A3, c3, A4, c4, rfl, rfl, rfl, HE.out⟩
      ·go_simp
       have HS4 := Lib.hid (Rr.more HS3.out)
       generalize y3.alloc (.cells #[.int .u64 0, .slice none 0 0, .slice none 0 0] 31) = y4 at HS4 ⊢
       generalize y3.heap.size = V2 at HS4 ⊢
       clear HS3
       try dsimp only
       refine hK.out _ _ (HSK.out _ HS4.out.1.kp) (fun hHeld => ?_)
       clear hK K
       refine wpAnyH_ready (rs := [6]) (by kernel_rfl) (by simp) ?_
       refine (AllReadyH.cons (o := _) rfl (fun K hK => ?_) AllReadyH.nil)
       refine step_app_row rfl (.tmp 72) (.tmp 74) rfl A5 b.length c5 b (by simp [Act.eval]) HS4.out.2 (fun j => j = gB) (some ⟨gB, 0, none⟩) 1 1 [d] (by simp [Act.eval]) rfl (Ra.one HS4.out.1) (bm.length) (HBL.out) (by omega) ?_
       intro A6 c6 y5 ho hk
       have HS5 := Lib.hid (Rr.app HS4.out ho hk)
       rw [← HBM.out] at HS5
       clear ho hk
       try simp only [Act.put, List.setIfInBounds_toArray, List.set_cons_zero, List.set_cons_succ]
       clear HS4
       try dsimp only
       refine hK.out _ _ (HSK.out _ HS5.out.1.kp) (fun hHeld => ?_)
       clear hK K
       refine wpAnyH_ready (rs := [7]) (by kernel_rfl) (by simp) ?_
       refine (AllReadyH.cons (o := _) rfl (fun K hK => ?_) AllReadyH.nil)
       go_simp
       refine (HPX.out y5 A6 c6 HS5.out.1.kp (Rr.read HS5.out rfl)).mono ?_
       rintro e y6 ⟨A3, c3, A4, c4, rfl, hv, hk⟩
       have HS6 := Lib.hid (Ra.call HS5.out.1 hk hv)
       clear hv hk
       clear HS5
       try dsimp only
       refine hK.out _ _ (HSK.out _ HS6.out.1.kp) (fun hHeld => ?_)
       clear hK K
       refine wpAnyH_take (i := 8) (v := ?vxl24_8) (by simp only [List.getElem?_toArray, List.getElem?_cons_succ, List.getElem?_cons_zero]; rfl) (by kernel_rfl) (by kernel_rfl) (by kernel_rfl) (fun _ _ _ h => h) (Or.inl ⟨by rfl, ?hyxl24_8⟩) (by assumption) ?restxl24_8
       case hyxl24_8 => (intro w hSw; (try dsimp only at hSw); go_simp; (try with_reducible rfl))
       try simp only [Act.put, List.setIfInBounds_toArray, List.set_cons_zero, List.set_cons_succ]
       refine wpAnyH_take (i := 9) (v := ?vxl24_9) (by simp only [List.getElem?_toArray, List.getElem?_cons_succ, List.getElem?_cons_zero]; rfl) (by kernel_rfl) (by kernel_rfl) (by kernel_rfl) (fun _ _ _ h => h) (Or.inl ⟨by rfl, ?hyxl24_9⟩) (by assumption) ?restxl24_9
       case hyxl24_9 => (intro w hSw; (try dsimp only at hSw); go_simp; (try with_reducible rfl))
       try simp only [Act.put, List.setIfInBounds_toArray, List.set_cons_zero, List.set_cons_succ]
       refine wpAnyH_take (i := 10) (v := ?vxl24_10) (by simp only [List.getElem?_toArray, List.getElem?_cons_succ, List.getElem?_cons_zero]; rfl) (by kernel_rfl) (by kernel_rfl) (by kernel_rfl) (fun _ _ _ h => h) (Or.inl ⟨by rfl, ?hyxl24_10⟩) (by assumption) ?restxl24_10
       case hyxl24_10 => (intro w hSw; (try dsimp only at hSw); go_simp; (try with_reducible rfl))
       try simp only [Act.put, List.setIfInBounds_toArray, List.set_cons_zero, List.set_cons_succ]
       refine wpAnyH_take (i := 11) (v := ?vxl24_11) (by simp only [List.getElem?_toArray, List.getElem?_cons_succ, List.getElem?_cons_zero]; rfl) (by kernel_rfl) (by kernel_rfl) (by kernel_rfl) (fun _ _ _ h => h) (Or.inl ⟨by rfl, ?hyxl24_11⟩) (by assumption) ?restxl24_11
       case hyxl24_11 => (intro w hSw; (try dsimp only at hSw); go_simp; (try with_reducible rfl))
       try simp only [Act.put, List.setIfInBounds_toArray, List.set_cons_zero, List.set_cons_succ]
       refine wpAnyH_ready (rs := [13]) (by kernel_rfl) (by simp) ?_
       refine (AllReadyH.cons (o := _) rfl (fun K hK => ?_) AllReadyH.nil)
       have hzb := (HS6.out.1.2.1 V2 rfl).2
       have z0 := hzb.cell 0
       have z1 := hzb.cell 1
       have z2 := hzb.cell 2
       simp at z0 z1 z2
       have q0 := hzb.frozen 0
       have q1 := hzb.frozen 1
       have q2 := hzb.frozen 2
       clear hzb
       have HE := Lib.hid (Rc.fin HS6.out)
       go_simp
       try dsimp only
       refine hK.out _ _ (HSE.out _ (HE.out.1)) (fun hHeld => ?_)
       clear hK K z0 z1 z2 q0 q1 q2
       refine wpAnyH_take (i := 14) (v := ?vxa25_14) (by simp only [List.getElem?_toArray, List.getElem?_cons_succ, List.getElem?_cons_zero]; rfl) (by kernel_rfl) (by kernel_rfl) (by kernel_rfl) (fun _ _ _ h => h) (Or.inl ⟨by rfl, ?hyxa25_14⟩) (by assumption) ?restxa25_14
       case hyxa25_14 => (intro w hSw; (try dsimp only at hSw); go_simp; (try with_reducible rfl))
       try simp only [Act.put, List.setIfInBounds_toArray, List.set_cons_zero, List.set_cons_succ]
       refine wpAnyH_take (i := 15) (v := ?vxa25_15) (by simp only [List.getElem?_toArray, List.getElem?_cons_succ, List.getElem?_cons_zero]; rfl) (by kernel_rfl) (by kernel_rfl) (by kernel_rfl) (fun _ _ _ h => h) (Or.inl ⟨by rfl, ?hyxa25_15⟩) (by assumption) ?restxa25_15
       case hyxa25_15 => (intro w hSw; (try dsimp only at hSw); go_simp; (try with_reducible rfl))
       try simp only [Act.put, List.setIfInBounds_toArray, List.set_cons_zero, List.set_cons_succ]
       refine wpAnyH_done (by kernel_rfl) ?_ _
       refine NoPanic.normal ?_
       go_wp2_with fail
       go_meet
       exact ⟨V2, A3, c3, A4, c4, rfl, rfl, rfl, HE.out⟩
     ·go_simp
      have HS3 := Lib.hid (Rr.more HS2.out)
      generalize y2.alloc (.cells #[.int .u64 0, .slice none 0 0, .slice none 0 0] 31) = y3 at HS3 ⊢
      generalize y2.heap.size = V2 at HS3 ⊢
      clear HS2
      try dsimp only
      refine hK.out _ _ (HSK.out _ HS3.out.1.kp) (fun hHeld => ?_)
      clear hK K
      refine wpAnyH_ready (rs := [3]) (by kernel_rfl) (by simp) ?_
      refine (AllReadyH.cons (o := _) rfl (fun K hK => ?_) AllReadyH.nil)
      refine step_app_row rfl (.tmp 70) (.tmp 71) rfl _ _ _ [] (by simp [Act.eval]) HS3.out.2 (· < w.heap.size) Ab b.length cb b (by simp [Act.eval]) rfl (HBR.out y3 (HKX.out y3 HS3.out.1.kp)) (b.length) (by simp) (by omega) ?_
      intro A5 c5 y4 ho hk
      have HS4 := Lib.hid (Rr.app HS3.out ho hk)
      rw [List.nil_append] at HS4
      clear ho hk
      try simp only [Act.put, List.setIfInBounds_toArray, List.set_cons_zero, List.set_cons_succ]
      clear HS3
      try dsimp only
      refine hK.out _ _ (HSK.out _ HS4.out.1.kp) (fun hHeld => ?_)
      clear hK K
      refine wpAnyH_ready (rs := [6]) (by kernel_rfl) (by simp) ?_
      refine (AllReadyH.cons (o := _) rfl (fun K hK => ?_) AllReadyH.nil)
      refine step_app_row rfl (.tmp 72) (.tmp 74) rfl A5 b.length c5 b (by simp [Act.eval]) HS4.out.2 (fun j => j = gB) (some ⟨gB, 0, none⟩) 1 1 [d] (by simp [Act.eval]) rfl (Ra.one HS4.out.1) (bm.length) (HBL.out) (by omega) ?_
      intro A6 c6 y5 ho hk
      have HS5 := Lib.hid (Rr.app HS4.out ho hk)
      rw [← HBM.out] at HS5
      clear ho hk
      try simp only [Act.put, List.setIfInBounds_toArray, List.set_cons_zero, List.set_cons_succ]
      clear HS4
      try dsimp only
      refine hK.out _ _ (HSK.out _ HS5.out.1.kp) (fun hHeld => ?_)
      clear hK K
      refine wpAnyH_ready (rs := [7]) (by kernel_rfl) (by simp) ?_
      refine (AllReadyH.cons (o := _) rfl (fun K hK => ?_) AllReadyH.nil)
      go_simp
      refine (HPX.out y5 A6 c6 HS5.out.1.kp (Rr.read HS5.out rfl)).mono ?_
      rintro e y6 ⟨A3, c3, A4, c4, rfl, hv, hk⟩
      have HS6 := Lib.hid (Ra.call HS5.out.1 hk hv)
      clear hv hk
      clear HS5
      try dsimp only
      refine hK.out _ _ (HSK.out _ HS6.out.1.kp) (fun hHeld => ?_)
      clear hK K
      refine wpAnyH_take (i := 8) (v := ?vxl26_8) (by simp only [List.getElem?_toArray, List.getElem?_cons_succ, List.getElem?_cons_zero]; rfl) (by kernel_rfl) (by kernel_rfl) (by kernel_rfl) (fun _ _ _ h => h) (Or.inl ⟨by rfl, ?hyxl26_8⟩) (by assumption) ?restxl26_8
      case hyxl26_8 => (intro w hSw; (try dsimp only at hSw); go_simp; (try with_reducible rfl))
      try simp only [Act.put, List.setIfInBounds_toArray, List.set_cons_zero, List.set_cons_succ]
      refine wpAnyH_take (i := 9) (v := ?vxl26_9) (by simp only [List.getElem?_toArray, List.getElem?_cons_succ, List.getElem?_cons_zero]; rfl) (by kernel_rfl) (by kernel_rfl) (by kernel_rfl) (fun _ _ _ h => h) (Or.inl ⟨by rfl, ?hyxl26_9⟩) (by assumption) ?restxl26_9
      case hyxl26_9 => (intro w hSw; (try dsimp only at hSw); go_simp; (try with_reducible rfl))
      try simp only [Act.put, List.setIfInBounds_toArray, List.set_cons_zero, List.set_cons_succ]
      refine wpAnyH_take (i := 10) (v := ?vxl26_10) (by simp only [List.getElem?_toArray, List.getElem?_cons_succ, List.getElem?_cons_zero]; rfl) (by kernel_rfl) (by kernel_rfl) (by kernel_rfl) (fun _ _ _ h => h) (Or.inl ⟨by rfl, ?hyxl26_10⟩) (by assumption) ?restxl26_10
      case hyxl26_10 => (intro w hSw; (try dsimp only at hSw); go_simp; (try with_reducible rfl))
      try simp only [Act.put, List.setIfInBounds_toArray, List.set_cons_zero, List.set_cons_succ]
      refine wpAnyH_take (i := 11) (v := ?vxl26_11) (by simp only [List.getElem?_toArray, List.getElem?_cons_succ, List.getElem?_cons_zero]; rfl) (by kernel_rfl) (by kernel_rfl) (by kernel_rfl) (fun _ _ _ h => h) (Or.inl ⟨by rfl, ?hyxl26_11⟩) (by assumption) ?restxl26_11
      case hyxl26_11 => (intro w hSw; (try dsimp only at hSw); go_simp; (try with_reducible rfl))
      try simp only [Act.put, List.setIfInBounds_toArray, List.set_cons_zero, List.set_cons_succ]
      refine wpAnyH_ready (rs := [13]) (by kernel_rfl) (by simp) ?_
      refine (AllReadyH.cons (o := _) rfl (fun K hK => ?_) AllReadyH.nil)
      have hzb := (HS6.out.1.2.1 V2 rfl).2
      have z0 := hzb.cell 0
      have z1 := hzb.cell 1
      have z2 := hzb.cell 2
      simp at z0 z1 z2
      have q0 := hzb.frozen 0
      have q1 := hzb.frozen 1
      have q2 := hzb.frozen 2
      clear hzb
      have HE := Lib.hid (Rc.fin HS6.out)
      go_simp
      try dsimp only
      refine hK.out _ _ (HSE.out _ (HE.out.1)) (fun hHeld => ?_)
      clear hK K z0 z1 z2 q0 q1 q2
      refine wpAnyH_take (i := 14) (v := ?vxa27_14) (by simp only [List.getElem?_toArray, List.getElem?_cons_succ, List.getElem?_cons_zero]; rfl) (by kernel_rfl) (by kernel_rfl) (by kernel_rfl) (fun _ _ _ h => h) (Or.inl ⟨by rfl, ?hyxa27_14⟩) (by assumption) ?restxa27_14
      case hyxa27_14 => (intro w hSw; (try dsimp only at hSw); go_simp; (try with_reducible rfl))
      try simp only [Act.put, List.setIfInBounds_toArray, List.set_cons_zero, List.set_cons_succ]
      refine wpAnyH_take (i := 15) (v := ?vxa27_15) (by simp only [List.getElem?_toArray, List.getElem?_cons_succ, List.getElem?_cons_zero]; rfl) (by kernel_rfl) (by kernel_rfl) (by kernel_rfl) (fun _ _ _ h => h) (Or.inl ⟨by rfl, ?hyxa27_15⟩) (by assumption) ?restxa27_15
      case hyxa27_15 => (intro w hSw; (try dsimp only at hSw); go_simp; (try with_reducible rfl))
      try simp only [Act.put, List.setIfInBounds_toArray, List.set_cons_zero, List.set_cons_succ]
      refine wpAnyH_done (by kernel_rfl) ?_ _
      refine NoPanic.normal ?_
      go_wp2_with fail
      go_meet
      exact ⟨V2, A3, c3, A4, c4, rfl, rfl, rfl, HE.out⟩
    ·go_simp
     have HS2 := Lib.hid (Ra.more HS1.out)
     generalize y1.alloc (.cells #[.int .u64 0, .slice none 0 0, .slice none 0 0] 31) = y2 at HS2 ⊢
     generalize y1.heap.size = V2 at HS2 ⊢
     clear HS1
     try dsimp only
     refine hK.out _ _ (HSK.out _ HS2.out.kp) (fun hHeld => ?_)
     clear hK K
     refine wpAnyH_ready (rs := [1]) (by kernel_rfl) (by simp) ?_
     refine (AllReadyH.cons (o := _) rfl (fun K hK => ?_) AllReadyH.nil)
     go_simp
     have HS3 := Lib.hid (Ra.lit HS2.out)
     generalize y2.alloc (.cells #[] 5) = y3 at HS3 ⊢
     generalize y2.heap.size = gA at HS3 ⊢
     clear HS2
     try dsimp only
     refine hK.out _ _ (HSK.out _ HS3.out.1.kp) (fun hHeld => ?_)
     clear hK K
     refine wpAnyH_ready (rs := [3]) (by kernel_rfl) (by simp) ?_
     refine (AllReadyH.cons (o := _) rfl (fun K hK => ?_) AllReadyH.nil)
     refine step_app_row rfl (.tmp 70) (.tmp 71) rfl _ _ _ [] (by simp [Act.eval]) HS3.out.2 (· < w.heap.size) Ab b.length cb b (by simp [Act.eval]) rfl (HBR.out y3 (HKX.out y3 HS3.out.1.kp)) (b.length) (by simp) (by omega) ?_
     intro A5 c5 y4 ho hk
     have HS4 := Lib.hid (Rr.app HS3.out ho hk)
     rw [List.nil_append] at HS4
     clear ho hk
     try simp only [Act.put, List.setIfInBounds_toArray, List.set_cons_zero, List.set_cons_succ]
     clear HS3
     try dsimp only
     refine hK.out _ _ (HSK.out _ HS4.out.1.kp) (fun hHeld => ?_)
     clear hK K
     refine wpAnyH_ready (rs := [6]) (by kernel_rfl) (by simp) ?_
     refine (AllReadyH.cons (o := _) rfl (fun K hK => ?_) AllReadyH.nil)
     refine step_app_row rfl (.tmp 72) (.tmp 74) rfl A5 b.length c5 b (by simp [Act.eval]) HS4.out.2 (fun j => j = gB) (some ⟨gB, 0, none⟩) 1 1 [d] (by simp [Act.eval]) rfl (Ra.one HS4.out.1) (bm.length) (HBL.out) (by omega) ?_
     intro A6 c6 y5 ho hk
     have HS5 := Lib.hid (Rr.app HS4.out ho hk)
     rw [← HBM.out] at HS5
     clear ho hk
     try simp only [Act.put, List.setIfInBounds_toArray, List.set_cons_zero, List.set_cons_succ]
     clear HS4
     try dsimp only
     refine hK.out _ _ (HSK.out _ HS5.out.1.kp) (fun hHeld => ?_)
     clear hK K
     refine wpAnyH_ready (rs := [7]) (by kernel_rfl) (by simp) ?_
     refine (AllReadyH.cons (o := _) rfl (fun K hK => ?_) AllReadyH.nil)
     go_simp
     refine (HPX.out y5 A6 c6 HS5.out.1.kp (Rr.read HS5.out rfl)).mono ?_
     rintro e y6 ⟨A3, c3, A4, c4, rfl, hv, hk⟩
     have HS6 := Lib.hid (Ra.call HS5.out.1 hk hv)
     clear hv hk
     clear HS5
     try dsimp only
     refine hK.out _ _ (HSK.out _ HS6.out.1.kp) (fun hHeld => ?_)
     clear hK K
     refine wpAnyH_take (i := 8) (v := ?vxl28_8) (by simp only [List.getElem?_toArray, List.getElem?_cons_succ, List.getElem?_cons_zero]; rfl) (by kernel_rfl) (by kernel_rfl) (by kernel_rfl) (fun _ _ _ h => h) (Or.inl ⟨by rfl, ?hyxl28_8⟩) (by assumption) ?restxl28_8
     case hyxl28_8 => (intro w hSw; (try dsimp only at hSw); go_simp; (try with_reducible rfl))
     try simp only [Act.put, List.setIfInBounds_toArray, List.set_cons_zero, List.set_cons_succ]
     refine wpAnyH_take (i := 9) (v := ?vxl28_9) (by simp only [List.getElem?_toArray, List.getElem?_cons_succ, List.getElem?_cons_zero]; rfl) (by kernel_rfl) (by kernel_rfl) (by kernel_rfl) (fun _ _ _ h => h) (Or.inl ⟨by rfl, ?hyxl28_9⟩) (by assumption) ?restxl28_9
     case hyxl28_9 => (intro w hSw; (try dsimp only at hSw); go_simp; (try with_reducible rfl))
     try simp only [Act.put, List.setIfInBounds_toArray, List.set_cons_zero, List.set_cons_succ]
     refine wpAnyH_take (i := 10) (v := ?vxl28_10) (by simp only [List.getElem?_toArray, List.getElem?_cons_succ, List.getElem?_cons_zero]; rfl) (by kernel_rfl) (by kernel_rfl) (by kernel_rfl) (fun _ _ _ h => h) (Or.inl ⟨by rfl, ?hyxl28_10⟩) (by assumption) ?restxl28_10
     case hyxl28_10 => (intro w hSw; (try dsimp only at hSw); go_simp; (try with_reducible rfl))
     try simp only [Act.put, List.setIfInBounds_toArray, List.set_cons_zero, List.set_cons_succ]
     refine wpAnyH_take (i := 11) (v := ?vxl28_11) (by simp only [List.getElem?_toArray, List.getElem?_cons_succ, List.getElem?_cons_zero]; rfl) (by kernel_rfl) (by kernel_rfl) (by kernel_rfl) (fun _ _ _ h => h) (Or.inl ⟨by rfl, ?hyxl28_11⟩) (by assumption) ?restxl28_11
     case hyxl28_11 => (intro w hSw; (try dsimp only at hSw); go_simp; (try with_reducible rfl))
     try simp only [Act.put, List.setIfInBounds_toArray, List.set_cons_zero, List.set_cons_succ]
     refine wpAnyH_ready (rs := [13]) (by kernel_rfl) (by simp) ?_
     refine (AllReadyH.cons (o := _) rfl (fun K hK => ?_) AllReadyH.nil)
     have hzb := (HS6.out.1.2.1 V2 rfl).2
     have z0 := hzb.cell 0
     have z1 := hzb.cell 1
     have z2 := hzb.cell 2
     simp at z0 z1 z2
     have q0 := hzb.frozen 0
     have q1 := hzb.frozen 1
     have q2 := hzb.frozen 2
     clear hzb
     have HE := Lib.hid (Rc.fin HS6.out)
     go_simp
     try dsimp only
     refine hK.out _ _ (HSE.out _ (HE.out.1)) (fun hHeld => ?_)
     clear hK K z0 z1 z2 q0 q1 q2
     refine wpAnyH_take (i := 14) (v := ?vxa29_14) (by simp only [List.getElem?_toArray, List.getElem?_cons_succ, List.getElem?_cons_zero]; rfl) (by kernel_rfl) (by kernel_rfl) (by kernel_rfl) (fun _ _ _ h => h) (Or.inl ⟨by rfl, ?hyxa29_14⟩) (by assumption) ?restxa29_14
     case hyxa29_14 => (intro w hSw; (try dsimp only at hSw); go_simp; (try with_reducible rfl))
     try simp only [Act.put, List.setIfInBounds_toArray, List.set_cons_zero, List.set_cons_succ]
     refine wpAnyH_take (i := 15) (v := ?vxa29_15) (by simp only [List.getElem?_toArray, List.getElem?_cons_succ, List.getElem?_cons_zero]; rfl) (by kernel_rfl) (by kernel_rfl) (by kernel_rfl) (fun _ _ _ h => h) (Or.inl ⟨by rfl, ?hyxa29_15⟩) (by assumption) ?restxa29_15
     case hyxa29_15 => (intro w hSw; (try dsimp only at hSw); go_simp; (try with_reducible rfl))
     try simp only [Act.put, List.setIfInBounds_toArray, List.set_cons_zero, List.set_cons_succ]
     refine wpAnyH_done (by kernel_rfl) ?_ _
     refine NoPanic.normal ?_
     go_wp2_with fail
     go_meet
     exact ⟨V2, A3, c3, A4, c4, rfl, rfl, rfl, HE.out⟩
   ·go_simp
    have HS1 := Lib.hid (Ra.more HS0.out)
    generalize y0.alloc (.cells #[.int .u64 0, .slice none 0 0, .slice none 0 0] 31) = y1 at HS1 ⊢
    generalize y0.heap.size = V2 at HS1 ⊢
    clear HS0
    try dsimp only
    refine hK.out _ _ (HSK.out _ HS1.out.kp) (fun hHeld => ?_)
    clear hK K
    refine wpAnyH_ready (rs := [1, 5]) (by kernel_rfl) (by simp) ?_
    refine (AllReadyH.cons (o := _) rfl (fun K hK => ?_) (AllReadyH.cons (o := _) rfl (fun K hK => ?_) AllReadyH.nil))
    ·go_simp
     have HS2 := Lib.hid (Ra.lit HS1.out)
     generalize y1.alloc (.cells #[] 5) = y2 at HS2 ⊢
     generalize y1.heap.size = gA at HS2 ⊢
     clear HS1
     try dsimp only
     refine hK.out _ _ (HSK.out _ HS2.out.1.kp) (fun hHeld => ?_)
     clear hK K
     refine wpAnyH_ready (rs := [3, 5]) (by kernel_rfl) (by simp) ?_
     refine (AllReadyH.cons (o := _) rfl (fun K hK => ?_) (AllReadyH.cons (o := _) rfl (fun K hK => ?_) AllReadyH.nil))
     ·refine step_app_row rfl (.tmp 70) (.tmp 71) rfl _ _ _ [] (by simp [Act.eval]) HS2.out.2 (· < w.heap.size) Ab b.length cb b (by simp [Act.eval]) rfl (HBR.out y2 (HKX.out y2 HS2.out.1.kp)) (b.length) (by simp) (by omega) ?_
      intro A5 c5 y3 ho hk
      have HS3 := Lib.hid (Rr.app HS2.out ho hk)
      rw [List.nil_append] at HS3
      clear ho hk
      try simp only [Act.put, List.setIfInBounds_toArray, List.set_cons_zero, List.set_cons_succ]
      clear HS2
      try dsimp only
      refine hK.out _ _ (HSK.out _ HS3.out.1.kp) (fun hHeld => ?_)
      clear hK K
      refine wpAnyH_ready (rs := [5]) (by kernel_rfl) (by simp) ?_
      refine (AllReadyH.cons (o := _) rfl (fun K hK => ?_) AllReadyH.nil)
      go_simp
      have HS4 := Lib.hid (Rr.byte HS3.out d #[.int .u8 (d.toNat : Int)] rfl)
      generalize y3.alloc (.cells #[.int .u8 (d.toNat : Int)] 5) = y4 at HS4 ⊢
      generalize y3.heap.size = gB at HS4 ⊢
      clear HS3
      try dsimp only
      refine hK.out _ _ (HSK.out _ HS4.out.1.kp) (fun hHeld => ?_)
      clear hK K
      refine wpAnyH_ready (rs := [6]) (by kernel_rfl) (by simp) ?_
      refine (AllReadyH.cons (o := _) rfl (fun K hK => ?_) AllReadyH.nil)
      refine step_app_row rfl (.tmp 72) (.tmp 74) rfl A5 b.length c5 b (by simp [Act.eval]) HS4.out.2 (fun j => j = gB) (some ⟨gB, 0, none⟩) 1 1 [d] (by simp [Act.eval]) rfl (Ra.one HS4.out.1) (bm.length) (HBL.out) (by omega) ?_
      intro A6 c6 y5 ho hk
      have HS5 := Lib.hid (Rr.app HS4.out ho hk)
      rw [← HBM.out] at HS5
      clear ho hk
      try simp only [Act.put, List.setIfInBounds_toArray, List.set_cons_zero, List.set_cons_succ]
      clear HS4
      try dsimp only
      refine hK.out _ _ (HSK.out _ HS5.out.1.kp) (fun hHeld => ?_)
      clear hK K
      refine wpAnyH_ready (rs := [7]) (by kernel_rfl) (by simp) ?_
      refine (AllReadyH.cons (o := _) rfl (fun K hK => ?_) AllReadyH.nil)
      go_simp
      refine (HPX.out y5 A6 c6 HS5.out.1.kp (Rr.read HS5.out rfl)).mono ?_
      rintro e y6 ⟨A3, c3, A4, c4, rfl, hv, hk⟩
      have HS6 := Lib.hid (Ra.call HS5.out.1 hk hv)
      clear hv hk
      clear HS5
      try dsimp only
      refine hK.out _ _ (HSK.out _ HS6.out.1.kp) (fun hHeld => ?_)
      clear hK K
      refine wpAnyH_take (i := 8) (v := ?vxl30_8) (by simp only [List.getElem?_toArray, List.getElem?_cons_succ, List.getElem?_cons_zero]; rfl) (by kernel_rfl) (by kernel_rfl) (by kernel_rfl) (fun _ _ _ h => h) (Or.inl ⟨by rfl, ?hyxl30_8⟩) (by assumption) ?restxl30_8
      case hyxl30_8 => (intro w hSw; (try dsimp only at hSw); go_simp; (try with_reducible rfl))
      try simp only [Act.put, List.setIfInBounds_toArray, List.set_cons_zero, List.set_cons_succ]
      refine wpAnyH_take (i := 9) (v := ?vxl30_9) (by simp only [List.getElem?_toArray, List.getElem?_cons_succ, List.getElem?_cons_zero]; rfl) (by kernel_rfl) (by kernel_rfl) (by kernel_rfl) (fun _ _ _ h => h) (Or.inl ⟨by rfl, ?hyxl30_9⟩) (by assumption) ?restxl30_9
      case hyxl30_9 => (intro w hSw; (try dsimp only at hSw); go_simp; (try with_reducible rfl))
      try simp only [Act.put, List.setIfInBounds_toArray, List.set_cons_zero, List.set_cons_succ]
      refine wpAnyH_take (i := 10) (v := ?vxl30_10) (by simp only [List.getElem?_toArray, List.getElem?_cons_succ, List.getElem?_cons_zero]; rfl) (by kernel_rfl) (by kernel_rfl) (by kernel_rfl) (fun _ _ _ h => h) (Or.inl ⟨by rfl, ?hyxl30_10⟩) (by assumption) ?restxl30_10
      case hyxl30_10 => (intro w hSw; (try dsimp only at hSw); go_simp; (try with_reducible rfl))
      try simp only [Act.put, List.setIfInBounds_toArray, List.set_cons_zero, List.set_cons_succ]
      refine wpAnyH_take (i := 11) (v := ?vxl30_11) (by simp only [List.getElem?_toArray, List.getElem?_cons_succ, List.getElem?_cons_zero]; rfl) (by kernel_rfl) (by kernel_rfl) (by kernel_rfl) (fun _ _ _ h => h) (Or.inl ⟨by rfl, ?hyxl30_11⟩) (by assumption) ?restxl30_11
      case hyxl30_11 => (intro w hSw; (try dsimp only at hSw); go_simp; (try with_reducible rfl))
      try simp only [Act.put, List.setIfInBounds_toArray, List.set_cons_zero, List.set_cons_succ]
      refine wpAnyH_ready (rs := [13]) (by kernel_rfl) (by simp) ?_
      refine (AllReadyH.cons (o := _) rfl (fun K hK => ?_) AllReadyH.nil)
      have hzb := (HS6.out.1.2.1 V2 rfl).2
      have z0 := hzb.cell 0
      have z1 := hzb.cell 1
      have z2 := hzb.cell 2
      simp at z0 z1 z2
      have q0 := hzb.frozen 0
      have q1 := hzb.frozen 1
      have q2 := hzb.frozen 2
      clear hzb
      have HE := Lib.hid (Rc.fin HS6.out)
      go_simp
      try dsimp only
      refine hK.out _ _ (HSE.out _ (HE.out.1)) (fun hHeld => ?_)
      clear hK K z0 z1 z2 q0 q1 q2
      refine wpAnyH_take (i := 14) (v := ?vxa31_14) (by simp only [List.getElem?_toArray, List.getElem?_cons_succ, List.getElem?_cons_zero]; rfl) (by kernel_rfl) (by kernel_rfl) (by kernel_rfl) (fun _ _ _ h => h) (Or.inl ⟨by rfl, ?hyxa31_14⟩) (by assumption) ?restxa31_14
      case hyxa31_14 => (intro w hSw; (try dsimp only at hSw); go_simp; (try with_reducible rfl))
      try simp only [Act.put, List.setIfInBounds_toArray, List.set_cons_zero, List.set_cons_succ]
      refine wpAnyH_take (i := 15) (v := ?vxa31_15) (by simp only [List.getElem?_toArray, List.getElem?_cons_succ, List.getElem?_cons_zero]; rfl) (by kernel_rfl) (by kernel_rfl) (by kernel_rfl) (fun _ _ _ h => h) (Or.inl ⟨by rfl, ?hyxa31_15⟩) (by assumption) ?restxa31_15
      case hyxa31_15 => (intro w hSw; (try dsimp only at hSw); go_simp; (try with_reducible rfl))
      try simp only [Act.put, List.setIfInBounds_toArray, List.set_cons_zero, List.set_cons_succ]
      refine wpAnyH_done (by kernel_rfl) ?_ _
      refine NoPanic.normal ?_
      go_wp2_with fail
      go_meet
      exact ⟨V2, A3, c3, A4, c4, rfl, rfl, rfl, HE.out⟩
     ·go_simp
      have HS3 := Lib.hid (Rr.byte HS2.out d #[.int .u8 (d.toNat : Int)] rfl)
      generalize y2.alloc (.cells #[.int .u8 (d.toNat : Int)] 5) = y3 at HS3 ⊢
      generalize y2.heap.size = gB at HS3 ⊢
      clear HS2
      try dsimp only
      refine hK.out _ _ (HSK.out _ HS3.out.1.kp) (fun hHeld => ?_)
      clear hK K
      refine wpAnyH_ready (rs := [3]) (by kernel_rfl) (by simp) ?_
      refine (AllReadyH.cons (o := _) rfl (fun K hK => ?_) AllReadyH.nil)
      refine step_app_row rfl (.tmp 70) (.tmp 71) rfl _ _ _ [] (by simp [Act.eval]) HS3.out.2 (· < w.heap.size) Ab b.length cb b (by simp [Act.eval]) rfl (HBR.out y3 (HKX.out y3 HS3.out.1.kp)) (b.length) (by simp) (by omega) ?_
      intro A5 c5 y4 ho hk
      have HS4 := Lib.hid (Rr.app HS3.out ho hk)
      rw [List.nil_append] at HS4
      clear ho hk
      try simp only [Act.put, List.setIfInBounds_toArray, List.set_cons_zero, List.set_cons_succ]
      clear HS3
      try dsimp only
      refine hK.out _ _ (HSK.out _ HS4.out.1.kp) (fun hHeld => ?_)
      clear hK K
      refine wpAnyH_ready (rs := [6]) (by kernel_rfl) (by simp) ?_
      refine (AllReadyH.cons (o := _) rfl (fun K hK => ?_) AllReadyH.nil)
      refine step_app_row rfl (.tmp 72) (.tmp 74) rfl A5 b.length c5 b (by simp [Act.eval]) HS4.out.2 (fun j => j = gB) (some ⟨gB, 0, none⟩) 1 1 [d] (by simp [Act.eval]) rfl (Ra.one HS4.out.1) (bm.length) (HBL.out) (by omega) ?_
      intro A6 c6 y5 ho hk
      have HS5 := Lib.hid (Rr.app HS4.out ho hk)
      rw [← HBM.out] at HS5
      clear ho hk
      try simp only [Act.put, List.setIfInBounds_toArray, List.set_cons_zero, List.set_cons_succ]
      clear HS4
      try dsimp only
      refine hK.out _ _ (HSK.out _ HS5.out.1.kp) (fun hHeld => ?_)
      clear hK K
      refine wpAnyH_ready (rs := [7]) (by kernel_rfl) (by simp) ?_
      refine (AllReadyH.cons (o := _) rfl (fun K hK => ?_) AllReadyH.nil)
      go_simp
      refine (HPX.out y5 A6 c6 HS5.out.1.kp (Rr.read HS5.out rfl)).mono ?_
      rintro e y6 ⟨A3, c3, A4, c4, rfl, hv, hk⟩
      have HS6 := Lib.hid (Ra.call HS5.out.1 hk hv)
      clear hv hk
      clear HS5
      try dsimp only
      refine hK.out _ _ (HSK.out _ HS6.out.1.kp) (fun hHeld => ?_)
      clear hK K
      refine wpAnyH_take (i := 8) (v := ?vxl32_8) (by simp only [List.getElem?_toArray, List.getElem?_cons_succ, List.getElem?_cons_zero]; rfl) (by kernel_rfl) (by kernel_rfl) (by kernel_rfl) (fun _ _ _ h => h) (Or.inl ⟨by rfl, ?hyxl32_8⟩) (by assumption) ?restxl32_8
      case hyxl32_8 => (intro w hSw; (try dsimp only at hSw); go_simp; (try with_reducible rfl))
      try simp only [Act.put, List.setIfInBounds_toArray, List.set_cons_zero, List.set_cons_succ]
      refine wpAnyH_take (i := 9) (v := ?vxl32_9) (by simp only [List.getElem?_toArray, List.getElem?_cons_succ, List.getElem?_cons_zero]; rfl) (by kernel_rfl) (by kernel_rfl) (by kernel_rfl) (fun _ _ _ h => h) (Or.inl ⟨by rfl, ?hyxl32_9⟩) (by assumption) ?restxl32_9
      case hyxl32_9 => (intro w hSw; (try dsimp only at hSw); go_simp; (try with_reducible rfl))
      try simp only [Act.put, List.setIfInBounds_toArray, List.set_cons_zero, List.set_cons_succ]
      refine wpAnyH_take (i := 10) (v := ?vxl32_10) (by simp only [List.getElem?_toArray, List.getElem?_cons_succ, List.getElem?_cons_zero]; rfl) (by kernel_rfl) (by kernel_rfl) (by kernel_rfl) (fun _ _ _ h => h) (Or.inl ⟨by rfl, ?hyxl32_10⟩) (by assumption) ?restxl32_10
      case hyxl32_10 => (intro w hSw; (try dsimp only at hSw); go_simp; (try with_reducible rfl))
      try simp only [Act.put, List.setIfInBounds_toArray, List.set_cons_zero, List.set_cons_succ]
      refine wpAnyH_take (i := 11) (v := ?vxl32_11) (by simp only [List.getElem?_toArray, List.getElem?_cons_succ, List.getElem?_cons_zero]; rfl) (by kernel_rfl) (by kernel_rfl) (by kernel_rfl) (fun _ _ _ h => h) (Or.inl ⟨by rfl, ?hyxl32_11⟩) (by assumption) ?restxl32_11
      case hyxl32_11 => (intro w hSw; (try dsimp only at hSw); go_simp; (try with_reducible rfl))
      try simp only [Act.put, List.setIfInBounds_toArray, List.set_cons_zero, List.set_cons_succ]
      refine wpAnyH_ready (rs := [13]) (by kernel_rfl) (by simp) ?_
      refine (AllReadyH.cons (o := _) rfl (fun K hK => ?_) AllReadyH.nil)
      have hzb := (HS6.out.1.2.1 V2 rfl).2
      have z0 := hzb.cell 0
      have z1 := hzb.cell 1
      have z2 := hzb.cell 2
      simp at z0 z1 z2
      have q0 := hzb.frozen 0
      have q1 := hzb.frozen 1
      have q2 := hzb.frozen 2
      clear hzb
      have HE := Lib.hid (Rc.fin HS6.out)
      go_simp
      try dsimp only
      refine hK.out _ _ (HSE.out _ (HE.out.1)) (fun hHeld => ?_)
      clear hK K z0 z1 z2 q0 q1 q2
      refine wpAnyH_take (i := 14) (v := ?vxa33_14) (by simp only [List.getElem?_toArray, List.getElem?_cons_succ, List.getElem?_cons_zero]; rfl) (by kernel_rfl) (by kernel_rfl) (by kernel_rfl) (fun _ _ _ h => h) (Or.inl ⟨by rfl, ?hyxa33_14⟩) (by assumption) ?restxa33_14
      case hyxa33_14 => (intro w hSw; (try dsimp only at hSw); go_simp; (try with_reducible rfl))
      try simp only [Act.put, List.setIfInBounds_toArray, List.set_cons_zero, List.set_cons_succ]
      refine wpAnyH_take (i := 15) (v := ?vxa33_15) (by simp only [List.getElem?_toArray, List.getElem?_cons_succ, List.getElem?_cons_zero]; rfl) (by kernel_rfl) (by kernel_rfl) (by kernel_rfl) (fun _ _ _ h => h) (Or.inl ⟨by rfl, ?hyxa33_15⟩) (by assumption) ?restxa33_15
      case hyxa33_15 => (intro w hSw; (try dsimp only at hSw); go_simp; (try with_reducible rfl))
      try simp only [Act.put, List.setIfInBounds_toArray, List.set_cons_zero, List.set_cons_succ]
      refine wpAnyH_done (by kernel_rfl) ?_ _
      refine NoPanic.normal ?_
      go_wp2_with fail
      go_meet
      exact ⟨V2, A3, c3, A4, c4, rfl, rfl, rfl, HE.out⟩
    ·go_simp
     have HS2 := Lib.hid (Ra.byte HS1.out d #[.int .u8 (d.toNat : Int)] rfl)
     generalize y1.alloc (.cells #[.int .u8 (d.toNat : Int)] 5) = y2 at HS2 ⊢
     generalize y1.heap.size = gB at HS2 ⊢
     clear HS1
     try dsimp only
     refine hK.out _ _ (HSK.out _ HS2.out.kp) (fun hHeld => ?_)
     clear hK K
     refine wpAnyH_ready (rs := [1]) (by kernel_rfl) (by simp) ?_
     refine (AllReadyH.cons (o := _) rfl (fun K hK => ?_) AllReadyH.nil)
     go_simp
     have HS3 := Lib.hid (Ra.lit HS2.out)
     generalize y2.alloc (.cells #[] 5) = y3 at HS3 ⊢
     generalize y2.heap.size = gA at HS3 ⊢
     clear HS2
     try dsimp only
     refine hK.out _ _ (HSK.out _ HS3.out.1.kp) (fun hHeld => ?_)
     clear hK K
     refine wpAnyH_ready (rs := [3]) (by kernel_rfl) (by simp) ?_
     refine (AllReadyH.cons (o := _) rfl (fun K hK => ?_) AllReadyH.nil)
     refine step_app_row rfl (.tmp 70) (.tmp 71) rfl _ _ _ [] (by simp [Act.eval]) HS3.out.2 (· < w.heap.size) Ab b.length cb b (by simp [Act.eval]) rfl (HBR.out y3 (HKX.out y3 HS3.out.1.kp)) (b.length) (by simp) (by omega) ?_
     intro A5 c5 y4 ho hk
     have HS4 := Lib.hid (Rr.app HS3.out ho hk)
     rw [List.nil_append] at HS4
     clear ho hk
     try simp only [Act.put, List.setIfInBounds_toArray, List.set_cons_zero, List.set_cons_succ]
     clear HS3
     try dsimp only
     refine hK.out _ _ (HSK.out _ HS4.out.1.kp) (fun hHeld => ?_)
     clear hK K
     refine wpAnyH_ready (rs := [6]) (by kernel_rfl) (by simp) ?_
     refine (AllReadyH.cons (o := _) rfl (fun K hK => ?_) AllReadyH.nil)
     refine step_app_row rfl (.tmp 72) (.tmp 74) rfl A5 b.length c5 b (by simp [Act.eval]) HS4.out.2 (fun j => j = gB) (some ⟨gB, 0, none⟩) 1 1 [d] (by simp [Act.eval]) rfl (Ra.one HS4.out.1) (bm.length) (HBL.out) (by omega) ?_
     intro A6 c6 y5 ho hk
     have HS5 := Lib.hid (Rr.app HS4.out ho hk)
     rw [← HBM.out] at HS5
     clear ho hk
     try simp only [Act.put, List.setIfInBounds_toArray, List.set_cons_zero, List.set_cons_succ]
     clear HS4
     try dsimp only
     refine hK.out _ _ (HSK.out _ HS5.out.1.kp) (fun hHeld => ?_)
     clear hK K
     refine wpAnyH_ready (rs := [7]) (by kernel_rfl) (by simp) ?_
     refine (AllReadyH.cons (o := _) rfl (fun K hK => ?_) AllReadyH.nil)
     go_simp
     refine (HPX.out y5 A6 c6 HS5.out.1.kp (Rr.read HS5.out rfl)).mono ?_
     rintro e y6 ⟨A3, c3, A4, c4, rfl, hv, hk⟩
     have HS6 := Lib.hid (Ra.call HS5.out.1 hk hv)
     clear hv hk
     clear HS5
     try dsimp only
     refine hK.out _ _ (HSK.out _ HS6.out.1.kp) (fun hHeld => ?_)
     clear hK K
     refine wpAnyH_take (i := 8) (v := ?vxl34_8) (by simp only [List.getElem?_toArray, List.getElem?_cons_succ, List.getElem?_cons_zero]; rfl) (by kernel_rfl) (by kernel_rfl) (by kernel_rfl) (fun _ _ _ h => h) (Or.inl ⟨by rfl, ?hyxl34_8⟩) (by assumption) ?restxl34_8
     case hyxl34_8 => (intro w hSw; (try dsimp only at hSw); go_simp; (try with_reducible rfl))
     try simp only [Act.put, List.setIfInBounds_toArray, List.set_cons_zero, List.set_cons_succ]
     refine wpAnyH_take (i := 9) (v := ?vxl34_9) (by simp only [List.getElem?_toArray, List.getElem?_cons_succ, List.getElem?_cons_zero]; rfl) (by kernel_rfl) (by kernel_rfl) (by kernel_rfl) (fun _ _ _ h => h) (Or.inl ⟨by rfl, ?hyxl34_9⟩) (by assumption) ?restxl34_9
     case hyxl34_9 => (intro w hSw; (try dsimp only at hSw); go_simp; (try with_reducible rfl))
     try simp only [Act.put, List.setIfInBounds_toArray, List.set_cons_zero, List.set_cons_succ]
     refine wpAnyH_take (i := 10) (v := ?vxl34_10) (by simp only [List.getElem?_toArray, List.getElem?_cons_succ, List.getElem?_cons_zero]; rfl) (by kernel_rfl) (by kernel_rfl) (by kernel_rfl) (fun _ _ _ h => h) (Or.inl ⟨by rfl, ?hyxl34_10⟩) (by assumption) ?restxl34_10
     case hyxl34_10 => (intro w hSw; (try dsimp only at hSw); go_simp; (try with_reducible rfl))
     try simp only [Act.put, List.setIfInBounds_toArray, List.set_cons_zero, List.set_cons_succ]
     refine wpAnyH_take (i := 11) (v := ?vxl34_11) (by simp only [List.getElem?_toArray, List.getElem?_cons_succ, List.getElem?_cons_zero]; rfl) (by kernel_rfl) (by kernel_rfl) (by kernel_rfl) (fun _ _ _ h => h) (Or.inl ⟨by rfl, ?hyxl34_11⟩) (by assumption) ?restxl34_11
     case hyxl34_11 => (intro w hSw; (try dsimp only at hSw); go_simp; (try with_reducible rfl))
     try simp only [Act.put, List.setIfInBounds_toArray, List.set_cons_zero, List.set_cons_succ]
     refine wpAnyH_ready (rs := [13]) (by kernel_rfl) (by simp) ?_
     refine (AllReadyH.cons (o := _) rfl (fun K hK => ?_) AllReadyH.nil)
     have hzb := (HS6.out.1.2.1 V2 rfl).2
     have z0 := hzb.cell 0
     have z1 := hzb.cell 1
     have z2 := hzb.cell 2
     simp at z0 z1 z2
     have q0 := hzb.frozen 0
     have q1 := hzb.frozen 1
     have q2 := hzb.frozen 2
     clear hzb
     have HE := Lib.hid (Rc.fin HS6.out)
     go_simp
     try dsimp only
     refine hK.out _ _ (HSE.out _ (HE.out.1)) (fun hHeld => ?_)
     clear hK K z0 z1 z2 q0 q1 q2
     refine wpAnyH_take (i := 14) (v := ?vxa35_14) (by simp only [List.getElem?_toArray, List.getElem?_cons_succ, List.getElem?_cons_zero]; rfl) (by kernel_rfl) (by kernel_rfl) (by kernel_rfl) (fun _ _ _ h => h) (Or.inl ⟨by rfl, ?hyxa35_14⟩) (by assumption) ?restxa35_14
     case hyxa35_14 => (intro w hSw; (try dsimp only at hSw); go_simp; (try with_reducible rfl))
     try simp only [Act.put, List.setIfInBounds_toArray, List.set_cons_zero, List.set_cons_succ]
     refine wpAnyH_take (i := 15) (v := ?vxa35_15) (by simp only [List.getElem?_toArray, List.getElem?_cons_succ, List.getElem?_cons_zero]; rfl) (by kernel_rfl) (by kernel_rfl) (by kernel_rfl) (fun _ _ _ h => h) (Or.inl ⟨by rfl, ?hyxa35_15⟩) (by assumption) ?restxa35_15
     case hyxa35_15 => (intro w hSw; (try dsimp only at hSw); go_simp; (try with_reducible rfl))
     try simp only [Act.put, List.setIfInBounds_toArray, List.set_cons_zero, List.set_cons_succ]
     refine wpAnyH_done (by kernel_rfl) ?_ _
     refine NoPanic.normal ?_
     go_wp2_with fail
     go_meet
     exact ⟨V2, A3, c3, A4, c4, rfl, rfl, rfl, HE.out⟩
  case rest =>
  obtain ⟨V2, A3, c3, A4, c4, rfl, rfl, rfl, hend⟩ := hcut
  obtain ⟨hk8, hV2, hb8, hv8⟩ := hend
  clear HSE HSK HKX HPX HR2 HBM HBL hbml
  generalize wc = w8 at hk8 hb8 hv8 ⊢
  have HK8 := Lib.hid (HK7.out.then_ hk8 (fun _ h => h.elim))
  have HBF8 := Lib.hid (HBF7.out.kp hk8 (fun h => h))
  have HV8 := Lib.hid (HV7.out.kp hk8 (fun _ _ h => h))
  have HBV8 := Lib.hid (HBV7.out.kp hk8 (fun h => h))
  have HSM := Lib.hid (same05_any _ _ _ _ _ _ w8 HV8.out hv8)
  have HNE2 := Lib.hid (HNE.out)
  have v0 := HBV8.out.cell 0
  have v1 := HBV8.out.cell 1
  have v2 := HBV8.out.cell 2
  have u0 := hb8.cell 0
  have u1 := hb8.cell 1
  have u2 := hb8.cell 2
  simp at v0 v1 v2 u0 u1 u2
  clear hk8 hb8 hv8 hV2 HK7 HBF7 HV7 HBV7 HNE
  go_upto_region 10 with fail
  go_cut [86] (fun c wx => c = .bool false ∧ Kp (fun _ => False) w8 wx)
  case first =>
   by_cases her2 : er2 = 0
   ·have hne2 : (er2 == 0) = true := by simp [her2]
    rw [HNE2.out hne2] at HSM
    clear her2
    go_wp2_with fail
    refine HSM.out.mono ?_
    rintro e w9 ⟨rfl, hk9⟩
    have HK9 := Lib.hid hk9
    clear hk9
    go_wp2_with fail
    go_meet
    exact ⟨rfl, HK9.out⟩
   ·have hne2 : (er2 == 0) = false := by simpa using her2
    clear her2
    go_wp2_with fail
    go_meet
    exact ⟨rfl, Kp.refl _ _⟩
  case rest =>
  obtain ⟨rfl, hk9⟩ := hcut
  generalize wc = w9 at hk9 ⊢
  have HK9 := Lib.hid (HK8.out.then_ hk9 (fun _ h => h.elim))
  have HBF9 := Lib.hid (HBF8.out.kp hk9 (fun h => h))
  have HV9 := Lib.hid (HV8.out.kp hk9 (fun _ _ h => h))
  have HBV9 := Lib.hid (HBV8.out.kp hk9 (fun h => h))
  clear hk9 HSM HNE2 v0 v1 v2 u0 u1 u2 HK8 HBF8 HV8 HBV8
  by_cases hb0 : b.length = 0
  ·have hb1 : ((b.length : Int) == 0) = true := by simp [hb0]
   clear hb0
   go_wp2_with fail
   go_ret
   exact ⟨rfl, HK9.out⟩
  have hb1 : ((b.length : Int) == 0) = false := by simpa using hb0
  obtain ⟨n, HN⟩ : ∃ n : Nat, Hid (b.length = n + 1) := ⟨b.length - 1, Lib.hid (by omega)⟩
  have hwr : wrap64 ((b.length : Int) - 1) = (n : Int) := by have := HN.out; unfold wrap64; omega
  have hwr2 : IntKind.i64.wrap ((b.length : Int) - 1) = (n : Int) := by have := HN.out; rw [IntKind.wrap_i64]; omega
  have hnc : n ≤ cb := by have := HN.out; have := HBC.out; omega
  have hnb : n ≤ b.length := by have := HN.out; omega
  clear hb0
  go_upto_region 14 with fail
  obtain ⟨⟨x3, o3, er3⟩, hR3⟩ : ∃ RA, readAll false (.mk ⟨k, s, lo, hi, st⟩ P) (b.take n) = RA := ⟨_, rfl⟩
  obtain ⟨k5, k6, k7, rfl⟩ := vt_parts x3
  have HNE := Lib.hid (fits_other hsz (by omega) (by rw [List.length_take]; omega) HRA.out hR3 (by have := HN.out; rw [List.length_take]; omega))
  have HR3 := Lib.hid hR3
  clear hR3
  have HSE := Lib.hid (fun Wx (hk : Kp (fun _ => False) w9 Wx) => show (fun w' : World => w'.cell? ⟨w.heap.size, 0, none⟩ = some (.int .i64 k) ∧ w'.cell? ⟨w.heap.size, 1, none⟩ = some (.int .i64 s) ∧ w'.cell? ⟨w.heap.size, 2, none⟩ = some (.int .i64 lo) ∧ w'.cell? ⟨w.heap.size, 3, none⟩ = some (.int .i64 hi) ∧ w'.cell? ⟨w.heap.size, 4, none⟩ = some (.int .i64 st) ∧ w'.cell? ⟨w.heap.size, 5, none⟩ = some (.slice A0 P.length c0)) Wx from by have hb := HBF9.out.kp hk (fun h => h); exact ⟨hb.cell 0, hb.cell 1, hb.cell 2, hb.cell 3, hb.cell 4, hb.cell 5⟩)
  have HSK := Lib.hid (fun Wx (hk : Kp (w9.heap.size ≤ ·) w9 Wx) => HSE.out Wx (hk.mono (fun i hi h => by omega)))
  have HKX := Lib.hid (fun Wx (hk : Kp (w9.heap.size ≤ ·) w9 Wx) => HK9.out.then_ (hk.mono (T := fun _ => False) (fun i hi h => by omega)) (fun _ h => h.elim))
  have HPX := Lib.hid (fun Wx  (hk : Kp (w9.heap.size ≤ ·) w9 Wx) => read_at (· < Wx.heap.size) (.mk ⟨k, s, lo, hi, st⟩ P) (fv ⟨k, s, lo, hi, st⟩ A0 P.length c0) (.slice Ab n cb) (b.take n) 0 Wx k5 k6 k7 o3 er3 HR3.out hsz ((HFV.out Wx (HKX.out Wx hk)).mono (fun i hi => Nat.lt_of_lt_of_le hi (HKX.out Wx hk).size)) ((BR.takeR (HBR.out Wx (HKX.out Wx hk)) hnb).mono (fun i hi => Nat.lt_of_lt_of_le hi (HKX.out Wx hk).size)) (fun i hi => hi) (Nat.lt_of_lt_of_le HOK.out (HKX.out Wx hk).size) (by rw [List.length_take]; omega) (by omega) (by rw [List.length_take]; omega) (HTB.out Wx (HKX.out Wx hk)))
  simp only [Int.zero_add] at HPX
  go_cut [15, 16, 17] (fun p c e wx => ∃ V A3 c3 A4 c4, p = .pointer (some ⟨V, 0, none⟩) ∧ c = .int .i64 o3 ∧ e = .int .i64 er3 ∧ Rend w9 wx V k5 (.slice A3 k6.length c3) (.slice A4 k7.length c4) (.mk ⟨k5, k6⟩ k7))
  case first =>
   refine wp_region_noPanic ?_
   have HS0 := Lib.hid (Ra.start w9)
   refine wp_region_held_drew (S := (fun w' : World => w'.cell? ⟨w.heap.size, 0, none⟩ = some (.int .i64 k) ∧ w'.cell? ⟨w.heap.size, 1, none⟩ = some (.int .i64 s) ∧ w'.cell? ⟨w.heap.size, 2, none⟩ = some (.int .i64 lo) ∧ w'.cell? ⟨w.heap.size, 3, none⟩ = some (.int .i64 hi) ∧ w'.cell? ⟨w.heap.size, 4, none⟩ = some (.int .i64 st) ∧ w'.cell? ⟨w.heap.size, 5, none⟩ = some (.slice A0 P.length c0))) (by kernel_rfl) (HSK.out _ HS0.out.kp) (fun hHeld => ?_)
   generalize w9.drew = y0 at HS0 hHeld ⊢
   refine wpAnyH_take (i := 0) (v := ?vz0) (by simp only [List.getElem?_toArray, List.getElem?_cons_zero]; rfl) (by kernel_rfl) (by kernel_rfl) (by kernel_rfl) (fun _ _ _ h => h) (Or.inl ⟨by rfl, ?hyz0⟩) (by assumption) ?restz0
   case hyz0 => (intro w hSw; (try dsimp only at hSw); go_simp; (try with_reducible rfl))
   try simp only [Act.put, List.setIfInBounds_toArray, List.set_cons_zero, List.set_cons_succ]
   refine wpAnyH_take (i := 1) (v := ?vz1) (by simp only [List.getElem?_toArray, List.getElem?_cons_succ, List.getElem?_cons_zero]; rfl) (by kernel_rfl) (by kernel_rfl) (by kernel_rfl) (fun _ _ _ h => h) (Or.inl ⟨by rfl, ?hyz1⟩) (by assumption) ?restz1
   case hyz1 => (intro w hSw; (try dsimp only at hSw); go_simp; (try with_reducible rfl))
   try simp only [Act.put, List.setIfInBounds_toArray, List.set_cons_zero, List.set_cons_succ]
   refine wpAnyH_take (i := 2) (v := ?vz2) (by simp only [List.getElem?_toArray, List.getElem?_cons_succ, List.getElem?_cons_zero]; rfl) (by kernel_rfl) (by kernel_rfl) (by kernel_rfl) (fun _ _ _ h => h) (Or.inl ⟨by rfl, ?hyz2⟩) (by assumption) ?restz2
   case hyz2 => (intro w hSw; (try dsimp only at hSw); go_simp; (try with_reducible rfl))
   try simp only [Act.put, List.setIfInBounds_toArray, List.set_cons_zero, List.set_cons_succ]
   refine wpAnyH_take (i := 3) (v := ?vz3) (by simp only [List.getElem?_toArray, List.getElem?_cons_succ, List.getElem?_cons_zero]; rfl) (by kernel_rfl) (by kernel_rfl) (by kernel_rfl) (fun _ _ _ h => h) (Or.inl ⟨by rfl, ?hyz3⟩) (by assumption) ?restz3
   case hyz3 => (intro w hSw; (try dsimp only at hSw); go_simp; (try with_reducible rfl))
   try simp only [Act.put, List.setIfInBounds_toArray, List.set_cons_zero, List.set_cons_succ]
   refine wpAnyH_take (i := 4) (v := ?vz4) (by simp only [List.getElem?_toArray, List.getElem?_cons_succ, List.getElem?_cons_zero]; rfl) (by kernel_rfl) (by kernel_rfl) (by kernel_rfl) (fun _ _ _ h => h) (Or.inl ⟨by rfl, ?hyz4⟩) (by assumption) ?restz4
   case hyz4 => (intro w hSw; (try dsimp only at hSw); go_simp; (try with_reducible rfl))
   try simp only [Act.put, List.setIfInBounds_toArray, List.set_cons_zero, List.set_cons_succ]
   refine wpAnyH_ready (rs := [5, 11]) (by kernel_rfl) (by simp) ?_
   refine (AllReadyH.cons (o := _) rfl (fun K hK => ?_) (AllReadyH.cons (o := _) rfl (fun K hK => ?_) AllReadyH.nil))
   ·go_simp
    try dsimp only
    refine hK.out _ _ (HSK.out _ HS0.out.kp) (fun hHeld => ?_)
    clear hK K
    refine wpAnyH_ready (rs := [6, 11]) (by kernel_rfl) (by simp) ?_
    refine (AllReadyH.cons (o := _) rfl (fun K hK => ?_) (AllReadyH.cons (o := _) rfl (fun K hK => ?_) AllReadyH.nil))
    ·go_simp
     refine (HPX.out y0 HS0.out.kp).mono ?_
     rintro e y2 ⟨A7, c7, A8, c8, rfl, hv, hk⟩
     have HS2 := Lib.hid (Ra.call HS0.out hk hv)
     clear hv hk
     clear HS0
     try dsimp only
     refine hK.out _ _ (HSK.out _ HS2.out.1.kp) (fun hHeld => ?_)
     clear hK K
     refine wpAnyH_take (i := 7) (v := ?vzl0_7) (by simp only [List.getElem?_toArray, List.getElem?_cons_succ, List.getElem?_cons_zero]; rfl) (by kernel_rfl) (by kernel_rfl) (by kernel_rfl) (fun _ _ _ h => h) (Or.inl ⟨by rfl, ?hyzl0_7⟩) (by assumption) ?restzl0_7
     case hyzl0_7 => (intro w hSw; (try dsimp only at hSw); go_simp; (try with_reducible rfl))
     try simp only [Act.put, List.setIfInBounds_toArray, List.set_cons_zero, List.set_cons_succ]
     refine wpAnyH_take (i := 8) (v := ?vzl0_8) (by simp only [List.getElem?_toArray, List.getElem?_cons_succ, List.getElem?_cons_zero]; rfl) (by kernel_rfl) (by kernel_rfl) (by kernel_rfl) (fun _ _ _ h => h) (Or.inl ⟨by rfl, ?hyzl0_8⟩) (by assumption) ?restzl0_8
     case hyzl0_8 => (intro w hSw; (try dsimp only at hSw); go_simp; (try with_reducible rfl))
     try simp only [Act.put, List.setIfInBounds_toArray, List.set_cons_zero, List.set_cons_succ]
     refine wpAnyH_take (i := 9) (v := ?vzl0_9) (by simp only [List.getElem?_toArray, List.getElem?_cons_succ, List.getElem?_cons_zero]; rfl) (by kernel_rfl) (by kernel_rfl) (by kernel_rfl) (fun _ _ _ h => h) (Or.inl ⟨by rfl, ?hyzl0_9⟩) (by assumption) ?restzl0_9
     case hyzl0_9 => (intro w hSw; (try dsimp only at hSw); go_simp; (try with_reducible rfl))
     try simp only [Act.put, List.setIfInBounds_toArray, List.set_cons_zero, List.set_cons_succ]
     refine wpAnyH_take (i := 10) (v := ?vzl0_10) (by simp only [List.getElem?_toArray, List.getElem?_cons_succ, List.getElem?_cons_zero]; rfl) (by kernel_rfl) (by kernel_rfl) (by kernel_rfl) (fun _ _ _ h => h) (Or.inl ⟨by rfl, ?hyzl0_10⟩) (by assumption) ?restzl0_10
     case hyzl0_10 => (intro w hSw; (try dsimp only at hSw); go_simp; (try with_reducible rfl))
     try simp only [Act.put, List.setIfInBounds_toArray, List.set_cons_zero, List.set_cons_succ]
     refine wpAnyH_ready (rs := [11]) (by kernel_rfl) (by simp) ?_
     refine (AllReadyH.cons (o := _) rfl (fun K hK => ?_) AllReadyH.nil)
     go_simp
     have HS3 := Lib.hid (Rc.more HS2.out)
     generalize y2.alloc (.cells #[.int .u64 0, .slice none 0 0, .slice none 0 0] 31) = y3 at HS3 ⊢
     generalize y2.heap.size = V3 at HS3 ⊢
     clear HS2
     try dsimp only
     refine hK.out _ _ (HSK.out _ HS3.out.1.kp) (fun hHeld => ?_)
     clear hK K
     refine wpAnyH_ready (rs := [12]) (by kernel_rfl) (by simp) ?_
     refine (AllReadyH.cons (o := _) rfl (fun K hK => ?_) AllReadyH.nil)
     have hzb := (HS3.out.1.2.1 V3 rfl).2
     have z0 := hzb.cell 0
     have z1 := hzb.cell 1
     have z2 := hzb.cell 2
     simp at z0 z1 z2
     have q0 := hzb.frozen 0
     have q1 := hzb.frozen 1
     have q2 := hzb.frozen 2
     clear hzb
     have HE := Lib.hid (Rc.fin HS3.out)
     go_simp
     try dsimp only
     refine hK.out _ _ (HSE.out _ (HE.out.1)) (fun hHeld => ?_)
     clear hK K z0 z1 z2 q0 q1 q2
     refine wpAnyH_take (i := 13) (v := ?vza1_13) (by simp only [List.getElem?_toArray, List.getElem?_cons_succ, List.getElem?_cons_zero]; rfl) (by kernel_rfl) (by kernel_rfl) (by kernel_rfl) (fun _ _ _ h => h) (Or.inl ⟨by rfl, ?hyza1_13⟩) (by assumption) ?restza1_13
     case hyza1_13 => (intro w hSw; (try dsimp only at hSw); go_simp; (try with_reducible rfl))
     try simp only [Act.put, List.setIfInBounds_toArray, List.set_cons_zero, List.set_cons_succ]
     refine wpAnyH_take (i := 14) (v := ?vza1_14) (by simp only [List.getElem?_toArray, List.getElem?_cons_succ, List.getElem?_cons_zero]; rfl) (by kernel_rfl) (by kernel_rfl) (by kernel_rfl) (fun _ _ _ h => h) (Or.inl ⟨by rfl, ?hyza1_14⟩) (by assumption) ?restza1_14
     case hyza1_14 => (intro w hSw; (try dsimp only at hSw); go_simp; (try with_reducible rfl))
     try simp only [Act.put, List.setIfInBounds_toArray, List.set_cons_zero, List.set_cons_succ]
     refine wpAnyH_done (by kernel_rfl) ?_ _
     refine NoPanic.normal ?_
     go_wp2_with fail
     go_meet
     exact ⟨V3, A7, c7, A8, c8, rfl, rfl, rfl, HE.out⟩
    ·go_simp
     have HS2 := Lib.hid (Ra.more HS0.out)
     generalize y0.alloc (.cells #[.int .u64 0, .slice none 0 0, .slice none 0 0] 31) = y2 at HS2 ⊢
     generalize y0.heap.size = V3 at HS2 ⊢
     clear HS0
     try dsimp only
     refine hK.out _ _ (HSK.out _ HS2.out.kp) (fun hHeld => ?_)
     clear hK K
     refine wpAnyH_ready (rs := [6]) (by kernel_rfl) (by simp) ?_
     refine (AllReadyH.cons (o := _) rfl (fun K hK => ?_) AllReadyH.nil)
     go_simp
     refine (HPX.out y2 HS2.out.kp).mono ?_
     rintro e y3 ⟨A7, c7, A8, c8, rfl, hv, hk⟩
     have HS3 := Lib.hid (Ra.call HS2.out hk hv)
     clear hv hk
     clear HS2
     try dsimp only
     refine hK.out _ _ (HSK.out _ HS3.out.1.kp) (fun hHeld => ?_)
     clear hK K
     refine wpAnyH_take (i := 7) (v := ?vzl2_7) (by simp only [List.getElem?_toArray, List.getElem?_cons_succ, List.getElem?_cons_zero]; rfl) (by kernel_rfl) (by kernel_rfl) (by kernel_rfl) (fun _ _ _ h => h) (Or.inl ⟨by rfl, ?hyzl2_7⟩) (by assumption) ?restzl2_7
     case hyzl2_7 => (intro w hSw; (try dsimp only at hSw); go_simp; (try with_reducible rfl))
     try simp only [Act.put, List.setIfInBounds_toArray, List.set_cons_zero, List.set_cons_succ]
     refine wpAnyH_take (i := 8) (v := ?vzl2_8) (by simp only [List.getElem?_toArray, List.getElem?_cons_succ, List.getElem?_cons_zero]; rfl) (by kernel_rfl) (by kernel_rfl) (by kernel_rfl) (fun _ _ _ h => h) (Or.inl ⟨by rfl, ?hyzl2_8⟩) (by assumption) ?restzl2_8
     case hyzl2_8 => (intro w hSw; (try dsimp only at hSw); go_simp; (try with_reducible rfl))
     try simp only [Act.put, List.setIfInBounds_toArray, List.set_cons_zero, List.set_cons_succ]
     refine wpAnyH_take (i := 9) (v := ?vzl2_9) (by simp only [List.getElem?_toArray, List.getElem?_cons_succ, List.getElem?_cons_zero]; rfl) (by kernel_rfl) (by kernel_rfl) (by kernel_rfl) (fun _ _ _ h => h) (Or.inl ⟨by rfl, ?hyzl2_9⟩) (by assumption) ?restzl2_9
     case hyzl2_9 => (intro w hSw; (try dsimp only at hSw); go_simp; (try with_reducible rfl))
     try simp only [Act.put, List.setIfInBounds_toArray, List.set_cons_zero, List.set_cons_succ]
     refine wpAnyH_take (i := 10) (v := ?vzl2_10) (by simp only [List.getElem?_toArray, List.getElem?_cons_succ, List.getElem?_cons_zero]; rfl) (by kernel_rfl) (by kernel_rfl) (by kernel_rfl) (fun _ _ _ h => h) (Or.inl ⟨by rfl, ?hyzl2_10⟩) (by assumption) ?restzl2_10
     case hyzl2_10 => (intro w hSw; (try dsimp only at hSw); go_simp; (try with_reducible rfl))
     try simp only [Act.put, List.setIfInBounds_toArray, List.set_cons_zero, List.set_cons_succ]
     refine wpAnyH_ready (rs := [12]) (by kernel_rfl) (by simp) ?_
     refine (AllReadyH.cons (o := _) rfl (fun K hK => ?_) AllReadyH.nil)
     have hzb := (HS3.out.1.2.1 V3 rfl).2
     have z0 := hzb.cell 0
     have z1 := hzb.cell 1
     have z2 := hzb.cell 2
     simp at z0 z1 z2
     have q0 := hzb.frozen 0
     have q1 := hzb.frozen 1
     have q2 := hzb.frozen 2
     clear hzb
     have HE := Lib.hid (Rc.fin HS3.out)
     go_simp
     try dsimp only
     refine hK.out _ _ (HSE.out _ (HE.out.1)) (fun hHeld => ?_)
     clear hK K z0 z1 z2 q0 q1 q2
     refine wpAnyH_take (i := 13) (v := ?vza3_13) (by simp only [List.getElem?_toArray, List.getElem?_cons_succ, List.getElem?_cons_zero]; rfl) (by kernel_rfl) (by kernel_rfl) (by kernel_rfl) (fun _ _ _ h => h) (Or.inl ⟨by rfl, ?hyza3_13⟩) (by assumption) ?restza3_13
     case hyza3_13 => (intro w hSw; (try dsimp only at hSw); go_simp; (try with_reducible rfl))
     try simp only [Act.put, List.setIfInBounds_toArray, List.set_cons_zero, List.set_cons_succ]
     refine wpAnyH_take (i := 14) (v := ?vza3_14) (by simp only [List.getElem?_toArray, List.getElem?_cons_succ, List.getElem?_cons_zero]; rfl) (by kernel_rfl) (by kernel_rfl) (by kernel_rfl) (fun _ _ _ h => h) (Or.inl ⟨by rfl, ?hyza3_14⟩) (by assumption) ?restza3_14
     case hyza3_14 => (intro w hSw; (try dsimp only at hSw); go_simp; (try with_reducible rfl))
     try simp only [Act.put, List.setIfInBounds_toArray, List.set_cons_zero, List.set_cons_succ]
     refine wpAnyH_done (by kernel_rfl) ?_ _
     refine NoPanic.normal ?_
     go_wp2_with fail
     go_meet
     exact ⟨V3, A7, c7, A8, c8, rfl, rfl, rfl, HE.out⟩
   ·go_simp
    have HS1 := Lib.hid (Ra.more HS0.out)
    generalize y0.alloc (.cells #[.int .u64 0, .slice none 0 0, .slice none 0 0] 31) = y1 at HS1 ⊢
    generalize y0.heap.size = V3 at HS1 ⊢
    clear HS0
    try dsimp only
    refine hK.out _ _ (HSK.out _ HS1.out.kp) (fun hHeld => ?_)
    clear hK K
    refine wpAnyH_ready (rs := [5]) (by kernel_rfl) (by simp) ?_
    refine (AllReadyH.cons (o := _) rfl (fun K hK => ?_) AllReadyH.nil)
    go_simp
    try dsimp only
    refine hK.out _ _ (HSK.out _ HS1.out.kp) (fun hHeld => ?_)
    clear hK K
    refine wpAnyH_ready (rs := [6]) (by kernel_rfl) (by simp) ?_
    refine (AllReadyH.cons (o := _) rfl (fun K hK => ?_) AllReadyH.nil)
    go_simp
    refine (HPX.out y1 HS1.out.kp).mono ?_
    rintro e y3 ⟨A7, c7, A8, c8, rfl, hv, hk⟩
    have HS3 := Lib.hid (Ra.call HS1.out hk hv)
    clear hv hk
    clear HS1
    try dsimp only
    refine hK.out _ _ (HSK.out _ HS3.out.1.kp) (fun hHeld => ?_)
    clear hK K
    refine wpAnyH_take (i := 7) (v := ?vzl4_7) (by simp only [List.getElem?_toArray, List.getElem?_cons_succ, List.getElem?_cons_zero]; rfl) (by kernel_rfl) (by kernel_rfl) (by kernel_rfl) (fun _ _ _ h => h) (Or.inl ⟨by rfl, ?hyzl4_7⟩) (by assumption) ?restzl4_7
    case hyzl4_7 => (intro w hSw; (try dsimp only at hSw); go_simp; (try with_reducible rfl))
    try simp only [Act.put, List.setIfInBounds_toArray, List.set_cons_zero, List.set_cons_succ]
    refine wpAnyH_take (i := 8) (v := ?vzl4_8) (by simp only [List.getElem?_toArray, List.getElem?_cons_succ, List.getElem?_cons_zero]; rfl) (by kernel_rfl) (by kernel_rfl) (by kernel_rfl) (fun _ _ _ h => h) (Or.inl ⟨by rfl, ?hyzl4_8⟩) (by assumption) ?restzl4_8
    case hyzl4_8 => (intro w hSw; (try dsimp only at hSw); go_simp; (try with_reducible rfl))
    try simp only [Act.put, List.setIfInBounds_toArray, List.set_cons_zero, List.set_cons_succ]
    refine wpAnyH_take (i := 9) (v := ?vzl4_9) (by simp only [List.getElem?_toArray, List.getElem?_cons_succ, List.getElem?_cons_zero]; rfl) (by kernel_rfl) (by kernel_rfl) (by kernel_rfl) (fun _ _ _ h => h) (Or.inl ⟨by rfl, ?hyzl4_9⟩) (by assumption) ?restzl4_9
    case hyzl4_9 => (intro w hSw; (try dsimp only at hSw); go_simp; (try with_reducible rfl))
    try simp only [Act.put, List.setIfInBounds_toArray, List.set_cons_zero, List.set_cons_succ]
    refine wpAnyH_take (i := 10) (v := ?vzl4_10) (by simp only [List.getElem?_toArray, List.getElem?_cons_succ, List.getElem?_cons_zero]; rfl) (by kernel_rfl) (by kernel_rfl) (by kernel_rfl) (fun _ _ _ h => h) (Or.inl ⟨by rfl, ?hyzl4_10⟩) (by assumption) ?restzl4_10
    case hyzl4_10 => (intro w hSw; (try dsimp only at hSw); go_simp; (try with_reducible rfl))
    try simp only [Act.put, List.setIfInBounds_toArray, List.set_cons_zero, List.set_cons_succ]
    refine wpAnyH_ready (rs := [12]) (by kernel_rfl) (by simp) ?_
    refine (AllReadyH.cons (o := _) rfl (fun K hK => ?_) AllReadyH.nil)
    have hzb := (HS3.out.1.2.1 V3 rfl).2
    have z0 := hzb.cell 0
    have z1 := hzb.cell 1
    have z2 := hzb.cell 2
    simp at z0 z1 z2
    have q0 := hzb.frozen 0
    have q1 := hzb.frozen 1
    have q2 := hzb.frozen 2
    clear hzb
    have HE := Lib.hid (Rc.fin HS3.out)
    go_simp
    try dsimp only
    refine hK.out _ _ (HSE.out _ (HE.out.1)) (fun hHeld => ?_)
    clear hK K z0 z1 z2 q0 q1 q2
    refine wpAnyH_take (i := 13) (v := ?vza5_13) (by simp only [List.getElem?_toArray, List.getElem?_cons_succ, List.getElem?_cons_zero]; rfl) (by kernel_rfl) (by kernel_rfl) (by kernel_rfl) (fun _ _ _ h => h) (Or.inl ⟨by rfl, ?hyza5_13⟩) (by assumption) ?restza5_13
    case hyza5_13 => (intro w hSw; (try dsimp only at hSw); go_simp; (try with_reducible rfl))
    try simp only [Act.put, List.setIfInBounds_toArray, List.set_cons_zero, List.set_cons_succ]
    refine wpAnyH_take (i := 14) (v := ?vza5_14) (by simp only [List.getElem?_toArray, List.getElem?_cons_succ, List.getElem?_cons_zero]; rfl) (by kernel_rfl) (by kernel_rfl) (by kernel_rfl) (fun _ _ _ h => h) (Or.inl ⟨by rfl, ?hyza5_14⟩) (by assumption) ?restza5_14
    case hyza5_14 => (intro w hSw; (try dsimp only at hSw); go_simp; (try with_reducible rfl))
    try simp only [Act.put, List.setIfInBounds_toArray, List.set_cons_zero, List.set_cons_succ]
    refine wpAnyH_done (by kernel_rfl) ?_ _
    refine NoPanic.normal ?_
    go_wp2_with fail
    go_meet
    exact ⟨V3, A7, c7, A8, c8, rfl, rfl, rfl, HE.out⟩
  case rest =>
  obtain ⟨V3, A7, c7, A8, c8, rfl, rfl, rfl, hend⟩ := hcut
  obtain ⟨hk8, hV3, hb8, hv8⟩ := hend
  clear HSE HSK HKX HPX HR3
  generalize wc = w8 at hk8 hb8 hv8 ⊢
  have HK8 := Lib.hid (HK9.out.then_ hk8 (fun _ h => h.elim))
  have HBV8 := Lib.hid (HBV9.out.kp hk8 (fun h => h))
  have HSM := Lib.hid (same05_any _ _ _ _ _ _ w8 (HV9.out.kp hk8 (fun _ _ h => h)) hv8)
  have v0 := HBV8.out.cell 0
  have v1 := HBV8.out.cell 1
  have v2 := HBV8.out.cell 2
  have u0 := hb8.cell 0
  have u1 := hb8.cell 1
  have u2 := hb8.cell 2
  simp at v0 v1 v2 u0 u1 u2
  clear hk8 hb8 hv8 hV3 HK9 HBF9 HV9 HBV9
  by_cases her3 : er3 = 0
  ·have hne3 : (er3 != 0) = false := by simp [her3]
   rw [HNE.out (by simp [her3])] at HSM
   clear her3
   go_wp2_with fail
   refine HSM.out.mono ?_
   rintro e w10 ⟨rfl, hk10⟩
   have HK10 := Lib.hid (HK8.out.then_ hk10 (fun _ h => h.elim))
   clear hk10
   go_wp2_with fail
   go_ret
   exact ⟨rfl, HK10.out⟩
  ·have hne3 : (er3 != 0) = true := by simpa using her3
   clear her3
   go_wp2_with fail
   go_ret
   exact ⟨rfl, HK8.out⟩
end Go.Proofs.YtdhnfccgojgehaaDoor

namespace Go.Proofs.YtdhnfccgojgehaaDoor
open Go.Joins Go.ChangeShapes Go.WideShapes Go.ChangeAt Go.RowKit Go.Deep

theorem i64B_of {n : Int} (h : (Lit.int .i64 n).wf = true) : i64B n := by
 obtain ⟨h0, h1⟩ := bounds_i64 h
 exact ⟨h0, by omega⟩
section
variable {H : Type} {enc : TypeId × Value → H} {w : World} {sp : Nat → Bool} {held : Bool} {r : Reach} {b0 : Nat}
end
end Go.Proofs.YtdhnfccgojgehaaDoor

namespace Go.Proofs.YtdhnfccgojgehaaDoor
set_option maxRecDepth 100000
open Go.Joins Go.ChangeShapes Go.WideShapes Go.ChangeAt Go.RowKit Go.Deep

theorem okWide_struct_ {P : Program} {w : World} {r : Reach} {b : Nat} {t : TypeId} {fs : Array Field} {v : Value} (ht : P.underlying t = some (.struct fs)) (h : Value.okWide P w r b t v) : ∃ cs, v = .agg cs := by
 simp only [Value.okWide, ht] at h
 obtain ⟨cs, h1, _⟩ := h
 exact ⟨cs, h1⟩
theorem form_type : TreeType Tryd.prog 24 22 (match Tryd.prog.underlying 24 with | some (.struct fs) => fs | _ => #[]) 5 where
 ht := by rw [Tryd.underlying24]
 hone := by rw [Tryd.underlying24]; kernel_rfl
 hC := by kernel_rfl
 hn := by rw [Tryd.underlying24]; rfl
 hlast := by rw [Tryd.underlying24]; rfl
 hts := Tryd.underlying22
 hB := by rw [show Tryd.prog.bytesOf 24 = 64 from by kernel_rfl]; omega
section
variable {H : Type} {enc : TypeId × Value → H} {w : World} {sp : Nat → Bool} {held : Bool} {r : Reach} {b0 : Nat}
theorem sized_at {P : Program} {ts : List TypeId} {ds : List (DataW H)} (hsz : (DataW.weightsEach P ts ds).all (· ≤ reachBytes) = true) {j : Nat} {t : TypeId} {d : DataW H} (ht : ts[j]? = some t) (hd : ds[j]? = some d) : (d.weights P t).all (· ≤ reachBytes) = true :=
 List.all_eq_true.2 fun n hn => List.all_eq_true.1 hsz n (DataW.weights_mem_each ht hd n hn)
theorem form_head : HeadOpen enc Tryd.prog w sp held (match Tryd.prog.underlying 24 with | some (.struct fs) => fs | _ => #[]) 5 FHd := by
 intro vs ds hl hf
 have each : ∀ i, i < 5 → ∃ n : Int, vs[i]? = some (.int .i64 n) ∧ i64B n := by
  intro i hi
  obtain ⟨f, v, d, ps, fuel, hfi, hv, _, ht, _⟩ := hf i hi
  have hft : f.type = 3 := by
   rw [Tryd.underlying24] at hfi
   rcases (show i = 0 ∨ i = 1 ∨ i = 2 ∨ i = 3 ∨ i = 4 by omega) with rfl | rfl | rfl | rfl | rfl <;>
    ·simp at hfi
     rw [← hfi]
  rw [hft] at ht
  obtain ⟨k0, e0, _, hw0⟩ := DataW.trod_int Tryd.underlying3 ht
  simp only [List.cons.injEq, and_true] at e0
  exact ⟨k0, by rw [hv, e0], i64B_of hw0⟩
 obtain ⟨a, ha, b0⟩ := each 0 (by omega)
 obtain ⟨b, hb, b1⟩ := each 1 (by omega)
 obtain ⟨c, hc, b2⟩ := each 2 (by omega)
 obtain ⟨d, hd, b3⟩ := each 3 (by omega)
 obtain ⟨e, he, b4⟩ := each 4 (by omega)
 refine ⟨⟨a, b, c, d, e⟩, ?_, ⟨b0, b1, b2, b3, b4⟩⟩
 rcases vs with _ | ⟨v0, _ | ⟨v1, _ | ⟨v2, _ | ⟨v3, _ | ⟨v4, _ | ⟨v5, vs⟩⟩⟩⟩⟩⟩ <;> simp_all
theorem open_form {v : Value} {d : DataW H} {ps : List MemPlace} {ts : List TypeId} {ds : List (DataW H)} (hv : Value.okWide Tryd.prog w r b0 24 v) (h : DataW.Trod enc Tryd.prog w 0 sp held 24 v d ps)
  (_hsz : (DataW.weightsEach Tryd.prog ts ds).all (· ≤ reachBytes) = true) {j : Nat} (_ht : ts[j]? = some 24) (_hd : ds[j]? = some d) : ∃ x : Fm, FmR w (· < w.heap.size) v x := by
 obtain ⟨cs, rfl⟩ := okWide_struct_ Tryd.underlying24 hv
 obtain ⟨fuel, hf⟩ := h
 obtain ⟨x, hx⟩ := (open_tree_ form_type form_head fuel).1 _ _ _ hf (sized_at _hsz _ht _hd)
 have h1 := (FmR.of_tr hx).1
 rw [show (Value.agg cs).cells.toList.toArray = cs from by simp [Value.cells]] at h1
 exact ⟨x, h1⟩
end
end Go.Proofs.YtdhnfccgojgehaaDoor

namespace Go.Proofs.YtdhnfccgojgehaaDoor.readFits
open Go.ChangeShapes Go.WideShapes Go.ChangeAt Go.RowKit
set_option linter.unusedVariables false

theorem own : ownKnob Tryd.prog.godebug = none := by kernel_rfl
theorem laidOut : laidOutB Tryd.prog = true := by kernel_rfl

theorem door_met (os : Os) (args : Array Value) : laidMetH Tryd.prog Rows.readFitsRow.laid ((World.doorLaid Tryd.prog 14 os).forCall (fun _ _ => 0) ⟨#[], args, []⟩).memory :=
 laidMetH_of_parts3 (fuel := 8) (laidMet_of_run' 8 (by kernel_rfl) (by kernel_rfl)) (by kernel_rfl) (by kernel_rfl)

set_option maxRecDepth 100000 in
theorem lifted (os : Os) (started : os.Started) (H : Type) (enc : TypeId × Value → H) :
  ReturnsInHanded {} Tryd.checked os 3 .any (fun w args => (Rows.readFitsSpec.pre enc Tryd.prog Tryd.f3 [] false w args ∧ laidMetH Tryd.prog Rows.readFitsRow.laid w) ∧ sizedMet enc Tryd.prog Tryd.f3 (OpenSpec.ofChange Rows.readFitsSpec) false w args) (Rows.readFitsSpec.post enc Tryd.prog Tryd.f3 false true false false) := by
 refine returnsInHanded_of_change_and (C := Tryd.checked) (X := fun w _ => laidMetH Tryd.prog Rows.readFitsRow.laid w) (fun _ _ _ hh h => h.of_heap hh) own started (by kernel_rfl) Tryd.func3
  (ChangeSpec.witness_shaped (enc := enc) (C := Tryd.checked) (os := os) (X := fun w _ => laidMetH Tryd.prog Rows.readFitsRow.laid w) false (World.doorLaid Tryd.prog 14 os) #[.agg #[.int .i64 0, .int .i64 0, .int .i64 0, .int .i64 0, .int .i64 0, .slice none 0 0], .slice none 0 0, .int .u8 0] 8 rfl (World.shaped_of_RefB (by kernel_rfl) (by kernel_rfl)) (by kernel_rfl) (by kernel_rfl) (by kernel_rfl) (door_met os _)) ?_
 intro W base args ds gs before hval0 hW hcnd hsz0 hL _
 have tab := tab06 hL
 have hval : ∀ (j : Nat) t v, Tryd.f3.params[j]? = some t → args[j]? = some v → Value.okWide Tryd.prog W .any base t v := hval0
 have hW' := hW
 obtain ⟨p, q, hA0, hV, rfl, hfz, hnd⟩ := hW
 have hA : DataW.TrodAll enc Tryd.prog W 0 (fun _ => true) true Tryd.f3.params.toList args.toList ds p := hA0
 obtain ⟨rfl, rfl⟩ := trodVars_none hV
 have hsz : (DataW.weightsEach Tryd.prog (Tryd.f3.params.toList ++ []) (ds ++ [])).all (· ≤ reachBytes) = true := hsz0
 rw [List.append_nil, List.append_nil] at hsz
 rw [Tryd.params3] at hA hval hsz
 obtain ⟨v0, vs0, d0, ds0, p0, q0, hargs, rfl, rfl, h0, r0⟩ := trodAll_cons hA
 obtain ⟨v1, vs1, d1, ds1, p1, q1, rfl, rfl, rfl, h1, r1⟩ := trodAll_cons r0
 obtain ⟨v2, vs2, d2, ds2, p2, q2, rfl, rfl, rfl, h2, r2⟩ := trodAll_cons r1
 obtain ⟨rfl, rfl, rfl⟩ := trodAll_nil r2
 obtain rfl : args = #[v0, v1, v2] := by cases args; simp_all
 have k0 := h0
 have lt0 : ∀ x ∈ p0, x.block < W.heap.size := by obtain ⟨m, hm⟩ := k0; exact DataW.trod_lt m _ _ _ hm
 have k1 := h1
 have lt1 : ∀ x ∈ p1, x.block < W.heap.size := by obtain ⟨m, hm⟩ := k1; exact DataW.trod_lt m _ _ _ hm
 have k2 := h2
 have lt2 : ∀ x ∈ p2, x.block < W.heap.size := by obtain ⟨m, hm⟩ := k2; exact DataW.trod_lt m _ _ _ hm
 obtain ⟨l0, b0⟩ := open_form (hval 0 24 v0 rfl rfl) h0 (_hsz := hsz) (j := 0) rfl rfl
 obtain ⟨l1, b1, e1⟩ := open_br Tryd.underlying25 Tryd.underlying5 (by kernel_rfl) (hval 1 25 v1 rfl rfl) h1
 have s1 := sized_len hsz (j := 1) (t := 25) (e := 5) rfl rfl Tryd.underlying25 e1
 rw [show Tryd.prog.bytesOf 5 = 1 from by kernel_rfl] at s1
 obtain ⟨a2, rfl, rfl, rfl, w2⟩ := open_int Tryd.underlying5 (hval 2 5 v2 rfl rfl) h2
 obtain ⟨d2, rfl⟩ : ∃ d2 : UInt8, a2 = (d2.toNat : Int) := ⟨UInt8.ofNat a2.toNat, by
  have e : (UInt8.ofNat a2.toNat).toNat = a2.toNat % 256 := by simp
  have := w2
  simp [Lit.wf, IntKind.min, IntKind.max, IntKind.signed, IntKind.bits] at this
  omega⟩
 clear hA0 hval0 hsz0
 refine (rfits_walk W tab v0 l0 b0 v1 l1 b1 (by omega) d2).mono fun e W' ⟨he, bel⟩ => ?_
 subst he
 exact ⟨_, rfl, _, _, _, [], _, [], hW', trodAll_mk1 (shut_bool Tryd.underlying4 _), (trodAll_cons_mk (Below.trod laidOut (by kernel_rfl) (of_decide_eq_true (by kernel_rfl)) k0 bel lt0) (trodAll_cons_mk (Below.trod laidOut (by kernel_rfl) (of_decide_eq_true (by kernel_rfl)) k1 bel lt1) (trodAll_cons_mk (Below.trod laidOut (by kernel_rfl) (of_decide_eq_true (by kernel_rfl)) k2 bel lt2) trodAll_mk0))), rfl, bel.frame _, fun h => by cases h⟩

theorem over : Rows.readFitsRow.holds Tryd.pinned (OpenSpec.ofChange Rows.readFitsSpec) :=
 OpenClaim.holds_of_wide 3 Tryd.f3 rfl rfl rfl rfl rfl rfl rfl ⟨rfl, rfl, rfl, rfl, rfl⟩ rfl rfl rfl rfl rfl (by kernel_rfl) Tryd.func3 (by kernel_rfl)
  (of_decide_eq_true (by kernel_rfl)) (by unfold Func.isWrapper; first | (rw [if_pos (by decide +kernel)]; kernel_rfl) | (rw [if_neg (by decide +kernel)]; exact ⟨rfl, rfl⟩))
  (fun os started H enc _ => lifted os started H enc)

/-- The tied card. -/
theorem proved : Rows.ReadFitsCardSaid :=
 Claim7.holds_tied_plain_at .later [] [.funcs] true (true, "e0098d0829a2599098fefe819577bd5761af052264c8981f1d992b28d8fe1bea") false
  over (fun _ h => by cases h) (by kernel_rfl) (fun _ h => by cases h) readFits_row_tie rfl ⟨rfl, rfl⟩ (by kernel_rfl) rfl
  (fun f fn hf hfn => by
   obtain rfl : f = 3 := Option.some.inj ((show Tryd.prog.funcNamed "passepartout/passepartoutlaw06.ReadFits" = some 3 by kernel_rfl).symm.trans hf) |>.symm
   obtain rfl : fn = Tryd.f3 := (Option.some.inj (Tryd.func3.symm.trans hfn)).symm
   exact ⟨by kernel_rfl, fun j t ht => by
    rw [Tryd.params3] at ht
    have hm : t ∈ [24, 25, 5] := by simpa using Array.mem_of_getElem? ht
    have hall : ([24, 25, 5].all fun u => !Tryd.prog.wantsStandIn u) = true := by kernel_rfl
    exact (show Tryd.prog.wantsStandIn t = false by simpa using List.all_eq_true.1 hall t hm)⟩)
  (by kernel_rfl)
#print axioms proved
end Go.Proofs.YtdhnfccgojgehaaDoor.readFits
