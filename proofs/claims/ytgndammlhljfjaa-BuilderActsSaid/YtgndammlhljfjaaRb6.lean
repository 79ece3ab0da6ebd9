/-
  The document's builder: Close, Number: the walks.
-/
import Derived.Test.YtgndammlhljfjaaRb5
namespace Go.Proofs.Ytgndammlhljfjaa
open Go.RowKit

theorem rb_prep {w : World} {ok : Nat → Prop} {h most : Nat} {qs : List (List UInt8)} {L : List UInt8} {sizes : List Nat} (hb : RB w ok h most (qs ++ [L]) sizes) :
    ∃ g cp Av cv, w.cell? ⟨h, 1, none⟩ = some (.slice (some ⟨g, 0, none⟩) (qs.length + 1) cp) ∧ qs.length + 1 ≤ cp ∧ w.cell? ⟨g, qs.length, none⟩ = some (.slice Av L.length cv) ∧ BR w ok (.slice Av L.length cv) L ∧ L.length ≤ cv ∧ h < w.heap.size ∧ g < w.heap.size ∧ h ≠ g ∧
      (∀ W : World, Kp (w.heap.size ≤ ·) w W → W.frozen? ⟨g, qs.length, none⟩ = false) ∧
      (∀ (L' : List UInt8) (w2 : World) (v' : Value), Kp (w.heap.size ≤ ·) w w2 → BR w2 (w.heap.size ≤ ·) v' L' → RBStep ok h most (qs ++ [L']) sizes 0 w (.returned (.int .i64 0)) (w2.setCell ⟨g, qs.length, none⟩ v')) := by
  obtain ⟨h0, vp, vs, pvs, h1, h2, h3, h4, h5⟩ := hb
  have hql : (qs ++ [L]).length = qs.length + 1 := by simp
  rw [hql] at h3
  obtain ⟨Ap, cp, rfl, hcp⟩ := h3.shape
  obtain ⟨g, rfl, hg, hgl⟩ := h3.form1 (by omega)
  have hpv : pvs[qs.length]? = some pvs[qs.length] := List.getElem?_eq_getElem (by omega)
  have hpvs := h5 qs.length (by simp) (by omega)
  rw [List.getElem_append_right (Nat.le_refl _)] at hpvs
  simp only [Nat.sub_self, List.getElem_cons_zero] at hpvs
  obtain ⟨Av, cv, hv, hcv, hrv⟩ := id hpvs
  rw [hv] at hpv hpvs
  refine ⟨g, cp, Av, cv, h1.cell 1, hcp, row_cell h3.rd hpv, hpvs.mono (fun j hj => hj.1), hcv, h1.lt, hgl, fun e => by have := h3.block h1 (by decide); simp [Value.ownBlock, e] at this, ?_, fun L' w2 v' hk hv => rb_last (L := L) h0 h1 h2 h3 h4 h5 hk hv⟩
  intro W hk
  rcases h3.1.2 with ⟨h2, _⟩ | ⟨g', cap, cur, h2, _, hh, _⟩
  · cases h2
  · injection h2 with hA
    injection hA with hA
    injection hA with hA
    subst hA
    have := (hk.block g hgl (by omega)).trans hh
    simp [World.frozen?, this]

theorem be_small_ne {C s : Nat} (h : 256 ^ s ≤ C) : be (beB s C) < C := by
  rw [be_beB]
  have := Nat.mod_lt C (Nat.pow_pos (n := s) (show 0 < 256 by omega))
  omega

set_option maxRecDepth 100000 in
set_option maxHeartbeats 3200000 in
theorem rbclose_long (ok : Nat → Prop) (h most : Nat) (qs : List (List UInt8)) (P C : List UInt8) (ss : List Nat) (s : Nat) (hq : qs.length = ss.length) (hs : s ≤ 8) (w : World) (hb : RB w ok h most (qs ++ [P, C]) (ss ++ [s])) (hbig : 256 ^ s ≤ C.length) (hC : C.length ≤ 1073741824) (hsl : ss.length ≤ 1073741824) :
    Calls Try.prog 48 #[.pointer (some ⟨h, 0, none⟩)] w fun e w' => e = .returned (.int .i64 5) ∧ Kp (fun _ => False) w w' := by
  obtain ⟨gp, gs, cp, cs, Ac, cc, hc1, hc2, hcp, hcs, hcC, hcs2, hcc, hbC, hf2, _⟩ := rb_reads hq hb
  have hne := bne_of_lt (be_small_ne hbig)
  have hidx : ((ss.length + 1 : Nat) : Int) - 1 = (ss.length : Int) := by omega
  have HBy := Lib.hid (fun W => rbytes_any C.length s (by omega) hs W)
  have HNum := Lib.hid (fun (W : World) okv v (hv : BR W okv v (beB s C.length)) => rnum_any okv v (beB s C.length) W hv (by rw [beB_length]; exact hs))
  generalize be (beB s C.length) = b at hne HNum
  clear hb hbC hq hbig hidx
  go_enter Try.func48, Try.ntmps48
  go_wp2_with fail
  refine (HBy.out _).mono ?_
  rintro e w1 ⟨A1, c1, rfl, hb1, hk1⟩
  go_wp2_with fail
  refine (HNum.out _ _ _ hb1).mono ?_
  rintro e w2 ⟨rfl, rfl⟩
  go_wp2_with fail
  go_ret
  exact ⟨rfl, hk1⟩

set_option maxRecDepth 100000 in
set_option maxHeartbeats 6400000 in
theorem rbclose_ok (ok : Nat → Prop) (h most : Nat) (qs : List (List UInt8)) (P C : List UInt8) (ss : List Nat) (s : Nat) (hq : qs.length = ss.length) (hs : s ≤ 8) (w : World) (hb : RB w ok h most (qs ++ [P, C]) (ss ++ [s])) (hfit : C.length < 256 ^ s) (hC : C.length ≤ 1073741824) (hP : P.length ≤ 1073741824) (hsl : ss.length ≤ 1073741824) :
    Calls Try.prog 48 #[.pointer (some ⟨h, 0, none⟩)] w (RBStep ok h most (qs ++ [P ++ (beB s C.length ++ C)]) ss 0 w) := by
  obtain ⟨gp, gs, cp, cs, Ac, cc, hc1, hc2, hcp, hcs, hcC, hcs2, hcc, hbC, hf2, _⟩ := rb_reads hq hb
  have hbe : be (beB s C.length) = C.length := by rw [be_beB, Nat.mod_eq_of_lt hfit]
  have HBy := Lib.hid (fun W => rbytes_any C.length s (by omega) hs W)
  have HNum := Lib.hid (fun (W : World) okv v (hv : BR W okv v (beB s C.length)) => rnum_any okv v (beB s C.length) W hv (by rw [beB_length]; exact hs))
  rw [hbe] at HNum
  have HB := Lib.hid hb
  have HBC := Lib.hid hbC
  have HQ := Lib.hid hq
  clear hb hbC hq hfit hbe
  go_enter Try.func48, Try.ntmps48
  go_wp2_with fail
  refine (HBy.out _).mono ?_
  rintro e w1 ⟨A1, c1, rfl, hb1, hk1⟩
  have HB1 := Lib.hid hb1
  go_wp2_with fail
  refine (HNum.out _ _ _ hb1).mono ?_
  rintro e w2 ⟨rfl, rfl⟩
  clear hc1 hc2 hcC hcs2 hf2 hb1
  obtain ⟨gp', gs', cp', cs', Ac', cc', hc1, hc2, hcp', hcs', _, _, _, _, hf2, hr2, hkr2⟩ := rb_reads HQ.out (HB.out.kp hk1 (fun _ _ h => h))
  have hcs1 : (ss.length : Int) ≤ (cs' : Int) := by omega
  have hbC1 := HBC.out.kp hk1 (fun _ _ h => h)
  have hhl := HB.out.lt
  have hs3 : Kp (fun i => i = h) w1 (w1.setCell ⟨h, 2, none⟩ (.slice (some ⟨gs', 0, none⟩) ss.length cs')) := (Kp.refl (fun i => i = h) w1).setCell (p := ⟨h, 2, none⟩) (.inl rfl) _
  have hb13 := HB1.out.kp hs3 (fun i hi e => by omega)
  have hbC3 := hbC1.kp hs3 (fun i hi e => hi.2 e)
  have hk3 := (hk1.mono (T := ok) (fun _ _ h => h.elim)).then_ hkr2 (fun i hi => .inl hi)
  have HR2 := Lib.hid hr2
  clear hr2 hbC1 hs3 hkr2
  go_upto_region 9 with fail
  generalize w1.setCell ⟨h, 2, none⟩ (.slice (some ⟨gs', 0, none⟩) ss.length cs') = W3 at HR2 hb13 hbC3 hk3 ⊢
  clear hc1 hc2 hf2
  obtain ⟨gq, cq, hc1, hcq, hf1, hr3, hkr3⟩ := rb_reads2 HR2.out
  rw [HQ.out] at hc1 hcq hr3 hkr3
  have hcq1 : (ss.length : Int) + 1 ≤ (cq : Int) := by omega
  have hs4 : Kp (fun i => i = h) W3 (W3.setCell ⟨h, 1, none⟩ (.slice (some ⟨gq, 0, none⟩) (ss.length + 1) cq)) := (Kp.refl (fun i => i = h) W3).setCell (p := ⟨h, 1, none⟩) (.inl rfl) _
  have hb14 := hb13.kp hs4 (fun i hi e => by omega)
  have hbC4 := hbC3.kp hs4 (fun i hi e => hi.2 e)
  have hk4 := hk3.then_ hkr3 (fun i hi => .inl hi)
  have HR3 := Lib.hid hr3
  clear hr3 hs4 hb13 hbC3 hk3 hkr3
  go_upto_region 10 with fail
  generalize W3.setCell ⟨h, 1, none⟩ (.slice (some ⟨gq, 0, none⟩) (ss.length + 1) cq) = W4 at HR3 hb14 hbC4 hk4 ⊢
  clear hc1 hf1
  obtain ⟨g, cg, Av, cv, hc1, hcg, hcg2, hbv, hcv, hhl4, hgl, hgh, hfg, hdone⟩ := rb_prep HR3.out
  rw [HQ.out] at hc1 hcg hcg2 hfg hdone
  have hnew : Own ((W4.alloc (.cells #[] 5)).drew) (W4.heap.size ≤ ·) 5 1 (.slice (some ⟨W4.heap.size, 0, none⟩) 0 0) 0 (bc []) := (Own.lit W4 [] #[] 0 W4.heap.size rfl rfl (Nat.le_refl _) (by simp [maxLen]))
  have hkn : Kp (fun _ => False) W4 ((W4.alloc (.cells #[] 5)).drew) := ((Kp.refl _ _).alloc _).drew
  have HN := Lib.hid hnew
  have HPV := Lib.hid (hbv.kp hkn (fun _ _ h => h))
  have HX1 := Lib.hid (fun W (hk : Kp (fun _ => False) W4 W) => hb14.kp hk (fun _ _ h => h))
  have HX2 := Lib.hid (fun W (hk : Kp (fun _ => False) W4 W) => hbC4.kp hk (fun _ _ h => h))
  have KS := Lib.hid (fun W (hk : Kp (fun _ => False) W4 W) => And.intro (hk.cell hc1 (fun h => h)) (hk.cell hcg2 (fun h => h)))
  have HK1 := Lib.hid hkn
  have HFG := Lib.hid hfg
  have HDONE := Lib.hid (hdone (P ++ (beB s C.length ++ C)))
  have hi0 : (0 : Int) ≤ (ss.length : Int) := by omega
  have hi1 : (ss.length : Int) < (ss.length : Int) + 1 := by omega
  have hz4 := hk4.size
  clear hnew hkn hbv hb14 hbC4 hfg hdone hcp hcs hcp' hcs' hcs1 hcq hcq1
  go_region_law
    (first
      | ((refine step_app_bytes rfl (.tmp 63) (.tmp 70) rfl W4.heap.size (some ⟨W4.heap.size, 0, none⟩) 0 0 [] (by simp [Act.eval]) HN.out _ Av P.length cv P (by simp [Act.eval]) rfl HPV.out P.length (by omega) (by omega) (by simp) ?_; intro A5 c5 W5 o5 q5; have K5 := Lib.hid (HK1.out.then_ q5 (fun i hi => .inr hi)); obtain ⟨hs1, hs1'⟩ := KS.out W5 K5.out; have O5 := Lib.hid o5; clear o5 q5))
      | ((refine step_app_bytes rfl (.tmp 71) (.tmp 72) rfl W4.heap.size A5 P.length c5 ([] ++ P) (by simp [Act.eval]) O5.out _ A1 s c1 (beB s C.length) (by simp [Act.eval]) (beB_length _ _) (HX1.out W5 K5.out) (P.length + s) rfl (by omega) K5.out.size ?_; intro A6 c6 W6 o6 q6; have K6 := Lib.hid (K5.out.then_ q6 (fun i hi => .inr hi)); obtain ⟨hs2, hs2'⟩ := KS.out W6 K6.out; have O6 := Lib.hid o6; clear o6 q6))
      | ((refine step_app_bytes rfl (.tmp 73) (.tmp 74) rfl W4.heap.size A6 (P.length + s) c6 ([] ++ P ++ beB s C.length) (by simp [Act.eval]) O6.out _ Ac C.length cc C (by simp [Act.eval]) rfl (HX2.out W6 K6.out) (P.length + s + C.length) rfl (by omega) K6.out.size ?_; intro A7 c7 W7 o7 q7; have K7 := Lib.hid (K6.out.then_ q7 (fun i hi => .inr hi)); obtain ⟨hs3, hs4⟩ := KS.out W7 K7.out; have hs5 := fun v => ((Kp.refl (fun i => i = g) W7).setCell (p := ⟨g, ss.length, none⟩) (.inl rfl) v).cell hs3 hgh; have hf7 := HFG.out W7 (K7.out.mono (fun _ _ h => h.elim)); have O7 := Lib.hid o7; clear o7 q7)))
  all_goals
    go_wp2_with fail
    go_ret
    have hO := O7.out.br (l := [] ++ P ++ beB s C.length ++ C) (by simp [beB_length]; omega)
    rw [show [] ++ P ++ beB s C.length ++ C = P ++ (beB s C.length ++ C) by simp] at hO
    obtain ⟨f1, f2, f3⟩ := HDONE.out _ _ (K7.out.mono (fun _ _ h => h.elim)) hO
    exact ⟨f1, f2.mono (fun i _ hi => hi.imp id (fun h => by omega)), hk4.then_ f3 (fun i hi => .inl hi)⟩

theorem rbnumber_size (h : Nat) (n : Int) (x : Nat) (w : World) (hs : szB n = false) : Calls Try.prog 45 #[.pointer (some ⟨h, 0, none⟩), .int .i64 n, .int .u64 x] w fun e w' => e = .returned (.int .i64 2) ∧ w = w' := by
  have H := Lib.hid (fun W => rsize_any n W)
  rw [hs] at H
  clear hs
  go_enter Try.func45, Try.ntmps45
  go_wp2_with fail
  refine (H.out _).mono ?_
  rintro e w' ⟨rfl, rfl⟩
  go_wp2_with fail
  go_ret
  exact ⟨rfl, rfl⟩

set_option maxRecDepth 100000 in
theorem rbnumber_range (h n x : Nat) (hx : x < 18446744073709551616) (w : World) (hs : szB (n : Int) = true) (hbig : 256 ^ n ≤ x) : Calls Try.prog 45 #[.pointer (some ⟨h, 0, none⟩), .int .i64 n, .int .u64 x] w fun e w' => e = .returned (.int .i64 3) ∧ Kp (fun _ => False) w w' := by
  have h8 := (szB_true hs).2.1
  have H := Lib.hid (fun W => rsize_any (n : Int) W)
  rw [hs] at H
  have hne := bne_of_lt (be_small_ne hbig)
  have HBy := Lib.hid (fun W => rbytes_any x n hx (by omega) W)
  have HNum := Lib.hid (fun (W : World) okv v (hv : BR W okv v (beB n x)) => rnum_any okv v (beB n x) W hv (by rw [beB_length]; omega))
  generalize be (beB n x) = b at hne HNum
  clear hs hbig
  go_enter Try.func45, Try.ntmps45
  go_wp2_with fail
  refine (H.out _).mono ?_
  rintro e w' ⟨rfl, rfl⟩
  go_wp2_with fail
  refine (HBy.out _).mono ?_
  rintro e w1 ⟨A1, c1, rfl, hb1, hk1⟩
  go_wp2_with fail
  refine (HNum.out _ _ _ hb1).mono ?_
  rintro e w2 ⟨rfl, rfl⟩
  go_wp2_with fail
  go_ret
  exact ⟨rfl, hk1⟩

theorem RBStep.from {ok : Nat → Prop} {h most : Nat} {parts : List (List UInt8)} {sizes : List Nat} {r : Int} {w w1 w' : World} {e : Ending} (hs : RBStep ok h most parts sizes r w1 e w') (hk : Kp (fun _ => False) w w1) : RBStep ok h most parts sizes r w e w' :=
  ⟨hs.1, hs.2.1.mono (fun _ _ h => h.imp id (Nat.le_trans hk.size)), (hk.mono (fun _ _ h => h.elim)).then_ hs.2.2 (fun _ h => .inl h)⟩
theorem RB.step {ok : Nat → Prop} {h most : Nat} {parts : List (List UInt8)} {sizes : List Nat} {r : Int} {w w1 : World} (hb : RB w ok h most parts sizes) (hk : Kp (fun _ => False) w w1) : RBStep ok h most parts sizes r w (.returned (.int .i64 r)) w1 :=
  ⟨rfl, (hb.kp hk (fun _ _ h => h)).mono (fun _ _ h => .inl h), hk.mono (fun _ _ h => h.elim)⟩

set_option maxRecDepth 100000 in
theorem rbnumber_fit (h n x : Nat) (hx : x < 18446744073709551616) (w : World) (hs : szB (n : Int) = true) (hfit : x < 256 ^ n) (ok : Nat → Prop) (most : Nat) (parts : List (List UInt8)) (sizes : List Nat) (r : Int)
    (hbytes : ∀ w1 A c, Kp (fun _ => False) w w1 → BR w1 (w.heap.size ≤ ·) (.slice A n c) (beB n x) → Calls Try.prog 46 #[.pointer (some ⟨h, 0, none⟩), .slice A n c] w1 (RBStep ok h most parts sizes r w1)) :
    Calls Try.prog 45 #[.pointer (some ⟨h, 0, none⟩), .int .i64 n, .int .u64 x] w (RBStep ok h most parts sizes r w) := by
  have h8 := (szB_true hs).2.1
  have H := Lib.hid (fun W => rsize_any (n : Int) W)
  rw [hs] at H
  have HBy := Lib.hid (fun W => rbytes_any x n hx (by omega) W)
  have HNum := Lib.hid (fun (W : World) okv v (hv : BR W okv v (beB n x)) => rnum_any okv v (beB n x) W hv (by rw [beB_length]; omega))
  rw [be_beB, Nat.mod_eq_of_lt hfit] at HNum
  have HB := Lib.hid hbytes
  clear hs hfit hbytes
  go_enter Try.func45, Try.ntmps45
  go_wp2_with fail
  refine (H.out _).mono ?_
  rintro e w' ⟨rfl, rfl⟩
  go_wp2_with fail
  refine (HBy.out _).mono ?_
  rintro e w1 ⟨A1, c1, rfl, hb1, hk1⟩
  have HB1 := Lib.hid (HB.out _ _ _ hk1 hb1)
  go_wp2_with fail
  refine (HNum.out _ _ _ hb1).mono ?_
  rintro e w2 ⟨rfl, rfl⟩
  clear hb1
  go_wp2_with fail
  refine HB1.out.mono ?_
  intro e w3 hst
  obtain ⟨rfl, hq⟩ := hst.from hk1
  have HQ := Lib.hid hq
  clear hq hst
  go_wp2_with fail
  go_ret
  exact ⟨rfl, HQ.out⟩
end Go.Proofs.Ytgndammlhljfjaa
