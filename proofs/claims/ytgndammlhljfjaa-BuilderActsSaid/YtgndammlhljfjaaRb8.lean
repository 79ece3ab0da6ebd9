/-
  An act done on the document's builder.
-/
import Derived.Test.YtgndammlhljfjaaRb7
namespace Go.Proofs.Ytgndammlhljfjaa
open Go.RowKit

set_option maxRecDepth 100000 in
set_option maxHeartbeats 1600000 in
theorem model_any (ok okx : Nat → Prop) (h : Nat) (fr : List (List UInt8 × Nat)) (L : List UInt8) (most : Nat) (a : AV) (w : World) (hb : RB w ok h most (partsF fr L) (sizesF fr)) (hfo : FrOk fr) (hm : most ≤ 1073741824) (hT : (bsF fr L).length ≤ most) (hfr : fr.length ≤ 1000) (ha : a.Ok w okx) :
    Calls Try.prog 36 #[.pointer (some ⟨h, 0, none⟩), .agg #[.int .i64 a.k, .int .i64 a.s, .int .i64 a.n, .int .u64 a.x, a.v]] w (RBStep ok h most (partsF (stepF most fr L a).1 (stepF most fr L a).2.1) (sizesF (stepF most fr L a).1) (stepF most fr L a).2.2 w) := by
  obtain ⟨st, hst⟩ : ∃ st, stepF most fr L a = st := ⟨_, rfl⟩
  rw [hst]
  obtain ⟨k, s, n, x, v, b⟩ := a
  obtain ⟨hv, hx, hn⟩ := ha
  simp only at hv hx hn
  simp only
  obtain ⟨A, c, rfl, hlc, hr⟩ := id hv
  have hk : Kp (fun _ => False) w (w.alloc (.cells #[.int .i64 k, .int .i64 s, .int .i64 n, .int .u64 x, .slice A b.length c] 67)) := (Kp.refl _ _).alloc _
  have hv1 := hv.kp hk (fun _ _ h => h)
  have hb1 := hb.kp hk (fun _ _ h => h)
  by_cases h0 : k = 0
  · subst h0
    have hC := rbn_add s x (.slice A b.length c) b n hx hb1 hm hT hfr hst
    have HC := Lib.hid hC
    clear hC hst
    go_enter Try.func36, Try.ntmps36
    go_wp2_with fail
    refine HC.out.mono ?_
    intro e w1 hs2
    obtain ⟨rfl, hq⟩ := hs2.from hk
    have HQ := Lib.hid hq
    clear hq hs2
    go_wp2_with fail
    go_ret
    exact ⟨rfl, HQ.out⟩
  by_cases h1 : k = 1
  · subst h1
    have hC := rbb_add b _ hb1 hv1 hm hT hfr
    have e : addF most fr L b = st := by rw [← hst]; rfl
    rw [e] at hC
    have HC := Lib.hid hC
    clear hC hst e h0
    go_enter Try.func36, Try.ntmps36
    go_wp2_with fail
    refine HC.out.mono ?_
    intro e w1 hs2
    obtain ⟨rfl, hq⟩ := hs2.from hk
    have HQ := Lib.hid hq
    clear hq hs2
    go_wp2_with fail
    go_ret
    exact ⟨rfl, HQ.out⟩
  by_cases h2 : k = 2
  · subst h2
    have hC := rbo_add s x (.slice A b.length c) b n hb1 hm hT hfr hst
    have HC := Lib.hid hC
    clear hC hst h0 h1
    go_enter Try.func36, Try.ntmps36
    go_wp2_with fail
    refine HC.out.mono ?_
    intro e w1 hs2
    obtain ⟨rfl, hq⟩ := hs2.from hk
    have HQ := Lib.hid hq
    clear hq hs2
    go_wp2_with fail
    go_ret
    exact ⟨rfl, HQ.out⟩
  by_cases h3 : k = 3
  · subst h3
    have hC := rbc_add s x (.slice A b.length c) b n hb1 hfo hm hT hfr hst
    have HC := Lib.hid hC
    clear hC hst h0 h1 h2
    go_enter Try.func36, Try.ntmps36
    go_wp2_with fail
    refine HC.out.mono ?_
    intro e w1 hs2
    obtain ⟨rfl, hq⟩ := hs2.from hk
    have HQ := Lib.hid hq
    clear hq hs2
    go_wp2_with fail
    go_ret
    exact ⟨rfl, HQ.out⟩
  by_cases h4 : k = 4
  · subst h4
    have e : addF most fr L (fiveL n) = st := by rw [← hst]; rfl
    have hC := fun (W : World) (vx : Value) (okv : Nat → Prop) (h1 : RB W ok h most (partsF fr L) (sizesF fr)) (h2 : BR W okv vx (fiveL n)) => rbb_add (fiveL n) vx h1 h2 hm hT hfr
    rw [e] at hC
    have HC := Lib.hid hC
    clear hC hst e h0 h1 h2 h3
    go_enter Try.func36, Try.ntmps36
    go_wp2_with fail
    refine (fives_any n hn _).mono ?_
    rintro e w1 ⟨A1, c1, rfl, hb2, hk2⟩
    have hk3 := hk.then_ hk2 (fun _ h => h.elim)
    have hb3 := hb1.kp hk2 (fun _ _ h => h)
    go_wp2_with fail
    refine (HC.out _ _ _ hb3 hb2).mono ?_
    intro e w2 hs2
    obtain ⟨rfl, hq⟩ := hs2.from hk3
    have HQ := Lib.hid hq
    clear hq hs2
    go_wp2_with fail
    go_ret
    exact ⟨rfl, HQ.out⟩
  · have e : stepF most fr L ⟨k, s, n, x, .slice A b.length c, b⟩ = (fr, L, 0) := by
      rw [stepF, if_neg h0, if_neg h1, if_neg h2, if_neg h3, if_neg h4]
    rw [e] at hst
    subst hst
    have hD := Lib.hid (hb.step (r := 0) hk)
    have g0 : (k == 0) = false := by simpa using h0
    have g1 : (k == 1) = false := by simpa using h1
    have g2 : (k == 2) = false := by simpa using h2
    have g3 : (k == 3) = false := by simpa using h3
    have g4 : (k == 4) = false := by simpa using h4
    clear e h0 h1 h2 h3 h4
    go_enter Try.func36, Try.ntmps36
    go_wp2_with fail
    go_ret
    exact hD.out

/-- What the law reads of the document's builder. -/
theorem rb_sizes {w : World} {ok : Nat → Prop} {h most : Nat} {parts : List (List UInt8)} {sizes : List Nat} (hb : RB w ok h most parts sizes) : ∃ As cs, w.cell? ⟨h, 2, none⟩ = some (.slice As sizes.length cs) := by
  obtain ⟨j0, vp, vs, pvs, j1, j2, j3, j4, j5⟩ := hb
  obtain ⟨As, cs, rfl, hcs⟩ := j4.shape
  exact ⟨As, cs, j1.cell 2⟩
theorem rb_first {w : World} {ok : Nat → Prop} {h most : Nat} {L : List UInt8} {sizes : List Nat} (hb : RB w ok h most [L] sizes) :
    ∃ g cp A c, w.cell? ⟨h, 1, none⟩ = some (.slice (some ⟨g, 0, none⟩) 1 cp) ∧ w.cell? ⟨g, 0, none⟩ = some (.slice A L.length c) ∧ BR w ok (.slice A L.length c) L := by
  obtain ⟨g, cp, Av, cv, h1, _, h2, h3, _⟩ := rb_prep (qs := []) hb
  exact ⟨g, cp, Av, cv, h1, h2, h3⟩
end Go.Proofs.Ytgndammlhljfjaa
