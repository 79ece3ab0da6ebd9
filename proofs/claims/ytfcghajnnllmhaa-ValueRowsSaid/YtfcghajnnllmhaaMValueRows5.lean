/-
  Texts for the law ValueRows: part 5.
-/
import Derived.Lib.SliceRun
import Derived.Lib.Hide
import Derived.Deep.RegionHeld3
import Derived.Deep.RegionWith
import Derived.Test.YtfcghajnnllmhaaMValueRows1
import Derived.Test.YtfcghajnnllmhaaMValueRows2
import Derived.Test.YtfcghajnnllmhaaMValueRows3
import Derived.Test.YtfcghajnnllmhaaMValueRows4

namespace Go.Proofs.Ytfcghajnnllmhaa
open Go.RowKit YtfcghajnnllmhaaW.PrintWords YtfcghajnnllmhaaW.PrintMore

theorem may_f (n lo hi st : Int) (h : st ≠ 0) : QP.value_may.f n lo hi st = some (mayR n lo hi st) := by
  unfold QP.value_may.f mayR
  split
  · rfl
  · by_cases h2 : n > hi
    · simp [h2]
    · simp only [if_neg h2]
      split <;> rfl
theorem alone_f (k n : Int) (hk : i64B k) (b : List Int) (l : List SV) : QP.value_alone.f k n b l = some (aloneB k n b.length l.length) := by
  unfold QP.value_alone.f
  rw [if_pos ((okI_iff k).2 hk)]
theorem getD_ofF (P : List Fm) (j : Nat) (h : j < P.length) : P.getD j nilF = P[j] := by simp [h]
theorem shr_u64 (x : Int) (s : Nat) (h0 : 0 ≤ x) (hs : s < 8) : shr .u64 x (8 * (s : Int)) = 0 ↔ ¬ (2 : Int) ^ (8 * s) ≤ x := by
  unfold shr
  have e1 : min ((8 * (s : Int)).toNat) IntKind.u64.bits = 8 * s := by
    have : IntKind.u64.bits = 64 := rfl
    rw [this]
    omega
  rw [e1]
  have hp : (0 : Int) < 2 ^ (8 * s) := Int.pow_pos (by omega)
  generalize (2 : Int) ^ (8 * s) = d at hp ⊢
  constructor
  · intro h hle
    have h1 : 1 ≤ x / d := Int.le_ediv_of_mul_le hp (by omega)
    omega
  · intro h
    exact Int.ediv_eq_zero_of_lt h0 (by omega)

theorem fit_ev (x : Vt) : ∀ f : Fm, wfF f = true → checkR f = 0 → wfV x = true → Ev (fun k => QP.value_fit.f k f.a.k f.a.s f.a.lo f.a.hi f.a.st (f.l.map ofF) x.a.n (bI x.a.b) (x.l.map ofV)) (fitR f x) := by
  induction x using RT.induct with
  | h a l ih =>
  intro f hwf hck hwx
  obtain ⟨h, P⟩ := f
  obtain ⟨hok, hPl, hPw⟩ := (wfF_mk _ _).1 hwf
  obtain ⟨hn, hbl, hll, hlw⟩ := (wfV_mk _ _).1 hwx
  obtain ⟨hown, hone, h32, hch⟩ := check_ok hck
  rw [fitR_mk]
  simp only [RT.a, RT.l]
  apply Ev.step
  · intro k
    simp only [QP.value_fit.f]
    rfl
  refine Ev.cb (alone_f h.k a.n hok.k (bI a.b) (l.map ofV)) ?_
  rw [bI_len, List.length_map]
  by_cases hal : aloneB h.k a.n a.b.length l.length = true
  rotate_left
  · have hal' : aloneB h.k a.n a.b.length l.length = false := by simpa using hal
    exact Ev.eq_ (Ev.in_ hal (Ev.now _)) (if_pos hal').symm
  refine Ev.eq_ ?_ (if_neg (show ¬ aloneB h.k a.n a.b.length l.length = false by simp [hal])).symm
  refine Ev.ip hal ?_
  by_cases k0 : h.k = 0
  · refine Ev.ip k0 ?_
    have hs := hown.k0 k0
    obtain ⟨s, hse⟩ : ∃ s : Nat, h.s = s := ⟨h.s.toNat, by omega⟩
    have hst : h.s.toNat = s := by omega
    refine Ev.rp k0 ?_
    rw [hst]
    by_cases hs8 : h.s < 8
    · refine Ev.ip hs8 ?_
      rw [hse, w64 (by omega) (by omega)]
      refine Ev.ip (by omega) ?_
      have hsh := shr_u64 a.n s hn.1 (by omega)
      by_cases hx : (2 : Int) ^ (8 * s) ≤ a.n
      · refine Ev.rp ⟨by omega, hx⟩ ?_
        exact Ev.in_ (fun e => hsh.1 e hx) (Ev.now _)
      · refine Ev.rn (fun e => hx e.2) ?_
        exact Ev.ip (hsh.2 hx) (Ev.now _)
    · refine Ev.rn (fun e => hs8 e.1) ?_
      exact Ev.in_ hs8 (Ev.now _)
  refine Ev.rn k0 ?_
  refine Ev.in_ k0 ?_
  by_cases k1 : h.k = 1
  · refine Ev.rp k1 ?_
    have hs := hown.k12 (.inl k1)
    exact Ev.ip k1 (Ev.cb (may_f _ _ _ _ (by omega)) (Ev.now _))
  refine Ev.rn k1 ?_
  refine Ev.in_ k1 ?_
  by_cases k4 : h.k = 4
  · refine Ev.rp k4 ?_
    exact Ev.ip k4 (Ev.cb (may_f _ _ _ _ (by omega)) (Ev.now _))
  refine Ev.rn k4 ?_
  refine Ev.in_ k4 ?_
  by_cases k5 : h.k = 5
  · refine Ev.rp k5 ?_
    exact Ev.ip k5 (Ev.cb (may_f _ _ _ _ (by omega)) (Ev.now _))
  refine Ev.rn k5 ?_
  refine Ev.in_ k5 ?_
  have hk23 : h.k = 2 ∨ h.k = 3 := by have := hown.k; omega
  have hPc : ∀ y ∈ P, checkR y = 0 := (hch hk23).1
  have key : (h.k = 3 → l.length = P.length) → ∀ (d j : Nat) (q : Int), l.length - j = d → j ≤ l.length → Ev (fun k => QP.value_fit.l0 k q (l.map ofV) (l.length : Int) (j : Int) h.k h.s h.lo h.hi h.st (P.map ofF)) (fitL (.mk h P) q j (l.drop j)) := by
    intro hlen d
    induction d with
    | zero =>
      intro j q hd hj
      apply Ev.step
      · intro k
        simp only [QP.value_fit.l0]
        rfl
      refine Ev.in_ (by omega) ?_
      rw [List.drop_of_length_le (by omega), fitL]
      simp only [RT.a]
      by_cases k3 : h.k = 3
      · refine Ev.rp k3 ?_
        exact Ev.ip k3 (Ev.now _)
      · refine Ev.rn k3 ?_
        have hs := hown.k12 (.inr (by omega))
        exact Ev.in_ k3 (Ev.cb (may_f _ _ _ _ (by omega)) (Ev.now _))
    | succ d ihd =>
      intro j q hd hj
      have hlt : j < l.length := by omega
      have hP0 : 0 < P.length := by
        rcases hk23 with k2 | k3
        · have := hone k2; omega
        · have := hlen k3; omega
      have hmod : j % P.length < P.length := Nat.mod_lt _ hP0
      apply Ev.step
      · intro k
        simp only [QP.value_fit.l0, rd_ofV l j hlt, ofV_f0, ofV_f1, ofV_f2]
        rfl
      refine Ev.ip (by omega) (Ev.ip (by omega) (Ev.ip (by rw [List.length_map]; omega) (Ev.in_ (by rw [List.length_map]; omega) ?_)))
      have hmodI : Int.tmod (j : Int) ((P.map ofF).length : Int) = ((j % P.length : Nat) : Int) := by rw [List.length_map]; rfl
      simp only [hmodI, rd_ofF P _ hmod, of_f0, of_f1, of_f2, of_f3, of_f4, of_f5]
      refine Ev.ip (by omega) (Ev.ip (by rw [List.length_map]; omega) ?_)
      refine Ev.bind (ih l[j] (List.getElem_mem hlt) (P[j % P.length]) (hPw _ (List.getElem_mem hmod)) (hPc _ (List.getElem_mem hmod)) (hlw _ (List.getElem_mem hlt))) ?_
      rw [fitL_drop _ _ _ _ _ hlt]
      simp only [getD_ofF P _ hmod]
      rw [w64 (x := (j : Int) + 1) (by omega) (by omega), show (j : Int) + 1 = ((j + 1 : Nat) : Int) by omega]
      by_cases he : (fitR P[j % P.length] l[j]).2 = 0
      · refine Ev.ip he ?_
        refine Ev.rp he ?_
        exact ihd (j + 1) _ (by omega) (by omega)
      · refine Ev.in_ he ?_
        exact Ev.eq_ (Ev.now _) (if_neg he).symm
  have hj0 : ∀ b : Bool, b = decide (h.k = 3 ∧ l.length ≠ P.length) → Ev (fun k => QP.value_fit.j0 k b h.k h.s h.lo h.hi h.st (P.map ofF) a.n (bI a.b) (l.map ofV)) (if h.k = 3 ∧ l.length ≠ P.length then (0, 15) else fitL (.mk h P) 0 0 l) := by
    intro b hb
    apply Ev.step
    · intro k
      simp only [QP.value_fit.j0, List.length_map]
      rfl
    by_cases hc : h.k = 3 ∧ l.length ≠ P.length
    · rw [decide_eq_true hc] at hb
      refine Ev.rp hc ?_
      exact Ev.ip hb (Ev.now _)
    · rw [decide_eq_false hc] at hb
      refine Ev.rn hc ?_
      refine Ev.in_ (by simp [hb]) ?_
      have h0 := key (fun k3 => Decidable.byContradiction fun hne => hc ⟨k3, hne⟩) l.length 0 0 (by omega) (by omega)
      rw [List.drop_zero] at h0
      exact h0
  simp only [List.length_map]
  by_cases k3 : h.k = 3
  · refine Ev.ip k3 (hj0 _ ?_)
    rw [Bool.eq_iff_iff]
    simp [k3]
    omega
  · refine Ev.in_ k3 (hj0 _ ?_)
    simp [k3]

theorem size_ev (f : Fm) (x : Vt) (hf : wfF f = true) (hx : wfV x = true) : Ev (fun k => QP.value_size.f k f.a.k f.a.s f.a.lo f.a.hi f.a.st (f.l.map ofF) x.a.n (bI x.a.b) (x.l.map ofV)) (sizeR f x) := by
  simp only [QP.value_size.f]
  refine Ev.cb (lay_check f hf) ?_
  rw [sizeR]
  by_cases hc : (if deepB 8 f = true then (14 : Int) else checkR f) = 0
  · refine Ev.rp hc ?_
    have hck : checkR f = 0 := by
      split at hc
      · omega
      · exact hc
    refine Ev.ip hc (Ev.bind (fit_ev x f hf hck hx) ?_)
    by_cases he : (fitR f x).2 = 0
    · refine Ev.rp he ?_
      exact Ev.ip he (Ev.now _)
    · refine Ev.rn he ?_
      exact Ev.in_ he (Ev.now _)
  · refine Ev.rn hc ?_
    exact Ev.in_ hc (Ev.now _)
theorem Fits_ev (f : Fm) (x : Vt) (hf : wfF f = true) (hx : wfV x = true) : Ev (fun k => QP.value_Fits.f k f.a.k f.a.s f.a.lo f.a.hi f.a.st (f.l.map ofF) x.a.n (bI x.a.b) (x.l.map ofV)) (sizeR f x).2 := by
  simp only [QP.value_Fits.f]
  exact Ev.bind (size_ev f x hf hx) (Ev.now _)
theorem Size_ev (f : Fm) (x : Vt) (hf : wfF f = true) (hx : wfV x = true) : Ev (fun k => QP.value_Size.f k f.a.k f.a.s f.a.lo f.a.hi f.a.st (f.l.map ofF) x.a.n (bI x.a.b) (x.l.map ofV)) (sizeR f x).1 := by
  simp only [QP.value_Size.f]
  exact Ev.bind (size_ev f x hf hx) (Ev.now _)
/-! ### value.Fits and Size, at my words. -/
theorem vfits_any (ok ok2 : Nat → Prop) (f : Fm) (x : Vt) (v u : Value) (w : World) (hv : FmR w ok v f) (hu : VtR w ok2 u x) : Calls Try.prog 33 #[v, u] w fun e w' => e = .returned (.int .i64 (sizeR f x).2) ∧ Kp (fun _ => False) w w' := by
  obtain ⟨hw1, hw2⟩ : wfF f = true ∧ wfV x = true := by
    obtain ⟨_, _, h1⟩ := hv.tr
    obtain ⟨_, _, _, h2⟩ := hu.tr
    exact ⟨tr_wfF f _ h1, tr_wfV x _ h2⟩
  obtain ⟨K, hK⟩ := (Fits_ev f x hw1 hw2).rounds
  obtain ⟨⟨k, s, lo, hi, st⟩, P⟩ := f
  obtain ⟨⟨n, b⟩, l⟩ := x
  obtain ⟨A, c, rfl, _, _, _, _, _, _, _, h1⟩ := hv.parts
  obtain ⟨A1, c1, A2, c2, rfl, _, _, hbl, hb, _, _, h2⟩ := hu.parts
  obtain ⟨_, g1, g2⟩ := h1.c
  obtain ⟨_, g3, g4⟩ := br_c hb hbl
  obtain ⟨_, g5, g6⟩ := h2.c
  have := QP.value_Fits.calls K k s lo hi st A c (P.map ofF) n A1 c1 (bI b) A2 c2 (l.map ofV) _ w g2 g1 g4 g3 g6 g5 hK
  simp only [List.length_map, bI_len] at this
  exact this.mono fun e w' h => ⟨h.1, Kp.of_below h.2⟩
theorem vsize_any (ok ok2 : Nat → Prop) (f : Fm) (x : Vt) (v u : Value) (w : World) (hv : FmR w ok v f) (hu : VtR w ok2 u x) : Calls Try.prog 32 #[v, u] w fun e w' => e = .returned (.int .i64 (sizeR f x).1) ∧ Kp (fun _ => False) w w' := by
  obtain ⟨hw1, hw2⟩ : wfF f = true ∧ wfV x = true := by
    obtain ⟨_, _, h1⟩ := hv.tr
    obtain ⟨_, _, _, h2⟩ := hu.tr
    exact ⟨tr_wfF f _ h1, tr_wfV x _ h2⟩
  obtain ⟨K, hK⟩ := (Size_ev f x hw1 hw2).rounds
  obtain ⟨⟨k, s, lo, hi, st⟩, P⟩ := f
  obtain ⟨⟨n, b⟩, l⟩ := x
  obtain ⟨A, c, rfl, _, _, _, _, _, _, _, h1⟩ := hv.parts
  obtain ⟨A1, c1, A2, c2, rfl, _, _, hbl, hb, _, _, h2⟩ := hu.parts
  obtain ⟨_, g1, g2⟩ := h1.c
  obtain ⟨_, g3, g4⟩ := br_c hb hbl
  obtain ⟨_, g5, g6⟩ := h2.c
  have := QP.value_Size.calls K k s lo hi st A c (P.map ofF) n A1 c1 (bI b) A2 c2 (l.map ofV) _ w g2 g1 g4 g3 g6 g5 hK
  simp only [List.length_map, bI_len] at this
  exact this.mono fun e w' h => ⟨h.1, Kp.of_below h.2⟩
end Go.Proofs.Ytfcghajnnllmhaa

namespace Go.Proofs.Ytfcghajnnllmhaa
open Go.RowKit YtfcghajnnllmhaaW.PrintWords

theorem kd_lit0 {α : Type} (d : Kd α) (w : World) (e : Nat) (ok : Nat → Prop) (hok : ok w.heap.size) : d.R e (w.alloc (.cells #[] e)) w.heap.size ok (.slice (some ⟨w.heap.size, 0, none⟩) 0 0) [] := by
  refine ⟨fun k hk => ?_, [], ⟨by simp, .inr ⟨w.heap.size, 0, #[], rfl, Nat.le_refl _, heap_alloc_new w _, Nat.le_refl _, by decide, by simp, by simp⟩⟩, Reps.none _ _⟩
  have : w.heap.size = k := by simpa [Value.ownBlock] using hk
  rw [← this]
  exact hok
theorem kd_none {α : Type} {d : Kd α} {w : World} {n : Nat} {l : List α} (h : d.C w none n l) : l = [] := by
  obtain ⟨h1, _, h2⟩ := h
  rcases Nat.eq_zero_or_pos n with h0 | h0
  · exact List.eq_nil_of_length_eq_zero (h1.trans h0)
  · obtain ⟨_, e, _⟩ := h2 h0
    cases e
end Go.Proofs.Ytfcghajnnllmhaa

namespace Go.Proofs.Ytfcghajnnllmhaa.QP
open Go.RowKit Go.Proofs.YtfcghajnnllmhaaW.PrintWords Go.Proofs.YtfcghajnnllmhaaW.PrintLast Go.Proofs.YtfcghajnnllmhaaW.PrintMore
attribute [local go_sem] max2_int min2_int max_two min_two max_three min_three max_four min_four   -- for this text's walks alone
set_option linter.unusedVariables false
set_option linter.unusedSimpArgs false

/-! ### api_Value_57: function 57 -/
def api_Value_57.f (l0 : List S46) : Option (List S46) := if l0.length ≤ 2513169434916 then some l0 else none
set_option maxRecDepth 100000 in
theorem api_Value_57.calls (P0_ : Nat → Prop) (A0 : Option Addr) (c0 : Nat) (l0 : List S46) (r : List S46) (w : World) (hs0 : Kd.V k46 46 w w.heap.size (fun k_ => P0_ k_) (.slice A0 l0.length c0) l0) (h : api_Value_57.f l0 = some r) :
    Calls Try.prog 57 #[.slice A0 l0.length c0] w fun e w' => ∃ v0_ : Value, e = .returned (v0_) ∧ Kd.N k46 46 w' w.heap.size (fun k_ => (P0_ k_ ∨ w.heap.size ≤ k_)) v0_ r ∧ Below w.heap.size w w' := by
  unfold api_Value_57.f at h
  split at h
  · rename_i hlim
    injection h with h
    subst h
    have hF := Kd.V_F hs0
    cases A0 with
    | none =>
      obtain rfl : l0 = [] := kd_none (Kd.F_now hF)
      have HN := fun W => Lib.run_eql_slice_nil (P := Try.prog) W 44 46 none 0 c0 0 0 Try.underlying44
      clear hs0 hF hlim
      show Calls Try.prog 57 #[.slice none 0 c0] w _
      go_enter Try.func57, Try.ntmps57
      go_wp2_with fail
      go_ret
      exact ⟨_, rfl, Kd.N_nil _ _ _ _ _, Below.refl _ _⟩
    | some ad =>
      have HN := fun W => Lib.run_eql_slice_nil (P := Try.prog) W 44 46 (some ad) l0.length c0 0 0 Try.underlying44
      have HR := Lib.hid (Kd.F_alloc (Kd.F_bound hF) (.cells #[] 46))
      have HO := Lib.hid (Kd.R_N (kd_lit0 k46 w 46 (fun k_ => (P0_ k_ ∨ w.heap.size ≤ k_)) (.inr (Nat.le_refl _))))
      have hb : Below w.heap.size w (w.alloc (.cells #[] 46)) := below_alloc (Below.refl _ _) _
      have HB := Lib.hid hb
      have hz : w.heap.size ≤ (w.alloc (.cells #[] 46)).heap.size := hb.size
      clear hs0 hF hb
      go_enter Try.func57, Try.ntmps57
      go_wp2_with (at_builtin; refine Kd.N_append_rows k46 w.heap.size rfl (.tmp 5) (.tmp 6) 44 46 (.agg #[(.int .u64 0), (.slice none 0 0), (.slice none 0 0)]) 56 rfl Try.underlying44 (by kernel_rfl) rfl (by decide) (by decide) (.slice (some ⟨w.heap.size, 0, none⟩) 0 0) [] l0 (some ad) l0.length c0 _ _ rfl rfl HO.out HR.out ?hokp ?hfr HB.out hz ?hl ?_; (case hokp => intro k hk; exact ⟨.inl hk.1, fun he => by have h2 := hk.2; rw [show k = w.heap.size by simpa [Value.ownBlock] using he] at h2; exact Nat.lt_irrefl _ h2⟩); (case hfr => intro k hk; exact .inr (Nat.le_trans hz hk)); (case hl => simp only [List.length_nil]; omega); intro v1 w1 hn hbb _ _; have HN1 := Lib.hid hn; have HB1 := Lib.hid hbb; clear hn hbb)
      go_ret
      exact ⟨_, rfl, HN1.out, HB1.out⟩
  · cases h

end Go.Proofs.Ytfcghajnnllmhaa.QP

namespace Go.Proofs.Ytfcghajnnllmhaa.QP
open Go.RowKit Go.Proofs.YtfcghajnnllmhaaW.PrintWords Go.Proofs.YtfcghajnnllmhaaW.PrintLast Go.Proofs.YtfcghajnnllmhaaW.PrintMore
attribute [local go_sem] max2_int min2_int max_two min_two max_three min_three max_four min_four   -- for this text's walks alone
set_option linter.unusedVariables false
set_option linter.unusedSimpArgs false

/-! ### value_List: function 36 -/
def value_List.f (l0 : List (S46)) : Option (Int × List Int × (List (S46))) := (api_Value_57.f l0).bind fun t267 => (some (0, ([] : List Int), t267))
set_option maxHeartbeats 8000000 in
set_option maxRecDepth 100000 in
theorem value_List.calls (P0_ : Nat → Prop) (A0 : Option Addr) (c0 : Nat) (l0 : List (S46)) (r1 : Int) (r2 : List Int) (r3 : List (S46)) (w : World) (hs0 : Kd.V k46 46 w w.heap.size (fun k_ => P0_ k_) (.slice A0 l0.length c0) l0) (h : value_List.f l0 = some (r1, r2, r3)) :
    Calls Try.prog 36 #[.slice A0 l0.length c0] w fun e w' => ∃ v1_ v2_ : Value, e = .returned (.agg #[.int .u64 r1, v1_, v2_]) ∧ Kd.R (Kd.int .u8) 5 w' w.heap.size (fun k_ => (w.heap.size ≤ k_)) v1_ r2 ∧ Kd.N k46 46 w' w.heap.size (fun k_ => (P0_ k_ ∨ w.heap.size ≤ k_) ∧ some k_ ≠ (v1_ : Value).ownBlock) v2_ r3 ∧ Below w.heap.size w w' := by
  have hu46 := Try.underlying46
  have HO0 := Aside0.mk (show Kd.V k46 46 w w.heap.size (fun k_ => (P0_ k_ ∨ w.heap.size ≤ k_)) (.slice A0 l0.length c0) l0 from Kd.V_mono hs0 (fun k_ hk => .inl hk))
  have HB := Aside0.mk (Below.refl w.heap.size w)
  have H : ((api_Value_57.f l0).bind fun t267 => (some (0, ([] : List Int), t267))) = some (r1, r2, r3) := h
  clear h
  replace H := Option.bind_eq_some_iff.mp H
  obtain ⟨t267, A20, H⟩ := H
  replace H : (some (0, ([] : List Int), t267)) = some (r1, r2, r3) := H
  have A2 := Aside0.mk A20
  clear A20
  simp only [Option.some.injEq, Prod.mk.injEq] at H
  obtain ⟨rfl, rfl, rfl⟩ := H
  go_enter Try.func36, Try.ntmps36
  go_wp2_with (first | ((with_reducible refine gate_dst (N := 2) rfl ?_); refine box_event ?hg (N := 2) ?hd (cs := #[.int .u64 0, .slice none 0 0, .slice none 0 0]) (t := 46) ?hr ?_; (case hd => rfl); (case hg => rfl); (case hr => first | (go_simp; done) | (go_simp; rfl)); intro gb266 hg w3 hbox hb; have n0_ := Aside0.mk (Kd.V_below (Kd.V_elderB (by (with_reducible repeat (first | apply Kd.V_alloc | apply Kd.V_drewN | apply Kd.V_drew)); exact HO0.out) gb266 (Nat.le_of_eq hg.symm)) hb); have n1_ := Aside0.mk (below_step (by repeat (first | (with_reducible first | exact HB.out | apply below_alloc | apply pw_below_drewN | apply below_drew1) | exact HB.out)) hb); have n2_ := Aside0.mk (hbox); have n3_ := Aside0.mk ((by rw [hg]; exact (below_size (by repeat (first | (with_reducible first | exact HB.out | apply below_alloc | apply pw_below_drewN | apply below_drew1) | exact HB.out))) : w.heap.size ≤ gb266)); have n4_ := Aside0.mk ((by rw [hg]; exact (below_size (by repeat (first | (with_reducible first | exact HB.out | apply below_alloc | apply pw_below_drewN | apply below_drew1) | exact HB.out))) : w.heap.size ≤ gb266)); clear HO0; clear HB; have HO0 := n0_; have HB := n1_; have BK266 := n2_; have GW266 := n3_; have GE266 := n4_; clear n0_ n1_ n2_ n3_ n4_; clear hb hbox hg) | ((with_reducible refine gate_callee (f := 57) rfl ?_); refine goesL_ (some 4) rfl rfl Try.func57 (by kernel_rfl) rfl #[.slice A0 l0.length c0] rfl (by (try simp only [List.map_toArray, List.map_cons, List.map_nil]); first | done | rfl | (simp only [List.length_drop, List.length_take]; rfl)) ?_; (with_reducible refine (api_Value_57.calls (fun k_ => ((P0_ k_ ∨ w.heap.size ≤ k_) ∧ k_ ≠ gb266)) _ _ l0 t267 _ ?side1 A2.out).mono ?_); (case side1 => exact HO0.out); rintro e w4 ⟨v268, rfl, ho0, hb⟩; refine ⟨_, rfl, ?_⟩; have n0_ := Aside0.mk (Kd.V_elder' (by (with_reducible repeat (first | apply Kd.V_alloc | apply Kd.V_drewN | apply Kd.V_drew)); exact HO0.out) (by first | exact Kd.N_base ho0 | exact Kd.R_base ho0) hb); have n1_ := Aside0.mk (Kd.N_lower (Kd.N_mono (ok' := fun k_ => (P0_ k_ ∨ w.heap.size ≤ k_) ∧ k_ ≠ gb266) ho0 (fun k_ hk_ => ⟨Or.elim hk_ (fun hs_ => hs_.1) (fun hn_ => (.inr (Nat.le_trans (below_size (by repeat (first | (with_reducible first | exact HB.out | apply below_alloc | apply pw_below_drewN | apply below_drew1 | refine below_set ?_ GE266.out) | exact HB.out))) hn_))), Or.elim hk_ (fun hs_ => hs_.2) (fun hn_ => (Kd.freshB (g := gb266) (o := .cells #[.int .u64 0, .slice none 0 0, .slice none 0 0] 46 (0, 0)) (by (with_reducible repeat (first | refine blk_drewN ?_ _ | refine blk_drew ?_ | refine blk_alloc ?_ _)); exact BK266.out) k_ hn_))⟩)) (below_size (by repeat (first | (with_reducible first | exact HB.out | apply below_alloc | apply pw_below_drewN | apply below_drew1 | refine below_set ?_ GE266.out) | exact HB.out)))); have n2_ := Aside0.mk (blk_below (g := gb266) (o := .cells #[.int .u64 0, .slice none 0 0, .slice none 0 0] 46 (0, 0)) (by (with_reducible repeat (first | refine blk_drewN ?_ _ | refine blk_drew ?_ | refine blk_alloc ?_ _)); exact BK266.out) hb); have n3_ := Aside0.mk (below_step (by repeat (first | (with_reducible first | exact HB.out | apply below_alloc | apply pw_below_drewN | apply below_drew1 | refine below_set ?_ GE266.out) | exact HB.out)) hb); clear HO0; clear BK266; clear HB; have HO0 := n0_; have HO269 := n1_; have BK266 := n2_; have HB := n3_; clear n0_ n1_ n2_ n3_; (try clear hb); (try clear hb2); (try clear hk); (try clear hi); (try clear ho0); obtain ⟨Ao5, co5, eo5⟩ := Kd.N_slice HO269.out; subst eo5; have hcz6_0 : w4.cell? ⟨gb266, 0, none⟩ = some (.int .u64 0) := (blk_cell BK266.out 0).trans rfl; have hcz6_1 : w4.cell? ⟨gb266, 1, none⟩ = some (.slice none 0 0) := (blk_cell BK266.out 1).trans rfl; have hcz6_2 : w4.cell? ⟨gb266, 2, none⟩ = some (.slice none 0 0) := (blk_cell BK266.out 2).trans rfl; have hfz6_0 := blk_frozen BK266.out 0; have hfz6_1 := blk_frozen BK266.out 1; have hfz6_2 := blk_frozen BK266.out 2))
  refine bodyPost_ret (results_cell_row rfl _ _ gb266 46 #[.int .u64 0, .slice none 0 0, .slice Ao5 t267.length co5] (0, 0) _ rfl (by (with_reducible repeat (first | refine blk_drewN ?_ _ | refine blk_drew ?_ | refine blk_alloc ?_ _)); refine blk_put (cs := #[.int .u64 0, .slice none 0 0, .slice none 0 0]) ?_ 2 _ rfl; (with_reducible repeat (first | refine blk_drewN ?_ _ | refine blk_drew ?_ | refine blk_alloc ?_ _)); refine blk_put (cs := #[.int .u64 0, .slice none 0 0, .slice none 0 0]) ?_ 1 _ rfl; (with_reducible repeat (first | refine blk_drewN ?_ _ | refine blk_drew ?_ | refine blk_alloc ?_ _)); refine blk_put (cs := #[.int .u64 0, .slice none 0 0, .slice none 0 0]) ?_ 0 _ rfl; (with_reducible repeat (first | refine blk_drewN ?_ _ | refine blk_drew ?_ | refine blk_alloc ?_ _)); exact BK266.out) Try.underlying46 rfl (by kernel_rfl)) rfl ?_
  exact ⟨_, _, by first | rfl | (simp [errW_none, errW_some] <;> rfl) | (simp [*, errW_none, errW_some] <;> rfl), by first | exact Kd.R_nil _ _ _ _ _ | exact Kd.N_nil _ _ _ _ _ | exact Kd.V_nil _ _ _ _ _ | exact Kd.Q_nil _ _ _ _ _ | exact Kd.S_nil _ _ _ _ _, by (with_reducible repeat (first | apply Kd.N_alloc | apply Kd.N_drewN | apply Kd.N_drew)); exact Kd.N_mono (Kd.N_far (p := ⟨gb266, 2, none⟩) (Kd.N_far (p := ⟨gb266, 1, none⟩) (Kd.N_far (p := ⟨gb266, 0, none⟩) (Kd.N_mono HO269.out (fun k_ hk => (⟨hk, hk.2⟩ : _ ∧ k_ ≠ gb266))) (fun _ hk => hk.2) (.int .u64 0)) (fun _ hk => hk.2) (.slice none 0 0)) (fun _ hk => hk.2) (.slice Ao5 t267.length co5)) (fun _ hk => ⟨hk.1.1, (by simp [Value.ownBlock])⟩), by repeat (first | (with_reducible first | exact HB.out | apply below_alloc | apply pw_below_drewN | apply below_drew1 | refine below_set ?_ GE266.out) | exact HB.out)⟩

end Go.Proofs.Ytfcghajnnllmhaa.QP

namespace Go.Proofs.Ytfcghajnnllmhaa
open Go.RowKit

theorem value_info : (Try.prog.info? 46).map (fun i => (i.zero, i.size, i.bytes)) = some (some (.agg #[.int .u64 0, .slice none 0 0, .slice none 0 0]), 3, 56) := by kernel_rfl
/-- append of values to values of the call's own. -/
theorem app_vals {w : World} {ops : Array Oper} {rest : List Oper} {o : Oper} {a : Act} {Q : Exit → Act → World → Prop} (hgd : o.guard = none) (s x : Operand)
    (ho : o.op = .call { callee := .builtin .append, args := #[s, x], argTypes := #[44, 44] })
    (B : Nat) (A : Option Addr) (n c : Nat) (xs : List Value) (hs : a.eval s = .slice A n c) (hown : Own w (B ≤ ·) 46 3 (.slice A n c) n xs)
    (ok : Nat → Prop) (Ax : Option Addr) (m cx : Nat) (xx : List Value) (hx : a.eval x = .slice Ax m cx) (hr : Rd w ok 3 Ax m xx) (h1 : ∀ u ∈ xx, u.oneCell' = true)
    (hk2 : n + m ≤ 2199023255552) (hB : B ≤ w.heap.size)
    (h : ∀ A' c' w', Own w' (B ≤ ·) 46 3 (.slice A' (n + m) c') (n + m) (xs ++ xx) → Kp (B ≤ ·) w w' → wpList Try.prog ops Q rest (a.put o.dst (.slice A' (n + m) c')) w') : wpList Try.prog ops Q (o :: rest) a w := by
  obtain ⟨i0, hi0, hz0, hz1, hz2⟩ := info_parts value_info
  refine wpList_append_any w hgd s x _ ho 0 46 i0 _ 3 56 Try.underlying44 hi0 hz0 hz1 hz2 rfl (by omega) (.slice A n c) n xs hs hown.1 ok Ax m cx xx hx hr h1 (by simp only [maxLen]; omega) (by omega) (Nat.zero_le _) ?_
  intro v' w' h1 h2 h3
  have hk' : Kp (B ≤ ·) w w' := (Kp.refl _ _).grown h2 (fun j hj => .inl (hown.2 j hj))
  have ho' : Own w' (B ≤ ·) 46 3 v' (n + m) (xs ++ xx) := ⟨h1, fun j hj => by
    rcases h3 with e | e
    · exact hown.2 j (e ▸ hj)
    · rw [e] at hj
      injection hj with hj
      omega⟩
  obtain ⟨A', c', e, _⟩ := ho'.shape
  subst e
  exact h A' c' w' ho' hk'

set_option maxRecDepth 100000 in
theorem vclone_any (ok : Nat → Prop) (v : Value) (l : List Vt) (w : World) (hv : VsR w ok v l) (hl : l.length ≤ 2199023255552) :
    Calls Try.prog 57 #[v] w fun e w' => ∃ A c, e = .returned (.slice A l.length c) ∧ VsR w' (fun i => ok i ∨ w.heap.size ≤ i) (.slice A l.length c) l ∧ Kp (fun _ => False) w w' := by
  obtain ⟨A, c, rfl, hc, hc2, ht⟩ := id hv
  cases A with
  | none =>
    have h0 : l = [] := by
      rcases l with _ | ⟨a, l⟩
      · rfl
      · obtain ⟨b, off, e, _⟩ := ht (by simp)
        cases e
    subst h0
    have HN := fun W c => Lib.run_eql_slice_nil (P := Try.prog) W 44 46 none 0 c 0 0 Try.underlying44
    clear ht hv
    go_enter Try.func57, Try.ntmps57
    go_wp2_with fail
    go_ret
    exact ⟨none, 0, rfl, VsR.nil, Kp.refl _ _⟩
  | some ad =>
    have HN := fun W => Lib.run_eql_slice_nil (P := Try.prog) W 44 46 (some ad) l.length c 0 0 Try.underlying44
    obtain ⟨xs, hr, h1, hmv⟩ := TL.flat VHd_kp VHd_one ht
    have ka : Kp (fun _ => False) w (w.alloc (.cells #[] 46)) := (Kp.refl _ _).alloc _
    have HR := Lib.hid (hr.kp ka (fun _ _ h => h))
    have H1 := Lib.hid h1
    have HM := Lib.hid hmv
    have HO := Lib.hid (Own.lit_ w 46 3 [] #[] 0 w.heap.size rfl rfl (Nat.le_refl _) (by decide))
    have hz := ka.size
    clear hr h1 hmv ht hv
    go_enter Try.func57, Try.ntmps57
    go_wp2_with (at_builtin; refine app_vals rfl (.tmp 5) (.tmp 6) rfl w.heap.size _ 0 _ [] rfl HO.out _ (some ad) l.length c xs rfl HR.out H1.out (by omega) hz ?_; intro A2 c2 W2 o2 q2; have O2 := Lib.hid o2; have K2 := Lib.hid (ka.then_ q2 (fun i hi => .inr hi)); clear o2 q2; rw [Nat.zero_add] at *)
    go_ret
    obtain ⟨A', c', e, hcc⟩ := O2.out.shape
    injection e with e1 e2 e3
    subst e1 e3
    refine ⟨A2, c2, rfl, ⟨A2, c2, rfl, hcc, hc2, HM.out (fun _ => False) _ W2 A2 K2.out (fun _ _ h => h) (fun i hi => .inl hi) ?_⟩, K2.out⟩
    have hrd := O2.out.rd
    rw [List.nil_append] at hrd
    refine ⟨hrd.1, fun h0 => ?_⟩
    obtain ⟨ad', e', hsp, hb', hcell⟩ := hrd.2 h0
    exact ⟨ad', e', hsp, .inr hb', hcell⟩

set_option maxRecDepth 100000 in
theorem vnum_any (x : Int) (w : World) : Calls Try.prog 38 #[.int .u64 x] w fun e w' => e = .returned (.agg #[.int .u64 x, .slice none 0 0, .slice none 0 0]) ∧ Kp (fun _ => False) w w' := by
  have HK := Lib.hid (show ∀ o, Kp (fun _ => False) w (w.alloc o) from fun o => (Kp.refl _ _).alloc o)
  go_enter Try.func38, Try.ntmps38
  go_wp2_with fail
  refine bodyPost_ret (v := .agg #[.int .u64 x, .slice none 0 0, .slice none 0 0]) (by simp [results, Try.results38, go_sem]) rfl ⟨rfl, HK.out _⟩

theorem Kp.put3 {S : Nat → Prop} {a w : World} (h : Kp S a w) {B : Nat} (hB : S B ∨ a.heap.size ≤ B) (v0 v1 v2 : Value) : Kp S a (((w.setCell ⟨B, 0, none⟩ v0).setCell ⟨B, 1, none⟩ v1).setCell ⟨B, 2, none⟩ v2) :=
  ((h.at_ B hB 0 v0).at_ B hB 1 v1).at_ B hB 2 v2
set_option maxRecDepth 100000 in
theorem vlist_any (ok : Nat → Prop) (v : Value) (l : List Vt) (w : World) (hlt : ∀ i, ok i → i < w.heap.size) (hv : VsR w ok v l) (hl : l.length ≤ 2199023255552) :
    Calls Try.prog 36 #[v] w fun e w' => ∃ A c, e = .returned (.agg #[.int .u64 0, .slice none 0 0, .slice A l.length c]) ∧ VtR w' (fun i => ok i ∨ w.heap.size ≤ i) (.agg #[.int .u64 0, .slice none 0 0, .slice A l.length c]) (.mk ⟨0, []⟩ l) ∧ Kp (fun _ => False) w w' := by
  have HK := Lib.hid (show ∀ o, Kp (fun _ => False) w (w.alloc o) from fun o => (Kp.refl _ _).alloc o)
  have HC := Lib.hid (fun o => vclone_any ok v l (w.alloc o) (VsR.kp hv ((Kp.refl (fun _ => False) w).alloc o) (fun _ _ h => h)) hl)
  have HB := Lib.hid (Blk.new w 46 #[.int .u64 0, .slice none 0 0, .slice none 0 0])
  have HLT := Lib.hid hlt
  clear hv hlt
  go_enter Try.func36, Try.ntmps36
  go_wp2_with fail
  refine (HC.out _).mono ?_
  rintro e w1 ⟨A, c, rfl, hs1, hk1⟩
  have hb1 := HB.out.kp hk1 (fun h => h)
  have e0 := hb1.cell 0
  have e1 := hb1.cell 1
  have e2 := hb1.cell 2
  simp at e0 e1 e2
  have z0 := hb1.frozen 0
  have z1 := hb1.frozen 1
  have z2 := hb1.frozen 2
  have HK1 := Lib.hid ((HK.out _).then_ hk1 (fun _ h => h.elim))
  have HS1 := Lib.hid hs1
  have hlt := hb1.lt
  clear hk1 hs1 hb1
  go_wp2_with fail
  have hk9 := (Kp.refl (fun x => x = w.heap.size) w1).put3 (B := w.heap.size) (.inl rfl) (.int .u64 0) (.slice none 0 0) (.slice A l.length c)
  have hkw := HK1.out.then_ hk9 (fun i hi => .inr (by omega))
  have hs9 := HS1.out.kp hk9 (fun i hi he => by
    rw [World.size_alloc] at hi
    rcases hi with hi | hi
    · have := HLT.out i hi; omega
    · omega)
  refine bodyPost_ret (v := .agg #[.int .u64 0, .slice none 0 0, .slice A l.length c]) (by simp [results, Try.results36, go_sem, e0, e1, e2]) rfl ⟨A, c, rfl, ⟨_, _, rfl, ⟨by show (0 : Int) ≤ 0; omega, by show (0 : Int) < _; omega⟩, BR.nil, by show 0 ≤ 140737488355328; omega, hs9.mono (fun i hi => ?_)⟩, hkw⟩
  rw [World.size_alloc] at hi
  rcases hi with hi | hi
  · exact .inl hi
  · exact .inr (by omega)
end Go.Proofs.Ytfcghajnnllmhaa

namespace Go.Proofs.Ytfcghajnnllmhaa
open Go.RowKit

theorem FHd_lt : HeadLt FHd := ⟨fun h => h⟩
theorem FsR.lt_ {w : World} {ok : Nat → Prop} {v : Value} {l : List Fm} (h : FsR w ok v l) : FsR w (fun i => ok i ∧ i < w.heap.size) v l := by
  obtain ⟨A, c, e, h1, h2, h3⟩ := h
  exact ⟨A, c, e, h1, h2, h3.lt_ FHd_lt⟩
theorem FmR.lt_ {w : World} {ok : Nat → Prop} {v : Value} {f : Fm} (h : FmR w ok v f) : FmR w (fun i => ok i ∧ i < w.heap.size) v f := by
  obtain ⟨sv, e, h1, h2⟩ := h
  exact ⟨sv, e, h1, h2.lt_⟩

/-- Forms in a slice, of blocks that there are. -/
def FsW (w : World) (v : Value) (l : List Fm) : Prop := FsR w (· < w.heap.size) v l
theorem FsW.kp {w w' : World} {v : Value} {l : List Fm} (h : FsW w v l) (hk : Kp (fun _ => False) w w') : FsW w' v l :=
  (FsR.kp h hk (fun _ _ h => h)).mono (fun _ hi => Nat.lt_of_lt_of_le hi hk.size)

end Go.Proofs.Ytfcghajnnllmhaa

namespace Go.Proofs.Ytfcghajnnllmhaa
open Go.RowKit

/-- One form, laid as a slice. -/
theorem FsR.one_ {w : World} {ok : Nat → Prop} {f : Fm} {A : Option Addr} {c : Nat} (h : FmR w ok (.agg #[.int .i64 f.a.k, .int .i64 f.a.s, .int .i64 f.a.lo, .int .i64 f.a.hi, .int .i64 f.a.st, .slice A f.l.length c]) f) {W : World} {B : Nat} {S : Nat → Prop}
    (hk : Kp S w W) (hd : ∀ i, ok i → ¬ S i) (hb : w.heap.size ≤ B) (hB : Blk W B 27 #[.int .i64 f.a.k, .int .i64 f.a.s, .int .i64 f.a.lo, .int .i64 f.a.hi, .int .i64 f.a.st, .slice A f.l.length c]) :
    FsR W (fun i => ok i ∨ w.heap.size ≤ i) (.slice (some ⟨B, 0, none⟩) 1 1) [f] := by
  refine ⟨_, _, rfl, Nat.le_refl _, by simp, fun _ => ⟨B, 0, rfl, .inr hb, ?_⟩⟩
  rw [TRs]
  obtain ⟨sv, e, ht⟩ := FmR.tr ((h.kp hk hd).mono (ok' := fun i => ok i ∨ w.heap.size ≤ i) (fun _ h => .inl h))
  simp only [Value.agg.injEq, Array.mk.injEq, List.cons.injEq, and_true, true_and] at e
  subst e
  refine ⟨⟨_, ht, fun j u hu => ?_⟩, by rw [TRs]; trivial⟩
  rw [Nat.zero_add, hB.cell]
  simpa using hu

/-! ### Rows in rows. -/
structure NestP (j : Nat) (f : Fm) : Prop where
  deep : ∀ m, deepB m f = decide (m ≤ j)
  check : checkR f = 0
  opn : openR f = false
  least : leastR f = 2
theorem NestP.row {j : Nat} {f : Fm} (h : NestP j f) : NestP (j + 1) (.mk ⟨3, 0, 0, 0, 0⟩ [f]) := by
  refine ⟨fun m => ?_, ?_, ?_, ?_⟩
  · cases m with
    | zero => rfl
    | succ m =>
      show [f].any (deepB m) = _
      simp [h.deep]
  · rw [checkR_mk]
    have e : ownN 3 0 0 0 0 [f].length = 0 := by rfl
    have e2 : checkL [f] = 0 := by rw [checkL, checkL, h.check]; rfl
    have e3 : badF 3 [f].length 0 [f] = false := by rw [badF, badF, badI, h.opn]; rfl
    simp only [e, e2, e3]
    rfl
  · rw [openR_mk]
    simp only [openL, h.opn]
    rfl
  · have e : spanR FH.lo f = 2 := h.least
    rw [leastR, spanR_mk]
    simp only [spanL, e]
    simp [wrap64]
end Go.Proofs.Ytfcghajnnllmhaa

namespace Go.Proofs.Ytfcghajnnllmhaa
open Go.RowKit

def numsV (ns : List Int) : List Vt := ns.map fun n => .mk ⟨n, []⟩ []
def numsC (ns : List Int) : List Value := ns.flatMap fun n => [.int .u64 n, .slice none 0 0, .slice none 0 0]
/-- Numbers, laid as a slice of values. -/
theorem VsR.nums {W : World} {g : Nat} {ns : List Int} (hu : ∀ n ∈ ns, u64B n) (hl : ns.length ≤ 140737488355328) (hb : Blk W g 46 (numsC ns).toArray) : VsR W (· = g) (.slice (some ⟨g, 0, none⟩) ns.length ns.length) (numsV ns) := by
  refine ⟨some ⟨g, 0, none⟩, ns.length, by simp [numsV], by simp [numsV], by simpa [numsV] using hl, fun h0 => ⟨g, 0, rfl, rfl, ?_⟩⟩
  refine TRs.of (fun i hi => ?_)
  have hi' : i < ns.length := by simpa [numsV] using hi
  refine ⟨[.int .u64 ns[i], .slice none 0 0, .slice none 0 0], ?_, fun j u hu' => ?_⟩
  · have e : (numsV ns)[i] = .mk ⟨ns[i], []⟩ [] := by simp [numsV]
    rw [e]
    exact (TR_def _ _ _ _ _ _).2 ⟨[.int .u64 ns[i], .slice none 0 0], none, 0, rfl, rfl, ⟨_, rfl, hu _ (List.getElem_mem hi'), BR.nil, by show 0 ≤ _; omega⟩, Nat.le_refl _, by show 0 ≤ _; omega, fun h => by simp [RT.l] at h⟩
  · rw [Nat.zero_add, hb.cell]
    have hj : j < 3 := by
      have := (List.getElem?_eq_some_iff.1 hu').1
      simpa using this
    have key : ∀ (ns : List Int) (i : Nat) (hi : i < ns.length), (numsC ns)[i * 3 + j]? = ([.int .u64 (ns[i]'hi), .slice none 0 0, .slice none 0 0] : List Value)[j]? := by
      intro ns
      induction ns with
      | nil => intro i hi; simp at hi
      | cons n t ih =>
        intro i hi
        rw [numsC, List.flatMap_cons]
        cases i with
        | zero =>
          rw [List.getElem?_append_left (by simp; omega)]
          simp
        | succ i =>
          rw [List.getElem?_append_right (by simp; omega)]
          have := ih i (by simpa using hi)
          rw [numsC] at this
          simp only [List.length_cons, List.length_nil, List.getElem_cons_succ]
          rw [← this]
          congr 1
          omega
    have := key ns i hi'
    rw [hu'] at this
    simpa using this

def F5a : Fm := .mk ⟨2, 1, 2, 4, 2⟩ [.mk ⟨0, 1, 0, 0, 0⟩ []]
theorem fits5a : sizeR F5a (.mk ⟨0, []⟩ (numsV [5, 6])) = (3, 0) := by kernel_rfl
theorem fits5b : sizeR F5a (.mk ⟨0, []⟩ (numsV [5, 6, 7])) = (0, 5) := by kernel_rfl
theorem fits5c : sizeR F5a (.mk ⟨0, []⟩ (numsV [5, 256])) = (0, 3) := by kernel_rfl

set_option maxRecDepth 100000 in
set_option maxHeartbeats 3200000 in
theorem alive05 (w : World) : Calls Try.prog 30 #[] w fun e w' => e = .returned (.bool true) ∧ Kp (fun _ => False) w w' := by
  have u5 : ∀ n : Int, 0 ≤ n → n ≤ 1000 → u64B n := fun n h0 h1 => by unfold u64B; omega
  have bb : ∀ n : Int, 0 ≤ n → n ≤ 100000 → i64B n := fun n h0 h1 => by unfold i64B; omega
  have HN := Lib.hid (fun x W => vnum_any x W)
  have HL := Lib.hid (fun (ns : List Int) (hu : ∀ n ∈ ns, u64B n) (hl : ns.length ≤ 1000) W g (hb : Blk W g 46 (numsC ns).toArray) => vlist_any (· = g) _ (numsV ns) W (fun i hi => hi ▸ hb.lt) (VsR.nums hu (by omega) hb) (by simp [numsV]; omega))
  have hn2 : ∀ n ∈ ([5, 6] : List Int), u64B n := by intro n hn; simp at hn; rcases hn with rfl | rfl <;> exact u5 _ (by omega) (by omega)
  have hn3 : ∀ n ∈ ([5, 6, 7] : List Int), u64B n := by intro n hn; simp at hn; rcases hn with rfl | rfl | rfl <;> exact u5 _ (by omega) (by omega)
  have hn4 : ∀ n ∈ ([5, 256] : List Int), u64B n := by intro n hn; simp at hn; rcases hn with rfl | rfl <;> exact u5 _ (by omega) (by omega)
  have HL2 := Lib.hid (fun W g hb => HL.out [5, 6] hn2 (by simp) W g hb)
  have HL3 := Lib.hid (fun W g hb => HL.out [5, 6, 7] hn3 (by simp) W g hb)
  have HL4 := Lib.hid (fun W g hb => HL.out [5, 256] hn4 (by simp) W g hb)
  clear hn2 hn3 hn4 HL
  have hka0 : ∀ o1 o2, Kp (fun _ => False) w ((w.alloc o1).alloc o2) := fun o1 o2 => ((Kp.refl _ _).alloc o1).alloc o2
  have HKA := Lib.hid hka0
  have h1 : FmR w (· < w.heap.size) (.agg #[.int .i64 0, .int .i64 1, .int .i64 0, .int .i64 0, .int .i64 0, .slice none 0 0]) (.mk ⟨0, 1, 0, 0, 0⟩ []) := FmW.flat w 0 1 0 0 0 (bb 0 (by omega) (by omega)) (bb 1 (by omega) (by omega)) (bb 0 (by omega) (by omega)) (bb 0 (by omega) (by omega)) (bb 0 (by omega) (by omega))
  have hform : ∀ o2, FmR ((w.alloc (.cells #[.int .i64 0, .int .i64 1, .int .i64 0, .int .i64 0, .int .i64 0, .slice none 0 0] 27)).alloc o2) (fun i => i < w.heap.size ∨ w.heap.size ≤ i) (.agg #[.int .i64 2, .int .i64 1, .int .i64 2, .int .i64 4, .int .i64 2, .slice (some ⟨w.heap.size, 0, none⟩) 1 1]) F5a := fun o2 =>
    ⟨_, rfl, ⟨bb 2 (by omega) (by omega), bb 1 (by omega) (by omega), bb 2 (by omega) (by omega), bb 4 (by omega) (by omega), bb 2 (by omega) (by omega)⟩, FsR.one_ (f := .mk ⟨0, 1, 0, 0, 0⟩ []) h1 (hka0 _ _) (fun _ _ h => h) (Nat.le_refl _) ((Blk.new w 27 _).alloc o2)⟩
  have HFM := Lib.hid hform
  have HBF := Lib.hid (Blk.new (w.alloc (.cells #[.int .i64 0, .int .i64 1, .int .i64 0, .int .i64 0, .int .i64 0, .slice none 0 0] 27)) 27 #[.int .i64 2, .int .i64 1, .int .i64 2, .int .i64 4, .int .i64 2, .slice (some ⟨w.heap.size, 0, none⟩) 1 1])
  clear hka0 hform u5 bb h1
  go_enter Try.func30, Try.ntmps30
  go_upto_region 2 with fail
  obtain ⟨W0, hW0⟩ : ∃ W0, (w.alloc (.cells #[.int .i64 0, .int .i64 1, .int .i64 0, .int .i64 0, .int .i64 0, .slice none 0 0] 27)).alloc (.cells #[.int .i64 2, .int .i64 1, .int .i64 2, .int .i64 4, .int .i64 2, .slice (some ⟨w.heap.size, 0, none⟩) 1 1] 27) = W0 := ⟨_, rfl⟩
  have hk0 := HKA.out (.cells #[.int .i64 0, .int .i64 1, .int .i64 0, .int .i64 0, .int .i64 0, .slice none 0 0] 27) (.cells #[.int .i64 2, .int .i64 1, .int .i64 2, .int .i64 4, .int .i64 2, .slice (some ⟨w.heap.size, 0, none⟩) 1 1] 27)
  have hf0 := HFM.out (.cells #[.int .i64 2, .int .i64 1, .int .i64 2, .int .i64 4, .int .i64 2, .slice (some ⟨w.heap.size, 0, none⟩) 1 1] 27)
  have hb0 := HBF.out
  rw [World.size_alloc] at hb0
  rw [hW0] at hk0 hf0 hb0 ⊢
  obtain ⟨gi, hgi⟩ : ∃ gi, w.heap.size = gi := ⟨_, rfl⟩
  obtain ⟨g1, hg1⟩ : ∃ g1, gi + 1 = g1 := ⟨_, rfl⟩
  rw [hgi] at hf0 hb0 ⊢
  rw [hg1] at hb0 ⊢
  have HK0 := Lib.hid hk0
  have HF0 := Lib.hid hf0
  have HB0 := Lib.hid hb0
  clear hW0 hk0 hf0 hb0 hgi hg1 HFM HBF HKA
  go_wp2_with fail
  refine (HN.out _ _).mono ?_
  rintro e w1 ⟨rfl, hk1⟩
  have HK1 := Lib.hid hk1
  clear hk1
  go_wp2_with fail
  refine (HN.out _ _).mono ?_
  rintro e w2 ⟨rfl, hk2⟩
  have HK2 := Lib.hid (HK1.out.then_ hk2 (fun _ h => h.elim))
  clear hk2
  have HB2 := Lib.hid (Blk.new w2 46 #[.int .u64 5, .slice none 0 0, .slice none 0 0, .int .u64 6, .slice none 0 0, .slice none 0 0])
  have HK2a := Lib.hid (HK2.out.alloc (.cells #[.int .u64 5, .slice none 0 0, .slice none 0 0, .int .u64 6, .slice none 0 0, .slice none 0 0] 46))
  go_wp2_with fail
  refine (HL2.out _ _ HB2.out).mono ?_
  rintro e w3 ⟨A, c, rfl, hv3, hk3⟩
  simp only [show (numsV [5, 6]).length = 2 from rfl] at hv3 ⊢
  have hk30 := HK2a.out.then_ hk3 (fun _ h => h.elim)
  have hka := hk30.alloc (.cells #[.int .u64 0, .slice none 0 0, .slice A 2 c] 46)
  have HB3 := Lib.hid (Blk.new w3 46 #[.int .u64 0, .slice none 0 0, .slice A 2 c])
  have HK3 := Lib.hid hka
  have HV3 := Lib.hid (hv3.kp ((Kp.refl (fun _ => False) w3).alloc (.cells #[.int .u64 0, .slice none 0 0, .slice A 2 c] 46)) (fun _ _ h => h))
  clear hv3 hk3 hk30 hka
  go_upto_region 3 with fail
  obtain ⟨W1, hW1⟩ : ∃ W1, w3.alloc (.cells #[.int .u64 0, .slice none 0 0, .slice A 2 c] 46) = W1 := ⟨_, rfl⟩
  have hk3 := HK3.out
  have hv3 := HV3.out
  have hb3 := HB3.out
  rw [hW1] at hk3 hv3 hb3 ⊢
  obtain ⟨g2, hg2⟩ : ∃ g2, w3.heap.size = g2 := ⟨_, rfl⟩
  rw [hg2] at hb3 ⊢
  have HCE := Lib.hid (show ∀ w', Kp (fun _ => False) W1 w' → ((w').cell? ⟨g1, 0, none⟩ = some (.int .i64 2) ∧ (w').cell? ⟨g1, 1, none⟩ = some (.int .i64 1) ∧ (w').cell? ⟨g1, 2, none⟩ = some (.int .i64 2) ∧ (w').cell? ⟨g1, 3, none⟩ = some (.int .i64 4) ∧ (w').cell? ⟨g1, 4, none⟩ = some (.int .i64 2) ∧ (w').cell? ⟨g1, 5, none⟩ = some (.slice (some ⟨gi, 0, none⟩) 1 1) ∧ (w').cell? ⟨g2, 0, none⟩ = some (.int .u64 0) ∧ (w').cell? ⟨g2, 1, none⟩ = some (.slice none 0 0) ∧ (w').cell? ⟨g2, 2, none⟩ = some (.slice A 2 c)) from fun w' hk => by
    have hb := (HB0.out.kp hk3 (fun h => h)).kp hk (fun h => h)
    have hc := hb3.kp hk (fun h => h)
    exact ⟨hb.cell 0, hb.cell 1, hb.cell 2, hb.cell 3, hb.cell 4, hb.cell 5, hc.cell 0, hc.cell 1, hc.cell 2⟩)
  have HFC := Lib.hid (show ∀ (x : Vt) (r : Int × Int), sizeR F5a x = r → ∀ u W, Kp (fun _ => False) W1 W → (∃ ok, VtR W ok u x) → Calls Try.prog 33 #[.agg #[.int .i64 2, .int .i64 1, .int .i64 2, .int .i64 4, .int .i64 2, .slice (some ⟨gi, 0, none⟩) 1 1], u] W fun e w' => e = .returned (.int .i64 r.2) ∧ Kp (fun _ => False) W w' from fun x r hr u W hk ⟨ok, hu⟩ => hr ▸ vfits_any _ ok F5a x _ u W ((HF0.out.kp hk3 (fun _ _ h => h)).kp hk (fun _ _ h => h)) hu)
  have HSC := Lib.hid (show ∀ u W, Kp (fun _ => False) W1 W → (∃ ok, VtR W ok u (.mk ⟨0, []⟩ (numsV [5, 6]))) → Calls Try.prog 32 #[.agg #[.int .i64 2, .int .i64 1, .int .i64 2, .int .i64 4, .int .i64 2, .slice (some ⟨gi, 0, none⟩) 1 1], u] W fun e w' => e = .returned (.int .i64 3) ∧ Kp (fun _ => False) W w' from fun u W hk ⟨ok, hu⟩ => by
    have := vsize_any _ ok F5a _ _ u W ((HF0.out.kp hk3 (fun _ _ h => h)).kp hk (fun _ _ h => h)) hu
    rw [fits5a] at this
    exact this)
  have HVA := Lib.hid (show ∀ W, Kp (fun _ => False) W1 W → VtR W (fun i => i = w2.heap.size ∨ (w2.alloc (.cells #[.int .u64 5, .slice none 0 0, .slice none 0 0, .int .u64 6, .slice none 0 0, .slice none 0 0] 46)).heap.size ≤ i) (.agg #[.int .u64 0, .slice none 0 0, .slice A 2 c]) (.mk ⟨0, []⟩ (numsV [5, 6])) from fun W hk => hv3.kp hk (fun _ _ h => h))
  have HKW := Lib.hid hk3
  have HKR := Lib.hid (Kp.refl (fun _ => False) W1)
  have HFA := Lib.hid (HFC.out _ _ fits5a)
  have HFB := Lib.hid (HFC.out _ _ fits5b)
  have HFD := Lib.hid (HFC.out _ _ fits5c)
  clear hW1 hk3 hv3 hb3 hg2 HFC HK1 HK2 HK2a HK3 HV3 HB3 HB2 HF0 HB0 HL2
  go_region_held3 (fun w' => ((w').cell? ⟨g1, 0, none⟩ = some (.int .i64 2) ∧ (w').cell? ⟨g1, 1, none⟩ = some (.int .i64 1) ∧ (w').cell? ⟨g1, 2, none⟩ = some (.int .i64 2) ∧ (w').cell? ⟨g1, 3, none⟩ = some (.int .i64 4) ∧ (w').cell? ⟨g1, 4, none⟩ = some (.int .i64 2) ∧ (w').cell? ⟨g1, 5, none⟩ = some (.slice (some ⟨gi, 0, none⟩) 1 1) ∧ (w').cell? ⟨g2, 0, none⟩ = some (.int .u64 0) ∧ (w').cell? ⟨g2, 1, none⟩ = some (.slice none 0 0) ∧ (w').cell? ⟨g2, 2, none⟩ = some (.slice A 2 c))) (first | exact HCE.out _ HKR.out | exact HCE.out _ HKR.out.drew | exact HCE.out _ (HKR.out.alloc _) | exact HCE.out _ (HKR.out.drew.alloc _)) (first
    | (go_at_call_of 33 (Value.slice A 2 c); refine (HFA.out _ _ ?_ ?_).mono ?_; exact (by first | exact HKR.out | exact HKR.out.drew | exact HKR.out.alloc _ | exact (HKR.out.drew).alloc _ | exact (HKR.out.alloc _).drew); exact ⟨_, HVA.out _ (by first | exact HKR.out | exact HKR.out.drew | exact HKR.out.alloc _ | exact (HKR.out.drew).alloc _ | exact (HKR.out.alloc _).drew)⟩; rintro e w5 ⟨rfl, hk5⟩; have hq := Kp.then_ (a := W1) (S := fun _ => False) (by first | exact HKR.out | exact HKR.out.drew | exact HKR.out.alloc _ | exact (HKR.out.drew).alloc _ | exact (HKR.out.alloc _).drew) hk5 (fun _ h => h.elim); clear HKR; have HKR := Lib.hid hq; clear hq; clear hk5)
    | (go_at_call 32; refine (HSC.out _ _ ?_ ?_).mono ?_; exact (by first | exact HKR.out | exact HKR.out.drew | exact HKR.out.alloc _ | exact (HKR.out.drew).alloc _ | exact (HKR.out.alloc _).drew); exact ⟨_, HVA.out _ (by first | exact HKR.out | exact HKR.out.drew | exact HKR.out.alloc _ | exact (HKR.out.drew).alloc _ | exact (HKR.out.alloc _).drew)⟩; rintro e w5 ⟨rfl, hk5⟩; have hq := Kp.then_ (a := W1) (S := fun _ => False) (by first | exact HKR.out | exact HKR.out.drew | exact HKR.out.alloc _ | exact (HKR.out.drew).alloc _ | exact (HKR.out.alloc _).drew) hk5 (fun _ h => h.elim); clear HKR; have HKR := Lib.hid hq; clear hq; clear hk5)
    | (go_at_call 38; refine (HN.out _ _).mono ?_; rintro e w5 ⟨rfl, hk5⟩; have hq := Kp.then_ (a := W1) (S := fun _ => False) (by first | exact HKR.out | exact HKR.out.drew | exact HKR.out.alloc _ | exact (HKR.out.drew).alloc _ | exact (HKR.out.alloc _).drew) hk5 (fun _ h => h.elim); clear HKR; have HKR := Lib.hid hq; clear hq; clear hk5)
    | (go_at_call_of 36 (3 : Nat); refine (HL3.out _ _ ?_).mono ?_; (first | exact Blk.new _ _ _ | exact (Blk.new _ _ _).drew); rintro e w5 ⟨A5, c5, rfl, hv5, hk5⟩; have HV5 := Lib.hid hv5; clear hv5; have hq := Kp.then_ (a := W1) (S := fun _ => False) (by first | exact HKR.out | exact HKR.out.drew | exact HKR.out.alloc _ | exact (HKR.out.drew).alloc _ | exact (HKR.out.alloc _).drew) hk5 (fun _ h => h.elim); clear HKR; have HKR := Lib.hid hq; clear hq; clear hk5)
    | (go_at_call_of 36 (2 : Nat); refine (HL4.out _ _ ?_).mono ?_; (first | exact Blk.new _ _ _ | exact (Blk.new _ _ _).drew); rintro e w5 ⟨A6, c6, rfl, hv5, hk5⟩; have HV6 := Lib.hid hv5; clear hv5; have hq := Kp.then_ (a := W1) (S := fun _ => False) (by first | exact HKR.out | exact HKR.out.drew | exact HKR.out.alloc _ | exact (HKR.out.drew).alloc _ | exact (HKR.out.alloc _).drew) hk5 (fun _ h => h.elim); clear HKR; have HKR := Lib.hid hq; clear hq; clear hk5)
    | (go_at_call_of 33 A5; refine (HFB.out _ _ ?_ ?_).mono ?_; exact (by first | exact HKR.out | exact HKR.out.drew | exact HKR.out.alloc _ | exact (HKR.out.drew).alloc _ | exact (HKR.out.alloc _).drew); (first | exact ⟨_, HV5.out⟩ | exact ⟨_, HV5.out.kp (Kp.refl (fun _ => False) _).drew (fun _ _ h => h)⟩); rintro e w5 ⟨rfl, hk5⟩; have hq := Kp.then_ (a := W1) (S := fun _ => False) (by first | exact HKR.out | exact HKR.out.drew | exact HKR.out.alloc _ | exact (HKR.out.drew).alloc _ | exact (HKR.out.alloc _).drew) hk5 (fun _ h => h.elim); clear HKR; have HKR := Lib.hid hq; clear hq; clear hk5)
    | (go_at_call_of 33 A6; refine (HFD.out _ _ ?_ ?_).mono ?_; exact (by first | exact HKR.out | exact HKR.out.drew | exact HKR.out.alloc _ | exact (HKR.out.drew).alloc _ | exact (HKR.out.alloc _).drew); (first | exact ⟨_, HV6.out⟩ | exact ⟨_, HV6.out.kp (Kp.refl (fun _ => False) _).drew (fun _ _ h => h)⟩); rintro e w5 ⟨rfl, hk5⟩; have hq := Kp.then_ (a := W1) (S := fun _ => False) (by first | exact HKR.out | exact HKR.out.drew | exact HKR.out.alloc _ | exact (HKR.out.drew).alloc _ | exact (HKR.out.alloc _).drew) hk5 (fun _ h => h.elim); clear HKR; have HKR := Lib.hid hq; clear hq; clear hk5))
  go_wp2_with fail
  go_ret
  exact ⟨rfl, HK0.out.then_ (HKW.out.then_ HKR.out (fun _ h => h.elim)) (fun _ h => h.elim)⟩
end Go.Proofs.Ytfcghajnnllmhaa

namespace Go.Proofs.Ytfcghajnnllmhaa.QP
open Go.RowKit Go.Proofs.YtfcghajnnllmhaaW.PrintWords Go.Proofs.YtfcghajnnllmhaaW.PrintLast Go.Proofs.YtfcghajnnllmhaaW.PrintMore
attribute [local go_sem] max2_int min2_int max_two min_two max_three min_three max_four min_four   -- for this text's walks alone
set_option linter.unusedVariables false
set_option linter.unusedSimpArgs false

/-! ### passepartoutlaw05_alive: function 30 -/
def passepartoutlaw05_alive.f  : Option (Bool) := some true
set_option maxHeartbeats 8000000 in
set_option maxRecDepth 100000 in
theorem passepartoutlaw05_alive.calls  (r : Bool) (w : World)  (h : passepartoutlaw05_alive.f  = some r) :
    Calls Try.prog 30 #[] w fun e w' => e = .returned (.bool r) ∧ Below w.heap.size w w' := by
  unfold passepartoutlaw05_alive.f at h
  injection h with h
  subst h
  exact (alive05 w).mono fun e w' h => ⟨h.1, h.2.below⟩

end Go.Proofs.Ytfcghajnnllmhaa.QP
