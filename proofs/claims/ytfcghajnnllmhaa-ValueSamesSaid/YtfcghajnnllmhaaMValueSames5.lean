/-
  The law ValueSames: for every input it returns true, and its arguments read behind the call as before it. No condition.
-/
import Derived.Deep.RegionHeld3
import Derived.Deep.RegionWith
import Derived.Test.YtfcghajnnllmhaaProg
import Derived.Lib.SmallJoins
import Derived.Test.YtfcghajnnllmhaaRows
import Derived.Test.YtfcghajnnllmhaaMValueSames1
import Derived.Test.YtfcghajnnllmhaaMValueSames2
import Derived.Test.YtfcghajnnllmhaaMValueSames3
import Derived.Test.YtfcghajnnllmhaaMValueSames4

namespace Go.Proofs.Ytfcghajnnllmhaa
open Go.RowKit YtfcghajnnllmhaaW.PrintWords YtfcghajnnllmhaaW.PrintMore

theorem may_f (n lo hi st : Int) (h : st ≠ 0) : QP.value_may.f n lo hi st = some (mayR n lo hi st) := by
  unfold QP.value_may.f mayR
  split
  · rfl
  · by_cases h2 : n > hi
    · simp [h2]
    · simp only [if_neg h2]
      split <;> rfl
theorem alone_f (k n : Int) (hk : i64B k) (b : List Int) (l : List SV) : QP.value_alone.f k n b l = some (aloneB k n b.length l.length) := by
  unfold QP.value_alone.f
  rw [if_pos ((okI_iff k).2 hk)]
theorem getD_ofF (P : List Fm) (j : Nat) (h : j < P.length) : P.getD j nilF = P[j] := by simp [h]
theorem shr_u64 (x : Int) (s : Nat) (h0 : 0 ≤ x) (hs : s < 8) : shr .u64 x (8 * (s : Int)) = 0 ↔ ¬ (2 : Int) ^ (8 * s) ≤ x := by
  unfold shr
  have e1 : min ((8 * (s : Int)).toNat) IntKind.u64.bits = 8 * s := by
    have : IntKind.u64.bits = 64 := rfl
    rw [this]
    omega
  rw [e1]
  have hp : (0 : Int) < 2 ^ (8 * s) := Int.pow_pos (by omega)
  generalize (2 : Int) ^ (8 * s) = d at hp ⊢
  constructor
  · intro h hle
    have h1 : 1 ≤ x / d := Int.le_ediv_of_mul_le hp (by omega)
    omega
  · intro h
    exact Int.ediv_eq_zero_of_lt h0 (by omega)

theorem fit_ev (x : Vt) : ∀ f : Fm, wfF f = true → checkR f = 0 → wfV x = true → Ev (fun k => QP.value_fit.f k f.a.k f.a.s f.a.lo f.a.hi f.a.st (f.l.map ofF) x.a.n (bI x.a.b) (x.l.map ofV)) (fitR f x) := by
  induction x using RT.induct with
  | h a l ih =>
  intro f hwf hck hwx
  obtain ⟨h, P⟩ := f
  obtain ⟨hok, hPl, hPw⟩ := (wfF_mk _ _).1 hwf
  obtain ⟨hn, hbl, hll, hlw⟩ := (wfV_mk _ _).1 hwx
  obtain ⟨hown, hone, h32, hch⟩ := check_ok hck
  rw [fitR_mk]
  simp only [RT.a, RT.l]
  apply Ev.step
  · intro k
    simp only [QP.value_fit.f]
    rfl
  refine Ev.cb (alone_f h.k a.n hok.k (bI a.b) (l.map ofV)) ?_
  rw [bI_len, List.length_map]
  by_cases hal : aloneB h.k a.n a.b.length l.length = true
  rotate_left
  · have hal' : aloneB h.k a.n a.b.length l.length = false := by simpa using hal
    exact Ev.eq_ (Ev.in_ hal (Ev.now _)) (if_pos hal').symm
  refine Ev.eq_ ?_ (if_neg (show ¬ aloneB h.k a.n a.b.length l.length = false by simp [hal])).symm
  refine Ev.ip hal ?_
  by_cases k0 : h.k = 0
  · refine Ev.ip k0 ?_
    have hs := hown.k0 k0
    obtain ⟨s, hse⟩ : ∃ s : Nat, h.s = s := ⟨h.s.toNat, by omega⟩
    have hst : h.s.toNat = s := by omega
    refine Ev.rp k0 ?_
    rw [hst]
    by_cases hs8 : h.s < 8
    · refine Ev.ip hs8 ?_
      rw [hse, w64 (by omega) (by omega)]
      refine Ev.ip (by omega) ?_
      have hsh := shr_u64 a.n s hn.1 (by omega)
      by_cases hx : (2 : Int) ^ (8 * s) ≤ a.n
      · refine Ev.rp ⟨by omega, hx⟩ ?_
        exact Ev.in_ (fun e => hsh.1 e hx) (Ev.now _)
      · refine Ev.rn (fun e => hx e.2) ?_
        exact Ev.ip (hsh.2 hx) (Ev.now _)
    · refine Ev.rn (fun e => hs8 e.1) ?_
      exact Ev.in_ hs8 (Ev.now _)
  refine Ev.rn k0 ?_
  refine Ev.in_ k0 ?_
  by_cases k1 : h.k = 1
  · refine Ev.rp k1 ?_
    have hs := hown.k12 (.inl k1)
    exact Ev.ip k1 (Ev.cb (may_f _ _ _ _ (by omega)) (Ev.now _))
  refine Ev.rn k1 ?_
  refine Ev.in_ k1 ?_
  by_cases k4 : h.k = 4
  · refine Ev.rp k4 ?_
    exact Ev.ip k4 (Ev.cb (may_f _ _ _ _ (by omega)) (Ev.now _))
  refine Ev.rn k4 ?_
  refine Ev.in_ k4 ?_
  by_cases k5 : h.k = 5
  · refine Ev.rp k5 ?_
    exact Ev.ip k5 (Ev.cb (may_f _ _ _ _ (by omega)) (Ev.now _))
  refine Ev.rn k5 ?_
  refine Ev.in_ k5 ?_
  have hk23 : h.k = 2 ∨ h.k = 3 := by have := hown.k; omega
  have hPc : ∀ y ∈ P, checkR y = 0 := (hch hk23).1
  have key : (h.k = 3 → l.length = P.length) → ∀ (d j : Nat) (q : Int), l.length - j = d → j ≤ l.length → Ev (fun k => QP.value_fit.l0 k q (l.map ofV) (l.length : Int) (j : Int) h.k h.s h.lo h.hi h.st (P.map ofF)) (fitL (.mk h P) q j (l.drop j)) := by
    intro hlen d
    induction d with
    | zero =>
      intro j q hd hj
      apply Ev.step
      · intro k
        simp only [QP.value_fit.l0]
        rfl
      refine Ev.in_ (by omega) ?_
      rw [List.drop_of_length_le (by omega), fitL]
      simp only [RT.a]
      by_cases k3 : h.k = 3
      · refine Ev.rp k3 ?_
        exact Ev.ip k3 (Ev.now _)
      · refine Ev.rn k3 ?_
        have hs := hown.k12 (.inr (by omega))
        exact Ev.in_ k3 (Ev.cb (may_f _ _ _ _ (by omega)) (Ev.now _))
    | succ d ihd =>
      intro j q hd hj
      have hlt : j < l.length := by omega
      have hP0 : 0 < P.length := by
        rcases hk23 with k2 | k3
        · have := hone k2; omega
        · have := hlen k3; omega
      have hmod : j % P.length < P.length := Nat.mod_lt _ hP0
      apply Ev.step
      · intro k
        simp only [QP.value_fit.l0, rd_ofV l j hlt, ofV_f0, ofV_f1, ofV_f2]
        rfl
      refine Ev.ip (by omega) (Ev.ip (by omega) (Ev.ip (by rw [List.length_map]; omega) (Ev.in_ (by rw [List.length_map]; omega) ?_)))
      have hmodI : Int.tmod (j : Int) ((P.map ofF).length : Int) = ((j % P.length : Nat) : Int) := by rw [List.length_map]; rfl
      simp only [hmodI, rd_ofF P _ hmod, of_f0, of_f1, of_f2, of_f3, of_f4, of_f5]
      refine Ev.ip (by omega) (Ev.ip (by rw [List.length_map]; omega) ?_)
      refine Ev.bind (ih l[j] (List.getElem_mem hlt) (P[j % P.length]) (hPw _ (List.getElem_mem hmod)) (hPc _ (List.getElem_mem hmod)) (hlw _ (List.getElem_mem hlt))) ?_
      rw [fitL_drop _ _ _ _ _ hlt]
      simp only [getD_ofF P _ hmod]
      rw [w64 (x := (j : Int) + 1) (by omega) (by omega), show (j : Int) + 1 = ((j + 1 : Nat) : Int) by omega]
      by_cases he : (fitR P[j % P.length] l[j]).2 = 0
      · refine Ev.ip he ?_
        refine Ev.rp he ?_
        exact ihd (j + 1) _ (by omega) (by omega)
      · refine Ev.in_ he ?_
        exact Ev.eq_ (Ev.now _) (if_neg he).symm
  have hj0 : ∀ b : Bool, b = decide (h.k = 3 ∧ l.length ≠ P.length) → Ev (fun k => QP.value_fit.j0 k b h.k h.s h.lo h.hi h.st (P.map ofF) a.n (bI a.b) (l.map ofV)) (if h.k = 3 ∧ l.length ≠ P.length then (0, 15) else fitL (.mk h P) 0 0 l) := by
    intro b hb
    apply Ev.step
    · intro k
      simp only [QP.value_fit.j0, List.length_map]
      rfl
    by_cases hc : h.k = 3 ∧ l.length ≠ P.length
    · rw [decide_eq_true hc] at hb
      refine Ev.rp hc ?_
      exact Ev.ip hb (Ev.now _)
    · rw [decide_eq_false hc] at hb
      refine Ev.rn hc ?_
      refine Ev.in_ (by simp [hb]) ?_
      have h0 := key (fun k3 => Decidable.byContradiction fun hne => hc ⟨k3, hne⟩) l.length 0 0 (by omega) (by omega)
      rw [List.drop_zero] at h0
      exact h0
  simp only [List.length_map]
  by_cases k3 : h.k = 3
  · refine Ev.ip k3 (hj0 _ ?_)
    rw [Bool.eq_iff_iff]
    simp [k3]
    omega
  · refine Ev.in_ k3 (hj0 _ ?_)
    simp [k3]

theorem size_ev (f : Fm) (x : Vt) (hf : wfF f = true) (hx : wfV x = true) : Ev (fun k => QP.value_size.f k f.a.k f.a.s f.a.lo f.a.hi f.a.st (f.l.map ofF) x.a.n (bI x.a.b) (x.l.map ofV)) (sizeR f x) := by
  simp only [QP.value_size.f]
  refine Ev.cb (lay_check f hf) ?_
  rw [sizeR]
  by_cases hc : (if deepB 8 f = true then (14 : Int) else checkR f) = 0
  · refine Ev.rp hc ?_
    have hck : checkR f = 0 := by
      split at hc
      · omega
      · exact hc
    refine Ev.ip hc (Ev.bind (fit_ev x f hf hck hx) ?_)
    by_cases he : (fitR f x).2 = 0
    · refine Ev.rp he ?_
      exact Ev.ip he (Ev.now _)
    · refine Ev.rn he ?_
      exact Ev.in_ he (Ev.now _)
  · refine Ev.rn hc ?_
    exact Ev.in_ hc (Ev.now _)
theorem Fits_ev (f : Fm) (x : Vt) (hf : wfF f = true) (hx : wfV x = true) : Ev (fun k => QP.value_Fits.f k f.a.k f.a.s f.a.lo f.a.hi f.a.st (f.l.map ofF) x.a.n (bI x.a.b) (x.l.map ofV)) (sizeR f x).2 := by
  simp only [QP.value_Fits.f]
  exact Ev.bind (size_ev f x hf hx) (Ev.now _)
theorem Size_ev (f : Fm) (x : Vt) (hf : wfF f = true) (hx : wfV x = true) : Ev (fun k => QP.value_Size.f k f.a.k f.a.s f.a.lo f.a.hi f.a.st (f.l.map ofF) x.a.n (bI x.a.b) (x.l.map ofV)) (sizeR f x).1 := by
  simp only [QP.value_Size.f]
  exact Ev.bind (size_ev f x hf hx) (Ev.now _)
/-! ### value.Fits and Size, at my words. -/
theorem vfits_any (ok ok2 : Nat → Prop) (f : Fm) (x : Vt) (v u : Value) (w : World) (hv : FmR w ok v f) (hu : VtR w ok2 u x) : Calls Try.prog 33 #[v, u] w fun e w' => e = .returned (.int .i64 (sizeR f x).2) ∧ Kp (fun _ => False) w w' := by
  obtain ⟨hw1, hw2⟩ : wfF f = true ∧ wfV x = true := by
    obtain ⟨_, _, h1⟩ := hv.tr
    obtain ⟨_, _, _, h2⟩ := hu.tr
    exact ⟨tr_wfF f _ h1, tr_wfV x _ h2⟩
  obtain ⟨K, hK⟩ := (Fits_ev f x hw1 hw2).rounds
  obtain ⟨⟨k, s, lo, hi, st⟩, P⟩ := f
  obtain ⟨⟨n, b⟩, l⟩ := x
  obtain ⟨A, c, rfl, _, _, _, _, _, _, _, h1⟩ := hv.parts
  obtain ⟨A1, c1, A2, c2, rfl, _, _, hbl, hb, _, _, h2⟩ := hu.parts
  obtain ⟨_, g1, g2⟩ := h1.c
  obtain ⟨_, g3, g4⟩ := br_c hb hbl
  obtain ⟨_, g5, g6⟩ := h2.c
  have := QP.value_Fits.calls K k s lo hi st A c (P.map ofF) n A1 c1 (bI b) A2 c2 (l.map ofV) _ w g2 g1 g4 g3 g6 g5 hK
  simp only [List.length_map, bI_len] at this
  exact this.mono fun e w' h => ⟨h.1, Kp.of_below h.2⟩
theorem vsize_any (ok ok2 : Nat → Prop) (f : Fm) (x : Vt) (v u : Value) (w : World) (hv : FmR w ok v f) (hu : VtR w ok2 u x) : Calls Try.prog 32 #[v, u] w fun e w' => e = .returned (.int .i64 (sizeR f x).1) ∧ Kp (fun _ => False) w w' := by
  obtain ⟨hw1, hw2⟩ : wfF f = true ∧ wfV x = true := by
    obtain ⟨_, _, h1⟩ := hv.tr
    obtain ⟨_, _, _, h2⟩ := hu.tr
    exact ⟨tr_wfF f _ h1, tr_wfV x _ h2⟩
  obtain ⟨K, hK⟩ := (Size_ev f x hw1 hw2).rounds
  obtain ⟨⟨k, s, lo, hi, st⟩, P⟩ := f
  obtain ⟨⟨n, b⟩, l⟩ := x
  obtain ⟨A, c, rfl, _, _, _, _, _, _, _, h1⟩ := hv.parts
  obtain ⟨A1, c1, A2, c2, rfl, _, _, hbl, hb, _, _, h2⟩ := hu.parts
  obtain ⟨_, g1, g2⟩ := h1.c
  obtain ⟨_, g3, g4⟩ := br_c hb hbl
  obtain ⟨_, g5, g6⟩ := h2.c
  have := QP.value_Size.calls K k s lo hi st A c (P.map ofF) n A1 c1 (bI b) A2 c2 (l.map ofV) _ w g2 g1 g4 g3 g6 g5 hK
  simp only [List.length_map, bI_len] at this
  exact this.mono fun e w' h => ⟨h.1, Kp.of_below h.2⟩
end Go.Proofs.Ytfcghajnnllmhaa

namespace Go.Proofs.Ytfcghajnnllmhaa
open Go.RowKit

theorem value_info : (Try.prog.info? 46).map (fun i => (i.zero, i.size, i.bytes)) = some (some (.agg #[.int .u64 0, .slice none 0 0, .slice none 0 0]), 3, 56) := by kernel_rfl
/-- append of values to values of the call's own. -/
theorem app_vals {w : World} {ops : Array Oper} {rest : List Oper} {o : Oper} {a : Act} {Q : Exit → Act → World → Prop} (hgd : o.guard = none) (s x : Operand)
    (ho : o.op = .call { callee := .builtin .append, args := #[s, x], argTypes := #[44, 44] })
    (B : Nat) (A : Option Addr) (n c : Nat) (xs : List Value) (hs : a.eval s = .slice A n c) (hown : Own w (B ≤ ·) 46 3 (.slice A n c) n xs)
    (ok : Nat → Prop) (Ax : Option Addr) (m cx : Nat) (xx : List Value) (hx : a.eval x = .slice Ax m cx) (hr : Rd w ok 3 Ax m xx) (h1 : ∀ u ∈ xx, u.oneCell' = true)
    (hk2 : n + m ≤ 2199023255552) (hB : B ≤ w.heap.size)
    (h : ∀ A' c' w', Own w' (B ≤ ·) 46 3 (.slice A' (n + m) c') (n + m) (xs ++ xx) → Kp (B ≤ ·) w w' → wpList Try.prog ops Q rest (a.put o.dst (.slice A' (n + m) c')) w') : wpList Try.prog ops Q (o :: rest) a w := by
  obtain ⟨i0, hi0, hz0, hz1, hz2⟩ := info_parts value_info
  refine wpList_append_any w hgd s x _ ho 0 46 i0 _ 3 56 Try.underlying44 hi0 hz0 hz1 hz2 rfl (by omega) (.slice A n c) n xs hs hown.1 ok Ax m cx xx hx hr h1 (by simp only [maxLen]; omega) (by omega) (Nat.zero_le _) ?_
  intro v' w' h1 h2 h3
  have hk' : Kp (B ≤ ·) w w' := (Kp.refl _ _).grown h2 (fun j hj => .inl (hown.2 j hj))
  have ho' : Own w' (B ≤ ·) 46 3 v' (n + m) (xs ++ xx) := ⟨h1, fun j hj => by
    rcases h3 with e | e
    · exact hown.2 j (e ▸ hj)
    · rw [e] at hj
      injection hj with hj
      omega⟩
  obtain ⟨A', c', e, _⟩ := ho'.shape
  subst e
  exact h A' c' w' ho' hk'

set_option maxRecDepth 100000 in
theorem vclone_any (ok : Nat → Prop) (v : Value) (l : List Vt) (w : World) (hv : VsR w ok v l) (hl : l.length ≤ 2199023255552) :
    Calls Try.prog 57 #[v] w fun e w' => ∃ A c, e = .returned (.slice A l.length c) ∧ VsR w' (fun i => ok i ∨ w.heap.size ≤ i) (.slice A l.length c) l ∧ Kp (fun _ => False) w w' := by
  obtain ⟨A, c, rfl, hc, hc2, ht⟩ := id hv
  cases A with
  | none =>
    have h0 : l = [] := by
      rcases l with _ | ⟨a, l⟩
      · rfl
      · obtain ⟨b, off, e, _⟩ := ht (by simp)
        cases e
    subst h0
    have HN := fun W c => Lib.run_eql_slice_nil (P := Try.prog) W 44 46 none 0 c 0 0 Try.underlying44
    clear ht hv
    go_enter Try.func57, Try.ntmps57
    go_wp2_with fail
    go_ret
    exact ⟨none, 0, rfl, VsR.nil, Kp.refl _ _⟩
  | some ad =>
    have HN := fun W => Lib.run_eql_slice_nil (P := Try.prog) W 44 46 (some ad) l.length c 0 0 Try.underlying44
    obtain ⟨xs, hr, h1, hmv⟩ := TL.flat VHd_kp VHd_one ht
    have ka : Kp (fun _ => False) w (w.alloc (.cells #[] 46)) := (Kp.refl _ _).alloc _
    have HR := Lib.hid (hr.kp ka (fun _ _ h => h))
    have H1 := Lib.hid h1
    have HM := Lib.hid hmv
    have HO := Lib.hid (Own.lit_ w 46 3 [] #[] 0 w.heap.size rfl rfl (Nat.le_refl _) (by decide))
    have hz := ka.size
    clear hr h1 hmv ht hv
    go_enter Try.func57, Try.ntmps57
    go_wp2_with (at_builtin; refine app_vals rfl (.tmp 5) (.tmp 6) rfl w.heap.size _ 0 _ [] rfl HO.out _ (some ad) l.length c xs rfl HR.out H1.out (by omega) hz ?_; intro A2 c2 W2 o2 q2; have O2 := Lib.hid o2; have K2 := Lib.hid (ka.then_ q2 (fun i hi => .inr hi)); clear o2 q2; rw [Nat.zero_add] at *)
    go_ret
    obtain ⟨A', c', e, hcc⟩ := O2.out.shape
    injection e with e1 e2 e3
    subst e1 e3
    refine ⟨A2, c2, rfl, ⟨A2, c2, rfl, hcc, hc2, HM.out (fun _ => False) _ W2 A2 K2.out (fun _ _ h => h) (fun i hi => .inl hi) ?_⟩, K2.out⟩
    have hrd := O2.out.rd
    rw [List.nil_append] at hrd
    refine ⟨hrd.1, fun h0 => ?_⟩
    obtain ⟨ad', e', hsp, hb', hcell⟩ := hrd.2 h0
    exact ⟨ad', e', hsp, .inr hb', hcell⟩

set_option maxRecDepth 100000 in
theorem vnum_any (x : Int) (w : World) : Calls Try.prog 38 #[.int .u64 x] w fun e w' => e = .returned (.agg #[.int .u64 x, .slice none 0 0, .slice none 0 0]) ∧ Kp (fun _ => False) w w' := by
  have HK := Lib.hid (show ∀ o, Kp (fun _ => False) w (w.alloc o) from fun o => (Kp.refl _ _).alloc o)
  go_enter Try.func38, Try.ntmps38
  go_wp2_with fail
  refine bodyPost_ret (v := .agg #[.int .u64 x, .slice none 0 0, .slice none 0 0]) (by simp [results, Try.results38, go_sem]) rfl ⟨rfl, HK.out _⟩

theorem Kp.put3 {S : Nat → Prop} {a w : World} (h : Kp S a w) {B : Nat} (hB : S B ∨ a.heap.size ≤ B) (v0 v1 v2 : Value) : Kp S a (((w.setCell ⟨B, 0, none⟩ v0).setCell ⟨B, 1, none⟩ v1).setCell ⟨B, 2, none⟩ v2) :=
  ((h.at_ B hB 0 v0).at_ B hB 1 v1).at_ B hB 2 v2
set_option maxRecDepth 100000 in
theorem vlist_any (ok : Nat → Prop) (v : Value) (l : List Vt) (w : World) (hlt : ∀ i, ok i → i < w.heap.size) (hv : VsR w ok v l) (hl : l.length ≤ 2199023255552) :
    Calls Try.prog 36 #[v] w fun e w' => ∃ A c, e = .returned (.agg #[.int .u64 0, .slice none 0 0, .slice A l.length c]) ∧ VtR w' (fun i => ok i ∨ w.heap.size ≤ i) (.agg #[.int .u64 0, .slice none 0 0, .slice A l.length c]) (.mk ⟨0, []⟩ l) ∧ Kp (fun _ => False) w w' := by
  have HK := Lib.hid (show ∀ o, Kp (fun _ => False) w (w.alloc o) from fun o => (Kp.refl _ _).alloc o)
  have HC := Lib.hid (fun o => vclone_any ok v l (w.alloc o) (VsR.kp hv ((Kp.refl (fun _ => False) w).alloc o) (fun _ _ h => h)) hl)
  have HB := Lib.hid (Blk.new w 46 #[.int .u64 0, .slice none 0 0, .slice none 0 0])
  have HLT := Lib.hid hlt
  clear hv hlt
  go_enter Try.func36, Try.ntmps36
  go_wp2_with fail
  refine (HC.out _).mono ?_
  rintro e w1 ⟨A, c, rfl, hs1, hk1⟩
  have hb1 := HB.out.kp hk1 (fun h => h)
  have e0 := hb1.cell 0
  have e1 := hb1.cell 1
  have e2 := hb1.cell 2
  simp at e0 e1 e2
  have z0 := hb1.frozen 0
  have z1 := hb1.frozen 1
  have z2 := hb1.frozen 2
  have HK1 := Lib.hid ((HK.out _).then_ hk1 (fun _ h => h.elim))
  have HS1 := Lib.hid hs1
  have hlt := hb1.lt
  clear hk1 hs1 hb1
  go_wp2_with fail
  have hk9 := (Kp.refl (fun x => x = w.heap.size) w1).put3 (B := w.heap.size) (.inl rfl) (.int .u64 0) (.slice none 0 0) (.slice A l.length c)
  have hkw := HK1.out.then_ hk9 (fun i hi => .inr (by omega))
  have hs9 := HS1.out.kp hk9 (fun i hi he => by
    rw [World.size_alloc] at hi
    rcases hi with hi | hi
    · have := HLT.out i hi; omega
    · omega)
  refine bodyPost_ret (v := .agg #[.int .u64 0, .slice none 0 0, .slice A l.length c]) (by simp [results, Try.results36, go_sem, e0, e1, e2]) rfl ⟨A, c, rfl, ⟨_, _, rfl, ⟨by show (0 : Int) ≤ 0; omega, by show (0 : Int) < _; omega⟩, BR.nil, by show 0 ≤ 140737488355328; omega, hs9.mono (fun i hi => ?_)⟩, hkw⟩
  rw [World.size_alloc] at hi
  rcases hi with hi | hi
  · exact .inl hi
  · exact .inr (by omega)
end Go.Proofs.Ytfcghajnnllmhaa

namespace Go.Proofs.Ytfcghajnnllmhaa
open Go.RowKit

theorem FHd_lt : HeadLt FHd := ⟨fun h => h⟩
theorem FsR.lt_ {w : World} {ok : Nat → Prop} {v : Value} {l : List Fm} (h : FsR w ok v l) : FsR w (fun i => ok i ∧ i < w.heap.size) v l := by
  obtain ⟨A, c, e, h1, h2, h3⟩ := h
  exact ⟨A, c, e, h1, h2, h3.lt_ FHd_lt⟩
theorem FmR.lt_ {w : World} {ok : Nat → Prop} {v : Value} {f : Fm} (h : FmR w ok v f) : FmR w (fun i => ok i ∧ i < w.heap.size) v f := by
  obtain ⟨sv, e, h1, h2⟩ := h
  exact ⟨sv, e, h1, h2.lt_⟩

/-- Forms in a slice, of blocks that there are. -/
def FsW (w : World) (v : Value) (l : List Fm) : Prop := FsR w (· < w.heap.size) v l
theorem FsW.kp {w w' : World} {v : Value} {l : List Fm} (h : FsW w v l) (hk : Kp (fun _ => False) w w') : FsW w' v l :=
  (FsR.kp h hk (fun _ _ h => h)).mono (fun _ hi => Nat.lt_of_lt_of_le hi hk.size)

end Go.Proofs.Ytfcghajnnllmhaa

namespace Go.Proofs.Ytfcghajnnllmhaa
open Go.RowKit

/-- One form, laid as a slice. -/
theorem FsR.one_ {w : World} {ok : Nat → Prop} {f : Fm} {A : Option Addr} {c : Nat} (h : FmR w ok (.agg #[.int .i64 f.a.k, .int .i64 f.a.s, .int .i64 f.a.lo, .int .i64 f.a.hi, .int .i64 f.a.st, .slice A f.l.length c]) f) {W : World} {B : Nat} {S : Nat → Prop}
    (hk : Kp S w W) (hd : ∀ i, ok i → ¬ S i) (hb : w.heap.size ≤ B) (hB : Blk W B 27 #[.int .i64 f.a.k, .int .i64 f.a.s, .int .i64 f.a.lo, .int .i64 f.a.hi, .int .i64 f.a.st, .slice A f.l.length c]) :
    FsR W (fun i => ok i ∨ w.heap.size ≤ i) (.slice (some ⟨B, 0, none⟩) 1 1) [f] := by
  refine ⟨_, _, rfl, Nat.le_refl _, by simp, fun _ => ⟨B, 0, rfl, .inr hb, ?_⟩⟩
  rw [TRs]
  obtain ⟨sv, e, ht⟩ := FmR.tr ((h.kp hk hd).mono (ok' := fun i => ok i ∨ w.heap.size ≤ i) (fun _ h => .inl h))
  simp only [Value.agg.injEq, Array.mk.injEq, List.cons.injEq, and_true, true_and] at e
  subst e
  refine ⟨⟨_, ht, fun j u hu => ?_⟩, by rw [TRs]; trivial⟩
  rw [Nat.zero_add, hB.cell]
  simpa using hu

/-! ### Rows in rows. -/
structure NestP (j : Nat) (f : Fm) : Prop where
  deep : ∀ m, deepB m f = decide (m ≤ j)
  check : checkR f = 0
  opn : openR f = false
  least : leastR f = 2
theorem NestP.row {j : Nat} {f : Fm} (h : NestP j f) : NestP (j + 1) (.mk ⟨3, 0, 0, 0, 0⟩ [f]) := by
  refine ⟨fun m => ?_, ?_, ?_, ?_⟩
  · cases m with
    | zero => rfl
    | succ m =>
      show [f].any (deepB m) = _
      simp [h.deep]
  · rw [checkR_mk]
    have e : ownN 3 0 0 0 0 [f].length = 0 := by rfl
    have e2 : checkL [f] = 0 := by rw [checkL, checkL, h.check]; rfl
    have e3 : badF 3 [f].length 0 [f] = false := by rw [badF, badF, badI, h.opn]; rfl
    simp only [e, e2, e3]
    rfl
  · rw [openR_mk]
    simp only [openL, h.opn]
    rfl
  · have e : spanR FH.lo f = 2 := h.least
    rw [leastR, spanR_mk]
    simp only [spanL, e]
    simp [wrap64]
end Go.Proofs.Ytfcghajnnllmhaa

namespace Go.Proofs.Ytfcghajnnllmhaa
open Go.RowKit

def numsV (ns : List Int) : List Vt := ns.map fun n => .mk ⟨n, []⟩ []
def numsC (ns : List Int) : List Value := ns.flatMap fun n => [.int .u64 n, .slice none 0 0, .slice none 0 0]
/-- Numbers, laid as a slice of values. -/
theorem VsR.nums {W : World} {g : Nat} {ns : List Int} (hu : ∀ n ∈ ns, u64B n) (hl : ns.length ≤ 140737488355328) (hb : Blk W g 46 (numsC ns).toArray) : VsR W (· = g) (.slice (some ⟨g, 0, none⟩) ns.length ns.length) (numsV ns) := by
  refine ⟨some ⟨g, 0, none⟩, ns.length, by simp [numsV], by simp [numsV], by simpa [numsV] using hl, fun h0 => ⟨g, 0, rfl, rfl, ?_⟩⟩
  refine TRs.of (fun i hi => ?_)
  have hi' : i < ns.length := by simpa [numsV] using hi
  refine ⟨[.int .u64 ns[i], .slice none 0 0, .slice none 0 0], ?_, fun j u hu' => ?_⟩
  · have e : (numsV ns)[i] = .mk ⟨ns[i], []⟩ [] := by simp [numsV]
    rw [e]
    exact (TR_def _ _ _ _ _ _).2 ⟨[.int .u64 ns[i], .slice none 0 0], none, 0, rfl, rfl, ⟨_, rfl, hu _ (List.getElem_mem hi'), BR.nil, by show 0 ≤ _; omega⟩, Nat.le_refl _, by show 0 ≤ _; omega, fun h => by simp [RT.l] at h⟩
  · rw [Nat.zero_add, hb.cell]
    have hj : j < 3 := by
      have := (List.getElem?_eq_some_iff.1 hu').1
      simpa using this
    have key : ∀ (ns : List Int) (i : Nat) (hi : i < ns.length), (numsC ns)[i * 3 + j]? = ([.int .u64 (ns[i]'hi), .slice none 0 0, .slice none 0 0] : List Value)[j]? := by
      intro ns
      induction ns with
      | nil => intro i hi; simp at hi
      | cons n t ih =>
        intro i hi
        rw [numsC, List.flatMap_cons]
        cases i with
        | zero =>
          rw [List.getElem?_append_left (by simp; omega)]
          simp
        | succ i =>
          rw [List.getElem?_append_right (by simp; omega)]
          have := ih i (by simpa using hi)
          rw [numsC] at this
          simp only [List.length_cons, List.length_nil, List.getElem_cons_succ]
          rw [← this]
          congr 1
          omega
    have := key ns i hi'
    rw [hu'] at this
    simpa using this

def F5a : Fm := .mk ⟨2, 1, 2, 4, 2⟩ [.mk ⟨0, 1, 0, 0, 0⟩ []]
theorem fits5a : sizeR F5a (.mk ⟨0, []⟩ (numsV [5, 6])) = (3, 0) := by kernel_rfl
theorem fits5b : sizeR F5a (.mk ⟨0, []⟩ (numsV [5, 6, 7])) = (0, 5) := by kernel_rfl
theorem fits5c : sizeR F5a (.mk ⟨0, []⟩ (numsV [5, 256])) = (0, 3) := by kernel_rfl

set_option maxRecDepth 100000 in
set_option maxHeartbeats 3200000 in
theorem alive05 (w : World) : Calls Try.prog 30 #[] w fun e w' => e = .returned (.bool true) ∧ Kp (fun _ => False) w w' := by
  have u5 : ∀ n : Int, 0 ≤ n → n ≤ 1000 → u64B n := fun n h0 h1 => by unfold u64B; omega
  have bb : ∀ n : Int, 0 ≤ n → n ≤ 100000 → i64B n := fun n h0 h1 => by unfold i64B; omega
  have HN := Lib.hid (fun x W => vnum_any x W)
  have HL := Lib.hid (fun (ns : List Int) (hu : ∀ n ∈ ns, u64B n) (hl : ns.length ≤ 1000) W g (hb : Blk W g 46 (numsC ns).toArray) => vlist_any (· = g) _ (numsV ns) W (fun i hi => hi ▸ hb.lt) (VsR.nums hu (by omega) hb) (by simp [numsV]; omega))
  have hn2 : ∀ n ∈ ([5, 6] : List Int), u64B n := by intro n hn; simp at hn; rcases hn with rfl | rfl <;> exact u5 _ (by omega) (by omega)
  have hn3 : ∀ n ∈ ([5, 6, 7] : List Int), u64B n := by intro n hn; simp at hn; rcases hn with rfl | rfl | rfl <;> exact u5 _ (by omega) (by omega)
  have hn4 : ∀ n ∈ ([5, 256] : List Int), u64B n := by intro n hn; simp at hn; rcases hn with rfl | rfl <;> exact u5 _ (by omega) (by omega)
  have HL2 := Lib.hid (fun W g hb => HL.out [5, 6] hn2 (by simp) W g hb)
  have HL3 := Lib.hid (fun W g hb => HL.out [5, 6, 7] hn3 (by simp) W g hb)
  have HL4 := Lib.hid (fun W g hb => HL.out [5, 256] hn4 (by simp) W g hb)
  clear hn2 hn3 hn4 HL
  have hka0 : ∀ o1 o2, Kp (fun _ => False) w ((w.alloc o1).alloc o2) := fun o1 o2 => ((Kp.refl _ _).alloc o1).alloc o2
  have HKA := Lib.hid hka0
  have h1 : FmR w (· < w.heap.size) (.agg #[.int .i64 0, .int .i64 1, .int .i64 0, .int .i64 0, .int .i64 0, .slice none 0 0]) (.mk ⟨0, 1, 0, 0, 0⟩ []) := FmW.flat w 0 1 0 0 0 (bb 0 (by omega) (by omega)) (bb 1 (by omega) (by omega)) (bb 0 (by omega) (by omega)) (bb 0 (by omega) (by omega)) (bb 0 (by omega) (by omega))
  have hform : ∀ o2, FmR ((w.alloc (.cells #[.int .i64 0, .int .i64 1, .int .i64 0, .int .i64 0, .int .i64 0, .slice none 0 0] 27)).alloc o2) (fun i => i < w.heap.size ∨ w.heap.size ≤ i) (.agg #[.int .i64 2, .int .i64 1, .int .i64 2, .int .i64 4, .int .i64 2, .slice (some ⟨w.heap.size, 0, none⟩) 1 1]) F5a := fun o2 =>
    ⟨_, rfl, ⟨bb 2 (by omega) (by omega), bb 1 (by omega) (by omega), bb 2 (by omega) (by omega), bb 4 (by omega) (by omega), bb 2 (by omega) (by omega)⟩, FsR.one_ (f := .mk ⟨0, 1, 0, 0, 0⟩ []) h1 (hka0 _ _) (fun _ _ h => h) (Nat.le_refl _) ((Blk.new w 27 _).alloc o2)⟩
  have HFM := Lib.hid hform
  have HBF := Lib.hid (Blk.new (w.alloc (.cells #[.int .i64 0, .int .i64 1, .int .i64 0, .int .i64 0, .int .i64 0, .slice none 0 0] 27)) 27 #[.int .i64 2, .int .i64 1, .int .i64 2, .int .i64 4, .int .i64 2, .slice (some ⟨w.heap.size, 0, none⟩) 1 1])
  clear hka0 hform u5 bb h1
  go_enter Try.func30, Try.ntmps30
  go_upto_region 2 with fail
  obtain ⟨W0, hW0⟩ : ∃ W0, (w.alloc (.cells #[.int .i64 0, .int .i64 1, .int .i64 0, .int .i64 0, .int .i64 0, .slice none 0 0] 27)).alloc (.cells #[.int .i64 2, .int .i64 1, .int .i64 2, .int .i64 4, .int .i64 2, .slice (some ⟨w.heap.size, 0, none⟩) 1 1] 27) = W0 := ⟨_, rfl⟩
  have hk0 := HKA.out (.cells #[.int .i64 0, .int .i64 1, .int .i64 0, .int .i64 0, .int .i64 0, .slice none 0 0] 27) (.cells #[.int .i64 2, .int .i64 1, .int .i64 2, .int .i64 4, .int .i64 2, .slice (some ⟨w.heap.size, 0, none⟩) 1 1] 27)
  have hf0 := HFM.out (.cells #[.int .i64 2, .int .i64 1, .int .i64 2, .int .i64 4, .int .i64 2, .slice (some ⟨w.heap.size, 0, none⟩) 1 1] 27)
  have hb0 := HBF.out
  rw [World.size_alloc] at hb0
  rw [hW0] at hk0 hf0 hb0 ⊢
  obtain ⟨gi, hgi⟩ : ∃ gi, w.heap.size = gi := ⟨_, rfl⟩
  obtain ⟨g1, hg1⟩ : ∃ g1, gi + 1 = g1 := ⟨_, rfl⟩
  rw [hgi] at hf0 hb0 ⊢
  rw [hg1] at hb0 ⊢
  have HK0 := Lib.hid hk0
  have HF0 := Lib.hid hf0
  have HB0 := Lib.hid hb0
  clear hW0 hk0 hf0 hb0 hgi hg1 HFM HBF HKA
  go_wp2_with fail
  refine (HN.out _ _).mono ?_
  rintro e w1 ⟨rfl, hk1⟩
  have HK1 := Lib.hid hk1
  clear hk1
  go_wp2_with fail
  refine (HN.out _ _).mono ?_
  rintro e w2 ⟨rfl, hk2⟩
  have HK2 := Lib.hid (HK1.out.then_ hk2 (fun _ h => h.elim))
  clear hk2
  have HB2 := Lib.hid (Blk.new w2 46 #[.int .u64 5, .slice none 0 0, .slice none 0 0, .int .u64 6, .slice none 0 0, .slice none 0 0])
  have HK2a := Lib.hid (HK2.out.alloc (.cells #[.int .u64 5, .slice none 0 0, .slice none 0 0, .int .u64 6, .slice none 0 0, .slice none 0 0] 46))
  go_wp2_with fail
  refine (HL2.out _ _ HB2.out).mono ?_
  rintro e w3 ⟨A, c, rfl, hv3, hk3⟩
  simp only [show (numsV [5, 6]).length = 2 from rfl] at hv3 ⊢
  have hk30 := HK2a.out.then_ hk3 (fun _ h => h.elim)
  have hka := hk30.alloc (.cells #[.int .u64 0, .slice none 0 0, .slice A 2 c] 46)
  have HB3 := Lib.hid (Blk.new w3 46 #[.int .u64 0, .slice none 0 0, .slice A 2 c])
  have HK3 := Lib.hid hka
  have HV3 := Lib.hid (hv3.kp ((Kp.refl (fun _ => False) w3).alloc (.cells #[.int .u64 0, .slice none 0 0, .slice A 2 c] 46)) (fun _ _ h => h))
  clear hv3 hk3 hk30 hka
  go_upto_region 3 with fail
  obtain ⟨W1, hW1⟩ : ∃ W1, w3.alloc (.cells #[.int .u64 0, .slice none 0 0, .slice A 2 c] 46) = W1 := ⟨_, rfl⟩
  have hk3 := HK3.out
  have hv3 := HV3.out
  have hb3 := HB3.out
  rw [hW1] at hk3 hv3 hb3 ⊢
  obtain ⟨g2, hg2⟩ : ∃ g2, w3.heap.size = g2 := ⟨_, rfl⟩
  rw [hg2] at hb3 ⊢
  have HCE := Lib.hid (show ∀ w', Kp (fun _ => False) W1 w' → ((w').cell? ⟨g1, 0, none⟩ = some (.int .i64 2) ∧ (w').cell? ⟨g1, 1, none⟩ = some (.int .i64 1) ∧ (w').cell? ⟨g1, 2, none⟩ = some (.int .i64 2) ∧ (w').cell? ⟨g1, 3, none⟩ = some (.int .i64 4) ∧ (w').cell? ⟨g1, 4, none⟩ = some (.int .i64 2) ∧ (w').cell? ⟨g1, 5, none⟩ = some (.slice (some ⟨gi, 0, none⟩) 1 1) ∧ (w').cell? ⟨g2, 0, none⟩ = some (.int .u64 0) ∧ (w').cell? ⟨g2, 1, none⟩ = some (.slice none 0 0) ∧ (w').cell? ⟨g2, 2, none⟩ = some (.slice A 2 c)) from fun w' hk => by
    have hb := (HB0.out.kp hk3 (fun h => h)).kp hk (fun h => h)
    have hc := hb3.kp hk (fun h => h)
    exact ⟨hb.cell 0, hb.cell 1, hb.cell 2, hb.cell 3, hb.cell 4, hb.cell 5, hc.cell 0, hc.cell 1, hc.cell 2⟩)
  have HFC := Lib.hid (show ∀ (x : Vt) (r : Int × Int), sizeR F5a x = r → ∀ u W, Kp (fun _ => False) W1 W → (∃ ok, VtR W ok u x) → Calls Try.prog 33 #[.agg #[.int .i64 2, .int .i64 1, .int .i64 2, .int .i64 4, .int .i64 2, .slice (some ⟨gi, 0, none⟩) 1 1], u] W fun e w' => e = .returned (.int .i64 r.2) ∧ Kp (fun _ => False) W w' from fun x r hr u W hk ⟨ok, hu⟩ => hr ▸ vfits_any _ ok F5a x _ u W ((HF0.out.kp hk3 (fun _ _ h => h)).kp hk (fun _ _ h => h)) hu)
  have HSC := Lib.hid (show ∀ u W, Kp (fun _ => False) W1 W → (∃ ok, VtR W ok u (.mk ⟨0, []⟩ (numsV [5, 6]))) → Calls Try.prog 32 #[.agg #[.int .i64 2, .int .i64 1, .int .i64 2, .int .i64 4, .int .i64 2, .slice (some ⟨gi, 0, none⟩) 1 1], u] W fun e w' => e = .returned (.int .i64 3) ∧ Kp (fun _ => False) W w' from fun u W hk ⟨ok, hu⟩ => by
    have := vsize_any _ ok F5a _ _ u W ((HF0.out.kp hk3 (fun _ _ h => h)).kp hk (fun _ _ h => h)) hu
    rw [fits5a] at this
    exact this)
  have HVA := Lib.hid (show ∀ W, Kp (fun _ => False) W1 W → VtR W (fun i => i = w2.heap.size ∨ (w2.alloc (.cells #[.int .u64 5, .slice none 0 0, .slice none 0 0, .int .u64 6, .slice none 0 0, .slice none 0 0] 46)).heap.size ≤ i) (.agg #[.int .u64 0, .slice none 0 0, .slice A 2 c]) (.mk ⟨0, []⟩ (numsV [5, 6])) from fun W hk => hv3.kp hk (fun _ _ h => h))
  have HKW := Lib.hid hk3
  have HKR := Lib.hid (Kp.refl (fun _ => False) W1)
  have HFA := Lib.hid (HFC.out _ _ fits5a)
  have HFB := Lib.hid (HFC.out _ _ fits5b)
  have HFD := Lib.hid (HFC.out _ _ fits5c)
  clear hW1 hk3 hv3 hb3 hg2 HFC HK1 HK2 HK2a HK3 HV3 HB3 HB2 HF0 HB0 HL2
  go_region_held3 (fun w' => ((w').cell? ⟨g1, 0, none⟩ = some (.int .i64 2) ∧ (w').cell? ⟨g1, 1, none⟩ = some (.int .i64 1) ∧ (w').cell? ⟨g1, 2, none⟩ = some (.int .i64 2) ∧ (w').cell? ⟨g1, 3, none⟩ = some (.int .i64 4) ∧ (w').cell? ⟨g1, 4, none⟩ = some (.int .i64 2) ∧ (w').cell? ⟨g1, 5, none⟩ = some (.slice (some ⟨gi, 0, none⟩) 1 1) ∧ (w').cell? ⟨g2, 0, none⟩ = some (.int .u64 0) ∧ (w').cell? ⟨g2, 1, none⟩ = some (.slice none 0 0) ∧ (w').cell? ⟨g2, 2, none⟩ = some (.slice A 2 c))) (first | exact HCE.out _ HKR.out | exact HCE.out _ HKR.out.drew | exact HCE.out _ (HKR.out.alloc _) | exact HCE.out _ (HKR.out.drew.alloc _)) (first
    | (go_at_call_of 33 (Value.slice A 2 c); refine (HFA.out _ _ ?_ ?_).mono ?_; exact (by first | exact HKR.out | exact HKR.out.drew | exact HKR.out.alloc _ | exact (HKR.out.drew).alloc _ | exact (HKR.out.alloc _).drew); exact ⟨_, HVA.out _ (by first | exact HKR.out | exact HKR.out.drew | exact HKR.out.alloc _ | exact (HKR.out.drew).alloc _ | exact (HKR.out.alloc _).drew)⟩; rintro e w5 ⟨rfl, hk5⟩; have hq := Kp.then_ (a := W1) (S := fun _ => False) (by first | exact HKR.out | exact HKR.out.drew | exact HKR.out.alloc _ | exact (HKR.out.drew).alloc _ | exact (HKR.out.alloc _).drew) hk5 (fun _ h => h.elim); clear HKR; have HKR := Lib.hid hq; clear hq; clear hk5)
    | (go_at_call 32; refine (HSC.out _ _ ?_ ?_).mono ?_; exact (by first | exact HKR.out | exact HKR.out.drew | exact HKR.out.alloc _ | exact (HKR.out.drew).alloc _ | exact (HKR.out.alloc _).drew); exact ⟨_, HVA.out _ (by first | exact HKR.out | exact HKR.out.drew | exact HKR.out.alloc _ | exact (HKR.out.drew).alloc _ | exact (HKR.out.alloc _).drew)⟩; rintro e w5 ⟨rfl, hk5⟩; have hq := Kp.then_ (a := W1) (S := fun _ => False) (by first | exact HKR.out | exact HKR.out.drew | exact HKR.out.alloc _ | exact (HKR.out.drew).alloc _ | exact (HKR.out.alloc _).drew) hk5 (fun _ h => h.elim); clear HKR; have HKR := Lib.hid hq; clear hq; clear hk5)
    | (go_at_call 38; refine (HN.out _ _).mono ?_; rintro e w5 ⟨rfl, hk5⟩; have hq := Kp.then_ (a := W1) (S := fun _ => False) (by first | exact HKR.out | exact HKR.out.drew | exact HKR.out.alloc _ | exact (HKR.out.drew).alloc _ | exact (HKR.out.alloc _).drew) hk5 (fun _ h => h.elim); clear HKR; have HKR := Lib.hid hq; clear hq; clear hk5)
    | (go_at_call_of 36 (3 : Nat); refine (HL3.out _ _ ?_).mono ?_; (first | exact Blk.new _ _ _ | exact (Blk.new _ _ _).drew); rintro e w5 ⟨A5, c5, rfl, hv5, hk5⟩; have HV5 := Lib.hid hv5; clear hv5; have hq := Kp.then_ (a := W1) (S := fun _ => False) (by first | exact HKR.out | exact HKR.out.drew | exact HKR.out.alloc _ | exact (HKR.out.drew).alloc _ | exact (HKR.out.alloc _).drew) hk5 (fun _ h => h.elim); clear HKR; have HKR := Lib.hid hq; clear hq; clear hk5)
    | (go_at_call_of 36 (2 : Nat); refine (HL4.out _ _ ?_).mono ?_; (first | exact Blk.new _ _ _ | exact (Blk.new _ _ _).drew); rintro e w5 ⟨A6, c6, rfl, hv5, hk5⟩; have HV6 := Lib.hid hv5; clear hv5; have hq := Kp.then_ (a := W1) (S := fun _ => False) (by first | exact HKR.out | exact HKR.out.drew | exact HKR.out.alloc _ | exact (HKR.out.drew).alloc _ | exact (HKR.out.alloc _).drew) hk5 (fun _ h => h.elim); clear HKR; have HKR := Lib.hid hq; clear hq; clear hk5)
    | (go_at_call_of 33 A5; refine (HFB.out _ _ ?_ ?_).mono ?_; exact (by first | exact HKR.out | exact HKR.out.drew | exact HKR.out.alloc _ | exact (HKR.out.drew).alloc _ | exact (HKR.out.alloc _).drew); (first | exact ⟨_, HV5.out⟩ | exact ⟨_, HV5.out.kp (Kp.refl (fun _ => False) _).drew (fun _ _ h => h)⟩); rintro e w5 ⟨rfl, hk5⟩; have hq := Kp.then_ (a := W1) (S := fun _ => False) (by first | exact HKR.out | exact HKR.out.drew | exact HKR.out.alloc _ | exact (HKR.out.drew).alloc _ | exact (HKR.out.alloc _).drew) hk5 (fun _ h => h.elim); clear HKR; have HKR := Lib.hid hq; clear hq; clear hk5)
    | (go_at_call_of 33 A6; refine (HFD.out _ _ ?_ ?_).mono ?_; exact (by first | exact HKR.out | exact HKR.out.drew | exact HKR.out.alloc _ | exact (HKR.out.drew).alloc _ | exact (HKR.out.alloc _).drew); (first | exact ⟨_, HV6.out⟩ | exact ⟨_, HV6.out.kp (Kp.refl (fun _ => False) _).drew (fun _ _ h => h)⟩); rintro e w5 ⟨rfl, hk5⟩; have hq := Kp.then_ (a := W1) (S := fun _ => False) (by first | exact HKR.out | exact HKR.out.drew | exact HKR.out.alloc _ | exact (HKR.out.drew).alloc _ | exact (HKR.out.alloc _).drew) hk5 (fun _ h => h.elim); clear HKR; have HKR := Lib.hid hq; clear hq; clear hk5))
  go_wp2_with fail
  go_ret
  exact ⟨rfl, HK0.out.then_ (HKW.out.then_ HKR.out (fun _ h => h.elim)) (fun _ h => h.elim)⟩
end Go.Proofs.Ytfcghajnnllmhaa

namespace Go.Proofs.Ytfcghajnnllmhaa.QP
open Go.RowKit Go.Proofs.YtfcghajnnllmhaaW.PrintWords Go.Proofs.YtfcghajnnllmhaaW.PrintLast Go.Proofs.YtfcghajnnllmhaaW.PrintMore
attribute [local go_sem] max2_int min2_int max_two min_two max_three min_three max_four min_four   -- for this text's walks alone
set_option linter.unusedVariables false
set_option linter.unusedSimpArgs false

/-! ### passepartoutlaw05_alive: function 30 -/
def passepartoutlaw05_alive.f  : Option (Bool) := some true
set_option maxHeartbeats 8000000 in
set_option maxRecDepth 100000 in
theorem passepartoutlaw05_alive.calls  (r : Bool) (w : World)  (h : passepartoutlaw05_alive.f  = some r) :
    Calls Try.prog 30 #[] w fun e w' => e = .returned (.bool r) ∧ Below w.heap.size w w' := by
  unfold passepartoutlaw05_alive.f at h
  injection h with h
  subst h
  exact (alive05 w).mono fun e w' h => ⟨h.1, h.2.below⟩

end Go.Proofs.Ytfcghajnnllmhaa.QP

namespace Go.Proofs.Ytfcghajnnllmhaa.QP
open Go.RowKit Go.Proofs.YtfcghajnnllmhaaW.PrintWords Go.Proofs.YtfcghajnnllmhaaW.PrintLast Go.Proofs.YtfcghajnnllmhaaW.PrintMore
attribute [local go_sem] max2_int min2_int max_two min_two max_three min_three max_four min_four   -- for this text's walks alone
set_option linter.unusedVariables false
set_option linter.unusedSimpArgs false

/-! ### passepartoutlaw05_ValueSames: function 13 -/
def passepartoutlaw05_ValueSames.j0 : Nat → Bool → Int → List Int → List (S46) → Int → List Int → List (S46) → Option (Bool)
  | 0, _, _, _, _, _, _, _ => none
  | k + 1, x14, x308000, x308001, x308002, x309000, x309001, x309002 => if x14 = true then ((passepartoutlaw05_alive.f).bind fun t314 => (some t314)) else ((value_Same.f x308000 x308001 x308002 x309000 x309001 x309002).bind fun t315 => ((passepartoutref05_Same.f k x308000 x308001 x308002 x309000 x309001 x309002).bind fun t316 => (if (t315 == t316) = true then ((value_Same.f x309000 x309001 x309002 x308000 x308001 x308002).bind fun t317 => ((value_Same.f x308000 x308001 x308002 x309000 x309001 x309002).bind fun t318 => (if (t317 == t318) = true then ((value_Same.f x308000 x308001 x308002 x308000 x308001 x308002).bind fun t319 => (if t319 = true then ((value_Count.f k x308000 x308001 x308002).bind fun t320 => ((passepartoutref05_Count.f k x308000 x308001 x308002 1099511627776).bind fun t321 => (some (t320 == t321)))) else (some false))) else (some false)))) else (some false))))
def passepartoutlaw05_ValueSames.f (k : Nat) (a0_0 : Int) (l0_1 : List Int) (l0_2 : List (S46)) (a1_0 : Int) (l1_1 : List Int) (l1_2 : List (S46)) : Option (Bool) := (passepartoutlaw05_alive.f).bind fun t309 => (if t309 = true then ((passepartoutlaw05_Great.f k 0 0 0 0 0 ([] : List (S27)) (([(⟨a0_0, l0_1, l0_2⟩ : S46), (⟨a1_0, l1_1, l1_2⟩ : S46)] : List (S46)))).bind fun t313 => (passepartoutlaw05_ValueSames.j0 k (decide (t313 > 0)) a0_0 l0_1 l0_2 a1_0 l1_1 l1_2)) else (passepartoutlaw05_ValueSames.j0 k true a0_0 l0_1 l0_2 a1_0 l1_1 l1_2))
theorem passepartoutlaw05_ValueSames.mono_l : ∀ k, (∀ y0 y1 y2 y3 y4 y5 y6, LeO (passepartoutlaw05_ValueSames.j0 k y0 y1 y2 y3 y4 y5 y6) (passepartoutlaw05_ValueSames.j0 (k + 1) y0 y1 y2 y3 y4 y5 y6))
  | 0 => fun _ _ _ _ _ _ _ r h => by simp [passepartoutlaw05_ValueSames.j0] at h
  | k + 1 => by
    have ih0 := passepartoutlaw05_ValueSames.mono_l k
    · intro y0 y1 y2 y3 y4 y5 y6
      unfold passepartoutlaw05_ValueSames.j0
      repeat' first
      | (with_reducible exact ih0 _ _ _ _ _ _ _)
      | (with_reducible exact passepartoutlaw05_Great.mono _ _ _ _ _ _ _ _)
      | (with_reducible exact passepartoutref05_Count.mono _ _ _ _ _)
      | (with_reducible exact passepartoutref05_Same.mono _ _ _ _ _ _ _)
      | (with_reducible exact value_Count.mono _ _ _ _)
      | (with_reducible exact LeO.refl _)
      | (with_reducible exact LeO.none _)
      | (with_reducible refine LeO.ite ?_ ?_)
      | (with_reducible refine LeO.bind ?_ (fun _ => ?_))
      | exact ih0 _ _ _ _ _ _ _
      | exact passepartoutlaw05_Great.mono _ _ _ _ _ _ _ _
      | exact passepartoutref05_Count.mono _ _ _ _ _
      | exact passepartoutref05_Same.mono _ _ _ _ _ _ _
      | exact value_Count.mono _ _ _ _
      | exact LeO.none _
      | refine LeO.ite ?_ ?_
      | refine LeO.bind ?_ (fun _ => ?_)
theorem passepartoutlaw05_ValueSames.mono : ∀ a0 a1 a2 a3 a4 a5 k, LeO (passepartoutlaw05_ValueSames.f k a0 a1 a2 a3 a4 a5) (passepartoutlaw05_ValueSames.f (k + 1) a0 a1 a2 a3 a4 a5) := by
  intro a0 a1 a2 a3 a4 a5 k
  have ih0 := passepartoutlaw05_ValueSames.mono_l k
  unfold passepartoutlaw05_ValueSames.f
  repeat' first
      | (with_reducible exact ih0 _ _ _ _ _ _ _)
      | (with_reducible exact passepartoutlaw05_Great.mono _ _ _ _ _ _ _ _)
      | (with_reducible exact passepartoutref05_Count.mono _ _ _ _ _)
      | (with_reducible exact passepartoutref05_Same.mono _ _ _ _ _ _ _)
      | (with_reducible exact value_Count.mono _ _ _ _)
      | (with_reducible exact LeO.refl _)
      | (with_reducible exact LeO.none _)
      | (with_reducible refine LeO.ite ?_ ?_)
      | (with_reducible refine LeO.bind ?_ (fun _ => ?_))
      | exact ih0 _ _ _ _ _ _ _
      | exact passepartoutlaw05_Great.mono _ _ _ _ _ _ _ _
      | exact passepartoutref05_Count.mono _ _ _ _ _
      | exact passepartoutref05_Same.mono _ _ _ _ _ _ _
      | exact value_Count.mono _ _ _ _
      | exact LeO.none _
      | refine LeO.ite ?_ ?_
      | refine LeO.bind ?_ (fun _ => ?_)
def passepartoutlaw05_ValueSames.T3 : Bool × List (List Nat × List Nat) := (true, [([], []), ([], []), ([0, 1], [0, 1]), ([], []), ([], []), ([3, 4, 2], [3, 4]), ([2, 5], [2, 5]), ([6, 5], [6]), ([7], [7]), ([7], [7]), ([8, 9, 7, 7], [7, 8, 9]), ([7], [7]), ([7], [7]), ([11, 12, 10, 7], [7, 11, 12]), ([10, 13, 7], [7, 10, 13]), ([7, 14], [7, 14]), ([15, 13], [15]), ([16], [16]), ([16], [16]), ([17, 18, 16, 16], [16, 17, 18]), ([16, 19], [16, 19]), ([20, 19], [20]), ([21], [21]), ([22, 21, 21], [21, 22]), ([21], [21]), ([24, 23, 21], [21, 24]), ([23, 25, 21], [21, 23, 25]), ([21, 26], [21, 26]), ([27, 25, 0, 1, 2, 3, 4, 5, 6, 7, 8, 9, 10, 11, 12, 13, 14, 15, 16, 17, 18, 19, 20, 21, 22, 23, 24, 25, 26, 27], [27])])
def passepartoutlaw05_ValueSames.B3 : List Nat := [0, 0, 3, 0, 0, 31, 63, 127, 255, 255, 1023, 255, 255, 8191, 16383, 32767, 65535, 131071, 131071, 524287, 1048575, 2097151, 4194303, 8388607, 4194303, 33554431, 67108863, 134217727, 268435455]
theorem passepartoutlaw05_ValueSames.tab3 : rtab .any (opsOf Try.f13 3) = passepartoutlaw05_ValueSames.T3 := by kernel_rfl
theorem passepartoutlaw05_ValueSames.bits3 : waitsOk passepartoutlaw05_ValueSames.T3.2 passepartoutlaw05_ValueSames.B3 = true := by kernel_rfl
set_option maxHeartbeats 8000000 in
set_option maxRecDepth 100000 in
theorem passepartoutlaw05_ValueSames.calls (k : Nat) (a0_0 : Int) (P0_1_ : Nat → Prop) (A0_1 : Option Addr) (c0_1 : Nat) (l0_1 : List Int) (P0_2_ : Nat → Prop) (A0_2 : Option Addr) (c0_2 : Nat) (l0_2 : List (S46)) (a1_0 : Int) (P1_1_ : Nat → Prop) (A1_1 : Option Addr) (c1_1 : Nat) (l1_1 : List Int) (P1_2_ : Nat → Prop) (A1_2 : Option Addr) (c1_2 : Nat) (l1_2 : List (S46)) (r : Bool) (w : World) (hs0_1 : Kd.V (Kd.int .u8) 5 w w.heap.size (fun k_ => P0_1_ k_) (.slice A0_1 l0_1.length c0_1) l0_1) (hs0_2 : Kd.V k46 46 w w.heap.size (fun k_ => P0_2_ k_) (.slice A0_2 l0_2.length c0_2) l0_2) (hs1_1 : Kd.V (Kd.int .u8) 5 w w.heap.size (fun k_ => P1_1_ k_) (.slice A1_1 l1_1.length c1_1) l1_1) (hs1_2 : Kd.V k46 46 w w.heap.size (fun k_ => P1_2_ k_) (.slice A1_2 l1_2.length c1_2) l1_2) (h : passepartoutlaw05_ValueSames.f k a0_0 l0_1 l0_2 a1_0 l1_1 l1_2 = some r) :
    Calls Try.prog 13 #[.agg #[.int .u64 a0_0, .slice A0_1 l0_1.length c0_1, .slice A0_2 l0_2.length c0_2], .agg #[.int .u64 a1_0, .slice A1_1 l1_1.length c1_1, .slice A1_2 l1_2.length c1_2]] w fun e w' => e = .returned (.bool r) ∧ Below w.heap.size w w' := by
  have hu46 := Try.underlying46
  have hu27 := Try.underlying27
  have HO0_1 := Aside0.mk (show Kd.V (Kd.int .u8) 5 w w.heap.size (fun k_ => ((P0_1_ k_ ∨ P0_2_ k_ ∨ P1_1_ k_ ∨ P1_2_ k_) ∨ w.heap.size ≤ k_)) (.slice A0_1 l0_1.length c0_1) l0_1 from Kd.V_mono hs0_1 (fun k_ hk => .inl (.inl hk)))
  have HO0_2 := Aside0.mk (show Kd.V k46 46 w w.heap.size (fun k_ => ((P0_1_ k_ ∨ P0_2_ k_ ∨ P1_1_ k_ ∨ P1_2_ k_) ∨ w.heap.size ≤ k_)) (.slice A0_2 l0_2.length c0_2) l0_2 from Kd.V_mono hs0_2 (fun k_ hk => .inl (.inr (.inl hk))))
  have HO1_1 := Aside0.mk (show Kd.V (Kd.int .u8) 5 w w.heap.size (fun k_ => ((P0_1_ k_ ∨ P0_2_ k_ ∨ P1_1_ k_ ∨ P1_2_ k_) ∨ w.heap.size ≤ k_)) (.slice A1_1 l1_1.length c1_1) l1_1 from Kd.V_mono hs1_1 (fun k_ hk => .inl (.inr (.inr (.inl hk)))))
  have HO1_2 := Aside0.mk (show Kd.V k46 46 w w.heap.size (fun k_ => ((P0_1_ k_ ∨ P0_2_ k_ ∨ P1_1_ k_ ∨ P1_2_ k_) ∨ w.heap.size ≤ k_)) (.slice A1_2 l1_2.length c1_2) l1_2 from Kd.V_mono hs1_2 (fun k_ hk => .inl (.inr (.inr (.inr hk)))))
  have HB := Aside0.mk (Below.refl w.heap.size w)
  have H : ((passepartoutlaw05_alive.f).bind fun t309 => (if t309 = true then ((passepartoutlaw05_Great.f k 0 0 0 0 0 ([] : List (S27)) (([(⟨a0_0, l0_1, l0_2⟩ : S46), (⟨a1_0, l1_1, l1_2⟩ : S46)] : List (S46)))).bind fun t313 => (passepartoutlaw05_ValueSames.j0 k (decide (t313 > 0)) a0_0 l0_1 l0_2 a1_0 l1_1 l1_2)) else (passepartoutlaw05_ValueSames.j0 k true a0_0 l0_1 l0_2 a1_0 l1_1 l1_2))) = some r := h
  clear h
  have HC3 := Aside0.mk H
  clear H
  go_enter Try.func13, Try.ntmps13
  go_upto_region 1 with (first | ((with_reducible refine gate_dst (N := 2) rfl ?_); (try (refine gate_guard (by rfl) ?_; dsimp only)); refine box_event ?hg (N := 2) ?hd (cs := #[.int .u64 a0_0, .slice A0_1 l0_1.length c0_1, .slice A0_2 l0_2.length c0_2]) (t := 46) ?hr ?_; (case hd => rfl); (case hg => rfl); (case hr => first | (go_simp; done) | (go_simp; rfl)); intro gb307 hg w4 hbox hb; have n0_ := Aside0.mk (Kd.V_below (Kd.V_elderB (by (with_reducible repeat (first | apply Kd.V_alloc | apply Kd.V_drewN | apply Kd.V_drew)); exact HO0_1.out) gb307 (Nat.le_of_eq hg.symm)) hb); have n1_ := Aside0.mk (Kd.V_below (Kd.V_elderB (by (with_reducible repeat (first | apply Kd.V_alloc | apply Kd.V_drewN | apply Kd.V_drew)); exact HO0_2.out) gb307 (Nat.le_of_eq hg.symm)) hb); have n2_ := Aside0.mk (Kd.V_below (Kd.V_elderB (by (with_reducible repeat (first | apply Kd.V_alloc | apply Kd.V_drewN | apply Kd.V_drew)); exact HO1_1.out) gb307 (Nat.le_of_eq hg.symm)) hb); have n3_ := Aside0.mk (Kd.V_below (Kd.V_elderB (by (with_reducible repeat (first | apply Kd.V_alloc | apply Kd.V_drewN | apply Kd.V_drew)); exact HO1_2.out) gb307 (Nat.le_of_eq hg.symm)) hb); have n4_ := Aside0.mk (below_step (by repeat (first | (with_reducible first | exact HB.out | apply below_alloc | apply pw_below_drewN | apply below_drew1) | exact HB.out)) hb); have n5_ := Aside0.mk (hbox); have n6_ := Aside0.mk ((by rw [hg]; exact (below_size (by repeat (first | (with_reducible first | exact HB.out | apply below_alloc | apply pw_below_drewN | apply below_drew1) | exact HB.out))) : w.heap.size ≤ gb307)); have n7_ := Aside0.mk ((by rw [hg]; exact (below_size (by repeat (first | (with_reducible first | exact HB.out | apply below_alloc | apply pw_below_drewN | apply below_drew1) | exact HB.out))) : w.heap.size ≤ gb307)); clear HO0_1; clear HO0_2; clear HO1_1; clear HO1_2; clear HB; have HO0_1 := n0_; have HO0_2 := n1_; have HO1_1 := n2_; have HO1_2 := n3_; have HB := n4_; have BK307 := n5_; have GW307 := n6_; have GE307 := n7_; clear n0_ n1_ n2_ n3_ n4_ n5_ n6_ n7_; clear hb hbox hg) | ((with_reducible refine gate_dst (N := 3) rfl ?_); (try (refine gate_guard (by rfl) ?_; dsimp only)); refine box_event ?hg (N := 3) ?hd (cs := #[.int .u64 a1_0, .slice A1_1 l1_1.length c1_1, .slice A1_2 l1_2.length c1_2]) (t := 46) ?hr ?_; (case hd => rfl); (case hg => rfl); (case hr => first | (go_simp; done) | (go_simp; rfl)); intro gb308 hg w5 hbox hb; have n0_ := Aside0.mk (Kd.V_below (Kd.V_elderB (by (with_reducible repeat (first | apply Kd.V_alloc | apply Kd.V_drewN | apply Kd.V_drew)); exact HO0_1.out) gb308 (Nat.le_of_eq hg.symm)) hb); have n1_ := Aside0.mk (Kd.V_below (Kd.V_elderB (by (with_reducible repeat (first | apply Kd.V_alloc | apply Kd.V_drewN | apply Kd.V_drew)); exact HO0_2.out) gb308 (Nat.le_of_eq hg.symm)) hb); have n2_ := Aside0.mk (Kd.V_below (Kd.V_elderB (by (with_reducible repeat (first | apply Kd.V_alloc | apply Kd.V_drewN | apply Kd.V_drew)); exact HO1_1.out) gb308 (Nat.le_of_eq hg.symm)) hb); have n3_ := Aside0.mk (Kd.V_below (Kd.V_elderB (by (with_reducible repeat (first | apply Kd.V_alloc | apply Kd.V_drewN | apply Kd.V_drew)); exact HO1_2.out) gb308 (Nat.le_of_eq hg.symm)) hb); have n4_ := Aside0.mk (blk_below (g := gb307) (o := .cells #[.int .u64 a0_0, .slice A0_1 l0_1.length c0_1, .slice A0_2 l0_2.length c0_2] 46 (0, 0)) (by (with_reducible repeat (first | refine blk_drewN ?_ _ | refine blk_drew ?_ | refine blk_alloc ?_ _)); exact BK307.out) hb); have n5_ := Aside0.mk (below_step (by repeat (first | (with_reducible first | exact HB.out | apply below_alloc | apply pw_below_drewN | apply below_drew1 | refine below_set ?_ GE307.out) | exact HB.out)) hb); have n6_ := Aside0.mk (hbox); have n7_ := Aside0.mk ((by rw [hg]; exact (below_size (by repeat (first | (with_reducible first | exact HB.out | apply below_alloc | apply pw_below_drewN | apply below_drew1 | refine below_set ?_ GE307.out) | exact HB.out))) : w.heap.size ≤ gb308)); have n8_ := Aside0.mk ((by rw [hg]; exact (below_size (by repeat (first | (with_reducible first | exact HB.out | apply below_alloc | apply pw_below_drewN | apply below_drew1 | refine below_set ?_ GE307.out) | exact HB.out))) : w.heap.size ≤ gb308)); have n9_ := Aside0.mk ((by rw [hg]; exact Nat.ne_of_lt (blk_lt (g := gb307) (o := .cells #[.int .u64 a0_0, .slice A0_1 l0_1.length c0_1, .slice A0_2 l0_2.length c0_2] 46 (0, 0)) (by (with_reducible repeat (first | refine blk_drewN ?_ _ | refine blk_drew ?_ | refine blk_alloc ?_ _)); exact BK307.out)) : gb307 ≠ gb308)); have n10_ := Aside0.mk ((by rw [hg]; exact Nat.ne_of_gt (blk_lt (g := gb307) (o := .cells #[.int .u64 a0_0, .slice A0_1 l0_1.length c0_1, .slice A0_2 l0_2.length c0_2] 46 (0, 0)) (by (with_reducible repeat (first | refine blk_drewN ?_ _ | refine blk_drew ?_ | refine blk_alloc ?_ _)); exact BK307.out)) : gb308 ≠ gb307)); clear HO0_1; clear HO0_2; clear HO1_1; clear HO1_2; clear BK307; clear HB; have HO0_1 := n0_; have HO0_2 := n1_; have HO1_1 := n2_; have HO1_2 := n3_; have BK307 := n4_; have HB := n5_; have BK308 := n6_; have GW308 := n7_; have GE308 := n8_; have NB307_308 := n9_; have NB308_307 := n10_; clear n0_ n1_ n2_ n3_ n4_ n5_ n6_ n7_ n8_ n9_ n10_; clear hb hbox hg))
  (try simp only [Act.put, List.setIfInBounds_toArray, List.set_cons_zero, List.set_cons_succ])
  go_cut [14] (fun v14 wc => ∃ (kq : Nat) (x14_2 : Bool), v14 = .bool x14_2 ∧ Aside0 (passepartoutlaw05_ValueSames.j0 kq x14_2 a0_0 l0_1 l0_2 a1_0 l1_1 l1_2 = some r) ∧ Aside0 (kq ≤ k) ∧ Aside0 (Kd.V (Kd.int .u8) 5 wc w.heap.size (fun k_ => ((P0_1_ k_ ∨ P0_2_ k_ ∨ P1_1_ k_ ∨ P1_2_ k_) ∨ w.heap.size ≤ k_) ∧ k_ ≠ gb307 ∧ k_ ≠ gb308) (.slice A0_1 l0_1.length c0_1) l0_1) ∧ Aside0 (Kd.V k46 46 wc w.heap.size (fun k_ => ((P0_1_ k_ ∨ P0_2_ k_ ∨ P1_1_ k_ ∨ P1_2_ k_) ∨ w.heap.size ≤ k_) ∧ k_ ≠ gb307 ∧ k_ ≠ gb308) (.slice A0_2 l0_2.length c0_2) l0_2) ∧ Aside0 (Kd.V (Kd.int .u8) 5 wc w.heap.size (fun k_ => ((P0_1_ k_ ∨ P0_2_ k_ ∨ P1_1_ k_ ∨ P1_2_ k_) ∨ w.heap.size ≤ k_) ∧ k_ ≠ gb307 ∧ k_ ≠ gb308) (.slice A1_1 l1_1.length c1_1) l1_1) ∧ Aside0 (Kd.V k46 46 wc w.heap.size (fun k_ => ((P0_1_ k_ ∨ P0_2_ k_ ∨ P1_1_ k_ ∨ P1_2_ k_) ∨ w.heap.size ≤ k_) ∧ k_ ≠ gb307 ∧ k_ ≠ gb308) (.slice A1_2 l1_2.length c1_2) l1_2) ∧ Aside0 (wc.heap[gb307]? = some (.cells #[.int .u64 a0_0, (.slice A0_1 l0_1.length c0_1), (.slice A0_2 l0_2.length c0_2)] 46 (0, 0))) ∧ Aside0 (wc.heap[gb308]? = some (.cells #[.int .u64 a1_0, (.slice A1_1 l1_1.length c1_1), (.slice A1_2 l1_2.length c1_2)] 46 (0, 0))) ∧ Aside0 (Below w.heap.size w wc))
  case first =>
    have H := HC3.out
    clear HC3
    replace H := Option.bind_eq_some_iff.mp H
    obtain ⟨t309, A60, H⟩ := H
    replace H : (if t309 = true then ((passepartoutlaw05_Great.f k 0 0 0 0 0 ([] : List (S27)) (([(⟨a0_0, l0_1, l0_2⟩ : S46), (⟨a1_0, l1_1, l1_2⟩ : S46)] : List (S46)))).bind fun t313 => (passepartoutlaw05_ValueSames.j0 k (decide (t313 > 0)) a0_0 l0_1 l0_2 a1_0 l1_1 l1_2)) else (passepartoutlaw05_ValueSames.j0 k true a0_0 l0_1 l0_2 a1_0 l1_1 l1_2)) = some r := H
    have A6 := Aside0.mk A60
    clear A60
    by_cases c7 : t309 = true
    · subst c7
      have H1 : ((passepartoutlaw05_Great.f k 0 0 0 0 0 ([] : List (S27)) (([(⟨a0_0, l0_1, l0_2⟩ : S46), (⟨a1_0, l1_1, l1_2⟩ : S46)] : List (S46)))).bind fun t313 => (passepartoutlaw05_ValueSames.j0 k (decide (t313 > 0)) a0_0 l0_1 l0_2 a1_0 l1_1 l1_2)) = some r := by rw [if_pos rfl] at H; exact H
      clear H
      have H := H1
      clear H1
      obtain ⟨y310, hy310⟩ : ∃ y_ : List (S46), y_ = (([(⟨a0_0, l0_1, l0_2⟩ : S46), (⟨a1_0, l1_1, l1_2⟩ : S46)] : List (S46))) := ⟨_, rfl⟩
      replace H : ((passepartoutlaw05_Great.f k 0 0 0 0 0 ([] : List (S27)) y310).bind fun t313 => (passepartoutlaw05_ValueSames.j0 k (decide (t313 > 0)) a0_0 l0_1 l0_2 a1_0 l1_1 l1_2)) = some r := by first | (rw [hy310]; with_reducible exact H) | (have H2_ := (Option.bind_some _ _).symm.trans H; rw [hy310]; with_reducible exact H2_) | (have H2_ := (Option.bind_some _ _).symm.trans H; with_reducible exact H2_) | with_reducible exact H | (rw [hy310]; exact H) | exact H
      have Ny310 := Aside0.mk hy310
      clear hy310
      replace H := Option.bind_eq_some_iff.mp H
      obtain ⟨t313, A80, H⟩ := H
      replace H : (passepartoutlaw05_ValueSames.j0 k (decide (t313 > 0)) a0_0 l0_1 l0_2 a1_0 l1_1 l1_2) = some r := H
      have A8 := Aside0.mk A80
      clear A80
      have H' := Aside0.mk H
      clear H
      go_wp2_with (first | ((with_reducible refine gate_callee (f := 30) rfl ?_); refine goesL_ (some 5) rfl rfl Try.func30 (by kernel_rfl) rfl #[] rfl (by (try simp only [List.map_toArray, List.map_cons, List.map_nil]); first | done | rfl | (simp only [List.length_drop, List.length_take]; rfl)) ?_; (with_reducible refine (passepartoutlaw05_alive.calls  true _ A6.out).mono ?_); rintro e w9 ⟨rfl, hb⟩; refine ⟨_, rfl, ?_⟩; have n0_ := Aside0.mk (Kd.V_below (by (with_reducible repeat (first | apply Kd.V_alloc | apply Kd.V_drewN | apply Kd.V_drew)); exact HO0_1.out) hb); have n1_ := Aside0.mk (Kd.V_below (by (with_reducible repeat (first | apply Kd.V_alloc | apply Kd.V_drewN | apply Kd.V_drew)); exact HO0_2.out) hb); have n2_ := Aside0.mk (Kd.V_below (by (with_reducible repeat (first | apply Kd.V_alloc | apply Kd.V_drewN | apply Kd.V_drew)); exact HO1_1.out) hb); have n3_ := Aside0.mk (Kd.V_below (by (with_reducible repeat (first | apply Kd.V_alloc | apply Kd.V_drewN | apply Kd.V_drew)); exact HO1_2.out) hb); have n4_ := Aside0.mk (blk_below (g := gb307) (o := .cells #[.int .u64 a0_0, .slice A0_1 l0_1.length c0_1, .slice A0_2 l0_2.length c0_2] 46 (0, 0)) (by (with_reducible repeat (first | refine blk_drewN ?_ _ | refine blk_drew ?_ | refine blk_alloc ?_ _)); exact BK307.out) hb); have n5_ := Aside0.mk (blk_below (g := gb308) (o := .cells #[.int .u64 a1_0, .slice A1_1 l1_1.length c1_1, .slice A1_2 l1_2.length c1_2] 46 (0, 0)) (by (with_reducible repeat (first | refine blk_drewN ?_ _ | refine blk_drew ?_ | refine blk_alloc ?_ _)); exact BK308.out) hb); have n6_ := Aside0.mk (below_step (by repeat (first | (with_reducible first | exact HB.out | apply below_alloc | apply pw_below_drewN | apply below_drew1 | refine below_set ?_ GE307.out | refine below_set ?_ GE308.out) | exact HB.out)) hb); clear HO0_1; clear HO0_2; clear HO1_1; clear HO1_2; clear BK307; clear BK308; clear HB; have HO0_1 := n0_; have HO0_2 := n1_; have HO1_1 := n2_; have HO1_2 := n3_; have BK307 := n4_; have BK308 := n5_; have HB := n6_; clear n0_ n1_ n2_ n3_ n4_ n5_ n6_; (try clear hb); (try clear hb2); (try clear hk); (try clear hi); have hnb10 := NB307_308.out; have hnc10 := NB308_307.out; have hcz11_0 : w9.cell? ⟨gb307, 0, none⟩ = some (.int .u64 a0_0) := (blk_cell BK307.out 0).trans rfl; have hcz11_1 : w9.cell? ⟨gb307, 1, none⟩ = some (.slice A0_1 l0_1.length c0_1) := (blk_cell BK307.out 1).trans rfl; have hcz11_2 : w9.cell? ⟨gb307, 2, none⟩ = some (.slice A0_2 l0_2.length c0_2) := (blk_cell BK307.out 2).trans rfl; have hfz11_0 := blk_frozen BK307.out 0; have hfz11_1 := blk_frozen BK307.out 1; have hfz11_2 := blk_frozen BK307.out 2; have hcz12_0 : w9.cell? ⟨gb308, 0, none⟩ = some (.int .u64 a1_0) := (blk_cell BK308.out 0).trans rfl; have hcz12_1 : w9.cell? ⟨gb308, 1, none⟩ = some (.slice A1_1 l1_1.length c1_1) := (blk_cell BK308.out 1).trans rfl; have hcz12_2 : w9.cell? ⟨gb308, 2, none⟩ = some (.slice A1_2 l1_2.length c1_2) := (blk_cell BK308.out 2).trans rfl; have hfz12_0 := blk_frozen BK308.out 0; have hfz12_1 := blk_frozen BK308.out 1; have hfz12_2 := blk_frozen BK308.out 2) | ((with_reducible refine gate_dst (N := 11) rfl ?_); (try (refine gate_guard (by rfl) ?_; dsimp only)); refine Kd.N_lit k46 _ 46 ?hg (N' := 11) ?hd (xs := ([(⟨a0_0, l0_1, l0_2⟩ : S46), (⟨a1_0, l1_1, l1_2⟩ : S46)] : List (S46))) (inner := [.int .u64 a0_0, .slice A0_1 l0_1.length c0_1, .slice A0_2 l0_2.length c0_2, .int .u64 a1_0, .slice A1_1 l1_1.length c1_1, .slice A1_2 l1_2.length c1_2]) (ok := (fun k_ => ((P0_1_ k_ ∨ P0_2_ k_ ∨ P1_1_ k_ ∨ P1_2_ k_) ∨ w.heap.size ≤ k_) ∧ k_ ≠ gb307 ∧ k_ ≠ gb308)) (okp := (fun k_ => ((P0_1_ k_ ∨ P0_2_ k_ ∨ P1_1_ k_ ∨ P1_2_ k_) ∨ w.heap.size ≤ k_) ∧ k_ ≠ gb307 ∧ k_ ≠ gb308)) ?hr ?hp (fun _ hk => hk) ((show ∀ k_, w9.heap.size ≤ k_ → (fun k_ => ((P0_1_ k_ ∨ P0_2_ k_ ∨ P1_1_ k_ ∨ P1_2_ k_) ∨ w.heap.size ≤ k_) ∧ k_ ≠ gb307 ∧ k_ ≠ gb308) k_ from fun k_ hk => ⟨(.inr (Nat.le_trans (below_size (by repeat (first | (with_reducible first | exact HB.out | apply below_alloc | apply pw_below_drewN | apply below_drew1 | refine below_set ?_ GE307.out | refine below_set ?_ GE308.out) | exact HB.out))) hk)), Kd.freshB (g := gb307) (o := .cells #[.int .u64 a0_0, .slice A0_1 l0_1.length c0_1, .slice A0_2 l0_2.length c0_2] 46 (0, 0)) (by (with_reducible repeat (first | refine blk_drewN ?_ _ | refine blk_drew ?_ | refine blk_alloc ?_ _)); exact BK307.out) k_ hk, Kd.freshB (g := gb308) (o := .cells #[.int .u64 a1_0, .slice A1_1 l1_1.length c1_1, .slice A1_2 l1_2.length c1_2] 46 (0, 0)) (by (with_reducible repeat (first | refine blk_drewN ?_ _ | refine blk_drew ?_ | refine blk_alloc ?_ _)); exact BK308.out) k_ hk⟩) _ (Nat.le_refl _)) (Below.refl _ _) (Nat.le_refl _) (by simp) ?_; (case hd => rfl); (case hg => rfl); (case hr => first | (go_simp; done) | (go_simp; rfl)); (case hp => exact (Reps.c3 (show Kd.FK k46 _ _ (⟨a0_0, l0_1, l0_2⟩ : S46) [.int .u64 a0_0, .slice A0_1 l0_1.length c0_1, .slice A0_2 l0_2.length c0_2] from (k46_mkF _ _ (⟨a0_0, l0_1, l0_2⟩ : S46) (Kd.V_reads' (Kd.V_mono (ok' := (fun k_ => ((P0_1_ k_ ∨ P0_2_ k_ ∨ P1_1_ k_ ∨ P1_2_ k_) ∨ w.heap.size ≤ k_) ∧ k_ ≠ gb307 ∧ k_ ≠ gb308)) (HO0_1.out) (fun k_ hk => ⟨hk.1.1, ⟨hk.1.2, hk.2⟩⟩))).2.1 (Kd.V_F (Kd.V_mono (ok' := (fun k_ => ((P0_1_ k_ ∨ P0_2_ k_ ∨ P1_1_ k_ ∨ P1_2_ k_) ∨ w.heap.size ≤ k_) ∧ k_ ≠ gb307 ∧ k_ ≠ gb308)) (HO0_1.out) (fun k_ hk => ⟨hk.1.1, ⟨hk.1.2, hk.2⟩⟩))) (Kd.V_reads' (Kd.V_mono (ok' := (fun k_ => ((P0_1_ k_ ∨ P0_2_ k_ ∨ P1_1_ k_ ∨ P1_2_ k_) ∨ w.heap.size ≤ k_) ∧ k_ ≠ gb307 ∧ k_ ≠ gb308)) (HO0_2.out) (fun k_ hk => ⟨hk.1.1, ⟨hk.1.2, hk.2⟩⟩))).2.1 (Kd.V_F (Kd.V_mono (ok' := (fun k_ => ((P0_1_ k_ ∨ P0_2_ k_ ∨ P1_1_ k_ ∨ P1_2_ k_) ∨ w.heap.size ≤ k_) ∧ k_ ≠ gb307 ∧ k_ ≠ gb308)) (HO0_2.out) (fun k_ hk => ⟨hk.1.1, ⟨hk.1.2, hk.2⟩⟩))))) (Reps.c3 (show Kd.FK k46 _ _ (⟨a1_0, l1_1, l1_2⟩ : S46) [.int .u64 a1_0, .slice A1_1 l1_1.length c1_1, .slice A1_2 l1_2.length c1_2] from (k46_mkF _ _ (⟨a1_0, l1_1, l1_2⟩ : S46) (Kd.V_reads' (Kd.V_mono (ok' := (fun k_ => ((P0_1_ k_ ∨ P0_2_ k_ ∨ P1_1_ k_ ∨ P1_2_ k_) ∨ w.heap.size ≤ k_) ∧ k_ ≠ gb307 ∧ k_ ≠ gb308)) (HO1_1.out) (fun k_ hk => ⟨hk.1.1, ⟨hk.1.2, hk.2⟩⟩))).2.1 (Kd.V_F (Kd.V_mono (ok' := (fun k_ => ((P0_1_ k_ ∨ P0_2_ k_ ∨ P1_1_ k_ ∨ P1_2_ k_) ∨ w.heap.size ≤ k_) ∧ k_ ≠ gb307 ∧ k_ ≠ gb308)) (HO1_1.out) (fun k_ hk => ⟨hk.1.1, ⟨hk.1.2, hk.2⟩⟩))) (Kd.V_reads' (Kd.V_mono (ok' := (fun k_ => ((P0_1_ k_ ∨ P0_2_ k_ ∨ P1_1_ k_ ∨ P1_2_ k_) ∨ w.heap.size ≤ k_) ∧ k_ ≠ gb307 ∧ k_ ≠ gb308)) (HO1_2.out) (fun k_ hk => ⟨hk.1.1, ⟨hk.1.2, hk.2⟩⟩))).2.1 (Kd.V_F (Kd.V_mono (ok' := (fun k_ => ((P0_1_ k_ ∨ P0_2_ k_ ∨ P1_1_ k_ ∨ P1_2_ k_) ∨ w.heap.size ≤ k_) ∧ k_ ≠ gb307 ∧ k_ ≠ gb308)) (HO1_2.out) (fun k_ hk => ⟨hk.1.1, ⟨hk.1.2, hk.2⟩⟩))))) (Reps.none _ _)))); intro v311 w13 ho14 hb hg_ hnew_; clear hg_ hnew_; (first | rw [← Ny310.out] at ho14 | (simp only [Int.reduceToNat] at ho14; rw [← Ny310.out] at ho14)); have n0_ := Aside0.mk (Kd.V_elder' (by (with_reducible repeat (first | apply Kd.V_alloc | apply Kd.V_drewN | apply Kd.V_drew)); exact HO0_1.out) (by first | exact Kd.N_base ho14 | exact Kd.R_base ho14) hb); have n1_ := Aside0.mk (Kd.V_elder' (by (with_reducible repeat (first | apply Kd.V_alloc | apply Kd.V_drewN | apply Kd.V_drew)); exact HO0_2.out) (by first | exact Kd.N_base ho14 | exact Kd.R_base ho14) hb); have n2_ := Aside0.mk (Kd.V_elder' (by (with_reducible repeat (first | apply Kd.V_alloc | apply Kd.V_drewN | apply Kd.V_drew)); exact HO1_1.out) (by first | exact Kd.N_base ho14 | exact Kd.R_base ho14) hb); have n3_ := Aside0.mk (Kd.V_elder' (by (with_reducible repeat (first | apply Kd.V_alloc | apply Kd.V_drewN | apply Kd.V_drew)); exact HO1_2.out) (by first | exact Kd.N_base ho14 | exact Kd.R_base ho14) hb); have n4_ := Aside0.mk (Kd.N_lower ho14 (below_size (by repeat (first | (with_reducible first | exact HB.out | apply below_alloc | apply pw_below_drewN | apply below_drew1 | refine below_set ?_ GE307.out | refine below_set ?_ GE308.out) | exact HB.out)))); have n5_ := Aside0.mk (blk_below (g := gb307) (o := .cells #[.int .u64 a0_0, .slice A0_1 l0_1.length c0_1, .slice A0_2 l0_2.length c0_2] 46 (0, 0)) (by (with_reducible repeat (first | refine blk_drewN ?_ _ | refine blk_drew ?_ | refine blk_alloc ?_ _)); exact BK307.out) hb); have n6_ := Aside0.mk (blk_below (g := gb308) (o := .cells #[.int .u64 a1_0, .slice A1_1 l1_1.length c1_1, .slice A1_2 l1_2.length c1_2] 46 (0, 0)) (by (with_reducible repeat (first | refine blk_drewN ?_ _ | refine blk_drew ?_ | refine blk_alloc ?_ _)); exact BK308.out) hb); have n7_ := Aside0.mk (below_step (by repeat (first | (with_reducible first | exact HB.out | apply below_alloc | apply pw_below_drewN | apply below_drew1 | refine below_set ?_ GE307.out | refine below_set ?_ GE308.out) | exact HB.out)) hb); clear HO0_1; clear HO0_2; clear HO1_1; clear HO1_2; clear BK307; clear BK308; clear HB; have HO0_1 := n0_; have HO0_2 := n1_; have HO1_1 := n2_; have HO1_2 := n3_; have HO312 := n4_; have BK307 := n5_; have BK308 := n6_; have HB := n7_; clear n0_ n1_ n2_ n3_ n4_ n5_ n6_ n7_; clear hb ho14; obtain ⟨Ao15, co15, eo15⟩ := Kd.N_slice HO312.out; subst eo15) | (go_at_call 31; (refine (passepartoutlaw05_Great.calls k 0 0 0 0 0 _ _ ([] : List (S27)) _ _ y310 t313 _ ?side1 ?side2 ?side3 ?side4 A8.out).mono ?_); (case side1 => exact Kd.C_nil _ _); (case side2 => exact Nat.le_refl _); (case side3 => repeat (first | exact (Kd.N_reads' HO312.out).2.2 | (with_reducible refine Kd.C_alloc ?_ _) | (with_reducible refine Kd.C_drewN ?_ _) | (with_reducible refine Kd.C_drew ?_))); (case side4 => exact (Kd.N_reads' HO312.out).2.1); rintro e w16 ⟨rfl, hb⟩; have n0_ := Aside0.mk (Kd.V_below (by (with_reducible repeat (first | apply Kd.V_alloc | apply Kd.V_drewN | apply Kd.V_drew)); exact HO0_1.out) hb); have n1_ := Aside0.mk (Kd.V_below (by (with_reducible repeat (first | apply Kd.V_alloc | apply Kd.V_drewN | apply Kd.V_drew)); exact HO0_2.out) hb); have n2_ := Aside0.mk (Kd.V_below (by (with_reducible repeat (first | apply Kd.V_alloc | apply Kd.V_drewN | apply Kd.V_drew)); exact HO1_1.out) hb); have n3_ := Aside0.mk (Kd.V_below (by (with_reducible repeat (first | apply Kd.V_alloc | apply Kd.V_drewN | apply Kd.V_drew)); exact HO1_2.out) hb); have n4_ := Aside0.mk (Kd.N_below (by (with_reducible repeat (first | apply Kd.N_alloc | apply Kd.N_drewN | apply Kd.N_drew)); exact HO312.out) hb); have n5_ := Aside0.mk (blk_below (g := gb307) (o := .cells #[.int .u64 a0_0, .slice A0_1 l0_1.length c0_1, .slice A0_2 l0_2.length c0_2] 46 (0, 0)) (by (with_reducible repeat (first | refine blk_drewN ?_ _ | refine blk_drew ?_ | refine blk_alloc ?_ _)); exact BK307.out) hb); have n6_ := Aside0.mk (blk_below (g := gb308) (o := .cells #[.int .u64 a1_0, .slice A1_1 l1_1.length c1_1, .slice A1_2 l1_2.length c1_2] 46 (0, 0)) (by (with_reducible repeat (first | refine blk_drewN ?_ _ | refine blk_drew ?_ | refine blk_alloc ?_ _)); exact BK308.out) hb); have n7_ := Aside0.mk (below_step (by repeat (first | (with_reducible first | exact HB.out | apply below_alloc | apply pw_below_drewN | apply below_drew1 | refine below_set ?_ GE307.out | refine below_set ?_ GE308.out) | exact HB.out)) hb); clear HO0_1; clear HO0_2; clear HO1_1; clear HO1_2; clear HO312; clear BK307; clear BK308; clear HB; have HO0_1 := n0_; have HO0_2 := n1_; have HO1_1 := n2_; have HO1_2 := n3_; have HO312 := n4_; have BK307 := n5_; have BK308 := n6_; have HB := n7_; clear n0_ n1_ n2_ n3_ n4_ n5_ n6_ n7_; (try clear hb); (try clear hb2); (try clear hk); (try clear hi)))
      go_meet
      case rel => exact ⟨_, (decide (t313 > 0)), (by first | rfl | (simp; done) | (simp [*]; done)), H', ⟨by first | omega | exact Nat.le_refl _⟩, ⟨by (with_reducible repeat (first | apply Kd.V_alloc | apply Kd.V_drewN | apply Kd.V_drew)); exact Kd.V_mono HO0_1.out (fun _ hk => ⟨hk.1.1.1, ⟨hk.1.1.2, hk.1.2⟩⟩)⟩, ⟨by (with_reducible repeat (first | apply Kd.V_alloc | apply Kd.V_drewN | apply Kd.V_drew)); exact Kd.V_mono HO0_2.out (fun _ hk => ⟨hk.1.1.1, ⟨hk.1.1.2, hk.1.2⟩⟩)⟩, ⟨by (with_reducible repeat (first | apply Kd.V_alloc | apply Kd.V_drewN | apply Kd.V_drew)); exact Kd.V_mono HO1_1.out (fun _ hk => ⟨hk.1.1.1, ⟨hk.1.1.2, hk.1.2⟩⟩)⟩, ⟨by (with_reducible repeat (first | apply Kd.V_alloc | apply Kd.V_drewN | apply Kd.V_drew)); exact Kd.V_mono HO1_2.out (fun _ hk => ⟨hk.1.1.1, ⟨hk.1.1.2, hk.1.2⟩⟩)⟩, ⟨by (with_reducible repeat (first | refine blk_drewN ?_ _ | refine blk_drew ?_ | refine blk_alloc ?_ _)); exact BK307.out⟩, ⟨by (with_reducible repeat (first | refine blk_drewN ?_ _ | refine blk_drew ?_ | refine blk_alloc ?_ _)); exact BK308.out⟩, ⟨by repeat (first | (with_reducible first | exact HB.out | apply below_alloc | apply pw_below_drewN | apply below_drew1 | refine below_set ?_ GE307.out | refine below_set ?_ GE308.out) | exact HB.out)⟩⟩
    · replace c7 := Bool.eq_false_iff.mpr c7
      subst c7
      have H1 : (passepartoutlaw05_ValueSames.j0 k true a0_0 l0_1 l0_2 a1_0 l1_1 l1_2) = some r := by rw [if_neg (show ¬ (false = true) by decide)] at H; exact H
      clear H
      have H := H1
      clear H1
      have H' := Aside0.mk H
      clear H
      go_wp2_with (first | ((with_reducible refine gate_callee (f := 30) rfl ?_); refine goesL_ (some 5) rfl rfl Try.func30 (by kernel_rfl) rfl #[] rfl (by (try simp only [List.map_toArray, List.map_cons, List.map_nil]); first | done | rfl | (simp only [List.length_drop, List.length_take]; rfl)) ?_; (with_reducible refine (passepartoutlaw05_alive.calls  false _ A6.out).mono ?_); rintro e w17 ⟨rfl, hb⟩; refine ⟨_, rfl, ?_⟩; have n0_ := Aside0.mk (Kd.V_below (by (with_reducible repeat (first | apply Kd.V_alloc | apply Kd.V_drewN | apply Kd.V_drew)); exact HO0_1.out) hb); have n1_ := Aside0.mk (Kd.V_below (by (with_reducible repeat (first | apply Kd.V_alloc | apply Kd.V_drewN | apply Kd.V_drew)); exact HO0_2.out) hb); have n2_ := Aside0.mk (Kd.V_below (by (with_reducible repeat (first | apply Kd.V_alloc | apply Kd.V_drewN | apply Kd.V_drew)); exact HO1_1.out) hb); have n3_ := Aside0.mk (Kd.V_below (by (with_reducible repeat (first | apply Kd.V_alloc | apply Kd.V_drewN | apply Kd.V_drew)); exact HO1_2.out) hb); have n4_ := Aside0.mk (blk_below (g := gb307) (o := .cells #[.int .u64 a0_0, .slice A0_1 l0_1.length c0_1, .slice A0_2 l0_2.length c0_2] 46 (0, 0)) (by (with_reducible repeat (first | refine blk_drewN ?_ _ | refine blk_drew ?_ | refine blk_alloc ?_ _)); exact BK307.out) hb); have n5_ := Aside0.mk (blk_below (g := gb308) (o := .cells #[.int .u64 a1_0, .slice A1_1 l1_1.length c1_1, .slice A1_2 l1_2.length c1_2] 46 (0, 0)) (by (with_reducible repeat (first | refine blk_drewN ?_ _ | refine blk_drew ?_ | refine blk_alloc ?_ _)); exact BK308.out) hb); have n6_ := Aside0.mk (below_step (by repeat (first | (with_reducible first | exact HB.out | apply below_alloc | apply pw_below_drewN | apply below_drew1 | refine below_set ?_ GE307.out | refine below_set ?_ GE308.out) | exact HB.out)) hb); clear HO0_1; clear HO0_2; clear HO1_1; clear HO1_2; clear BK307; clear BK308; clear HB; have HO0_1 := n0_; have HO0_2 := n1_; have HO1_1 := n2_; have HO1_2 := n3_; have BK307 := n4_; have BK308 := n5_; have HB := n6_; clear n0_ n1_ n2_ n3_ n4_ n5_ n6_; (try clear hb); (try clear hb2); (try clear hk); (try clear hi)))
      go_meet
      case rel => exact ⟨_, (true), (by first | rfl | (simp; done) | (simp [*]; done)), H', ⟨by first | omega | exact Nat.le_refl _⟩, ⟨by (with_reducible repeat (first | apply Kd.V_alloc | apply Kd.V_drewN | apply Kd.V_drew)); exact Kd.V_mono HO0_1.out (fun _ hk => ⟨hk.1.1, ⟨hk.1.2, hk.2⟩⟩)⟩, ⟨by (with_reducible repeat (first | apply Kd.V_alloc | apply Kd.V_drewN | apply Kd.V_drew)); exact Kd.V_mono HO0_2.out (fun _ hk => ⟨hk.1.1, ⟨hk.1.2, hk.2⟩⟩)⟩, ⟨by (with_reducible repeat (first | apply Kd.V_alloc | apply Kd.V_drewN | apply Kd.V_drew)); exact Kd.V_mono HO1_1.out (fun _ hk => ⟨hk.1.1, ⟨hk.1.2, hk.2⟩⟩)⟩, ⟨by (with_reducible repeat (first | apply Kd.V_alloc | apply Kd.V_drewN | apply Kd.V_drew)); exact Kd.V_mono HO1_2.out (fun _ hk => ⟨hk.1.1, ⟨hk.1.2, hk.2⟩⟩)⟩, ⟨by (with_reducible repeat (first | refine blk_drewN ?_ _ | refine blk_drew ?_ | refine blk_alloc ?_ _)); exact BK307.out⟩, ⟨by (with_reducible repeat (first | refine blk_drewN ?_ _ | refine blk_drew ?_ | refine blk_alloc ?_ _)); exact BK308.out⟩, ⟨by repeat (first | (with_reducible first | exact HB.out | apply below_alloc | apply pw_below_drewN | apply below_drew1 | refine below_set ?_ GE307.out | refine below_set ?_ GE308.out) | exact HB.out)⟩⟩
  case rest =>
    clear HC3
    try clear c1
    try clear p2
    try clear c3
    try clear c7
    try clear c10
    try clear c13
    try clear hcz11_0
    try clear hcz11_1
    try clear hcz11_2
    try clear hcz12_0
    try clear hcz12_1
    try clear hcz12_2
    try clear hfz11_0
    try clear hfz11_1
    try clear hfz11_2
    try clear hfz12_0
    try clear hfz12_1
    try clear hfz12_2
    obtain ⟨kq, x14_2, rfl, HA, HJ2, HO_308001, HO_308002, HO_309001, HO_309002, BK307, BK308, HB⟩ := hcut
    cases kq with
    | zero => exact absurd HA.out (by simp [passepartoutlaw05_ValueSames.j0])
    | succ kj2 =>
      have H := HA.out
      clear HA
      simp only [passepartoutlaw05_ValueSames.j0] at H
      by_cases c18 : x14_2 = true
      · subst c18
        have H1 : ((passepartoutlaw05_alive.f).bind fun t314 => (some t314)) = some r := by rw [if_pos rfl] at H; exact H
        clear H
        have H := H1
        clear H1
        replace H := Option.bind_eq_some_iff.mp H
        obtain ⟨t314, A190, H⟩ := H
        replace H : (some t314) = some r := H
        have A19 := Aside0.mk A190
        clear A190
        obtain rfl := Option.some.inj H
        go_wp2_with (first | ((with_reducible refine gate_callee (f := 30) rfl ?_); refine goesL_ (some 15) rfl rfl Try.func30 (by kernel_rfl) rfl #[] rfl (by (try simp only [List.map_toArray, List.map_cons, List.map_nil]); first | done | rfl | (simp only [List.length_drop, List.length_take]; rfl)) ?_; (with_reducible refine (passepartoutlaw05_alive.calls  t314 _ A19.out).mono ?_); rintro e w20 ⟨rfl, hb⟩; refine ⟨_, rfl, ?_⟩; have n0_ := Aside0.mk (Kd.V_below (by (with_reducible repeat (first | apply Kd.V_alloc | apply Kd.V_drewN | apply Kd.V_drew)); exact HO_308001.out) hb); have n1_ := Aside0.mk (Kd.V_below (by (with_reducible repeat (first | apply Kd.V_alloc | apply Kd.V_drewN | apply Kd.V_drew)); exact HO_308002.out) hb); have n2_ := Aside0.mk (Kd.V_below (by (with_reducible repeat (first | apply Kd.V_alloc | apply Kd.V_drewN | apply Kd.V_drew)); exact HO_309001.out) hb); have n3_ := Aside0.mk (Kd.V_below (by (with_reducible repeat (first | apply Kd.V_alloc | apply Kd.V_drewN | apply Kd.V_drew)); exact HO_309002.out) hb); have n4_ := Aside0.mk (blk_below (g := gb307) (o := .cells #[.int .u64 a0_0, .slice A0_1 l0_1.length c0_1, .slice A0_2 l0_2.length c0_2] 46 (0, 0)) (by (with_reducible repeat (first | refine blk_drewN ?_ _ | refine blk_drew ?_ | refine blk_alloc ?_ _)); exact BK307.out) hb); have n5_ := Aside0.mk (blk_below (g := gb308) (o := .cells #[.int .u64 a1_0, .slice A1_1 l1_1.length c1_1, .slice A1_2 l1_2.length c1_2] 46 (0, 0)) (by (with_reducible repeat (first | refine blk_drewN ?_ _ | refine blk_drew ?_ | refine blk_alloc ?_ _)); exact BK308.out) hb); have n6_ := Aside0.mk (below_step (by repeat (first | (with_reducible first | exact HB.out | apply below_alloc | apply pw_below_drewN | apply below_drew1 | refine below_set ?_ GE307.out | refine below_set ?_ GE308.out) | exact HB.out)) hb); clear HO_308001; clear HO_308002; clear HO_309001; clear HO_309002; clear BK307; clear BK308; clear HB; have HO_308001 := n0_; have HO_308002 := n1_; have HO_309001 := n2_; have HO_309002 := n3_; have BK307 := n4_; have BK308 := n5_; have HB := n6_; clear n0_ n1_ n2_ n3_ n4_ n5_ n6_; (try clear hb); (try clear hb2); (try clear hk); (try clear hi)))
        go_ret
        exact ⟨by first | rfl | (simp [errW_none, errW_some] <;> rfl) | (simp [*, errW_none, errW_some] <;> rfl), by repeat (first | (with_reducible first | exact HB.out | apply below_alloc | apply pw_below_drewN | apply below_drew1 | refine below_set ?_ GE307.out | refine below_set ?_ GE308.out) | exact HB.out)⟩
      · replace c18 := Bool.eq_false_iff.mpr c18
        subst c18
        have H1 : ((value_Same.f a0_0 l0_1 l0_2 a1_0 l1_1 l1_2).bind fun t315 => ((passepartoutref05_Same.f kj2 a0_0 l0_1 l0_2 a1_0 l1_1 l1_2).bind fun t316 => (if (t315 == t316) = true then ((value_Same.f a1_0 l1_1 l1_2 a0_0 l0_1 l0_2).bind fun t317 => ((value_Same.f a0_0 l0_1 l0_2 a1_0 l1_1 l1_2).bind fun t318 => (if (t317 == t318) = true then ((value_Same.f a0_0 l0_1 l0_2 a0_0 l0_1 l0_2).bind fun t319 => (if t319 = true then ((value_Count.f kj2 a0_0 l0_1 l0_2).bind fun t320 => ((passepartoutref05_Count.f kj2 a0_0 l0_1 l0_2 1099511627776).bind fun t321 => (some (t320 == t321)))) else (some false))) else (some false)))) else (some false)))) = some r := by rw [if_neg (show ¬ (false = true) by decide)] at H; exact H
        clear H
        have H := H1
        clear H1
        replace H := Option.bind_eq_some_iff.mp H
        obtain ⟨t315, A210, H⟩ := H
        replace H : ((passepartoutref05_Same.f kj2 a0_0 l0_1 l0_2 a1_0 l1_1 l1_2).bind fun t316 => (if (t315 == t316) = true then ((value_Same.f a1_0 l1_1 l1_2 a0_0 l0_1 l0_2).bind fun t317 => ((value_Same.f a0_0 l0_1 l0_2 a1_0 l1_1 l1_2).bind fun t318 => (if (t317 == t318) = true then ((value_Same.f a0_0 l0_1 l0_2 a0_0 l0_1 l0_2).bind fun t319 => (if t319 = true then ((value_Count.f kj2 a0_0 l0_1 l0_2).bind fun t320 => ((passepartoutref05_Count.f kj2 a0_0 l0_1 l0_2 1099511627776).bind fun t321 => (some (t320 == t321)))) else (some false))) else (some false)))) else (some false))) = some r := H
        have A21 := Aside0.mk A210
        clear A210
        replace H := Option.bind_eq_some_iff.mp H
        obtain ⟨t316, A220, H⟩ := H
        replace H : (if (t315 == t316) = true then ((value_Same.f a1_0 l1_1 l1_2 a0_0 l0_1 l0_2).bind fun t317 => ((value_Same.f a0_0 l0_1 l0_2 a1_0 l1_1 l1_2).bind fun t318 => (if (t317 == t318) = true then ((value_Same.f a0_0 l0_1 l0_2 a0_0 l0_1 l0_2).bind fun t319 => (if t319 = true then ((value_Count.f kj2 a0_0 l0_1 l0_2).bind fun t320 => ((passepartoutref05_Count.f kj2 a0_0 l0_1 l0_2 1099511627776).bind fun t321 => (some (t320 == t321)))) else (some false))) else (some false)))) else (some false)) = some r := H
        have A22 := Aside0.mk A220
        clear A220
        by_cases c23 : (t315 == t316) = true
        · rw [if_pos c23] at H
          have c23b0 : (t315 == t316) = true := c23
          (try (have c23b1 : decide (t315 = t316) = true := by simpa using c23))
          (try (have c23b2 : (t315 == t316) = true := by simpa using c23))
          clear c23
          replace H := Option.bind_eq_some_iff.mp H
          obtain ⟨t317, A240, H⟩ := H
          replace H : ((value_Same.f a0_0 l0_1 l0_2 a1_0 l1_1 l1_2).bind fun t318 => (if (t317 == t318) = true then ((value_Same.f a0_0 l0_1 l0_2 a0_0 l0_1 l0_2).bind fun t319 => (if t319 = true then ((value_Count.f kj2 a0_0 l0_1 l0_2).bind fun t320 => ((passepartoutref05_Count.f kj2 a0_0 l0_1 l0_2 1099511627776).bind fun t321 => (some (t320 == t321)))) else (some false))) else (some false))) = some r := H
          have A24 := Aside0.mk A240
          clear A240
          replace H := Option.bind_eq_some_iff.mp H
          obtain ⟨t318, A250, H⟩ := H
          replace H : (if (t317 == t318) = true then ((value_Same.f a0_0 l0_1 l0_2 a0_0 l0_1 l0_2).bind fun t319 => (if t319 = true then ((value_Count.f kj2 a0_0 l0_1 l0_2).bind fun t320 => ((passepartoutref05_Count.f kj2 a0_0 l0_1 l0_2 1099511627776).bind fun t321 => (some (t320 == t321)))) else (some false))) else (some false)) = some r := H
          have A25 := Aside0.mk A250
          clear A250
          by_cases c26 : (t317 == t318) = true
          · rw [if_pos c26] at H
            have c26b0 : (t317 == t318) = true := c26
            (try (have c26b1 : decide (t317 = t318) = true := by simpa using c26))
            (try (have c26b2 : (t317 == t318) = true := by simpa using c26))
            clear c26
            replace H := Option.bind_eq_some_iff.mp H
            obtain ⟨t319, A270, H⟩ := H
            replace H : (if t319 = true then ((value_Count.f kj2 a0_0 l0_1 l0_2).bind fun t320 => ((passepartoutref05_Count.f kj2 a0_0 l0_1 l0_2 1099511627776).bind fun t321 => (some (t320 == t321)))) else (some false)) = some r := H
            have A27 := Aside0.mk A270
            clear A270
            by_cases c28 : t319 = true
            · subst c28
              have H1 : ((value_Count.f kj2 a0_0 l0_1 l0_2).bind fun t320 => ((passepartoutref05_Count.f kj2 a0_0 l0_1 l0_2 1099511627776).bind fun t321 => (some (t320 == t321)))) = some r := by rw [if_pos rfl] at H; exact H
              clear H
              have H := H1
              clear H1
              replace H := Option.bind_eq_some_iff.mp H
              obtain ⟨t320, A290, H⟩ := H
              replace H : ((passepartoutref05_Count.f kj2 a0_0 l0_1 l0_2 1099511627776).bind fun t321 => (some (t320 == t321))) = some r := H
              have A29 := Aside0.mk A290
              clear A290
              replace H := Option.bind_eq_some_iff.mp H
              obtain ⟨t321, A300, H⟩ := H
              replace H : (some (t320 == t321)) = some r := H
              have A30 := Aside0.mk A300
              clear A300
              obtain rfl := Option.some.inj H
              try go_wp2
              have n0_ := Aside0.mk (Kd.V_drew HO_308001.out)
              have n1_ := Aside0.mk (Kd.V_drew HO_308002.out)
              have n2_ := Aside0.mk (Kd.V_drew HO_309001.out)
              have n3_ := Aside0.mk (Kd.V_drew HO_309002.out)
              have n4_ := Aside0.mk (blk_drew BK307.out)
              have n5_ := Aside0.mk (blk_drew BK308.out)
              have n6_ := Aside0.mk (below_drew1 HB.out)
              clear HO_308001
              clear HO_308002
              clear HO_309001
              clear HO_309002
              clear BK307
              clear BK308
              clear HB
              have HO_308001 := n0_
              have HO_308002 := n1_
              have HO_309001 := n2_
              have HO_309002 := n3_
              have BK307 := n4_
              have BK308 := n5_
              have HB := n6_
              clear n0_ n1_ n2_ n3_ n4_ n5_ n6_
              refine start_ (n := 29) (S := fun w' => w'.cell? ⟨gb307, 0, none⟩ = some (.int .u64 a0_0) ∧ w'.cell? ⟨gb307, 1, none⟩ = some (.slice A0_1 l0_1.length c0_1) ∧ w'.cell? ⟨gb307, 2, none⟩ = some (.slice A0_2 l0_2.length c0_2) ∧ w'.cell? ⟨gb308, 0, none⟩ = some (.int .u64 a1_0) ∧ w'.cell? ⟨gb308, 1, none⟩ = some (.slice A1_1 l1_1.length c1_1) ∧ w'.cell? ⟨gb308, 2, none⟩ = some (.slice A1_2 l1_2.length c1_2)) (ds := []) #[false, false, false, false, false, false, false, false, false, false, false, false, false, false, false, false, false, false, false, false, false, false, false, false, false, false, false, false, false] (by kernel_rfl) rfl rfl ⟨(blk_cell BK307.out 0).trans rfl, (blk_cell BK307.out 1).trans rfl, (blk_cell BK307.out 2).trans rfl, (blk_cell BK308.out 0).trans rfl, (blk_cell BK308.out 1).trans rfl, (blk_cell BK308.out 2).trans rfl⟩ (fun hHeld => ?_); refine with_tabW passepartoutlaw05_ValueSames.tab3 passepartoutlaw05_ValueSames.bits3 (fun HT_ HW_ => ?_)
              generalize wc.drew = w31 at HO_308001 HO_308002 HO_309001 HO_309002 BK307 BK308 HB hHeld ⊢
              refine take_ (i := 0) (N := some 16) (v := ?_) (a' := ?_) #[true, false, false, false, false, false, false, false, false, false, false, false, false, false, false, false, false, false, false, false, false, false, false, false, false, false, false, false, false] rfl rfl (take_ofW HT_.out HW_.out (by kernel_rfl)) (fun _ _ _ h => h) (Or.inl ⟨by rfl, ?_⟩) hHeld ?_ ?_
              rotate_left
              · rintro w' ⟨s0, s1, s2, s3, s4, s5⟩
                go_simp
                with_reducible rfl
              rotate_left
              · simp only [Act.put, List.setIfInBounds_toArray, List.set_cons_zero, List.set_cons_succ, i64_w, i32_w]
                rfl
              refine take_ (i := 1) (N := some 17) (v := ?_) (a' := ?_) #[true, true, false, false, false, false, false, false, false, false, false, false, false, false, false, false, false, false, false, false, false, false, false, false, false, false, false, false, false] rfl rfl (take_ofW HT_.out HW_.out (by kernel_rfl)) (fun _ _ _ h => h) (Or.inl ⟨by rfl, ?_⟩) hHeld ?_ ?_
              rotate_left
              · rintro w' ⟨s0, s1, s2, s3, s4, s5⟩
                go_simp
                with_reducible rfl
              rotate_left
              · simp only [Act.put, List.setIfInBounds_toArray, List.set_cons_zero, List.set_cons_succ, i64_w, i32_w]
                rfl
              refine take_ (i := 3) (N := some 19) (v := ?_) (a' := ?_) #[true, true, false, true, false, false, false, false, false, false, false, false, false, false, false, false, false, false, false, false, false, false, false, false, false, false, false, false, false] rfl rfl (take_ofW HT_.out HW_.out (by kernel_rfl)) (fun _ _ _ h => h) (Or.inl ⟨by rfl, ?_⟩) hHeld ?_ ?_
              rotate_left
              · rintro w' ⟨s0, s1, s2, s3, s4, s5⟩
                go_simp
                with_reducible rfl
              rotate_left
              · simp only [Act.put, List.setIfInBounds_toArray, List.set_cons_zero, List.set_cons_succ, i64_w, i32_w]
                rfl
              refine take_ (i := 4) (N := some 20) (v := ?_) (a' := ?_) #[true, true, false, true, true, false, false, false, false, false, false, false, false, false, false, false, false, false, false, false, false, false, false, false, false, false, false, false, false] rfl rfl (take_ofW HT_.out HW_.out (by kernel_rfl)) (fun _ _ _ h => h) (Or.inl ⟨by rfl, ?_⟩) hHeld ?_ ?_
              rotate_left
              · rintro w' ⟨s0, s1, s2, s3, s4, s5⟩
                go_simp
                with_reducible rfl
              rotate_left
              · simp only [Act.put, List.setIfInBounds_toArray, List.set_cons_zero, List.set_cons_succ, i64_w, i32_w]
                rfl
              refine one_ (i := 2) (N := some 18) #[true, true, true, true, true, false, false, false, false, false, false, false, false, false, false, false, false, false, false, false, false, false, false, false, false, false, false, false, false] rfl rfl (one_of HT_.out (by kernel_rfl)) (by decide) (fun K hK => ?_)
              refine goes_ Try.func40 (by kernel_rfl) rfl #[.agg #[.int .u64 a0_0, .slice A0_1 l0_1.length c0_1, .slice A0_2 l0_2.length c0_2], .agg #[.int .u64 a1_0, .slice A1_1 l1_1.length c1_1, .slice A1_2 l1_2.length c1_2]] (by rfl) rfl rfl (by (try simp only [List.map_toArray, List.map_cons, List.map_nil]); first | done | rfl | (simp only [List.length_drop, List.length_take]; rfl)) ?_
              with_reducible refine (value_Same.calls a0_0 _ _ l0_1 _ _ l0_2 a1_0 _ _ l1_1 _ _ l1_2 t315 _ ?side1 ?side2 ?side3 ?side4 ?side5 ?side6 ?side7 ?side8 A21.out).mono ?_
              (case side1 => repeat (first | exact (Kd.V_reads' HO_308001.out).2.2 | (with_reducible refine Kd.C_alloc ?_ _) | (with_reducible refine Kd.C_drewN ?_ _) | (with_reducible refine Kd.C_drew ?_)))
              (case side2 => exact (Kd.V_reads' HO_308001.out).2.1)
              (case side3 => repeat (first | exact (Kd.V_reads' HO_308002.out).2.2 | (with_reducible refine Kd.C_alloc ?_ _) | (with_reducible refine Kd.C_drewN ?_ _) | (with_reducible refine Kd.C_drew ?_)))
              (case side4 => exact (Kd.V_reads' HO_308002.out).2.1)
              (case side5 => repeat (first | exact (Kd.V_reads' HO_309001.out).2.2 | (with_reducible refine Kd.C_alloc ?_ _) | (with_reducible refine Kd.C_drewN ?_ _) | (with_reducible refine Kd.C_drew ?_)))
              (case side6 => exact (Kd.V_reads' HO_309001.out).2.1)
              (case side7 => repeat (first | exact (Kd.V_reads' HO_309002.out).2.2 | (with_reducible refine Kd.C_alloc ?_ _) | (with_reducible refine Kd.C_drewN ?_ _) | (with_reducible refine Kd.C_drew ?_)))
              (case side8 => exact (Kd.V_reads' HO_309002.out).2.1)
              rintro e w32 ⟨rfl, hb⟩
              refine ⟨_, rfl, ?_⟩
              have n0_ := Aside0.mk (Kd.V_below (by (with_reducible repeat (first | apply Kd.V_alloc | apply Kd.V_drewN | apply Kd.V_drew)); exact HO_308001.out) hb)
              have n1_ := Aside0.mk (Kd.V_below (by (with_reducible repeat (first | apply Kd.V_alloc | apply Kd.V_drewN | apply Kd.V_drew)); exact HO_308002.out) hb)
              have n2_ := Aside0.mk (Kd.V_below (by (with_reducible repeat (first | apply Kd.V_alloc | apply Kd.V_drewN | apply Kd.V_drew)); exact HO_309001.out) hb)
              have n3_ := Aside0.mk (Kd.V_below (by (with_reducible repeat (first | apply Kd.V_alloc | apply Kd.V_drewN | apply Kd.V_drew)); exact HO_309002.out) hb)
              have n4_ := Aside0.mk (blk_below (g := gb307) (o := .cells #[.int .u64 a0_0, .slice A0_1 l0_1.length c0_1, .slice A0_2 l0_2.length c0_2] 46 (0, 0)) (by (with_reducible repeat (first | refine blk_drewN ?_ _ | refine blk_drew ?_ | refine blk_alloc ?_ _)); exact BK307.out) hb)
              have n5_ := Aside0.mk (blk_below (g := gb308) (o := .cells #[.int .u64 a1_0, .slice A1_1 l1_1.length c1_1, .slice A1_2 l1_2.length c1_2] 46 (0, 0)) (by (with_reducible repeat (first | refine blk_drewN ?_ _ | refine blk_drew ?_ | refine blk_alloc ?_ _)); exact BK308.out) hb)
              have n6_ := Aside0.mk (below_step (by repeat (first | (with_reducible first | exact HB.out | apply below_alloc | apply pw_below_drewN | apply below_drew1 | refine below_set ?_ GE307.out | refine below_set ?_ GE308.out) | exact HB.out)) hb)
              clear HO_308001
              clear HO_308002
              clear HO_309001
              clear HO_309002
              clear BK307
              clear BK308
              clear HB
              have HO_308001 := n0_
              have HO_308002 := n1_
              have HO_309001 := n2_
              have HO_309002 := n3_
              have BK307 := n4_
              have BK308 := n5_
              have HB := n6_
              clear n0_ n1_ n2_ n3_ n4_ n5_ n6_
              (try clear hb)
              (try clear hb2)
              (try clear hk)
              (try clear hi)
              refine hK.out _ _ ⟨(blk_cell BK307.out 0).trans rfl, (blk_cell BK307.out 1).trans rfl, (blk_cell BK307.out 2).trans rfl, (blk_cell BK308.out 0).trans rfl, (blk_cell BK308.out 1).trans rfl, (blk_cell BK308.out 2).trans rfl⟩ (fun hHeld => ?_)
              clear hK K
              refine norm_ (a' := ?_) ?_ ?_
              rotate_left
              · show Act.put _ (some 18) _ = _
                simp only [Act.put, List.setIfInBounds_toArray, List.set_cons_zero, List.set_cons_succ, i64_w, i32_w]
                rfl
              refine one_ (i := 5) (N := some 21) #[true, true, true, true, true, true, false, false, false, false, false, false, false, false, false, false, false, false, false, false, false, false, false, false, false, false, false, false, false] rfl rfl (one_of HT_.out (by kernel_rfl)) (by decide) (fun K hK => ?_)
              refine goes_ Try.func37 (by kernel_rfl) rfl #[.agg #[.int .u64 a0_0, .slice A0_1 l0_1.length c0_1, .slice A0_2 l0_2.length c0_2], .agg #[.int .u64 a1_0, .slice A1_1 l1_1.length c1_1, .slice A1_2 l1_2.length c1_2]] (by rfl) rfl rfl (by (try simp only [List.map_toArray, List.map_cons, List.map_nil]); first | done | rfl | (simp only [List.length_drop, List.length_take]; rfl)) ?_
              with_reducible refine (passepartoutref05_Same.calls kj2 a0_0 _ _ l0_1 _ _ l0_2 a1_0 _ _ l1_1 _ _ l1_2 t316 _ ?side1 ?side2 ?side3 ?side4 ?side5 ?side6 ?side7 ?side8 A22.out).mono ?_
              (case side1 => repeat (first | exact (Kd.V_reads' HO_308001.out).2.2 | (with_reducible refine Kd.C_alloc ?_ _) | (with_reducible refine Kd.C_drewN ?_ _) | (with_reducible refine Kd.C_drew ?_)))
              (case side2 => exact (Kd.V_reads' HO_308001.out).2.1)
              (case side3 => repeat (first | exact (Kd.V_reads' HO_308002.out).2.2 | (with_reducible refine Kd.C_alloc ?_ _) | (with_reducible refine Kd.C_drewN ?_ _) | (with_reducible refine Kd.C_drew ?_)))
              (case side4 => exact (Kd.V_reads' HO_308002.out).2.1)
              (case side5 => repeat (first | exact (Kd.V_reads' HO_309001.out).2.2 | (with_reducible refine Kd.C_alloc ?_ _) | (with_reducible refine Kd.C_drewN ?_ _) | (with_reducible refine Kd.C_drew ?_)))
              (case side6 => exact (Kd.V_reads' HO_309001.out).2.1)
              (case side7 => repeat (first | exact (Kd.V_reads' HO_309002.out).2.2 | (with_reducible refine Kd.C_alloc ?_ _) | (with_reducible refine Kd.C_drewN ?_ _) | (with_reducible refine Kd.C_drew ?_)))
              (case side8 => exact (Kd.V_reads' HO_309002.out).2.1)
              rintro e w33 ⟨rfl, hb⟩
              refine ⟨_, rfl, ?_⟩
              have n0_ := Aside0.mk (Kd.V_below (by (with_reducible repeat (first | apply Kd.V_alloc | apply Kd.V_drewN | apply Kd.V_drew)); exact HO_308001.out) hb)
              have n1_ := Aside0.mk (Kd.V_below (by (with_reducible repeat (first | apply Kd.V_alloc | apply Kd.V_drewN | apply Kd.V_drew)); exact HO_308002.out) hb)
              have n2_ := Aside0.mk (Kd.V_below (by (with_reducible repeat (first | apply Kd.V_alloc | apply Kd.V_drewN | apply Kd.V_drew)); exact HO_309001.out) hb)
              have n3_ := Aside0.mk (Kd.V_below (by (with_reducible repeat (first | apply Kd.V_alloc | apply Kd.V_drewN | apply Kd.V_drew)); exact HO_309002.out) hb)
              have n4_ := Aside0.mk (blk_below (g := gb307) (o := .cells #[.int .u64 a0_0, .slice A0_1 l0_1.length c0_1, .slice A0_2 l0_2.length c0_2] 46 (0, 0)) (by (with_reducible repeat (first | refine blk_drewN ?_ _ | refine blk_drew ?_ | refine blk_alloc ?_ _)); exact BK307.out) hb)
              have n5_ := Aside0.mk (blk_below (g := gb308) (o := .cells #[.int .u64 a1_0, .slice A1_1 l1_1.length c1_1, .slice A1_2 l1_2.length c1_2] 46 (0, 0)) (by (with_reducible repeat (first | refine blk_drewN ?_ _ | refine blk_drew ?_ | refine blk_alloc ?_ _)); exact BK308.out) hb)
              have n6_ := Aside0.mk (below_step (by repeat (first | (with_reducible first | exact HB.out | apply below_alloc | apply pw_below_drewN | apply below_drew1 | refine below_set ?_ GE307.out | refine below_set ?_ GE308.out) | exact HB.out)) hb)
              clear HO_308001
              clear HO_308002
              clear HO_309001
              clear HO_309002
              clear BK307
              clear BK308
              clear HB
              have HO_308001 := n0_
              have HO_308002 := n1_
              have HO_309001 := n2_
              have HO_309002 := n3_
              have BK307 := n4_
              have BK308 := n5_
              have HB := n6_
              clear n0_ n1_ n2_ n3_ n4_ n5_ n6_
              (try clear hb)
              (try clear hb2)
              (try clear hk)
              (try clear hi)
              refine hK.out _ _ ⟨(blk_cell BK307.out 0).trans rfl, (blk_cell BK307.out 1).trans rfl, (blk_cell BK307.out 2).trans rfl, (blk_cell BK308.out 0).trans rfl, (blk_cell BK308.out 1).trans rfl, (blk_cell BK308.out 2).trans rfl⟩ (fun hHeld => ?_)
              clear hK K
              refine norm_ (a' := ?_) ?_ ?_
              rotate_left
              · show Act.put _ (some 21) _ = _
                simp only [Act.put, List.setIfInBounds_toArray, List.set_cons_zero, List.set_cons_succ, i64_w, i32_w]
                rfl
              refine pure_ (i := 6) (N := some 22) (v := ?_) (a' := ?_) #[true, true, true, true, true, true, true, false, false, false, false, false, false, false, false, false, false, false, false, false, false, false, false, false, false, false, false, false, false] rfl rfl (any_of HT_.out (by kernel_rfl)) (fun _ _ _ h => h) (Or.inl ⟨by rfl, ?_⟩) ?_ ?_
              rotate_left
              · intro w'
                go_simp
                with_reducible rfl
              rotate_left
              · simp only [Act.put, List.setIfInBounds_toArray, List.set_cons_zero, List.set_cons_succ, i64_w, i32_w]
                rfl
              refine pure_ (i := 7) (N := some 23) (v := ?_) (a' := ?_) #[true, true, true, true, true, true, true, true, false, false, false, false, false, false, false, false, false, false, false, false, false, false, false, false, false, false, false, false, false] rfl rfl (any_of HT_.out (by kernel_rfl)) (fun _ _ _ h => h) (Or.inl ⟨by rfl, ?_⟩) ?_ ?_
              rotate_left
              · intro w'
                go_simp
                with_reducible rfl
              rotate_left
              · simp only [Act.put, List.setIfInBounds_toArray, List.set_cons_zero, List.set_cons_succ, i64_w, i32_w]
                rfl
              refine take_ (i := 8) (N := some 24) (v := ?_) (a' := ?_) #[true, true, true, true, true, true, true, true, true, false, false, false, false, false, false, false, false, false, false, false, false, false, false, false, false, false, false, false, false] rfl rfl (take_ofW HT_.out HW_.out (by kernel_rfl)) (fun _ _ _ h => h) (Or.inl ⟨by rfl, ?_⟩) hHeld ?_ ?_
              rotate_left
              · rintro w' ⟨s0, s1, s2, s3, s4, s5⟩
                go_simp
                with_reducible rfl
              rotate_left
              · simp only [Act.put, List.setIfInBounds_toArray, List.set_cons_zero, List.set_cons_succ, i64_w, i32_w]
                rfl
              refine take_ (i := 9) (N := some 25) (v := ?_) (a' := ?_) #[true, true, true, true, true, true, true, true, true, true, false, false, false, false, false, false, false, false, false, false, false, false, false, false, false, false, false, false, false] rfl rfl (take_ofW HT_.out HW_.out (by kernel_rfl)) (fun _ _ _ h => h) (Or.inl ⟨by rfl, ?_⟩) hHeld ?_ ?_
              rotate_left
              · rintro w' ⟨s0, s1, s2, s3, s4, s5⟩
                go_simp
                with_reducible rfl
              rotate_left
              · simp only [Act.put, List.setIfInBounds_toArray, List.set_cons_zero, List.set_cons_succ, i64_w, i32_w]
                rfl
              refine take_ (i := 11) (N := some 27) (v := ?_) (a' := ?_) #[true, true, true, true, true, true, true, true, true, true, false, true, false, false, false, false, false, false, false, false, false, false, false, false, false, false, false, false, false] rfl rfl (take_ofW HT_.out HW_.out (by kernel_rfl)) (fun _ _ _ h => h) (Or.inl ⟨by rfl, ?_⟩) hHeld ?_ ?_
              rotate_left
              · rintro w' ⟨s0, s1, s2, s3, s4, s5⟩
                go_simp
                with_reducible rfl
              rotate_left
              · simp only [Act.put, List.setIfInBounds_toArray, List.set_cons_zero, List.set_cons_succ, i64_w, i32_w]
                rfl
              refine take_ (i := 12) (N := some 28) (v := ?_) (a' := ?_) #[true, true, true, true, true, true, true, true, true, true, false, true, true, false, false, false, false, false, false, false, false, false, false, false, false, false, false, false, false] rfl rfl (take_ofW HT_.out HW_.out (by kernel_rfl)) (fun _ _ _ h => h) (Or.inl ⟨by rfl, ?_⟩) hHeld ?_ ?_
              rotate_left
              · rintro w' ⟨s0, s1, s2, s3, s4, s5⟩
                go_simp
                with_reducible rfl
              rotate_left
              · simp only [Act.put, List.setIfInBounds_toArray, List.set_cons_zero, List.set_cons_succ, i64_w, i32_w]
                rfl
              refine one_ (i := 10) (N := some 26) #[true, true, true, true, true, true, true, true, true, true, true, true, true, false, false, false, false, false, false, false, false, false, false, false, false, false, false, false, false] rfl rfl (one_of HT_.out (by kernel_rfl)) (by decide) (fun K hK => ?_)
              refine goes_ Try.func40 (by kernel_rfl) rfl #[.agg #[.int .u64 a1_0, .slice A1_1 l1_1.length c1_1, .slice A1_2 l1_2.length c1_2], .agg #[.int .u64 a0_0, .slice A0_1 l0_1.length c0_1, .slice A0_2 l0_2.length c0_2]] (by rfl) rfl rfl (by (try simp only [List.map_toArray, List.map_cons, List.map_nil]); first | done | rfl | (simp only [List.length_drop, List.length_take]; rfl)) ?_
              with_reducible refine (value_Same.calls a1_0 _ _ l1_1 _ _ l1_2 a0_0 _ _ l0_1 _ _ l0_2 t317 _ ?side1 ?side2 ?side3 ?side4 ?side5 ?side6 ?side7 ?side8 A24.out).mono ?_
              (case side1 => repeat (first | exact (Kd.V_reads' HO_309001.out).2.2 | (with_reducible refine Kd.C_alloc ?_ _) | (with_reducible refine Kd.C_drewN ?_ _) | (with_reducible refine Kd.C_drew ?_)))
              (case side2 => exact (Kd.V_reads' HO_309001.out).2.1)
              (case side3 => repeat (first | exact (Kd.V_reads' HO_309002.out).2.2 | (with_reducible refine Kd.C_alloc ?_ _) | (with_reducible refine Kd.C_drewN ?_ _) | (with_reducible refine Kd.C_drew ?_)))
              (case side4 => exact (Kd.V_reads' HO_309002.out).2.1)
              (case side5 => repeat (first | exact (Kd.V_reads' HO_308001.out).2.2 | (with_reducible refine Kd.C_alloc ?_ _) | (with_reducible refine Kd.C_drewN ?_ _) | (with_reducible refine Kd.C_drew ?_)))
              (case side6 => exact (Kd.V_reads' HO_308001.out).2.1)
              (case side7 => repeat (first | exact (Kd.V_reads' HO_308002.out).2.2 | (with_reducible refine Kd.C_alloc ?_ _) | (with_reducible refine Kd.C_drewN ?_ _) | (with_reducible refine Kd.C_drew ?_)))
              (case side8 => exact (Kd.V_reads' HO_308002.out).2.1)
              rintro e w34 ⟨rfl, hb⟩
              refine ⟨_, rfl, ?_⟩
              have n0_ := Aside0.mk (Kd.V_below (by (with_reducible repeat (first | apply Kd.V_alloc | apply Kd.V_drewN | apply Kd.V_drew)); exact HO_308001.out) hb)
              have n1_ := Aside0.mk (Kd.V_below (by (with_reducible repeat (first | apply Kd.V_alloc | apply Kd.V_drewN | apply Kd.V_drew)); exact HO_308002.out) hb)
              have n2_ := Aside0.mk (Kd.V_below (by (with_reducible repeat (first | apply Kd.V_alloc | apply Kd.V_drewN | apply Kd.V_drew)); exact HO_309001.out) hb)
              have n3_ := Aside0.mk (Kd.V_below (by (with_reducible repeat (first | apply Kd.V_alloc | apply Kd.V_drewN | apply Kd.V_drew)); exact HO_309002.out) hb)
              have n4_ := Aside0.mk (blk_below (g := gb307) (o := .cells #[.int .u64 a0_0, .slice A0_1 l0_1.length c0_1, .slice A0_2 l0_2.length c0_2] 46 (0, 0)) (by (with_reducible repeat (first | refine blk_drewN ?_ _ | refine blk_drew ?_ | refine blk_alloc ?_ _)); exact BK307.out) hb)
              have n5_ := Aside0.mk (blk_below (g := gb308) (o := .cells #[.int .u64 a1_0, .slice A1_1 l1_1.length c1_1, .slice A1_2 l1_2.length c1_2] 46 (0, 0)) (by (with_reducible repeat (first | refine blk_drewN ?_ _ | refine blk_drew ?_ | refine blk_alloc ?_ _)); exact BK308.out) hb)
              have n6_ := Aside0.mk (below_step (by repeat (first | (with_reducible first | exact HB.out | apply below_alloc | apply pw_below_drewN | apply below_drew1 | refine below_set ?_ GE307.out | refine below_set ?_ GE308.out) | exact HB.out)) hb)
              clear HO_308001
              clear HO_308002
              clear HO_309001
              clear HO_309002
              clear BK307
              clear BK308
              clear HB
              have HO_308001 := n0_
              have HO_308002 := n1_
              have HO_309001 := n2_
              have HO_309002 := n3_
              have BK307 := n4_
              have BK308 := n5_
              have HB := n6_
              clear n0_ n1_ n2_ n3_ n4_ n5_ n6_
              (try clear hb)
              (try clear hb2)
              (try clear hk)
              (try clear hi)
              refine hK.out _ _ ⟨(blk_cell BK307.out 0).trans rfl, (blk_cell BK307.out 1).trans rfl, (blk_cell BK307.out 2).trans rfl, (blk_cell BK308.out 0).trans rfl, (blk_cell BK308.out 1).trans rfl, (blk_cell BK308.out 2).trans rfl⟩ (fun hHeld => ?_)
              clear hK K
              refine norm_ (a' := ?_) ?_ ?_
              rotate_left
              · show Act.put _ (some 26) _ = _
                simp only [Act.put, List.setIfInBounds_toArray, List.set_cons_zero, List.set_cons_succ, i64_w, i32_w]
                rfl
              refine one_ (i := 13) (N := some 29) #[true, true, true, true, true, true, true, true, true, true, true, true, true, true, false, false, false, false, false, false, false, false, false, false, false, false, false, false, false] rfl rfl (one_of HT_.out (by kernel_rfl)) (by decide) (fun K hK => ?_)
              refine goes_ Try.func40 (by kernel_rfl) rfl #[.agg #[.int .u64 a0_0, .slice A0_1 l0_1.length c0_1, .slice A0_2 l0_2.length c0_2], .agg #[.int .u64 a1_0, .slice A1_1 l1_1.length c1_1, .slice A1_2 l1_2.length c1_2]] (by rfl) rfl rfl (by (try simp only [List.map_toArray, List.map_cons, List.map_nil]); first | done | rfl | (simp only [List.length_drop, List.length_take]; rfl)) ?_
              with_reducible refine (value_Same.calls a0_0 _ _ l0_1 _ _ l0_2 a1_0 _ _ l1_1 _ _ l1_2 t318 _ ?side1 ?side2 ?side3 ?side4 ?side5 ?side6 ?side7 ?side8 A25.out).mono ?_
              (case side1 => repeat (first | exact (Kd.V_reads' HO_308001.out).2.2 | (with_reducible refine Kd.C_alloc ?_ _) | (with_reducible refine Kd.C_drewN ?_ _) | (with_reducible refine Kd.C_drew ?_)))
              (case side2 => exact (Kd.V_reads' HO_308001.out).2.1)
              (case side3 => repeat (first | exact (Kd.V_reads' HO_308002.out).2.2 | (with_reducible refine Kd.C_alloc ?_ _) | (with_reducible refine Kd.C_drewN ?_ _) | (with_reducible refine Kd.C_drew ?_)))
              (case side4 => exact (Kd.V_reads' HO_308002.out).2.1)
              (case side5 => repeat (first | exact (Kd.V_reads' HO_309001.out).2.2 | (with_reducible refine Kd.C_alloc ?_ _) | (with_reducible refine Kd.C_drewN ?_ _) | (with_reducible refine Kd.C_drew ?_)))
              (case side6 => exact (Kd.V_reads' HO_309001.out).2.1)
              (case side7 => repeat (first | exact (Kd.V_reads' HO_309002.out).2.2 | (with_reducible refine Kd.C_alloc ?_ _) | (with_reducible refine Kd.C_drewN ?_ _) | (with_reducible refine Kd.C_drew ?_)))
              (case side8 => exact (Kd.V_reads' HO_309002.out).2.1)
              rintro e w35 ⟨rfl, hb⟩
              refine ⟨_, rfl, ?_⟩
              have n0_ := Aside0.mk (Kd.V_below (by (with_reducible repeat (first | apply Kd.V_alloc | apply Kd.V_drewN | apply Kd.V_drew)); exact HO_308001.out) hb)
              have n1_ := Aside0.mk (Kd.V_below (by (with_reducible repeat (first | apply Kd.V_alloc | apply Kd.V_drewN | apply Kd.V_drew)); exact HO_308002.out) hb)
              have n2_ := Aside0.mk (Kd.V_below (by (with_reducible repeat (first | apply Kd.V_alloc | apply Kd.V_drewN | apply Kd.V_drew)); exact HO_309001.out) hb)
              have n3_ := Aside0.mk (Kd.V_below (by (with_reducible repeat (first | apply Kd.V_alloc | apply Kd.V_drewN | apply Kd.V_drew)); exact HO_309002.out) hb)
              have n4_ := Aside0.mk (blk_below (g := gb307) (o := .cells #[.int .u64 a0_0, .slice A0_1 l0_1.length c0_1, .slice A0_2 l0_2.length c0_2] 46 (0, 0)) (by (with_reducible repeat (first | refine blk_drewN ?_ _ | refine blk_drew ?_ | refine blk_alloc ?_ _)); exact BK307.out) hb)
              have n5_ := Aside0.mk (blk_below (g := gb308) (o := .cells #[.int .u64 a1_0, .slice A1_1 l1_1.length c1_1, .slice A1_2 l1_2.length c1_2] 46 (0, 0)) (by (with_reducible repeat (first | refine blk_drewN ?_ _ | refine blk_drew ?_ | refine blk_alloc ?_ _)); exact BK308.out) hb)
              have n6_ := Aside0.mk (below_step (by repeat (first | (with_reducible first | exact HB.out | apply below_alloc | apply pw_below_drewN | apply below_drew1 | refine below_set ?_ GE307.out | refine below_set ?_ GE308.out) | exact HB.out)) hb)
              clear HO_308001
              clear HO_308002
              clear HO_309001
              clear HO_309002
              clear BK307
              clear BK308
              clear HB
              have HO_308001 := n0_
              have HO_308002 := n1_
              have HO_309001 := n2_
              have HO_309002 := n3_
              have BK307 := n4_
              have BK308 := n5_
              have HB := n6_
              clear n0_ n1_ n2_ n3_ n4_ n5_ n6_
              (try clear hb)
              (try clear hb2)
              (try clear hk)
              (try clear hi)
              refine hK.out _ _ ⟨(blk_cell BK307.out 0).trans rfl, (blk_cell BK307.out 1).trans rfl, (blk_cell BK307.out 2).trans rfl, (blk_cell BK308.out 0).trans rfl, (blk_cell BK308.out 1).trans rfl, (blk_cell BK308.out 2).trans rfl⟩ (fun hHeld => ?_)
              clear hK K
              refine norm_ (a' := ?_) ?_ ?_
              rotate_left
              · show Act.put _ (some 29) _ = _
                simp only [Act.put, List.setIfInBounds_toArray, List.set_cons_zero, List.set_cons_succ, i64_w, i32_w]
                rfl
              refine pure_ (i := 14) (N := some 30) (v := ?_) (a' := ?_) #[true, true, true, true, true, true, true, true, true, true, true, true, true, true, true, false, false, false, false, false, false, false, false, false, false, false, false, false, false] rfl rfl (any_of HT_.out (by kernel_rfl)) (fun _ _ _ h => h) (Or.inl ⟨by rfl, ?_⟩) ?_ ?_
              rotate_left
              · intro w'
                go_simp
                with_reducible rfl
              rotate_left
              · simp only [Act.put, List.setIfInBounds_toArray, List.set_cons_zero, List.set_cons_succ, i64_w, i32_w]
                rfl
              refine pure_ (i := 15) (N := some 31) (v := ?_) (a' := ?_) #[true, true, true, true, true, true, true, true, true, true, true, true, true, true, true, true, false, false, false, false, false, false, false, false, false, false, false, false, false] rfl rfl (any_of HT_.out (by kernel_rfl)) (fun _ _ _ h => h) (Or.inl ⟨by rfl, ?_⟩) ?_ ?_
              rotate_left
              · intro w'
                go_simp
                with_reducible rfl
              rotate_left
              · simp only [Act.put, List.setIfInBounds_toArray, List.set_cons_zero, List.set_cons_succ, i64_w, i32_w]
                rfl
              refine pure_ (i := 16) (N := some 32) (v := ?_) (a' := ?_) #[true, true, true, true, true, true, true, true, true, true, true, true, true, true, true, true, true, false, false, false, false, false, false, false, false, false, false, false, false] rfl rfl (any_of HT_.out (by kernel_rfl)) (fun _ _ _ h => h) (Or.inl ⟨by rfl, ?_⟩) ?_ ?_
              rotate_left
              · intro w'
                go_simp
                with_reducible rfl
              rotate_left
              · simp only [Act.put, List.setIfInBounds_toArray, List.set_cons_zero, List.set_cons_succ, i64_w, i32_w]
                rfl
              refine take_ (i := 17) (N := some 33) (v := ?_) (a' := ?_) #[true, true, true, true, true, true, true, true, true, true, true, true, true, true, true, true, true, true, false, false, false, false, false, false, false, false, false, false, false] rfl rfl (take_ofW HT_.out HW_.out (by kernel_rfl)) (fun _ _ _ h => h) (Or.inl ⟨by rfl, ?_⟩) hHeld ?_ ?_
              rotate_left
              · rintro w' ⟨s0, s1, s2, s3, s4, s5⟩
                go_simp
                with_reducible rfl
              rotate_left
              · simp only [Act.put, List.setIfInBounds_toArray, List.set_cons_zero, List.set_cons_succ, i64_w, i32_w]
                rfl
              refine take_ (i := 18) (N := some 34) (v := ?_) (a' := ?_) #[true, true, true, true, true, true, true, true, true, true, true, true, true, true, true, true, true, true, true, false, false, false, false, false, false, false, false, false, false] rfl rfl (take_ofW HT_.out HW_.out (by kernel_rfl)) (fun _ _ _ h => h) (Or.inl ⟨by rfl, ?_⟩) hHeld ?_ ?_
              rotate_left
              · rintro w' ⟨s0, s1, s2, s3, s4, s5⟩
                go_simp
                with_reducible rfl
              rotate_left
              · simp only [Act.put, List.setIfInBounds_toArray, List.set_cons_zero, List.set_cons_succ, i64_w, i32_w]
                rfl
              refine one_ (i := 19) (N := some 35) #[true, true, true, true, true, true, true, true, true, true, true, true, true, true, true, true, true, true, true, true, false, false, false, false, false, false, false, false, false] rfl rfl (one_of HT_.out (by kernel_rfl)) (by decide) (fun K hK => ?_)
              refine goes_ Try.func40 (by kernel_rfl) rfl #[.agg #[.int .u64 a0_0, .slice A0_1 l0_1.length c0_1, .slice A0_2 l0_2.length c0_2], .agg #[.int .u64 a0_0, .slice A0_1 l0_1.length c0_1, .slice A0_2 l0_2.length c0_2]] (by rfl) rfl rfl (by (try simp only [List.map_toArray, List.map_cons, List.map_nil]); first | done | rfl | (simp only [List.length_drop, List.length_take]; rfl)) ?_
              with_reducible refine (value_Same.calls a0_0 _ _ l0_1 _ _ l0_2 a0_0 _ _ l0_1 _ _ l0_2 true _ ?side1 ?side2 ?side3 ?side4 ?side5 ?side6 ?side7 ?side8 A27.out).mono ?_
              (case side1 => repeat (first | exact (Kd.V_reads' HO_308001.out).2.2 | (with_reducible refine Kd.C_alloc ?_ _) | (with_reducible refine Kd.C_drewN ?_ _) | (with_reducible refine Kd.C_drew ?_)))
              (case side2 => exact (Kd.V_reads' HO_308001.out).2.1)
              (case side3 => repeat (first | exact (Kd.V_reads' HO_308002.out).2.2 | (with_reducible refine Kd.C_alloc ?_ _) | (with_reducible refine Kd.C_drewN ?_ _) | (with_reducible refine Kd.C_drew ?_)))
              (case side4 => exact (Kd.V_reads' HO_308002.out).2.1)
              (case side5 => repeat (first | exact (Kd.V_reads' HO_308001.out).2.2 | (with_reducible refine Kd.C_alloc ?_ _) | (with_reducible refine Kd.C_drewN ?_ _) | (with_reducible refine Kd.C_drew ?_)))
              (case side6 => exact (Kd.V_reads' HO_308001.out).2.1)
              (case side7 => repeat (first | exact (Kd.V_reads' HO_308002.out).2.2 | (with_reducible refine Kd.C_alloc ?_ _) | (with_reducible refine Kd.C_drewN ?_ _) | (with_reducible refine Kd.C_drew ?_)))
              (case side8 => exact (Kd.V_reads' HO_308002.out).2.1)
              rintro e w36 ⟨rfl, hb⟩
              refine ⟨_, rfl, ?_⟩
              have n0_ := Aside0.mk (Kd.V_below (by (with_reducible repeat (first | apply Kd.V_alloc | apply Kd.V_drewN | apply Kd.V_drew)); exact HO_308001.out) hb)
              have n1_ := Aside0.mk (Kd.V_below (by (with_reducible repeat (first | apply Kd.V_alloc | apply Kd.V_drewN | apply Kd.V_drew)); exact HO_308002.out) hb)
              have n2_ := Aside0.mk (Kd.V_below (by (with_reducible repeat (first | apply Kd.V_alloc | apply Kd.V_drewN | apply Kd.V_drew)); exact HO_309001.out) hb)
              have n3_ := Aside0.mk (Kd.V_below (by (with_reducible repeat (first | apply Kd.V_alloc | apply Kd.V_drewN | apply Kd.V_drew)); exact HO_309002.out) hb)
              have n4_ := Aside0.mk (blk_below (g := gb307) (o := .cells #[.int .u64 a0_0, .slice A0_1 l0_1.length c0_1, .slice A0_2 l0_2.length c0_2] 46 (0, 0)) (by (with_reducible repeat (first | refine blk_drewN ?_ _ | refine blk_drew ?_ | refine blk_alloc ?_ _)); exact BK307.out) hb)
              have n5_ := Aside0.mk (blk_below (g := gb308) (o := .cells #[.int .u64 a1_0, .slice A1_1 l1_1.length c1_1, .slice A1_2 l1_2.length c1_2] 46 (0, 0)) (by (with_reducible repeat (first | refine blk_drewN ?_ _ | refine blk_drew ?_ | refine blk_alloc ?_ _)); exact BK308.out) hb)
              have n6_ := Aside0.mk (below_step (by repeat (first | (with_reducible first | exact HB.out | apply below_alloc | apply pw_below_drewN | apply below_drew1 | refine below_set ?_ GE307.out | refine below_set ?_ GE308.out) | exact HB.out)) hb)
              clear HO_308001
              clear HO_308002
              clear HO_309001
              clear HO_309002
              clear BK307
              clear BK308
              clear HB
              have HO_308001 := n0_
              have HO_308002 := n1_
              have HO_309001 := n2_
              have HO_309002 := n3_
              have BK307 := n4_
              have BK308 := n5_
              have HB := n6_
              clear n0_ n1_ n2_ n3_ n4_ n5_ n6_
              (try clear hb)
              (try clear hb2)
              (try clear hk)
              (try clear hi)
              refine hK.out _ _ ⟨(blk_cell BK307.out 0).trans rfl, (blk_cell BK307.out 1).trans rfl, (blk_cell BK307.out 2).trans rfl, (blk_cell BK308.out 0).trans rfl, (blk_cell BK308.out 1).trans rfl, (blk_cell BK308.out 2).trans rfl⟩ (fun hHeld => ?_)
              clear hK K
              refine norm_ (a' := ?_) ?_ ?_
              rotate_left
              · show Act.put _ (some 35) _ = _
                simp only [Act.put, List.setIfInBounds_toArray, List.set_cons_zero, List.set_cons_succ, i64_w, i32_w]
                rfl
              refine pure_ (i := 20) (N := some 36) (v := ?_) (a' := ?_) #[true, true, true, true, true, true, true, true, true, true, true, true, true, true, true, true, true, true, true, true, true, false, false, false, false, false, false, false, false] rfl rfl (any_of HT_.out (by kernel_rfl)) (fun _ _ _ h => h) (Or.inl ⟨by rfl, ?_⟩) ?_ ?_
              rotate_left
              · intro w'
                go_simp
                with_reducible rfl
              rotate_left
              · simp only [Act.put, List.setIfInBounds_toArray, List.set_cons_zero, List.set_cons_succ, i64_w, i32_w]
                rfl
              refine pure_ (i := 21) (N := some 37) (v := ?_) (a' := ?_) #[true, true, true, true, true, true, true, true, true, true, true, true, true, true, true, true, true, true, true, true, true, true, false, false, false, false, false, false, false] rfl rfl (any_of HT_.out (by kernel_rfl)) (fun _ _ _ h => h) (Or.inl ⟨by rfl, ?_⟩) ?_ ?_
              rotate_left
              · intro w'
                go_simp
                with_reducible rfl
              rotate_left
              · simp only [Act.put, List.setIfInBounds_toArray, List.set_cons_zero, List.set_cons_succ, i64_w, i32_w]
                rfl
              refine take_ (i := 22) (N := some 38) (v := ?_) (a' := ?_) #[true, true, true, true, true, true, true, true, true, true, true, true, true, true, true, true, true, true, true, true, true, true, true, false, false, false, false, false, false] rfl rfl (take_ofW HT_.out HW_.out (by kernel_rfl)) (fun _ _ _ h => h) (Or.inl ⟨by rfl, ?_⟩) hHeld ?_ ?_
              rotate_left
              · rintro w' ⟨s0, s1, s2, s3, s4, s5⟩
                go_simp
                with_reducible rfl
              rotate_left
              · simp only [Act.put, List.setIfInBounds_toArray, List.set_cons_zero, List.set_cons_succ, i64_w, i32_w]
                rfl
              refine take_ (i := 24) (N := some 40) (v := ?_) (a' := ?_) #[true, true, true, true, true, true, true, true, true, true, true, true, true, true, true, true, true, true, true, true, true, true, true, false, true, false, false, false, false] rfl rfl (take_ofW HT_.out HW_.out (by kernel_rfl)) (fun _ _ _ h => h) (Or.inl ⟨by rfl, ?_⟩) hHeld ?_ ?_
              rotate_left
              · rintro w' ⟨s0, s1, s2, s3, s4, s5⟩
                go_simp
                with_reducible rfl
              rotate_left
              · simp only [Act.put, List.setIfInBounds_toArray, List.set_cons_zero, List.set_cons_succ, i64_w, i32_w]
                rfl
              refine one_ (i := 23) (N := some 39) #[true, true, true, true, true, true, true, true, true, true, true, true, true, true, true, true, true, true, true, true, true, true, true, true, true, false, false, false, false] rfl rfl (one_of HT_.out (by kernel_rfl)) (by decide) (fun K hK => ?_)
              refine goes_ Try.func41 (by kernel_rfl) rfl #[.agg #[.int .u64 a0_0, .slice A0_1 l0_1.length c0_1, .slice A0_2 l0_2.length c0_2]] (by rfl) rfl rfl (by (try simp only [List.map_toArray, List.map_cons, List.map_nil]); first | done | rfl | (simp only [List.length_drop, List.length_take]; rfl)) ?_
              with_reducible refine (value_Count.calls kj2 a0_0 _ _ l0_1 _ _ l0_2 t320 _ ?side1 ?side2 ?side3 ?side4 A29.out).mono ?_
              (case side1 => repeat (first | exact (Kd.V_reads' HO_308001.out).2.2 | (with_reducible refine Kd.C_alloc ?_ _) | (with_reducible refine Kd.C_drewN ?_ _) | (with_reducible refine Kd.C_drew ?_)))
              (case side2 => exact (Kd.V_reads' HO_308001.out).2.1)
              (case side3 => repeat (first | exact (Kd.V_reads' HO_308002.out).2.2 | (with_reducible refine Kd.C_alloc ?_ _) | (with_reducible refine Kd.C_drewN ?_ _) | (with_reducible refine Kd.C_drew ?_)))
              (case side4 => exact (Kd.V_reads' HO_308002.out).2.1)
              rintro e w37 ⟨rfl, hb⟩
              refine ⟨_, rfl, ?_⟩
              have n0_ := Aside0.mk (Kd.V_below (by (with_reducible repeat (first | apply Kd.V_alloc | apply Kd.V_drewN | apply Kd.V_drew)); exact HO_308001.out) hb)
              have n1_ := Aside0.mk (Kd.V_below (by (with_reducible repeat (first | apply Kd.V_alloc | apply Kd.V_drewN | apply Kd.V_drew)); exact HO_308002.out) hb)
              have n2_ := Aside0.mk (Kd.V_below (by (with_reducible repeat (first | apply Kd.V_alloc | apply Kd.V_drewN | apply Kd.V_drew)); exact HO_309001.out) hb)
              have n3_ := Aside0.mk (Kd.V_below (by (with_reducible repeat (first | apply Kd.V_alloc | apply Kd.V_drewN | apply Kd.V_drew)); exact HO_309002.out) hb)
              have n4_ := Aside0.mk (blk_below (g := gb307) (o := .cells #[.int .u64 a0_0, .slice A0_1 l0_1.length c0_1, .slice A0_2 l0_2.length c0_2] 46 (0, 0)) (by (with_reducible repeat (first | refine blk_drewN ?_ _ | refine blk_drew ?_ | refine blk_alloc ?_ _)); exact BK307.out) hb)
              have n5_ := Aside0.mk (blk_below (g := gb308) (o := .cells #[.int .u64 a1_0, .slice A1_1 l1_1.length c1_1, .slice A1_2 l1_2.length c1_2] 46 (0, 0)) (by (with_reducible repeat (first | refine blk_drewN ?_ _ | refine blk_drew ?_ | refine blk_alloc ?_ _)); exact BK308.out) hb)
              have n6_ := Aside0.mk (below_step (by repeat (first | (with_reducible first | exact HB.out | apply below_alloc | apply pw_below_drewN | apply below_drew1 | refine below_set ?_ GE307.out | refine below_set ?_ GE308.out) | exact HB.out)) hb)
              clear HO_308001
              clear HO_308002
              clear HO_309001
              clear HO_309002
              clear BK307
              clear BK308
              clear HB
              have HO_308001 := n0_
              have HO_308002 := n1_
              have HO_309001 := n2_
              have HO_309002 := n3_
              have BK307 := n4_
              have BK308 := n5_
              have HB := n6_
              clear n0_ n1_ n2_ n3_ n4_ n5_ n6_
              (try clear hb)
              (try clear hb2)
              (try clear hk)
              (try clear hi)
              refine hK.out _ _ ⟨(blk_cell BK307.out 0).trans rfl, (blk_cell BK307.out 1).trans rfl, (blk_cell BK307.out 2).trans rfl, (blk_cell BK308.out 0).trans rfl, (blk_cell BK308.out 1).trans rfl, (blk_cell BK308.out 2).trans rfl⟩ (fun hHeld => ?_)
              clear hK K
              refine norm_ (a' := ?_) ?_ ?_
              rotate_left
              · show Act.put _ (some 39) _ = _
                simp only [Act.put, List.setIfInBounds_toArray, List.set_cons_zero, List.set_cons_succ, i64_w, i32_w]
                rfl
              refine one_ (i := 25) (N := some 41) #[true, true, true, true, true, true, true, true, true, true, true, true, true, true, true, true, true, true, true, true, true, true, true, true, true, true, false, false, false] rfl rfl (one_of HT_.out (by kernel_rfl)) (by decide) (fun K hK => ?_)
              refine goes_ Try.func42 (by kernel_rfl) rfl #[.agg #[.int .u64 a0_0, .slice A0_1 l0_1.length c0_1, .slice A0_2 l0_2.length c0_2], .int .i64 1099511627776] (by rfl) rfl rfl (by (try simp only [List.map_toArray, List.map_cons, List.map_nil]); first | done | rfl | (simp only [List.length_drop, List.length_take]; rfl)) ?_
              with_reducible refine (passepartoutref05_Count.calls kj2 a0_0 _ _ l0_1 _ _ l0_2 1099511627776 t321 _ ?side1 ?side2 ?side3 ?side4 A30.out).mono ?_
              (case side1 => repeat (first | exact (Kd.V_reads' HO_308001.out).2.2 | (with_reducible refine Kd.C_alloc ?_ _) | (with_reducible refine Kd.C_drewN ?_ _) | (with_reducible refine Kd.C_drew ?_)))
              (case side2 => exact (Kd.V_reads' HO_308001.out).2.1)
              (case side3 => repeat (first | exact (Kd.V_reads' HO_308002.out).2.2 | (with_reducible refine Kd.C_alloc ?_ _) | (with_reducible refine Kd.C_drewN ?_ _) | (with_reducible refine Kd.C_drew ?_)))
              (case side4 => exact (Kd.V_reads' HO_308002.out).2.1)
              rintro e w38 ⟨rfl, hb⟩
              refine ⟨_, rfl, ?_⟩
              have n0_ := Aside0.mk (Kd.V_below (by (with_reducible repeat (first | apply Kd.V_alloc | apply Kd.V_drewN | apply Kd.V_drew)); exact HO_308001.out) hb)
              have n1_ := Aside0.mk (Kd.V_below (by (with_reducible repeat (first | apply Kd.V_alloc | apply Kd.V_drewN | apply Kd.V_drew)); exact HO_308002.out) hb)
              have n2_ := Aside0.mk (Kd.V_below (by (with_reducible repeat (first | apply Kd.V_alloc | apply Kd.V_drewN | apply Kd.V_drew)); exact HO_309001.out) hb)
              have n3_ := Aside0.mk (Kd.V_below (by (with_reducible repeat (first | apply Kd.V_alloc | apply Kd.V_drewN | apply Kd.V_drew)); exact HO_309002.out) hb)
              have n4_ := Aside0.mk (blk_below (g := gb307) (o := .cells #[.int .u64 a0_0, .slice A0_1 l0_1.length c0_1, .slice A0_2 l0_2.length c0_2] 46 (0, 0)) (by (with_reducible repeat (first | refine blk_drewN ?_ _ | refine blk_drew ?_ | refine blk_alloc ?_ _)); exact BK307.out) hb)
              have n5_ := Aside0.mk (blk_below (g := gb308) (o := .cells #[.int .u64 a1_0, .slice A1_1 l1_1.length c1_1, .slice A1_2 l1_2.length c1_2] 46 (0, 0)) (by (with_reducible repeat (first | refine blk_drewN ?_ _ | refine blk_drew ?_ | refine blk_alloc ?_ _)); exact BK308.out) hb)
              have n6_ := Aside0.mk (below_step (by repeat (first | (with_reducible first | exact HB.out | apply below_alloc | apply pw_below_drewN | apply below_drew1 | refine below_set ?_ GE307.out | refine below_set ?_ GE308.out) | exact HB.out)) hb)
              clear HO_308001
              clear HO_308002
              clear HO_309001
              clear HO_309002
              clear BK307
              clear BK308
              clear HB
              have HO_308001 := n0_
              have HO_308002 := n1_
              have HO_309001 := n2_
              have HO_309002 := n3_
              have BK307 := n4_
              have BK308 := n5_
              have HB := n6_
              clear n0_ n1_ n2_ n3_ n4_ n5_ n6_
              (try clear hb)
              (try clear hb2)
              (try clear hk)
              (try clear hi)
              refine hK.out _ _ ⟨(blk_cell BK307.out 0).trans rfl, (blk_cell BK307.out 1).trans rfl, (blk_cell BK307.out 2).trans rfl, (blk_cell BK308.out 0).trans rfl, (blk_cell BK308.out 1).trans rfl, (blk_cell BK308.out 2).trans rfl⟩ (fun hHeld => ?_)
              clear hK K
              refine norm_ (a' := ?_) ?_ ?_
              rotate_left
              · show Act.put _ (some 41) _ = _
                simp only [Act.put, List.setIfInBounds_toArray, List.set_cons_zero, List.set_cons_succ, i64_w, i32_w]
                rfl
              refine pure_ (i := 26) (N := some 42) (v := ?_) (a' := ?_) #[true, true, true, true, true, true, true, true, true, true, true, true, true, true, true, true, true, true, true, true, true, true, true, true, true, true, true, false, false] rfl rfl (any_of HT_.out (by kernel_rfl)) (fun _ _ _ h => h) (Or.inl ⟨by rfl, ?_⟩) ?_ ?_
              rotate_left
              · intro w'
                go_simp
                with_reducible rfl
              rotate_left
              · simp only [Act.put, List.setIfInBounds_toArray, List.set_cons_zero, List.set_cons_succ, i64_w, i32_w]
                rfl
              refine pure_ (i := 27) (N := some 43) (v := ?_) (a' := ?_) #[true, true, true, true, true, true, true, true, true, true, true, true, true, true, true, true, true, true, true, true, true, true, true, true, true, true, true, true, false] rfl rfl (any_of HT_.out (by kernel_rfl)) (fun _ _ _ h => h) (Or.inl ⟨by rfl, ?_⟩) ?_ ?_
              rotate_left
              · intro w'
                go_simp
                with_reducible rfl
              rotate_left
              · simp only [Act.put, List.setIfInBounds_toArray, List.set_cons_zero, List.set_cons_succ, i64_w, i32_w]
                rfl
              refine pure_ (i := 28) (N := some 4) (v := ?_) (a' := ?_) #[true, true, true, true, true, true, true, true, true, true, true, true, true, true, true, true, true, true, true, true, true, true, true, true, true, true, true, true, true] rfl rfl (any_of HT_.out (by kernel_rfl)) (fun _ _ _ h => h) (Or.inl ⟨by rfl, ?_⟩) ?_ ?_
              rotate_left
              · intro w'
                go_simp
                with_reducible rfl
              rotate_left
              · simp only [Act.put, List.setIfInBounds_toArray, List.set_cons_zero, List.set_cons_succ, i64_w, i32_w]
                rfl
              refine done_ (done_of HT_.out (by kernel_rfl)) ?_
              try go_wp2
              go_ret
              exact ⟨by first | rfl | (simp [errW_none, errW_some] <;> rfl) | (simp [*, errW_none, errW_some] <;> rfl), by repeat (first | (with_reducible first | exact HB.out | apply below_alloc | apply pw_below_drewN | apply below_drew1 | refine below_set ?_ GE307.out | refine below_set ?_ GE308.out) | exact HB.out)⟩
            · replace c28 := Bool.eq_false_iff.mpr c28
              subst c28
              have H1 : (some false) = some r := by rw [if_neg (show ¬ (false = true) by decide)] at H; exact H
              clear H
              have H := H1
              clear H1
              obtain rfl := Option.some.inj H
              try go_wp2
              have n0_ := Aside0.mk (Kd.V_drew HO_308001.out)
              have n1_ := Aside0.mk (Kd.V_drew HO_308002.out)
              have n2_ := Aside0.mk (Kd.V_drew HO_309001.out)
              have n3_ := Aside0.mk (Kd.V_drew HO_309002.out)
              have n4_ := Aside0.mk (blk_drew BK307.out)
              have n5_ := Aside0.mk (blk_drew BK308.out)
              have n6_ := Aside0.mk (below_drew1 HB.out)
              clear HO_308001
              clear HO_308002
              clear HO_309001
              clear HO_309002
              clear BK307
              clear BK308
              clear HB
              have HO_308001 := n0_
              have HO_308002 := n1_
              have HO_309001 := n2_
              have HO_309002 := n3_
              have BK307 := n4_
              have BK308 := n5_
              have HB := n6_
              clear n0_ n1_ n2_ n3_ n4_ n5_ n6_
              refine start_ (n := 29) (S := fun w' => w'.cell? ⟨gb307, 0, none⟩ = some (.int .u64 a0_0) ∧ w'.cell? ⟨gb307, 1, none⟩ = some (.slice A0_1 l0_1.length c0_1) ∧ w'.cell? ⟨gb307, 2, none⟩ = some (.slice A0_2 l0_2.length c0_2) ∧ w'.cell? ⟨gb308, 0, none⟩ = some (.int .u64 a1_0) ∧ w'.cell? ⟨gb308, 1, none⟩ = some (.slice A1_1 l1_1.length c1_1) ∧ w'.cell? ⟨gb308, 2, none⟩ = some (.slice A1_2 l1_2.length c1_2)) (ds := []) #[false, false, false, false, false, false, false, false, false, false, false, false, false, false, false, false, false, false, false, false, false, false, false, false, false, false, false, false, false] (by kernel_rfl) rfl rfl ⟨(blk_cell BK307.out 0).trans rfl, (blk_cell BK307.out 1).trans rfl, (blk_cell BK307.out 2).trans rfl, (blk_cell BK308.out 0).trans rfl, (blk_cell BK308.out 1).trans rfl, (blk_cell BK308.out 2).trans rfl⟩ (fun hHeld => ?_); refine with_tabW passepartoutlaw05_ValueSames.tab3 passepartoutlaw05_ValueSames.bits3 (fun HT_ HW_ => ?_)
              generalize wc.drew = w39 at HO_308001 HO_308002 HO_309001 HO_309002 BK307 BK308 HB hHeld ⊢
              refine take_ (i := 0) (N := some 16) (v := ?_) (a' := ?_) #[true, false, false, false, false, false, false, false, false, false, false, false, false, false, false, false, false, false, false, false, false, false, false, false, false, false, false, false, false] rfl rfl (take_ofW HT_.out HW_.out (by kernel_rfl)) (fun _ _ _ h => h) (Or.inl ⟨by rfl, ?_⟩) hHeld ?_ ?_
              rotate_left
              · rintro w' ⟨s0, s1, s2, s3, s4, s5⟩
                go_simp
                with_reducible rfl
              rotate_left
              · simp only [Act.put, List.setIfInBounds_toArray, List.set_cons_zero, List.set_cons_succ, i64_w, i32_w]
                rfl
              refine take_ (i := 1) (N := some 17) (v := ?_) (a' := ?_) #[true, true, false, false, false, false, false, false, false, false, false, false, false, false, false, false, false, false, false, false, false, false, false, false, false, false, false, false, false] rfl rfl (take_ofW HT_.out HW_.out (by kernel_rfl)) (fun _ _ _ h => h) (Or.inl ⟨by rfl, ?_⟩) hHeld ?_ ?_
              rotate_left
              · rintro w' ⟨s0, s1, s2, s3, s4, s5⟩
                go_simp
                with_reducible rfl
              rotate_left
              · simp only [Act.put, List.setIfInBounds_toArray, List.set_cons_zero, List.set_cons_succ, i64_w, i32_w]
                rfl
              refine take_ (i := 3) (N := some 19) (v := ?_) (a' := ?_) #[true, true, false, true, false, false, false, false, false, false, false, false, false, false, false, false, false, false, false, false, false, false, false, false, false, false, false, false, false] rfl rfl (take_ofW HT_.out HW_.out (by kernel_rfl)) (fun _ _ _ h => h) (Or.inl ⟨by rfl, ?_⟩) hHeld ?_ ?_
              rotate_left
              · rintro w' ⟨s0, s1, s2, s3, s4, s5⟩
                go_simp
                with_reducible rfl
              rotate_left
              · simp only [Act.put, List.setIfInBounds_toArray, List.set_cons_zero, List.set_cons_succ, i64_w, i32_w]
                rfl
              refine take_ (i := 4) (N := some 20) (v := ?_) (a' := ?_) #[true, true, false, true, true, false, false, false, false, false, false, false, false, false, false, false, false, false, false, false, false, false, false, false, false, false, false, false, false] rfl rfl (take_ofW HT_.out HW_.out (by kernel_rfl)) (fun _ _ _ h => h) (Or.inl ⟨by rfl, ?_⟩) hHeld ?_ ?_
              rotate_left
              · rintro w' ⟨s0, s1, s2, s3, s4, s5⟩
                go_simp
                with_reducible rfl
              rotate_left
              · simp only [Act.put, List.setIfInBounds_toArray, List.set_cons_zero, List.set_cons_succ, i64_w, i32_w]
                rfl
              refine one_ (i := 2) (N := some 18) #[true, true, true, true, true, false, false, false, false, false, false, false, false, false, false, false, false, false, false, false, false, false, false, false, false, false, false, false, false] rfl rfl (one_of HT_.out (by kernel_rfl)) (by decide) (fun K hK => ?_)
              refine goes_ Try.func40 (by kernel_rfl) rfl #[.agg #[.int .u64 a0_0, .slice A0_1 l0_1.length c0_1, .slice A0_2 l0_2.length c0_2], .agg #[.int .u64 a1_0, .slice A1_1 l1_1.length c1_1, .slice A1_2 l1_2.length c1_2]] (by rfl) rfl rfl (by (try simp only [List.map_toArray, List.map_cons, List.map_nil]); first | done | rfl | (simp only [List.length_drop, List.length_take]; rfl)) ?_
              with_reducible refine (value_Same.calls a0_0 _ _ l0_1 _ _ l0_2 a1_0 _ _ l1_1 _ _ l1_2 t315 _ ?side1 ?side2 ?side3 ?side4 ?side5 ?side6 ?side7 ?side8 A21.out).mono ?_
              (case side1 => repeat (first | exact (Kd.V_reads' HO_308001.out).2.2 | (with_reducible refine Kd.C_alloc ?_ _) | (with_reducible refine Kd.C_drewN ?_ _) | (with_reducible refine Kd.C_drew ?_)))
              (case side2 => exact (Kd.V_reads' HO_308001.out).2.1)
              (case side3 => repeat (first | exact (Kd.V_reads' HO_308002.out).2.2 | (with_reducible refine Kd.C_alloc ?_ _) | (with_reducible refine Kd.C_drewN ?_ _) | (with_reducible refine Kd.C_drew ?_)))
              (case side4 => exact (Kd.V_reads' HO_308002.out).2.1)
              (case side5 => repeat (first | exact (Kd.V_reads' HO_309001.out).2.2 | (with_reducible refine Kd.C_alloc ?_ _) | (with_reducible refine Kd.C_drewN ?_ _) | (with_reducible refine Kd.C_drew ?_)))
              (case side6 => exact (Kd.V_reads' HO_309001.out).2.1)
              (case side7 => repeat (first | exact (Kd.V_reads' HO_309002.out).2.2 | (with_reducible refine Kd.C_alloc ?_ _) | (with_reducible refine Kd.C_drewN ?_ _) | (with_reducible refine Kd.C_drew ?_)))
              (case side8 => exact (Kd.V_reads' HO_309002.out).2.1)
              rintro e w40 ⟨rfl, hb⟩
              refine ⟨_, rfl, ?_⟩
              have n0_ := Aside0.mk (Kd.V_below (by (with_reducible repeat (first | apply Kd.V_alloc | apply Kd.V_drewN | apply Kd.V_drew)); exact HO_308001.out) hb)
              have n1_ := Aside0.mk (Kd.V_below (by (with_reducible repeat (first | apply Kd.V_alloc | apply Kd.V_drewN | apply Kd.V_drew)); exact HO_308002.out) hb)
              have n2_ := Aside0.mk (Kd.V_below (by (with_reducible repeat (first | apply Kd.V_alloc | apply Kd.V_drewN | apply Kd.V_drew)); exact HO_309001.out) hb)
              have n3_ := Aside0.mk (Kd.V_below (by (with_reducible repeat (first | apply Kd.V_alloc | apply Kd.V_drewN | apply Kd.V_drew)); exact HO_309002.out) hb)
              have n4_ := Aside0.mk (blk_below (g := gb307) (o := .cells #[.int .u64 a0_0, .slice A0_1 l0_1.length c0_1, .slice A0_2 l0_2.length c0_2] 46 (0, 0)) (by (with_reducible repeat (first | refine blk_drewN ?_ _ | refine blk_drew ?_ | refine blk_alloc ?_ _)); exact BK307.out) hb)
              have n5_ := Aside0.mk (blk_below (g := gb308) (o := .cells #[.int .u64 a1_0, .slice A1_1 l1_1.length c1_1, .slice A1_2 l1_2.length c1_2] 46 (0, 0)) (by (with_reducible repeat (first | refine blk_drewN ?_ _ | refine blk_drew ?_ | refine blk_alloc ?_ _)); exact BK308.out) hb)
              have n6_ := Aside0.mk (below_step (by repeat (first | (with_reducible first | exact HB.out | apply below_alloc | apply pw_below_drewN | apply below_drew1 | refine below_set ?_ GE307.out | refine below_set ?_ GE308.out) | exact HB.out)) hb)
              clear HO_308001
              clear HO_308002
              clear HO_309001
              clear HO_309002
              clear BK307
              clear BK308
              clear HB
              have HO_308001 := n0_
              have HO_308002 := n1_
              have HO_309001 := n2_
              have HO_309002 := n3_
              have BK307 := n4_
              have BK308 := n5_
              have HB := n6_
              clear n0_ n1_ n2_ n3_ n4_ n5_ n6_
              (try clear hb)
              (try clear hb2)
              (try clear hk)
              (try clear hi)
              refine hK.out _ _ ⟨(blk_cell BK307.out 0).trans rfl, (blk_cell BK307.out 1).trans rfl, (blk_cell BK307.out 2).trans rfl, (blk_cell BK308.out 0).trans rfl, (blk_cell BK308.out 1).trans rfl, (blk_cell BK308.out 2).trans rfl⟩ (fun hHeld => ?_)
              clear hK K
              refine norm_ (a' := ?_) ?_ ?_
              rotate_left
              · show Act.put _ (some 18) _ = _
                simp only [Act.put, List.setIfInBounds_toArray, List.set_cons_zero, List.set_cons_succ, i64_w, i32_w]
                rfl
              refine one_ (i := 5) (N := some 21) #[true, true, true, true, true, true, false, false, false, false, false, false, false, false, false, false, false, false, false, false, false, false, false, false, false, false, false, false, false] rfl rfl (one_of HT_.out (by kernel_rfl)) (by decide) (fun K hK => ?_)
              refine goes_ Try.func37 (by kernel_rfl) rfl #[.agg #[.int .u64 a0_0, .slice A0_1 l0_1.length c0_1, .slice A0_2 l0_2.length c0_2], .agg #[.int .u64 a1_0, .slice A1_1 l1_1.length c1_1, .slice A1_2 l1_2.length c1_2]] (by rfl) rfl rfl (by (try simp only [List.map_toArray, List.map_cons, List.map_nil]); first | done | rfl | (simp only [List.length_drop, List.length_take]; rfl)) ?_
              with_reducible refine (passepartoutref05_Same.calls kj2 a0_0 _ _ l0_1 _ _ l0_2 a1_0 _ _ l1_1 _ _ l1_2 t316 _ ?side1 ?side2 ?side3 ?side4 ?side5 ?side6 ?side7 ?side8 A22.out).mono ?_
              (case side1 => repeat (first | exact (Kd.V_reads' HO_308001.out).2.2 | (with_reducible refine Kd.C_alloc ?_ _) | (with_reducible refine Kd.C_drewN ?_ _) | (with_reducible refine Kd.C_drew ?_)))
              (case side2 => exact (Kd.V_reads' HO_308001.out).2.1)
              (case side3 => repeat (first | exact (Kd.V_reads' HO_308002.out).2.2 | (with_reducible refine Kd.C_alloc ?_ _) | (with_reducible refine Kd.C_drewN ?_ _) | (with_reducible refine Kd.C_drew ?_)))
              (case side4 => exact (Kd.V_reads' HO_308002.out).2.1)
              (case side5 => repeat (first | exact (Kd.V_reads' HO_309001.out).2.2 | (with_reducible refine Kd.C_alloc ?_ _) | (with_reducible refine Kd.C_drewN ?_ _) | (with_reducible refine Kd.C_drew ?_)))
              (case side6 => exact (Kd.V_reads' HO_309001.out).2.1)
              (case side7 => repeat (first | exact (Kd.V_reads' HO_309002.out).2.2 | (with_reducible refine Kd.C_alloc ?_ _) | (with_reducible refine Kd.C_drewN ?_ _) | (with_reducible refine Kd.C_drew ?_)))
              (case side8 => exact (Kd.V_reads' HO_309002.out).2.1)
              rintro e w41 ⟨rfl, hb⟩
              refine ⟨_, rfl, ?_⟩
              have n0_ := Aside0.mk (Kd.V_below (by (with_reducible repeat (first | apply Kd.V_alloc | apply Kd.V_drewN | apply Kd.V_drew)); exact HO_308001.out) hb)
              have n1_ := Aside0.mk (Kd.V_below (by (with_reducible repeat (first | apply Kd.V_alloc | apply Kd.V_drewN | apply Kd.V_drew)); exact HO_308002.out) hb)
              have n2_ := Aside0.mk (Kd.V_below (by (with_reducible repeat (first | apply Kd.V_alloc | apply Kd.V_drewN | apply Kd.V_drew)); exact HO_309001.out) hb)
              have n3_ := Aside0.mk (Kd.V_below (by (with_reducible repeat (first | apply Kd.V_alloc | apply Kd.V_drewN | apply Kd.V_drew)); exact HO_309002.out) hb)
              have n4_ := Aside0.mk (blk_below (g := gb307) (o := .cells #[.int .u64 a0_0, .slice A0_1 l0_1.length c0_1, .slice A0_2 l0_2.length c0_2] 46 (0, 0)) (by (with_reducible repeat (first | refine blk_drewN ?_ _ | refine blk_drew ?_ | refine blk_alloc ?_ _)); exact BK307.out) hb)
              have n5_ := Aside0.mk (blk_below (g := gb308) (o := .cells #[.int .u64 a1_0, .slice A1_1 l1_1.length c1_1, .slice A1_2 l1_2.length c1_2] 46 (0, 0)) (by (with_reducible repeat (first | refine blk_drewN ?_ _ | refine blk_drew ?_ | refine blk_alloc ?_ _)); exact BK308.out) hb)
              have n6_ := Aside0.mk (below_step (by repeat (first | (with_reducible first | exact HB.out | apply below_alloc | apply pw_below_drewN | apply below_drew1 | refine below_set ?_ GE307.out | refine below_set ?_ GE308.out) | exact HB.out)) hb)
              clear HO_308001
              clear HO_308002
              clear HO_309001
              clear HO_309002
              clear BK307
              clear BK308
              clear HB
              have HO_308001 := n0_
              have HO_308002 := n1_
              have HO_309001 := n2_
              have HO_309002 := n3_
              have BK307 := n4_
              have BK308 := n5_
              have HB := n6_
              clear n0_ n1_ n2_ n3_ n4_ n5_ n6_
              (try clear hb)
              (try clear hb2)
              (try clear hk)
              (try clear hi)
              refine hK.out _ _ ⟨(blk_cell BK307.out 0).trans rfl, (blk_cell BK307.out 1).trans rfl, (blk_cell BK307.out 2).trans rfl, (blk_cell BK308.out 0).trans rfl, (blk_cell BK308.out 1).trans rfl, (blk_cell BK308.out 2).trans rfl⟩ (fun hHeld => ?_)
              clear hK K
              refine norm_ (a' := ?_) ?_ ?_
              rotate_left
              · show Act.put _ (some 21) _ = _
                simp only [Act.put, List.setIfInBounds_toArray, List.set_cons_zero, List.set_cons_succ, i64_w, i32_w]
                rfl
              refine pure_ (i := 6) (N := some 22) (v := ?_) (a' := ?_) #[true, true, true, true, true, true, true, false, false, false, false, false, false, false, false, false, false, false, false, false, false, false, false, false, false, false, false, false, false] rfl rfl (any_of HT_.out (by kernel_rfl)) (fun _ _ _ h => h) (Or.inl ⟨by rfl, ?_⟩) ?_ ?_
              rotate_left
              · intro w'
                go_simp
                with_reducible rfl
              rotate_left
              · simp only [Act.put, List.setIfInBounds_toArray, List.set_cons_zero, List.set_cons_succ, i64_w, i32_w]
                rfl
              refine pure_ (i := 7) (N := some 23) (v := ?_) (a' := ?_) #[true, true, true, true, true, true, true, true, false, false, false, false, false, false, false, false, false, false, false, false, false, false, false, false, false, false, false, false, false] rfl rfl (any_of HT_.out (by kernel_rfl)) (fun _ _ _ h => h) (Or.inl ⟨by rfl, ?_⟩) ?_ ?_
              rotate_left
              · intro w'
                go_simp
                with_reducible rfl
              rotate_left
              · simp only [Act.put, List.setIfInBounds_toArray, List.set_cons_zero, List.set_cons_succ, i64_w, i32_w]
                rfl
              refine take_ (i := 8) (N := some 24) (v := ?_) (a' := ?_) #[true, true, true, true, true, true, true, true, true, false, false, false, false, false, false, false, false, false, false, false, false, false, false, false, false, false, false, false, false] rfl rfl (take_ofW HT_.out HW_.out (by kernel_rfl)) (fun _ _ _ h => h) (Or.inl ⟨by rfl, ?_⟩) hHeld ?_ ?_
              rotate_left
              · rintro w' ⟨s0, s1, s2, s3, s4, s5⟩
                go_simp
                with_reducible rfl
              rotate_left
              · simp only [Act.put, List.setIfInBounds_toArray, List.set_cons_zero, List.set_cons_succ, i64_w, i32_w]
                rfl
              refine take_ (i := 9) (N := some 25) (v := ?_) (a' := ?_) #[true, true, true, true, true, true, true, true, true, true, false, false, false, false, false, false, false, false, false, false, false, false, false, false, false, false, false, false, false] rfl rfl (take_ofW HT_.out HW_.out (by kernel_rfl)) (fun _ _ _ h => h) (Or.inl ⟨by rfl, ?_⟩) hHeld ?_ ?_
              rotate_left
              · rintro w' ⟨s0, s1, s2, s3, s4, s5⟩
                go_simp
                with_reducible rfl
              rotate_left
              · simp only [Act.put, List.setIfInBounds_toArray, List.set_cons_zero, List.set_cons_succ, i64_w, i32_w]
                rfl
              refine take_ (i := 11) (N := some 27) (v := ?_) (a' := ?_) #[true, true, true, true, true, true, true, true, true, true, false, true, false, false, false, false, false, false, false, false, false, false, false, false, false, false, false, false, false] rfl rfl (take_ofW HT_.out HW_.out (by kernel_rfl)) (fun _ _ _ h => h) (Or.inl ⟨by rfl, ?_⟩) hHeld ?_ ?_
              rotate_left
              · rintro w' ⟨s0, s1, s2, s3, s4, s5⟩
                go_simp
                with_reducible rfl
              rotate_left
              · simp only [Act.put, List.setIfInBounds_toArray, List.set_cons_zero, List.set_cons_succ, i64_w, i32_w]
                rfl
              refine take_ (i := 12) (N := some 28) (v := ?_) (a' := ?_) #[true, true, true, true, true, true, true, true, true, true, false, true, true, false, false, false, false, false, false, false, false, false, false, false, false, false, false, false, false] rfl rfl (take_ofW HT_.out HW_.out (by kernel_rfl)) (fun _ _ _ h => h) (Or.inl ⟨by rfl, ?_⟩) hHeld ?_ ?_
              rotate_left
              · rintro w' ⟨s0, s1, s2, s3, s4, s5⟩
                go_simp
                with_reducible rfl
              rotate_left
              · simp only [Act.put, List.setIfInBounds_toArray, List.set_cons_zero, List.set_cons_succ, i64_w, i32_w]
                rfl
              refine one_ (i := 10) (N := some 26) #[true, true, true, true, true, true, true, true, true, true, true, true, true, false, false, false, false, false, false, false, false, false, false, false, false, false, false, false, false] rfl rfl (one_of HT_.out (by kernel_rfl)) (by decide) (fun K hK => ?_)
              refine goes_ Try.func40 (by kernel_rfl) rfl #[.agg #[.int .u64 a1_0, .slice A1_1 l1_1.length c1_1, .slice A1_2 l1_2.length c1_2], .agg #[.int .u64 a0_0, .slice A0_1 l0_1.length c0_1, .slice A0_2 l0_2.length c0_2]] (by rfl) rfl rfl (by (try simp only [List.map_toArray, List.map_cons, List.map_nil]); first | done | rfl | (simp only [List.length_drop, List.length_take]; rfl)) ?_
              with_reducible refine (value_Same.calls a1_0 _ _ l1_1 _ _ l1_2 a0_0 _ _ l0_1 _ _ l0_2 t317 _ ?side1 ?side2 ?side3 ?side4 ?side5 ?side6 ?side7 ?side8 A24.out).mono ?_
              (case side1 => repeat (first | exact (Kd.V_reads' HO_309001.out).2.2 | (with_reducible refine Kd.C_alloc ?_ _) | (with_reducible refine Kd.C_drewN ?_ _) | (with_reducible refine Kd.C_drew ?_)))
              (case side2 => exact (Kd.V_reads' HO_309001.out).2.1)
              (case side3 => repeat (first | exact (Kd.V_reads' HO_309002.out).2.2 | (with_reducible refine Kd.C_alloc ?_ _) | (with_reducible refine Kd.C_drewN ?_ _) | (with_reducible refine Kd.C_drew ?_)))
              (case side4 => exact (Kd.V_reads' HO_309002.out).2.1)
              (case side5 => repeat (first | exact (Kd.V_reads' HO_308001.out).2.2 | (with_reducible refine Kd.C_alloc ?_ _) | (with_reducible refine Kd.C_drewN ?_ _) | (with_reducible refine Kd.C_drew ?_)))
              (case side6 => exact (Kd.V_reads' HO_308001.out).2.1)
              (case side7 => repeat (first | exact (Kd.V_reads' HO_308002.out).2.2 | (with_reducible refine Kd.C_alloc ?_ _) | (with_reducible refine Kd.C_drewN ?_ _) | (with_reducible refine Kd.C_drew ?_)))
              (case side8 => exact (Kd.V_reads' HO_308002.out).2.1)
              rintro e w42 ⟨rfl, hb⟩
              refine ⟨_, rfl, ?_⟩
              have n0_ := Aside0.mk (Kd.V_below (by (with_reducible repeat (first | apply Kd.V_alloc | apply Kd.V_drewN | apply Kd.V_drew)); exact HO_308001.out) hb)
              have n1_ := Aside0.mk (Kd.V_below (by (with_reducible repeat (first | apply Kd.V_alloc | apply Kd.V_drewN | apply Kd.V_drew)); exact HO_308002.out) hb)
              have n2_ := Aside0.mk (Kd.V_below (by (with_reducible repeat (first | apply Kd.V_alloc | apply Kd.V_drewN | apply Kd.V_drew)); exact HO_309001.out) hb)
              have n3_ := Aside0.mk (Kd.V_below (by (with_reducible repeat (first | apply Kd.V_alloc | apply Kd.V_drewN | apply Kd.V_drew)); exact HO_309002.out) hb)
              have n4_ := Aside0.mk (blk_below (g := gb307) (o := .cells #[.int .u64 a0_0, .slice A0_1 l0_1.length c0_1, .slice A0_2 l0_2.length c0_2] 46 (0, 0)) (by (with_reducible repeat (first | refine blk_drewN ?_ _ | refine blk_drew ?_ | refine blk_alloc ?_ _)); exact BK307.out) hb)
              have n5_ := Aside0.mk (blk_below (g := gb308) (o := .cells #[.int .u64 a1_0, .slice A1_1 l1_1.length c1_1, .slice A1_2 l1_2.length c1_2] 46 (0, 0)) (by (with_reducible repeat (first | refine blk_drewN ?_ _ | refine blk_drew ?_ | refine blk_alloc ?_ _)); exact BK308.out) hb)
              have n6_ := Aside0.mk (below_step (by repeat (first | (with_reducible first | exact HB.out | apply below_alloc | apply pw_below_drewN | apply below_drew1 | refine below_set ?_ GE307.out | refine below_set ?_ GE308.out) | exact HB.out)) hb)
              clear HO_308001
              clear HO_308002
              clear HO_309001
              clear HO_309002
              clear BK307
              clear BK308
              clear HB
              have HO_308001 := n0_
              have HO_308002 := n1_
              have HO_309001 := n2_
              have HO_309002 := n3_
              have BK307 := n4_
              have BK308 := n5_
              have HB := n6_
              clear n0_ n1_ n2_ n3_ n4_ n5_ n6_
              (try clear hb)
              (try clear hb2)
              (try clear hk)
              (try clear hi)
              refine hK.out _ _ ⟨(blk_cell BK307.out 0).trans rfl, (blk_cell BK307.out 1).trans rfl, (blk_cell BK307.out 2).trans rfl, (blk_cell BK308.out 0).trans rfl, (blk_cell BK308.out 1).trans rfl, (blk_cell BK308.out 2).trans rfl⟩ (fun hHeld => ?_)
              clear hK K
              refine norm_ (a' := ?_) ?_ ?_
              rotate_left
              · show Act.put _ (some 26) _ = _
                simp only [Act.put, List.setIfInBounds_toArray, List.set_cons_zero, List.set_cons_succ, i64_w, i32_w]
                rfl
              refine one_ (i := 13) (N := some 29) #[true, true, true, true, true, true, true, true, true, true, true, true, true, true, false, false, false, false, false, false, false, false, false, false, false, false, false, false, false] rfl rfl (one_of HT_.out (by kernel_rfl)) (by decide) (fun K hK => ?_)
              refine goes_ Try.func40 (by kernel_rfl) rfl #[.agg #[.int .u64 a0_0, .slice A0_1 l0_1.length c0_1, .slice A0_2 l0_2.length c0_2], .agg #[.int .u64 a1_0, .slice A1_1 l1_1.length c1_1, .slice A1_2 l1_2.length c1_2]] (by rfl) rfl rfl (by (try simp only [List.map_toArray, List.map_cons, List.map_nil]); first | done | rfl | (simp only [List.length_drop, List.length_take]; rfl)) ?_
              with_reducible refine (value_Same.calls a0_0 _ _ l0_1 _ _ l0_2 a1_0 _ _ l1_1 _ _ l1_2 t318 _ ?side1 ?side2 ?side3 ?side4 ?side5 ?side6 ?side7 ?side8 A25.out).mono ?_
              (case side1 => repeat (first | exact (Kd.V_reads' HO_308001.out).2.2 | (with_reducible refine Kd.C_alloc ?_ _) | (with_reducible refine Kd.C_drewN ?_ _) | (with_reducible refine Kd.C_drew ?_)))
              (case side2 => exact (Kd.V_reads' HO_308001.out).2.1)
              (case side3 => repeat (first | exact (Kd.V_reads' HO_308002.out).2.2 | (with_reducible refine Kd.C_alloc ?_ _) | (with_reducible refine Kd.C_drewN ?_ _) | (with_reducible refine Kd.C_drew ?_)))
              (case side4 => exact (Kd.V_reads' HO_308002.out).2.1)
              (case side5 => repeat (first | exact (Kd.V_reads' HO_309001.out).2.2 | (with_reducible refine Kd.C_alloc ?_ _) | (with_reducible refine Kd.C_drewN ?_ _) | (with_reducible refine Kd.C_drew ?_)))
              (case side6 => exact (Kd.V_reads' HO_309001.out).2.1)
              (case side7 => repeat (first | exact (Kd.V_reads' HO_309002.out).2.2 | (with_reducible refine Kd.C_alloc ?_ _) | (with_reducible refine Kd.C_drewN ?_ _) | (with_reducible refine Kd.C_drew ?_)))
              (case side8 => exact (Kd.V_reads' HO_309002.out).2.1)
              rintro e w43 ⟨rfl, hb⟩
              refine ⟨_, rfl, ?_⟩
              have n0_ := Aside0.mk (Kd.V_below (by (with_reducible repeat (first | apply Kd.V_alloc | apply Kd.V_drewN | apply Kd.V_drew)); exact HO_308001.out) hb)
              have n1_ := Aside0.mk (Kd.V_below (by (with_reducible repeat (first | apply Kd.V_alloc | apply Kd.V_drewN | apply Kd.V_drew)); exact HO_308002.out) hb)
              have n2_ := Aside0.mk (Kd.V_below (by (with_reducible repeat (first | apply Kd.V_alloc | apply Kd.V_drewN | apply Kd.V_drew)); exact HO_309001.out) hb)
              have n3_ := Aside0.mk (Kd.V_below (by (with_reducible repeat (first | apply Kd.V_alloc | apply Kd.V_drewN | apply Kd.V_drew)); exact HO_309002.out) hb)
              have n4_ := Aside0.mk (blk_below (g := gb307) (o := .cells #[.int .u64 a0_0, .slice A0_1 l0_1.length c0_1, .slice A0_2 l0_2.length c0_2] 46 (0, 0)) (by (with_reducible repeat (first | refine blk_drewN ?_ _ | refine blk_drew ?_ | refine blk_alloc ?_ _)); exact BK307.out) hb)
              have n5_ := Aside0.mk (blk_below (g := gb308) (o := .cells #[.int .u64 a1_0, .slice A1_1 l1_1.length c1_1, .slice A1_2 l1_2.length c1_2] 46 (0, 0)) (by (with_reducible repeat (first | refine blk_drewN ?_ _ | refine blk_drew ?_ | refine blk_alloc ?_ _)); exact BK308.out) hb)
              have n6_ := Aside0.mk (below_step (by repeat (first | (with_reducible first | exact HB.out | apply below_alloc | apply pw_below_drewN | apply below_drew1 | refine below_set ?_ GE307.out | refine below_set ?_ GE308.out) | exact HB.out)) hb)
              clear HO_308001
              clear HO_308002
              clear HO_309001
              clear HO_309002
              clear BK307
              clear BK308
              clear HB
              have HO_308001 := n0_
              have HO_308002 := n1_
              have HO_309001 := n2_
              have HO_309002 := n3_
              have BK307 := n4_
              have BK308 := n5_
              have HB := n6_
              clear n0_ n1_ n2_ n3_ n4_ n5_ n6_
              (try clear hb)
              (try clear hb2)
              (try clear hk)
              (try clear hi)
              refine hK.out _ _ ⟨(blk_cell BK307.out 0).trans rfl, (blk_cell BK307.out 1).trans rfl, (blk_cell BK307.out 2).trans rfl, (blk_cell BK308.out 0).trans rfl, (blk_cell BK308.out 1).trans rfl, (blk_cell BK308.out 2).trans rfl⟩ (fun hHeld => ?_)
              clear hK K
              refine norm_ (a' := ?_) ?_ ?_
              rotate_left
              · show Act.put _ (some 29) _ = _
                simp only [Act.put, List.setIfInBounds_toArray, List.set_cons_zero, List.set_cons_succ, i64_w, i32_w]
                rfl
              refine pure_ (i := 14) (N := some 30) (v := ?_) (a' := ?_) #[true, true, true, true, true, true, true, true, true, true, true, true, true, true, true, false, false, false, false, false, false, false, false, false, false, false, false, false, false] rfl rfl (any_of HT_.out (by kernel_rfl)) (fun _ _ _ h => h) (Or.inl ⟨by rfl, ?_⟩) ?_ ?_
              rotate_left
              · intro w'
                go_simp
                with_reducible rfl
              rotate_left
              · simp only [Act.put, List.setIfInBounds_toArray, List.set_cons_zero, List.set_cons_succ, i64_w, i32_w]
                rfl
              refine pure_ (i := 15) (N := some 31) (v := ?_) (a' := ?_) #[true, true, true, true, true, true, true, true, true, true, true, true, true, true, true, true, false, false, false, false, false, false, false, false, false, false, false, false, false] rfl rfl (any_of HT_.out (by kernel_rfl)) (fun _ _ _ h => h) (Or.inl ⟨by rfl, ?_⟩) ?_ ?_
              rotate_left
              · intro w'
                go_simp
                with_reducible rfl
              rotate_left
              · simp only [Act.put, List.setIfInBounds_toArray, List.set_cons_zero, List.set_cons_succ, i64_w, i32_w]
                rfl
              refine pure_ (i := 16) (N := some 32) (v := ?_) (a' := ?_) #[true, true, true, true, true, true, true, true, true, true, true, true, true, true, true, true, true, false, false, false, false, false, false, false, false, false, false, false, false] rfl rfl (any_of HT_.out (by kernel_rfl)) (fun _ _ _ h => h) (Or.inl ⟨by rfl, ?_⟩) ?_ ?_
              rotate_left
              · intro w'
                go_simp
                with_reducible rfl
              rotate_left
              · simp only [Act.put, List.setIfInBounds_toArray, List.set_cons_zero, List.set_cons_succ, i64_w, i32_w]
                rfl
              refine take_ (i := 17) (N := some 33) (v := ?_) (a' := ?_) #[true, true, true, true, true, true, true, true, true, true, true, true, true, true, true, true, true, true, false, false, false, false, false, false, false, false, false, false, false] rfl rfl (take_ofW HT_.out HW_.out (by kernel_rfl)) (fun _ _ _ h => h) (Or.inl ⟨by rfl, ?_⟩) hHeld ?_ ?_
              rotate_left
              · rintro w' ⟨s0, s1, s2, s3, s4, s5⟩
                go_simp
                with_reducible rfl
              rotate_left
              · simp only [Act.put, List.setIfInBounds_toArray, List.set_cons_zero, List.set_cons_succ, i64_w, i32_w]
                rfl
              refine take_ (i := 18) (N := some 34) (v := ?_) (a' := ?_) #[true, true, true, true, true, true, true, true, true, true, true, true, true, true, true, true, true, true, true, false, false, false, false, false, false, false, false, false, false] rfl rfl (take_ofW HT_.out HW_.out (by kernel_rfl)) (fun _ _ _ h => h) (Or.inl ⟨by rfl, ?_⟩) hHeld ?_ ?_
              rotate_left
              · rintro w' ⟨s0, s1, s2, s3, s4, s5⟩
                go_simp
                with_reducible rfl
              rotate_left
              · simp only [Act.put, List.setIfInBounds_toArray, List.set_cons_zero, List.set_cons_succ, i64_w, i32_w]
                rfl
              refine one_ (i := 19) (N := some 35) #[true, true, true, true, true, true, true, true, true, true, true, true, true, true, true, true, true, true, true, true, false, false, false, false, false, false, false, false, false] rfl rfl (one_of HT_.out (by kernel_rfl)) (by decide) (fun K hK => ?_)
              refine goes_ Try.func40 (by kernel_rfl) rfl #[.agg #[.int .u64 a0_0, .slice A0_1 l0_1.length c0_1, .slice A0_2 l0_2.length c0_2], .agg #[.int .u64 a0_0, .slice A0_1 l0_1.length c0_1, .slice A0_2 l0_2.length c0_2]] (by rfl) rfl rfl (by (try simp only [List.map_toArray, List.map_cons, List.map_nil]); first | done | rfl | (simp only [List.length_drop, List.length_take]; rfl)) ?_
              with_reducible refine (value_Same.calls a0_0 _ _ l0_1 _ _ l0_2 a0_0 _ _ l0_1 _ _ l0_2 false _ ?side1 ?side2 ?side3 ?side4 ?side5 ?side6 ?side7 ?side8 A27.out).mono ?_
              (case side1 => repeat (first | exact (Kd.V_reads' HO_308001.out).2.2 | (with_reducible refine Kd.C_alloc ?_ _) | (with_reducible refine Kd.C_drewN ?_ _) | (with_reducible refine Kd.C_drew ?_)))
              (case side2 => exact (Kd.V_reads' HO_308001.out).2.1)
              (case side3 => repeat (first | exact (Kd.V_reads' HO_308002.out).2.2 | (with_reducible refine Kd.C_alloc ?_ _) | (with_reducible refine Kd.C_drewN ?_ _) | (with_reducible refine Kd.C_drew ?_)))
              (case side4 => exact (Kd.V_reads' HO_308002.out).2.1)
              (case side5 => repeat (first | exact (Kd.V_reads' HO_308001.out).2.2 | (with_reducible refine Kd.C_alloc ?_ _) | (with_reducible refine Kd.C_drewN ?_ _) | (with_reducible refine Kd.C_drew ?_)))
              (case side6 => exact (Kd.V_reads' HO_308001.out).2.1)
              (case side7 => repeat (first | exact (Kd.V_reads' HO_308002.out).2.2 | (with_reducible refine Kd.C_alloc ?_ _) | (with_reducible refine Kd.C_drewN ?_ _) | (with_reducible refine Kd.C_drew ?_)))
              (case side8 => exact (Kd.V_reads' HO_308002.out).2.1)
              rintro e w44 ⟨rfl, hb⟩
              refine ⟨_, rfl, ?_⟩
              have n0_ := Aside0.mk (Kd.V_below (by (with_reducible repeat (first | apply Kd.V_alloc | apply Kd.V_drewN | apply Kd.V_drew)); exact HO_308001.out) hb)
              have n1_ := Aside0.mk (Kd.V_below (by (with_reducible repeat (first | apply Kd.V_alloc | apply Kd.V_drewN | apply Kd.V_drew)); exact HO_308002.out) hb)
              have n2_ := Aside0.mk (Kd.V_below (by (with_reducible repeat (first | apply Kd.V_alloc | apply Kd.V_drewN | apply Kd.V_drew)); exact HO_309001.out) hb)
              have n3_ := Aside0.mk (Kd.V_below (by (with_reducible repeat (first | apply Kd.V_alloc | apply Kd.V_drewN | apply Kd.V_drew)); exact HO_309002.out) hb)
              have n4_ := Aside0.mk (blk_below (g := gb307) (o := .cells #[.int .u64 a0_0, .slice A0_1 l0_1.length c0_1, .slice A0_2 l0_2.length c0_2] 46 (0, 0)) (by (with_reducible repeat (first | refine blk_drewN ?_ _ | refine blk_drew ?_ | refine blk_alloc ?_ _)); exact BK307.out) hb)
              have n5_ := Aside0.mk (blk_below (g := gb308) (o := .cells #[.int .u64 a1_0, .slice A1_1 l1_1.length c1_1, .slice A1_2 l1_2.length c1_2] 46 (0, 0)) (by (with_reducible repeat (first | refine blk_drewN ?_ _ | refine blk_drew ?_ | refine blk_alloc ?_ _)); exact BK308.out) hb)
              have n6_ := Aside0.mk (below_step (by repeat (first | (with_reducible first | exact HB.out | apply below_alloc | apply pw_below_drewN | apply below_drew1 | refine below_set ?_ GE307.out | refine below_set ?_ GE308.out) | exact HB.out)) hb)
              clear HO_308001
              clear HO_308002
              clear HO_309001
              clear HO_309002
              clear BK307
              clear BK308
              clear HB
              have HO_308001 := n0_
              have HO_308002 := n1_
              have HO_309001 := n2_
              have HO_309002 := n3_
              have BK307 := n4_
              have BK308 := n5_
              have HB := n6_
              clear n0_ n1_ n2_ n3_ n4_ n5_ n6_
              (try clear hb)
              (try clear hb2)
              (try clear hk)
              (try clear hi)
              refine hK.out _ _ ⟨(blk_cell BK307.out 0).trans rfl, (blk_cell BK307.out 1).trans rfl, (blk_cell BK307.out 2).trans rfl, (blk_cell BK308.out 0).trans rfl, (blk_cell BK308.out 1).trans rfl, (blk_cell BK308.out 2).trans rfl⟩ (fun hHeld => ?_)
              clear hK K
              refine norm_ (a' := ?_) ?_ ?_
              rotate_left
              · show Act.put _ (some 35) _ = _
                simp only [Act.put, List.setIfInBounds_toArray, List.set_cons_zero, List.set_cons_succ, i64_w, i32_w]
                rfl
              refine pure_ (i := 20) (N := some 36) (v := ?_) (a' := ?_) #[true, true, true, true, true, true, true, true, true, true, true, true, true, true, true, true, true, true, true, true, true, false, false, false, false, false, false, false, false] rfl rfl (any_of HT_.out (by kernel_rfl)) (fun _ _ _ h => h) (Or.inl ⟨by rfl, ?_⟩) ?_ ?_
              rotate_left
              · intro w'
                go_simp
                with_reducible rfl
              rotate_left
              · simp only [Act.put, List.setIfInBounds_toArray, List.set_cons_zero, List.set_cons_succ, i64_w, i32_w]
                rfl
              refine pure_ (i := 21) (N := some 37) (v := ?_) (a' := ?_) #[true, true, true, true, true, true, true, true, true, true, true, true, true, true, true, true, true, true, true, true, true, true, false, false, false, false, false, false, false] rfl rfl (any_of HT_.out (by kernel_rfl)) (fun _ _ _ h => h) (Or.inl ⟨by rfl, ?_⟩) ?_ ?_
              rotate_left
              · intro w'
                go_simp
                with_reducible rfl
              rotate_left
              · simp only [Act.put, List.setIfInBounds_toArray, List.set_cons_zero, List.set_cons_succ, i64_w, i32_w]
                rfl
              refine pure_ (i := 22) (N := some 38) (v := undef) (a' := ?_) #[true, true, true, true, true, true, true, true, true, true, true, true, true, true, true, true, true, true, true, true, true, true, true, false, false, false, false, false, false] rfl rfl (any_of HT_.out (by kernel_rfl)) (fun _ _ _ h => h) (Or.inr ⟨by rfl, rfl⟩) ?_ ?_
              rotate_left
              · simp only [Act.put, List.setIfInBounds_toArray, List.set_cons_zero, List.set_cons_succ, i64_w, i32_w]
                rfl
              refine pure_ (i := 23) (N := some 39) (v := undef) (a' := ?_) #[true, true, true, true, true, true, true, true, true, true, true, true, true, true, true, true, true, true, true, true, true, true, true, true, false, false, false, false, false] rfl rfl (any_of HT_.out (by kernel_rfl)) (fun _ _ _ h => h) (Or.inr ⟨by rfl, rfl⟩) ?_ ?_
              rotate_left
              · simp only [Act.put, List.setIfInBounds_toArray, List.set_cons_zero, List.set_cons_succ, i64_w, i32_w]
                rfl
              refine pure_ (i := 24) (N := some 40) (v := undef) (a' := ?_) #[true, true, true, true, true, true, true, true, true, true, true, true, true, true, true, true, true, true, true, true, true, true, true, true, true, false, false, false, false] rfl rfl (any_of HT_.out (by kernel_rfl)) (fun _ _ _ h => h) (Or.inr ⟨by rfl, rfl⟩) ?_ ?_
              rotate_left
              · simp only [Act.put, List.setIfInBounds_toArray, List.set_cons_zero, List.set_cons_succ, i64_w, i32_w]
                rfl
              refine pure_ (i := 25) (N := some 41) (v := undef) (a' := ?_) #[true, true, true, true, true, true, true, true, true, true, true, true, true, true, true, true, true, true, true, true, true, true, true, true, true, true, false, false, false] rfl rfl (any_of HT_.out (by kernel_rfl)) (fun _ _ _ h => h) (Or.inr ⟨by rfl, rfl⟩) ?_ ?_
              rotate_left
              · simp only [Act.put, List.setIfInBounds_toArray, List.set_cons_zero, List.set_cons_succ, i64_w, i32_w]
                rfl
              refine pure_ (i := 26) (N := some 42) (v := undef) (a' := ?_) #[true, true, true, true, true, true, true, true, true, true, true, true, true, true, true, true, true, true, true, true, true, true, true, true, true, true, true, false, false] rfl rfl (any_of HT_.out (by kernel_rfl)) (fun _ _ _ h => h) (Or.inr ⟨by rfl, rfl⟩) ?_ ?_
              rotate_left
              · simp only [Act.put, List.setIfInBounds_toArray, List.set_cons_zero, List.set_cons_succ, i64_w, i32_w]
                rfl
              refine pure_ (i := 27) (N := some 43) (v := ?_) (a' := ?_) #[true, true, true, true, true, true, true, true, true, true, true, true, true, true, true, true, true, true, true, true, true, true, true, true, true, true, true, true, false] rfl rfl (any_of HT_.out (by kernel_rfl)) (fun _ _ _ h => h) (Or.inl ⟨by rfl, ?_⟩) ?_ ?_
              rotate_left
              · intro w'
                go_simp
                with_reducible rfl
              rotate_left
              · simp only [Act.put, List.setIfInBounds_toArray, List.set_cons_zero, List.set_cons_succ, i64_w, i32_w]
                rfl
              refine pure_ (i := 28) (N := some 4) (v := ?_) (a' := ?_) #[true, true, true, true, true, true, true, true, true, true, true, true, true, true, true, true, true, true, true, true, true, true, true, true, true, true, true, true, true] rfl rfl (any_of HT_.out (by kernel_rfl)) (fun _ _ _ h => h) (Or.inl ⟨by rfl, ?_⟩) ?_ ?_
              rotate_left
              · intro w'
                go_simp
                with_reducible rfl
              rotate_left
              · simp only [Act.put, List.setIfInBounds_toArray, List.set_cons_zero, List.set_cons_succ, i64_w, i32_w]
                rfl
              refine done_ (done_of HT_.out (by kernel_rfl)) ?_
              try go_wp2
              go_ret
              exact ⟨by first | rfl | (simp [errW_none, errW_some] <;> rfl) | (simp [*, errW_none, errW_some] <;> rfl), by repeat (first | (with_reducible first | exact HB.out | apply below_alloc | apply pw_below_drewN | apply below_drew1 | refine below_set ?_ GE307.out | refine below_set ?_ GE308.out) | exact HB.out)⟩
          · rw [if_neg c26] at H
            have c26b0 : (t317 == t318) = false := by simpa using c26
            (try (have c26b1 : decide (t317 = t318) = false := by simpa using c26))
            (try (have c26b2 : (t317 == t318) = false := by simpa using c26))
            (try (have c26b3 : ¬ (t317 = t318) := by simpa using c26))
            clear c26
            obtain rfl := Option.some.inj H
            try go_wp2
            have n0_ := Aside0.mk (Kd.V_drew HO_308001.out)
            have n1_ := Aside0.mk (Kd.V_drew HO_308002.out)
            have n2_ := Aside0.mk (Kd.V_drew HO_309001.out)
            have n3_ := Aside0.mk (Kd.V_drew HO_309002.out)
            have n4_ := Aside0.mk (blk_drew BK307.out)
            have n5_ := Aside0.mk (blk_drew BK308.out)
            have n6_ := Aside0.mk (below_drew1 HB.out)
            clear HO_308001
            clear HO_308002
            clear HO_309001
            clear HO_309002
            clear BK307
            clear BK308
            clear HB
            have HO_308001 := n0_
            have HO_308002 := n1_
            have HO_309001 := n2_
            have HO_309002 := n3_
            have BK307 := n4_
            have BK308 := n5_
            have HB := n6_
            clear n0_ n1_ n2_ n3_ n4_ n5_ n6_
            refine start_ (n := 29) (S := fun w' => w'.cell? ⟨gb307, 0, none⟩ = some (.int .u64 a0_0) ∧ w'.cell? ⟨gb307, 1, none⟩ = some (.slice A0_1 l0_1.length c0_1) ∧ w'.cell? ⟨gb307, 2, none⟩ = some (.slice A0_2 l0_2.length c0_2) ∧ w'.cell? ⟨gb308, 0, none⟩ = some (.int .u64 a1_0) ∧ w'.cell? ⟨gb308, 1, none⟩ = some (.slice A1_1 l1_1.length c1_1) ∧ w'.cell? ⟨gb308, 2, none⟩ = some (.slice A1_2 l1_2.length c1_2)) (ds := []) #[false, false, false, false, false, false, false, false, false, false, false, false, false, false, false, false, false, false, false, false, false, false, false, false, false, false, false, false, false] (by kernel_rfl) rfl rfl ⟨(blk_cell BK307.out 0).trans rfl, (blk_cell BK307.out 1).trans rfl, (blk_cell BK307.out 2).trans rfl, (blk_cell BK308.out 0).trans rfl, (blk_cell BK308.out 1).trans rfl, (blk_cell BK308.out 2).trans rfl⟩ (fun hHeld => ?_); refine with_tabW passepartoutlaw05_ValueSames.tab3 passepartoutlaw05_ValueSames.bits3 (fun HT_ HW_ => ?_)
            generalize wc.drew = w45 at HO_308001 HO_308002 HO_309001 HO_309002 BK307 BK308 HB hHeld ⊢
            refine take_ (i := 0) (N := some 16) (v := ?_) (a' := ?_) #[true, false, false, false, false, false, false, false, false, false, false, false, false, false, false, false, false, false, false, false, false, false, false, false, false, false, false, false, false] rfl rfl (take_ofW HT_.out HW_.out (by kernel_rfl)) (fun _ _ _ h => h) (Or.inl ⟨by rfl, ?_⟩) hHeld ?_ ?_
            rotate_left
            · rintro w' ⟨s0, s1, s2, s3, s4, s5⟩
              go_simp
              with_reducible rfl
            rotate_left
            · simp only [Act.put, List.setIfInBounds_toArray, List.set_cons_zero, List.set_cons_succ, i64_w, i32_w]
              rfl
            refine take_ (i := 1) (N := some 17) (v := ?_) (a' := ?_) #[true, true, false, false, false, false, false, false, false, false, false, false, false, false, false, false, false, false, false, false, false, false, false, false, false, false, false, false, false] rfl rfl (take_ofW HT_.out HW_.out (by kernel_rfl)) (fun _ _ _ h => h) (Or.inl ⟨by rfl, ?_⟩) hHeld ?_ ?_
            rotate_left
            · rintro w' ⟨s0, s1, s2, s3, s4, s5⟩
              go_simp
              with_reducible rfl
            rotate_left
            · simp only [Act.put, List.setIfInBounds_toArray, List.set_cons_zero, List.set_cons_succ, i64_w, i32_w]
              rfl
            refine take_ (i := 3) (N := some 19) (v := ?_) (a' := ?_) #[true, true, false, true, false, false, false, false, false, false, false, false, false, false, false, false, false, false, false, false, false, false, false, false, false, false, false, false, false] rfl rfl (take_ofW HT_.out HW_.out (by kernel_rfl)) (fun _ _ _ h => h) (Or.inl ⟨by rfl, ?_⟩) hHeld ?_ ?_
            rotate_left
            · rintro w' ⟨s0, s1, s2, s3, s4, s5⟩
              go_simp
              with_reducible rfl
            rotate_left
            · simp only [Act.put, List.setIfInBounds_toArray, List.set_cons_zero, List.set_cons_succ, i64_w, i32_w]
              rfl
            refine take_ (i := 4) (N := some 20) (v := ?_) (a' := ?_) #[true, true, false, true, true, false, false, false, false, false, false, false, false, false, false, false, false, false, false, false, false, false, false, false, false, false, false, false, false] rfl rfl (take_ofW HT_.out HW_.out (by kernel_rfl)) (fun _ _ _ h => h) (Or.inl ⟨by rfl, ?_⟩) hHeld ?_ ?_
            rotate_left
            · rintro w' ⟨s0, s1, s2, s3, s4, s5⟩
              go_simp
              with_reducible rfl
            rotate_left
            · simp only [Act.put, List.setIfInBounds_toArray, List.set_cons_zero, List.set_cons_succ, i64_w, i32_w]
              rfl
            refine one_ (i := 2) (N := some 18) #[true, true, true, true, true, false, false, false, false, false, false, false, false, false, false, false, false, false, false, false, false, false, false, false, false, false, false, false, false] rfl rfl (one_of HT_.out (by kernel_rfl)) (by decide) (fun K hK => ?_)
            refine goes_ Try.func40 (by kernel_rfl) rfl #[.agg #[.int .u64 a0_0, .slice A0_1 l0_1.length c0_1, .slice A0_2 l0_2.length c0_2], .agg #[.int .u64 a1_0, .slice A1_1 l1_1.length c1_1, .slice A1_2 l1_2.length c1_2]] (by rfl) rfl rfl (by (try simp only [List.map_toArray, List.map_cons, List.map_nil]); first | done | rfl | (simp only [List.length_drop, List.length_take]; rfl)) ?_
            with_reducible refine (value_Same.calls a0_0 _ _ l0_1 _ _ l0_2 a1_0 _ _ l1_1 _ _ l1_2 t315 _ ?side1 ?side2 ?side3 ?side4 ?side5 ?side6 ?side7 ?side8 A21.out).mono ?_
            (case side1 => repeat (first | exact (Kd.V_reads' HO_308001.out).2.2 | (with_reducible refine Kd.C_alloc ?_ _) | (with_reducible refine Kd.C_drewN ?_ _) | (with_reducible refine Kd.C_drew ?_)))
            (case side2 => exact (Kd.V_reads' HO_308001.out).2.1)
            (case side3 => repeat (first | exact (Kd.V_reads' HO_308002.out).2.2 | (with_reducible refine Kd.C_alloc ?_ _) | (with_reducible refine Kd.C_drewN ?_ _) | (with_reducible refine Kd.C_drew ?_)))
            (case side4 => exact (Kd.V_reads' HO_308002.out).2.1)
            (case side5 => repeat (first | exact (Kd.V_reads' HO_309001.out).2.2 | (with_reducible refine Kd.C_alloc ?_ _) | (with_reducible refine Kd.C_drewN ?_ _) | (with_reducible refine Kd.C_drew ?_)))
            (case side6 => exact (Kd.V_reads' HO_309001.out).2.1)
            (case side7 => repeat (first | exact (Kd.V_reads' HO_309002.out).2.2 | (with_reducible refine Kd.C_alloc ?_ _) | (with_reducible refine Kd.C_drewN ?_ _) | (with_reducible refine Kd.C_drew ?_)))
            (case side8 => exact (Kd.V_reads' HO_309002.out).2.1)
            rintro e w46 ⟨rfl, hb⟩
            refine ⟨_, rfl, ?_⟩
            have n0_ := Aside0.mk (Kd.V_below (by (with_reducible repeat (first | apply Kd.V_alloc | apply Kd.V_drewN | apply Kd.V_drew)); exact HO_308001.out) hb)
            have n1_ := Aside0.mk (Kd.V_below (by (with_reducible repeat (first | apply Kd.V_alloc | apply Kd.V_drewN | apply Kd.V_drew)); exact HO_308002.out) hb)
            have n2_ := Aside0.mk (Kd.V_below (by (with_reducible repeat (first | apply Kd.V_alloc | apply Kd.V_drewN | apply Kd.V_drew)); exact HO_309001.out) hb)
            have n3_ := Aside0.mk (Kd.V_below (by (with_reducible repeat (first | apply Kd.V_alloc | apply Kd.V_drewN | apply Kd.V_drew)); exact HO_309002.out) hb)
            have n4_ := Aside0.mk (blk_below (g := gb307) (o := .cells #[.int .u64 a0_0, .slice A0_1 l0_1.length c0_1, .slice A0_2 l0_2.length c0_2] 46 (0, 0)) (by (with_reducible repeat (first | refine blk_drewN ?_ _ | refine blk_drew ?_ | refine blk_alloc ?_ _)); exact BK307.out) hb)
            have n5_ := Aside0.mk (blk_below (g := gb308) (o := .cells #[.int .u64 a1_0, .slice A1_1 l1_1.length c1_1, .slice A1_2 l1_2.length c1_2] 46 (0, 0)) (by (with_reducible repeat (first | refine blk_drewN ?_ _ | refine blk_drew ?_ | refine blk_alloc ?_ _)); exact BK308.out) hb)
            have n6_ := Aside0.mk (below_step (by repeat (first | (with_reducible first | exact HB.out | apply below_alloc | apply pw_below_drewN | apply below_drew1 | refine below_set ?_ GE307.out | refine below_set ?_ GE308.out) | exact HB.out)) hb)
            clear HO_308001
            clear HO_308002
            clear HO_309001
            clear HO_309002
            clear BK307
            clear BK308
            clear HB
            have HO_308001 := n0_
            have HO_308002 := n1_
            have HO_309001 := n2_
            have HO_309002 := n3_
            have BK307 := n4_
            have BK308 := n5_
            have HB := n6_
            clear n0_ n1_ n2_ n3_ n4_ n5_ n6_
            (try clear hb)
            (try clear hb2)
            (try clear hk)
            (try clear hi)
            refine hK.out _ _ ⟨(blk_cell BK307.out 0).trans rfl, (blk_cell BK307.out 1).trans rfl, (blk_cell BK307.out 2).trans rfl, (blk_cell BK308.out 0).trans rfl, (blk_cell BK308.out 1).trans rfl, (blk_cell BK308.out 2).trans rfl⟩ (fun hHeld => ?_)
            clear hK K
            refine norm_ (a' := ?_) ?_ ?_
            rotate_left
            · show Act.put _ (some 18) _ = _
              simp only [Act.put, List.setIfInBounds_toArray, List.set_cons_zero, List.set_cons_succ, i64_w, i32_w]
              rfl
            refine one_ (i := 5) (N := some 21) #[true, true, true, true, true, true, false, false, false, false, false, false, false, false, false, false, false, false, false, false, false, false, false, false, false, false, false, false, false] rfl rfl (one_of HT_.out (by kernel_rfl)) (by decide) (fun K hK => ?_)
            refine goes_ Try.func37 (by kernel_rfl) rfl #[.agg #[.int .u64 a0_0, .slice A0_1 l0_1.length c0_1, .slice A0_2 l0_2.length c0_2], .agg #[.int .u64 a1_0, .slice A1_1 l1_1.length c1_1, .slice A1_2 l1_2.length c1_2]] (by rfl) rfl rfl (by (try simp only [List.map_toArray, List.map_cons, List.map_nil]); first | done | rfl | (simp only [List.length_drop, List.length_take]; rfl)) ?_
            with_reducible refine (passepartoutref05_Same.calls kj2 a0_0 _ _ l0_1 _ _ l0_2 a1_0 _ _ l1_1 _ _ l1_2 t316 _ ?side1 ?side2 ?side3 ?side4 ?side5 ?side6 ?side7 ?side8 A22.out).mono ?_
            (case side1 => repeat (first | exact (Kd.V_reads' HO_308001.out).2.2 | (with_reducible refine Kd.C_alloc ?_ _) | (with_reducible refine Kd.C_drewN ?_ _) | (with_reducible refine Kd.C_drew ?_)))
            (case side2 => exact (Kd.V_reads' HO_308001.out).2.1)
            (case side3 => repeat (first | exact (Kd.V_reads' HO_308002.out).2.2 | (with_reducible refine Kd.C_alloc ?_ _) | (with_reducible refine Kd.C_drewN ?_ _) | (with_reducible refine Kd.C_drew ?_)))
            (case side4 => exact (Kd.V_reads' HO_308002.out).2.1)
            (case side5 => repeat (first | exact (Kd.V_reads' HO_309001.out).2.2 | (with_reducible refine Kd.C_alloc ?_ _) | (with_reducible refine Kd.C_drewN ?_ _) | (with_reducible refine Kd.C_drew ?_)))
            (case side6 => exact (Kd.V_reads' HO_309001.out).2.1)
            (case side7 => repeat (first | exact (Kd.V_reads' HO_309002.out).2.2 | (with_reducible refine Kd.C_alloc ?_ _) | (with_reducible refine Kd.C_drewN ?_ _) | (with_reducible refine Kd.C_drew ?_)))
            (case side8 => exact (Kd.V_reads' HO_309002.out).2.1)
            rintro e w47 ⟨rfl, hb⟩
            refine ⟨_, rfl, ?_⟩
            have n0_ := Aside0.mk (Kd.V_below (by (with_reducible repeat (first | apply Kd.V_alloc | apply Kd.V_drewN | apply Kd.V_drew)); exact HO_308001.out) hb)
            have n1_ := Aside0.mk (Kd.V_below (by (with_reducible repeat (first | apply Kd.V_alloc | apply Kd.V_drewN | apply Kd.V_drew)); exact HO_308002.out) hb)
            have n2_ := Aside0.mk (Kd.V_below (by (with_reducible repeat (first | apply Kd.V_alloc | apply Kd.V_drewN | apply Kd.V_drew)); exact HO_309001.out) hb)
            have n3_ := Aside0.mk (Kd.V_below (by (with_reducible repeat (first | apply Kd.V_alloc | apply Kd.V_drewN | apply Kd.V_drew)); exact HO_309002.out) hb)
            have n4_ := Aside0.mk (blk_below (g := gb307) (o := .cells #[.int .u64 a0_0, .slice A0_1 l0_1.length c0_1, .slice A0_2 l0_2.length c0_2] 46 (0, 0)) (by (with_reducible repeat (first | refine blk_drewN ?_ _ | refine blk_drew ?_ | refine blk_alloc ?_ _)); exact BK307.out) hb)
            have n5_ := Aside0.mk (blk_below (g := gb308) (o := .cells #[.int .u64 a1_0, .slice A1_1 l1_1.length c1_1, .slice A1_2 l1_2.length c1_2] 46 (0, 0)) (by (with_reducible repeat (first | refine blk_drewN ?_ _ | refine blk_drew ?_ | refine blk_alloc ?_ _)); exact BK308.out) hb)
            have n6_ := Aside0.mk (below_step (by repeat (first | (with_reducible first | exact HB.out | apply below_alloc | apply pw_below_drewN | apply below_drew1 | refine below_set ?_ GE307.out | refine below_set ?_ GE308.out) | exact HB.out)) hb)
            clear HO_308001
            clear HO_308002
            clear HO_309001
            clear HO_309002
            clear BK307
            clear BK308
            clear HB
            have HO_308001 := n0_
            have HO_308002 := n1_
            have HO_309001 := n2_
            have HO_309002 := n3_
            have BK307 := n4_
            have BK308 := n5_
            have HB := n6_
            clear n0_ n1_ n2_ n3_ n4_ n5_ n6_
            (try clear hb)
            (try clear hb2)
            (try clear hk)
            (try clear hi)
            refine hK.out _ _ ⟨(blk_cell BK307.out 0).trans rfl, (blk_cell BK307.out 1).trans rfl, (blk_cell BK307.out 2).trans rfl, (blk_cell BK308.out 0).trans rfl, (blk_cell BK308.out 1).trans rfl, (blk_cell BK308.out 2).trans rfl⟩ (fun hHeld => ?_)
            clear hK K
            refine norm_ (a' := ?_) ?_ ?_
            rotate_left
            · show Act.put _ (some 21) _ = _
              simp only [Act.put, List.setIfInBounds_toArray, List.set_cons_zero, List.set_cons_succ, i64_w, i32_w]
              rfl
            refine pure_ (i := 6) (N := some 22) (v := ?_) (a' := ?_) #[true, true, true, true, true, true, true, false, false, false, false, false, false, false, false, false, false, false, false, false, false, false, false, false, false, false, false, false, false] rfl rfl (any_of HT_.out (by kernel_rfl)) (fun _ _ _ h => h) (Or.inl ⟨by rfl, ?_⟩) ?_ ?_
            rotate_left
            · intro w'
              go_simp
              with_reducible rfl
            rotate_left
            · simp only [Act.put, List.setIfInBounds_toArray, List.set_cons_zero, List.set_cons_succ, i64_w, i32_w]
              rfl
            refine pure_ (i := 7) (N := some 23) (v := ?_) (a' := ?_) #[true, true, true, true, true, true, true, true, false, false, false, false, false, false, false, false, false, false, false, false, false, false, false, false, false, false, false, false, false] rfl rfl (any_of HT_.out (by kernel_rfl)) (fun _ _ _ h => h) (Or.inl ⟨by rfl, ?_⟩) ?_ ?_
            rotate_left
            · intro w'
              go_simp
              with_reducible rfl
            rotate_left
            · simp only [Act.put, List.setIfInBounds_toArray, List.set_cons_zero, List.set_cons_succ, i64_w, i32_w]
              rfl
            refine take_ (i := 8) (N := some 24) (v := ?_) (a' := ?_) #[true, true, true, true, true, true, true, true, true, false, false, false, false, false, false, false, false, false, false, false, false, false, false, false, false, false, false, false, false] rfl rfl (take_ofW HT_.out HW_.out (by kernel_rfl)) (fun _ _ _ h => h) (Or.inl ⟨by rfl, ?_⟩) hHeld ?_ ?_
            rotate_left
            · rintro w' ⟨s0, s1, s2, s3, s4, s5⟩
              go_simp
              with_reducible rfl
            rotate_left
            · simp only [Act.put, List.setIfInBounds_toArray, List.set_cons_zero, List.set_cons_succ, i64_w, i32_w]
              rfl
            refine take_ (i := 9) (N := some 25) (v := ?_) (a' := ?_) #[true, true, true, true, true, true, true, true, true, true, false, false, false, false, false, false, false, false, false, false, false, false, false, false, false, false, false, false, false] rfl rfl (take_ofW HT_.out HW_.out (by kernel_rfl)) (fun _ _ _ h => h) (Or.inl ⟨by rfl, ?_⟩) hHeld ?_ ?_
            rotate_left
            · rintro w' ⟨s0, s1, s2, s3, s4, s5⟩
              go_simp
              with_reducible rfl
            rotate_left
            · simp only [Act.put, List.setIfInBounds_toArray, List.set_cons_zero, List.set_cons_succ, i64_w, i32_w]
              rfl
            refine take_ (i := 11) (N := some 27) (v := ?_) (a' := ?_) #[true, true, true, true, true, true, true, true, true, true, false, true, false, false, false, false, false, false, false, false, false, false, false, false, false, false, false, false, false] rfl rfl (take_ofW HT_.out HW_.out (by kernel_rfl)) (fun _ _ _ h => h) (Or.inl ⟨by rfl, ?_⟩) hHeld ?_ ?_
            rotate_left
            · rintro w' ⟨s0, s1, s2, s3, s4, s5⟩
              go_simp
              with_reducible rfl
            rotate_left
            · simp only [Act.put, List.setIfInBounds_toArray, List.set_cons_zero, List.set_cons_succ, i64_w, i32_w]
              rfl
            refine take_ (i := 12) (N := some 28) (v := ?_) (a' := ?_) #[true, true, true, true, true, true, true, true, true, true, false, true, true, false, false, false, false, false, false, false, false, false, false, false, false, false, false, false, false] rfl rfl (take_ofW HT_.out HW_.out (by kernel_rfl)) (fun _ _ _ h => h) (Or.inl ⟨by rfl, ?_⟩) hHeld ?_ ?_
            rotate_left
            · rintro w' ⟨s0, s1, s2, s3, s4, s5⟩
              go_simp
              with_reducible rfl
            rotate_left
            · simp only [Act.put, List.setIfInBounds_toArray, List.set_cons_zero, List.set_cons_succ, i64_w, i32_w]
              rfl
            refine one_ (i := 10) (N := some 26) #[true, true, true, true, true, true, true, true, true, true, true, true, true, false, false, false, false, false, false, false, false, false, false, false, false, false, false, false, false] rfl rfl (one_of HT_.out (by kernel_rfl)) (by decide) (fun K hK => ?_)
            refine goes_ Try.func40 (by kernel_rfl) rfl #[.agg #[.int .u64 a1_0, .slice A1_1 l1_1.length c1_1, .slice A1_2 l1_2.length c1_2], .agg #[.int .u64 a0_0, .slice A0_1 l0_1.length c0_1, .slice A0_2 l0_2.length c0_2]] (by rfl) rfl rfl (by (try simp only [List.map_toArray, List.map_cons, List.map_nil]); first | done | rfl | (simp only [List.length_drop, List.length_take]; rfl)) ?_
            with_reducible refine (value_Same.calls a1_0 _ _ l1_1 _ _ l1_2 a0_0 _ _ l0_1 _ _ l0_2 t317 _ ?side1 ?side2 ?side3 ?side4 ?side5 ?side6 ?side7 ?side8 A24.out).mono ?_
            (case side1 => repeat (first | exact (Kd.V_reads' HO_309001.out).2.2 | (with_reducible refine Kd.C_alloc ?_ _) | (with_reducible refine Kd.C_drewN ?_ _) | (with_reducible refine Kd.C_drew ?_)))
            (case side2 => exact (Kd.V_reads' HO_309001.out).2.1)
            (case side3 => repeat (first | exact (Kd.V_reads' HO_309002.out).2.2 | (with_reducible refine Kd.C_alloc ?_ _) | (with_reducible refine Kd.C_drewN ?_ _) | (with_reducible refine Kd.C_drew ?_)))
            (case side4 => exact (Kd.V_reads' HO_309002.out).2.1)
            (case side5 => repeat (first | exact (Kd.V_reads' HO_308001.out).2.2 | (with_reducible refine Kd.C_alloc ?_ _) | (with_reducible refine Kd.C_drewN ?_ _) | (with_reducible refine Kd.C_drew ?_)))
            (case side6 => exact (Kd.V_reads' HO_308001.out).2.1)
            (case side7 => repeat (first | exact (Kd.V_reads' HO_308002.out).2.2 | (with_reducible refine Kd.C_alloc ?_ _) | (with_reducible refine Kd.C_drewN ?_ _) | (with_reducible refine Kd.C_drew ?_)))
            (case side8 => exact (Kd.V_reads' HO_308002.out).2.1)
            rintro e w48 ⟨rfl, hb⟩
            refine ⟨_, rfl, ?_⟩
            have n0_ := Aside0.mk (Kd.V_below (by (with_reducible repeat (first | apply Kd.V_alloc | apply Kd.V_drewN | apply Kd.V_drew)); exact HO_308001.out) hb)
            have n1_ := Aside0.mk (Kd.V_below (by (with_reducible repeat (first | apply Kd.V_alloc | apply Kd.V_drewN | apply Kd.V_drew)); exact HO_308002.out) hb)
            have n2_ := Aside0.mk (Kd.V_below (by (with_reducible repeat (first | apply Kd.V_alloc | apply Kd.V_drewN | apply Kd.V_drew)); exact HO_309001.out) hb)
            have n3_ := Aside0.mk (Kd.V_below (by (with_reducible repeat (first | apply Kd.V_alloc | apply Kd.V_drewN | apply Kd.V_drew)); exact HO_309002.out) hb)
            have n4_ := Aside0.mk (blk_below (g := gb307) (o := .cells #[.int .u64 a0_0, .slice A0_1 l0_1.length c0_1, .slice A0_2 l0_2.length c0_2] 46 (0, 0)) (by (with_reducible repeat (first | refine blk_drewN ?_ _ | refine blk_drew ?_ | refine blk_alloc ?_ _)); exact BK307.out) hb)
            have n5_ := Aside0.mk (blk_below (g := gb308) (o := .cells #[.int .u64 a1_0, .slice A1_1 l1_1.length c1_1, .slice A1_2 l1_2.length c1_2] 46 (0, 0)) (by (with_reducible repeat (first | refine blk_drewN ?_ _ | refine blk_drew ?_ | refine blk_alloc ?_ _)); exact BK308.out) hb)
            have n6_ := Aside0.mk (below_step (by repeat (first | (with_reducible first | exact HB.out | apply below_alloc | apply pw_below_drewN | apply below_drew1 | refine below_set ?_ GE307.out | refine below_set ?_ GE308.out) | exact HB.out)) hb)
            clear HO_308001
            clear HO_308002
            clear HO_309001
            clear HO_309002
            clear BK307
            clear BK308
            clear HB
            have HO_308001 := n0_
            have HO_308002 := n1_
            have HO_309001 := n2_
            have HO_309002 := n3_
            have BK307 := n4_
            have BK308 := n5_
            have HB := n6_
            clear n0_ n1_ n2_ n3_ n4_ n5_ n6_
            (try clear hb)
            (try clear hb2)
            (try clear hk)
            (try clear hi)
            refine hK.out _ _ ⟨(blk_cell BK307.out 0).trans rfl, (blk_cell BK307.out 1).trans rfl, (blk_cell BK307.out 2).trans rfl, (blk_cell BK308.out 0).trans rfl, (blk_cell BK308.out 1).trans rfl, (blk_cell BK308.out 2).trans rfl⟩ (fun hHeld => ?_)
            clear hK K
            refine norm_ (a' := ?_) ?_ ?_
            rotate_left
            · show Act.put _ (some 26) _ = _
              simp only [Act.put, List.setIfInBounds_toArray, List.set_cons_zero, List.set_cons_succ, i64_w, i32_w]
              rfl
            refine one_ (i := 13) (N := some 29) #[true, true, true, true, true, true, true, true, true, true, true, true, true, true, false, false, false, false, false, false, false, false, false, false, false, false, false, false, false] rfl rfl (one_of HT_.out (by kernel_rfl)) (by decide) (fun K hK => ?_)
            refine goes_ Try.func40 (by kernel_rfl) rfl #[.agg #[.int .u64 a0_0, .slice A0_1 l0_1.length c0_1, .slice A0_2 l0_2.length c0_2], .agg #[.int .u64 a1_0, .slice A1_1 l1_1.length c1_1, .slice A1_2 l1_2.length c1_2]] (by rfl) rfl rfl (by (try simp only [List.map_toArray, List.map_cons, List.map_nil]); first | done | rfl | (simp only [List.length_drop, List.length_take]; rfl)) ?_
            with_reducible refine (value_Same.calls a0_0 _ _ l0_1 _ _ l0_2 a1_0 _ _ l1_1 _ _ l1_2 t318 _ ?side1 ?side2 ?side3 ?side4 ?side5 ?side6 ?side7 ?side8 A25.out).mono ?_
            (case side1 => repeat (first | exact (Kd.V_reads' HO_308001.out).2.2 | (with_reducible refine Kd.C_alloc ?_ _) | (with_reducible refine Kd.C_drewN ?_ _) | (with_reducible refine Kd.C_drew ?_)))
            (case side2 => exact (Kd.V_reads' HO_308001.out).2.1)
            (case side3 => repeat (first | exact (Kd.V_reads' HO_308002.out).2.2 | (with_reducible refine Kd.C_alloc ?_ _) | (with_reducible refine Kd.C_drewN ?_ _) | (with_reducible refine Kd.C_drew ?_)))
            (case side4 => exact (Kd.V_reads' HO_308002.out).2.1)
            (case side5 => repeat (first | exact (Kd.V_reads' HO_309001.out).2.2 | (with_reducible refine Kd.C_alloc ?_ _) | (with_reducible refine Kd.C_drewN ?_ _) | (with_reducible refine Kd.C_drew ?_)))
            (case side6 => exact (Kd.V_reads' HO_309001.out).2.1)
            (case side7 => repeat (first | exact (Kd.V_reads' HO_309002.out).2.2 | (with_reducible refine Kd.C_alloc ?_ _) | (with_reducible refine Kd.C_drewN ?_ _) | (with_reducible refine Kd.C_drew ?_)))
            (case side8 => exact (Kd.V_reads' HO_309002.out).2.1)
            rintro e w49 ⟨rfl, hb⟩
            refine ⟨_, rfl, ?_⟩
            have n0_ := Aside0.mk (Kd.V_below (by (with_reducible repeat (first | apply Kd.V_alloc | apply Kd.V_drewN | apply Kd.V_drew)); exact HO_308001.out) hb)
            have n1_ := Aside0.mk (Kd.V_below (by (with_reducible repeat (first | apply Kd.V_alloc | apply Kd.V_drewN | apply Kd.V_drew)); exact HO_308002.out) hb)
            have n2_ := Aside0.mk (Kd.V_below (by (with_reducible repeat (first | apply Kd.V_alloc | apply Kd.V_drewN | apply Kd.V_drew)); exact HO_309001.out) hb)
            have n3_ := Aside0.mk (Kd.V_below (by (with_reducible repeat (first | apply Kd.V_alloc | apply Kd.V_drewN | apply Kd.V_drew)); exact HO_309002.out) hb)
            have n4_ := Aside0.mk (blk_below (g := gb307) (o := .cells #[.int .u64 a0_0, .slice A0_1 l0_1.length c0_1, .slice A0_2 l0_2.length c0_2] 46 (0, 0)) (by (with_reducible repeat (first | refine blk_drewN ?_ _ | refine blk_drew ?_ | refine blk_alloc ?_ _)); exact BK307.out) hb)
            have n5_ := Aside0.mk (blk_below (g := gb308) (o := .cells #[.int .u64 a1_0, .slice A1_1 l1_1.length c1_1, .slice A1_2 l1_2.length c1_2] 46 (0, 0)) (by (with_reducible repeat (first | refine blk_drewN ?_ _ | refine blk_drew ?_ | refine blk_alloc ?_ _)); exact BK308.out) hb)
            have n6_ := Aside0.mk (below_step (by repeat (first | (with_reducible first | exact HB.out | apply below_alloc | apply pw_below_drewN | apply below_drew1 | refine below_set ?_ GE307.out | refine below_set ?_ GE308.out) | exact HB.out)) hb)
            clear HO_308001
            clear HO_308002
            clear HO_309001
            clear HO_309002
            clear BK307
            clear BK308
            clear HB
            have HO_308001 := n0_
            have HO_308002 := n1_
            have HO_309001 := n2_
            have HO_309002 := n3_
            have BK307 := n4_
            have BK308 := n5_
            have HB := n6_
            clear n0_ n1_ n2_ n3_ n4_ n5_ n6_
            (try clear hb)
            (try clear hb2)
            (try clear hk)
            (try clear hi)
            refine hK.out _ _ ⟨(blk_cell BK307.out 0).trans rfl, (blk_cell BK307.out 1).trans rfl, (blk_cell BK307.out 2).trans rfl, (blk_cell BK308.out 0).trans rfl, (blk_cell BK308.out 1).trans rfl, (blk_cell BK308.out 2).trans rfl⟩ (fun hHeld => ?_)
            clear hK K
            refine norm_ (a' := ?_) ?_ ?_
            rotate_left
            · show Act.put _ (some 29) _ = _
              simp only [Act.put, List.setIfInBounds_toArray, List.set_cons_zero, List.set_cons_succ, i64_w, i32_w]
              rfl
            refine pure_ (i := 14) (N := some 30) (v := ?_) (a' := ?_) #[true, true, true, true, true, true, true, true, true, true, true, true, true, true, true, false, false, false, false, false, false, false, false, false, false, false, false, false, false] rfl rfl (any_of HT_.out (by kernel_rfl)) (fun _ _ _ h => h) (Or.inl ⟨by rfl, ?_⟩) ?_ ?_
            rotate_left
            · intro w'
              go_simp
              with_reducible rfl
            rotate_left
            · simp only [Act.put, List.setIfInBounds_toArray, List.set_cons_zero, List.set_cons_succ, i64_w, i32_w]
              rfl
            refine pure_ (i := 15) (N := some 31) (v := ?_) (a' := ?_) #[true, true, true, true, true, true, true, true, true, true, true, true, true, true, true, true, false, false, false, false, false, false, false, false, false, false, false, false, false] rfl rfl (any_of HT_.out (by kernel_rfl)) (fun _ _ _ h => h) (Or.inl ⟨by rfl, ?_⟩) ?_ ?_
            rotate_left
            · intro w'
              go_simp
              with_reducible rfl
            rotate_left
            · simp only [Act.put, List.setIfInBounds_toArray, List.set_cons_zero, List.set_cons_succ, i64_w, i32_w]
              rfl
            refine pure_ (i := 16) (N := some 32) (v := ?_) (a' := ?_) #[true, true, true, true, true, true, true, true, true, true, true, true, true, true, true, true, true, false, false, false, false, false, false, false, false, false, false, false, false] rfl rfl (any_of HT_.out (by kernel_rfl)) (fun _ _ _ h => h) (Or.inl ⟨by rfl, ?_⟩) ?_ ?_
            rotate_left
            · intro w'
              go_simp
              with_reducible rfl
            rotate_left
            · simp only [Act.put, List.setIfInBounds_toArray, List.set_cons_zero, List.set_cons_succ, i64_w, i32_w]
              rfl
            refine pure_ (i := 17) (N := some 33) (v := undef) (a' := ?_) #[true, true, true, true, true, true, true, true, true, true, true, true, true, true, true, true, true, true, false, false, false, false, false, false, false, false, false, false, false] rfl rfl (any_of HT_.out (by kernel_rfl)) (fun _ _ _ h => h) (Or.inr ⟨by rfl, rfl⟩) ?_ ?_
            rotate_left
            · simp only [Act.put, List.setIfInBounds_toArray, List.set_cons_zero, List.set_cons_succ, i64_w, i32_w]
              rfl
            refine pure_ (i := 18) (N := some 34) (v := undef) (a' := ?_) #[true, true, true, true, true, true, true, true, true, true, true, true, true, true, true, true, true, true, true, false, false, false, false, false, false, false, false, false, false] rfl rfl (any_of HT_.out (by kernel_rfl)) (fun _ _ _ h => h) (Or.inr ⟨by rfl, rfl⟩) ?_ ?_
            rotate_left
            · simp only [Act.put, List.setIfInBounds_toArray, List.set_cons_zero, List.set_cons_succ, i64_w, i32_w]
              rfl
            refine pure_ (i := 19) (N := some 35) (v := undef) (a' := ?_) #[true, true, true, true, true, true, true, true, true, true, true, true, true, true, true, true, true, true, true, true, false, false, false, false, false, false, false, false, false] rfl rfl (any_of HT_.out (by kernel_rfl)) (fun _ _ _ h => h) (Or.inr ⟨by rfl, rfl⟩) ?_ ?_
            rotate_left
            · simp only [Act.put, List.setIfInBounds_toArray, List.set_cons_zero, List.set_cons_succ, i64_w, i32_w]
              rfl
            refine pure_ (i := 20) (N := some 36) (v := ?_) (a' := ?_) #[true, true, true, true, true, true, true, true, true, true, true, true, true, true, true, true, true, true, true, true, true, false, false, false, false, false, false, false, false] rfl rfl (any_of HT_.out (by kernel_rfl)) (fun _ _ _ h => h) (Or.inl ⟨by rfl, ?_⟩) ?_ ?_
            rotate_left
            · intro w'
              go_simp
              with_reducible rfl
            rotate_left
            · simp only [Act.put, List.setIfInBounds_toArray, List.set_cons_zero, List.set_cons_succ, i64_w, i32_w]
              rfl
            refine pure_ (i := 21) (N := some 37) (v := ?_) (a' := ?_) #[true, true, true, true, true, true, true, true, true, true, true, true, true, true, true, true, true, true, true, true, true, true, false, false, false, false, false, false, false] rfl rfl (any_of HT_.out (by kernel_rfl)) (fun _ _ _ h => h) (Or.inl ⟨by rfl, ?_⟩) ?_ ?_
            rotate_left
            · intro w'
              go_simp
              with_reducible rfl
            rotate_left
            · simp only [Act.put, List.setIfInBounds_toArray, List.set_cons_zero, List.set_cons_succ, i64_w, i32_w]
              rfl
            refine pure_ (i := 22) (N := some 38) (v := undef) (a' := ?_) #[true, true, true, true, true, true, true, true, true, true, true, true, true, true, true, true, true, true, true, true, true, true, true, false, false, false, false, false, false] rfl rfl (any_of HT_.out (by kernel_rfl)) (fun _ _ _ h => h) (Or.inr ⟨by rfl, rfl⟩) ?_ ?_
            rotate_left
            · simp only [Act.put, List.setIfInBounds_toArray, List.set_cons_zero, List.set_cons_succ, i64_w, i32_w]
              rfl
            refine pure_ (i := 23) (N := some 39) (v := undef) (a' := ?_) #[true, true, true, true, true, true, true, true, true, true, true, true, true, true, true, true, true, true, true, true, true, true, true, true, false, false, false, false, false] rfl rfl (any_of HT_.out (by kernel_rfl)) (fun _ _ _ h => h) (Or.inr ⟨by rfl, rfl⟩) ?_ ?_
            rotate_left
            · simp only [Act.put, List.setIfInBounds_toArray, List.set_cons_zero, List.set_cons_succ, i64_w, i32_w]
              rfl
            refine pure_ (i := 24) (N := some 40) (v := undef) (a' := ?_) #[true, true, true, true, true, true, true, true, true, true, true, true, true, true, true, true, true, true, true, true, true, true, true, true, true, false, false, false, false] rfl rfl (any_of HT_.out (by kernel_rfl)) (fun _ _ _ h => h) (Or.inr ⟨by rfl, rfl⟩) ?_ ?_
            rotate_left
            · simp only [Act.put, List.setIfInBounds_toArray, List.set_cons_zero, List.set_cons_succ, i64_w, i32_w]
              rfl
            refine pure_ (i := 25) (N := some 41) (v := undef) (a' := ?_) #[true, true, true, true, true, true, true, true, true, true, true, true, true, true, true, true, true, true, true, true, true, true, true, true, true, true, false, false, false] rfl rfl (any_of HT_.out (by kernel_rfl)) (fun _ _ _ h => h) (Or.inr ⟨by rfl, rfl⟩) ?_ ?_
            rotate_left
            · simp only [Act.put, List.setIfInBounds_toArray, List.set_cons_zero, List.set_cons_succ, i64_w, i32_w]
              rfl
            refine pure_ (i := 26) (N := some 42) (v := undef) (a' := ?_) #[true, true, true, true, true, true, true, true, true, true, true, true, true, true, true, true, true, true, true, true, true, true, true, true, true, true, true, false, false] rfl rfl (any_of HT_.out (by kernel_rfl)) (fun _ _ _ h => h) (Or.inr ⟨by rfl, rfl⟩) ?_ ?_
            rotate_left
            · simp only [Act.put, List.setIfInBounds_toArray, List.set_cons_zero, List.set_cons_succ, i64_w, i32_w]
              rfl
            refine pure_ (i := 27) (N := some 43) (v := ?_) (a' := ?_) #[true, true, true, true, true, true, true, true, true, true, true, true, true, true, true, true, true, true, true, true, true, true, true, true, true, true, true, true, false] rfl rfl (any_of HT_.out (by kernel_rfl)) (fun _ _ _ h => h) (Or.inl ⟨by rfl, ?_⟩) ?_ ?_
            rotate_left
            · intro w'
              go_simp
              with_reducible rfl
            rotate_left
            · simp only [Act.put, List.setIfInBounds_toArray, List.set_cons_zero, List.set_cons_succ, i64_w, i32_w]
              rfl
            refine pure_ (i := 28) (N := some 4) (v := ?_) (a' := ?_) #[true, true, true, true, true, true, true, true, true, true, true, true, true, true, true, true, true, true, true, true, true, true, true, true, true, true, true, true, true] rfl rfl (any_of HT_.out (by kernel_rfl)) (fun _ _ _ h => h) (Or.inl ⟨by rfl, ?_⟩) ?_ ?_
            rotate_left
            · intro w'
              go_simp
              with_reducible rfl
            rotate_left
            · simp only [Act.put, List.setIfInBounds_toArray, List.set_cons_zero, List.set_cons_succ, i64_w, i32_w]
              rfl
            refine done_ (done_of HT_.out (by kernel_rfl)) ?_
            try go_wp2
            go_ret
            exact ⟨by first | rfl | (simp [errW_none, errW_some] <;> rfl) | (simp [*, errW_none, errW_some] <;> rfl), by repeat (first | (with_reducible first | exact HB.out | apply below_alloc | apply pw_below_drewN | apply below_drew1 | refine below_set ?_ GE307.out | refine below_set ?_ GE308.out) | exact HB.out)⟩
        · rw [if_neg c23] at H
          have c23b0 : (t315 == t316) = false := by simpa using c23
          (try (have c23b1 : decide (t315 = t316) = false := by simpa using c23))
          (try (have c23b2 : (t315 == t316) = false := by simpa using c23))
          (try (have c23b3 : ¬ (t315 = t316) := by simpa using c23))
          clear c23
          obtain rfl := Option.some.inj H
          try go_wp2
          have n0_ := Aside0.mk (Kd.V_drew HO_308001.out)
          have n1_ := Aside0.mk (Kd.V_drew HO_308002.out)
          have n2_ := Aside0.mk (Kd.V_drew HO_309001.out)
          have n3_ := Aside0.mk (Kd.V_drew HO_309002.out)
          have n4_ := Aside0.mk (blk_drew BK307.out)
          have n5_ := Aside0.mk (blk_drew BK308.out)
          have n6_ := Aside0.mk (below_drew1 HB.out)
          clear HO_308001
          clear HO_308002
          clear HO_309001
          clear HO_309002
          clear BK307
          clear BK308
          clear HB
          have HO_308001 := n0_
          have HO_308002 := n1_
          have HO_309001 := n2_
          have HO_309002 := n3_
          have BK307 := n4_
          have BK308 := n5_
          have HB := n6_
          clear n0_ n1_ n2_ n3_ n4_ n5_ n6_
          refine start_ (n := 29) (S := fun w' => w'.cell? ⟨gb307, 0, none⟩ = some (.int .u64 a0_0) ∧ w'.cell? ⟨gb307, 1, none⟩ = some (.slice A0_1 l0_1.length c0_1) ∧ w'.cell? ⟨gb307, 2, none⟩ = some (.slice A0_2 l0_2.length c0_2) ∧ w'.cell? ⟨gb308, 0, none⟩ = some (.int .u64 a1_0) ∧ w'.cell? ⟨gb308, 1, none⟩ = some (.slice A1_1 l1_1.length c1_1) ∧ w'.cell? ⟨gb308, 2, none⟩ = some (.slice A1_2 l1_2.length c1_2)) (ds := []) #[false, false, false, false, false, false, false, false, false, false, false, false, false, false, false, false, false, false, false, false, false, false, false, false, false, false, false, false, false] (by kernel_rfl) rfl rfl ⟨(blk_cell BK307.out 0).trans rfl, (blk_cell BK307.out 1).trans rfl, (blk_cell BK307.out 2).trans rfl, (blk_cell BK308.out 0).trans rfl, (blk_cell BK308.out 1).trans rfl, (blk_cell BK308.out 2).trans rfl⟩ (fun hHeld => ?_); refine with_tabW passepartoutlaw05_ValueSames.tab3 passepartoutlaw05_ValueSames.bits3 (fun HT_ HW_ => ?_)
          generalize wc.drew = w50 at HO_308001 HO_308002 HO_309001 HO_309002 BK307 BK308 HB hHeld ⊢
          refine take_ (i := 0) (N := some 16) (v := ?_) (a' := ?_) #[true, false, false, false, false, false, false, false, false, false, false, false, false, false, false, false, false, false, false, false, false, false, false, false, false, false, false, false, false] rfl rfl (take_ofW HT_.out HW_.out (by kernel_rfl)) (fun _ _ _ h => h) (Or.inl ⟨by rfl, ?_⟩) hHeld ?_ ?_
          rotate_left
          · rintro w' ⟨s0, s1, s2, s3, s4, s5⟩
            go_simp
            with_reducible rfl
          rotate_left
          · simp only [Act.put, List.setIfInBounds_toArray, List.set_cons_zero, List.set_cons_succ, i64_w, i32_w]
            rfl
          refine take_ (i := 1) (N := some 17) (v := ?_) (a' := ?_) #[true, true, false, false, false, false, false, false, false, false, false, false, false, false, false, false, false, false, false, false, false, false, false, false, false, false, false, false, false] rfl rfl (take_ofW HT_.out HW_.out (by kernel_rfl)) (fun _ _ _ h => h) (Or.inl ⟨by rfl, ?_⟩) hHeld ?_ ?_
          rotate_left
          · rintro w' ⟨s0, s1, s2, s3, s4, s5⟩
            go_simp
            with_reducible rfl
          rotate_left
          · simp only [Act.put, List.setIfInBounds_toArray, List.set_cons_zero, List.set_cons_succ, i64_w, i32_w]
            rfl
          refine take_ (i := 3) (N := some 19) (v := ?_) (a' := ?_) #[true, true, false, true, false, false, false, false, false, false, false, false, false, false, false, false, false, false, false, false, false, false, false, false, false, false, false, false, false] rfl rfl (take_ofW HT_.out HW_.out (by kernel_rfl)) (fun _ _ _ h => h) (Or.inl ⟨by rfl, ?_⟩) hHeld ?_ ?_
          rotate_left
          · rintro w' ⟨s0, s1, s2, s3, s4, s5⟩
            go_simp
            with_reducible rfl
          rotate_left
          · simp only [Act.put, List.setIfInBounds_toArray, List.set_cons_zero, List.set_cons_succ, i64_w, i32_w]
            rfl
          refine take_ (i := 4) (N := some 20) (v := ?_) (a' := ?_) #[true, true, false, true, true, false, false, false, false, false, false, false, false, false, false, false, false, false, false, false, false, false, false, false, false, false, false, false, false] rfl rfl (take_ofW HT_.out HW_.out (by kernel_rfl)) (fun _ _ _ h => h) (Or.inl ⟨by rfl, ?_⟩) hHeld ?_ ?_
          rotate_left
          · rintro w' ⟨s0, s1, s2, s3, s4, s5⟩
            go_simp
            with_reducible rfl
          rotate_left
          · simp only [Act.put, List.setIfInBounds_toArray, List.set_cons_zero, List.set_cons_succ, i64_w, i32_w]
            rfl
          refine one_ (i := 2) (N := some 18) #[true, true, true, true, true, false, false, false, false, false, false, false, false, false, false, false, false, false, false, false, false, false, false, false, false, false, false, false, false] rfl rfl (one_of HT_.out (by kernel_rfl)) (by decide) (fun K hK => ?_)
          refine goes_ Try.func40 (by kernel_rfl) rfl #[.agg #[.int .u64 a0_0, .slice A0_1 l0_1.length c0_1, .slice A0_2 l0_2.length c0_2], .agg #[.int .u64 a1_0, .slice A1_1 l1_1.length c1_1, .slice A1_2 l1_2.length c1_2]] (by rfl) rfl rfl (by (try simp only [List.map_toArray, List.map_cons, List.map_nil]); first | done | rfl | (simp only [List.length_drop, List.length_take]; rfl)) ?_
          with_reducible refine (value_Same.calls a0_0 _ _ l0_1 _ _ l0_2 a1_0 _ _ l1_1 _ _ l1_2 t315 _ ?side1 ?side2 ?side3 ?side4 ?side5 ?side6 ?side7 ?side8 A21.out).mono ?_
          (case side1 => repeat (first | exact (Kd.V_reads' HO_308001.out).2.2 | (with_reducible refine Kd.C_alloc ?_ _) | (with_reducible refine Kd.C_drewN ?_ _) | (with_reducible refine Kd.C_drew ?_)))
          (case side2 => exact (Kd.V_reads' HO_308001.out).2.1)
          (case side3 => repeat (first | exact (Kd.V_reads' HO_308002.out).2.2 | (with_reducible refine Kd.C_alloc ?_ _) | (with_reducible refine Kd.C_drewN ?_ _) | (with_reducible refine Kd.C_drew ?_)))
          (case side4 => exact (Kd.V_reads' HO_308002.out).2.1)
          (case side5 => repeat (first | exact (Kd.V_reads' HO_309001.out).2.2 | (with_reducible refine Kd.C_alloc ?_ _) | (with_reducible refine Kd.C_drewN ?_ _) | (with_reducible refine Kd.C_drew ?_)))
          (case side6 => exact (Kd.V_reads' HO_309001.out).2.1)
          (case side7 => repeat (first | exact (Kd.V_reads' HO_309002.out).2.2 | (with_reducible refine Kd.C_alloc ?_ _) | (with_reducible refine Kd.C_drewN ?_ _) | (with_reducible refine Kd.C_drew ?_)))
          (case side8 => exact (Kd.V_reads' HO_309002.out).2.1)
          rintro e w51 ⟨rfl, hb⟩
          refine ⟨_, rfl, ?_⟩
          have n0_ := Aside0.mk (Kd.V_below (by (with_reducible repeat (first | apply Kd.V_alloc | apply Kd.V_drewN | apply Kd.V_drew)); exact HO_308001.out) hb)
          have n1_ := Aside0.mk (Kd.V_below (by (with_reducible repeat (first | apply Kd.V_alloc | apply Kd.V_drewN | apply Kd.V_drew)); exact HO_308002.out) hb)
          have n2_ := Aside0.mk (Kd.V_below (by (with_reducible repeat (first | apply Kd.V_alloc | apply Kd.V_drewN | apply Kd.V_drew)); exact HO_309001.out) hb)
          have n3_ := Aside0.mk (Kd.V_below (by (with_reducible repeat (first | apply Kd.V_alloc | apply Kd.V_drewN | apply Kd.V_drew)); exact HO_309002.out) hb)
          have n4_ := Aside0.mk (blk_below (g := gb307) (o := .cells #[.int .u64 a0_0, .slice A0_1 l0_1.length c0_1, .slice A0_2 l0_2.length c0_2] 46 (0, 0)) (by (with_reducible repeat (first | refine blk_drewN ?_ _ | refine blk_drew ?_ | refine blk_alloc ?_ _)); exact BK307.out) hb)
          have n5_ := Aside0.mk (blk_below (g := gb308) (o := .cells #[.int .u64 a1_0, .slice A1_1 l1_1.length c1_1, .slice A1_2 l1_2.length c1_2] 46 (0, 0)) (by (with_reducible repeat (first | refine blk_drewN ?_ _ | refine blk_drew ?_ | refine blk_alloc ?_ _)); exact BK308.out) hb)
          have n6_ := Aside0.mk (below_step (by repeat (first | (with_reducible first | exact HB.out | apply below_alloc | apply pw_below_drewN | apply below_drew1 | refine below_set ?_ GE307.out | refine below_set ?_ GE308.out) | exact HB.out)) hb)
          clear HO_308001
          clear HO_308002
          clear HO_309001
          clear HO_309002
          clear BK307
          clear BK308
          clear HB
          have HO_308001 := n0_
          have HO_308002 := n1_
          have HO_309001 := n2_
          have HO_309002 := n3_
          have BK307 := n4_
          have BK308 := n5_
          have HB := n6_
          clear n0_ n1_ n2_ n3_ n4_ n5_ n6_
          (try clear hb)
          (try clear hb2)
          (try clear hk)
          (try clear hi)
          refine hK.out _ _ ⟨(blk_cell BK307.out 0).trans rfl, (blk_cell BK307.out 1).trans rfl, (blk_cell BK307.out 2).trans rfl, (blk_cell BK308.out 0).trans rfl, (blk_cell BK308.out 1).trans rfl, (blk_cell BK308.out 2).trans rfl⟩ (fun hHeld => ?_)
          clear hK K
          refine norm_ (a' := ?_) ?_ ?_
          rotate_left
          · show Act.put _ (some 18) _ = _
            simp only [Act.put, List.setIfInBounds_toArray, List.set_cons_zero, List.set_cons_succ, i64_w, i32_w]
            rfl
          refine one_ (i := 5) (N := some 21) #[true, true, true, true, true, true, false, false, false, false, false, false, false, false, false, false, false, false, false, false, false, false, false, false, false, false, false, false, false] rfl rfl (one_of HT_.out (by kernel_rfl)) (by decide) (fun K hK => ?_)
          refine goes_ Try.func37 (by kernel_rfl) rfl #[.agg #[.int .u64 a0_0, .slice A0_1 l0_1.length c0_1, .slice A0_2 l0_2.length c0_2], .agg #[.int .u64 a1_0, .slice A1_1 l1_1.length c1_1, .slice A1_2 l1_2.length c1_2]] (by rfl) rfl rfl (by (try simp only [List.map_toArray, List.map_cons, List.map_nil]); first | done | rfl | (simp only [List.length_drop, List.length_take]; rfl)) ?_
          with_reducible refine (passepartoutref05_Same.calls kj2 a0_0 _ _ l0_1 _ _ l0_2 a1_0 _ _ l1_1 _ _ l1_2 t316 _ ?side1 ?side2 ?side3 ?side4 ?side5 ?side6 ?side7 ?side8 A22.out).mono ?_
          (case side1 => repeat (first | exact (Kd.V_reads' HO_308001.out).2.2 | (with_reducible refine Kd.C_alloc ?_ _) | (with_reducible refine Kd.C_drewN ?_ _) | (with_reducible refine Kd.C_drew ?_)))
          (case side2 => exact (Kd.V_reads' HO_308001.out).2.1)
          (case side3 => repeat (first | exact (Kd.V_reads' HO_308002.out).2.2 | (with_reducible refine Kd.C_alloc ?_ _) | (with_reducible refine Kd.C_drewN ?_ _) | (with_reducible refine Kd.C_drew ?_)))
          (case side4 => exact (Kd.V_reads' HO_308002.out).2.1)
          (case side5 => repeat (first | exact (Kd.V_reads' HO_309001.out).2.2 | (with_reducible refine Kd.C_alloc ?_ _) | (with_reducible refine Kd.C_drewN ?_ _) | (with_reducible refine Kd.C_drew ?_)))
          (case side6 => exact (Kd.V_reads' HO_309001.out).2.1)
          (case side7 => repeat (first | exact (Kd.V_reads' HO_309002.out).2.2 | (with_reducible refine Kd.C_alloc ?_ _) | (with_reducible refine Kd.C_drewN ?_ _) | (with_reducible refine Kd.C_drew ?_)))
          (case side8 => exact (Kd.V_reads' HO_309002.out).2.1)
          rintro e w52 ⟨rfl, hb⟩
          refine ⟨_, rfl, ?_⟩
          have n0_ := Aside0.mk (Kd.V_below (by (with_reducible repeat (first | apply Kd.V_alloc | apply Kd.V_drewN | apply Kd.V_drew)); exact HO_308001.out) hb)
          have n1_ := Aside0.mk (Kd.V_below (by (with_reducible repeat (first | apply Kd.V_alloc | apply Kd.V_drewN | apply Kd.V_drew)); exact HO_308002.out) hb)
          have n2_ := Aside0.mk (Kd.V_below (by (with_reducible repeat (first | apply Kd.V_alloc | apply Kd.V_drewN | apply Kd.V_drew)); exact HO_309001.out) hb)
          have n3_ := Aside0.mk (Kd.V_below (by (with_reducible repeat (first | apply Kd.V_alloc | apply Kd.V_drewN | apply Kd.V_drew)); exact HO_309002.out) hb)
          have n4_ := Aside0.mk (blk_below (g := gb307) (o := .cells #[.int .u64 a0_0, .slice A0_1 l0_1.length c0_1, .slice A0_2 l0_2.length c0_2] 46 (0, 0)) (by (with_reducible repeat (first | refine blk_drewN ?_ _ | refine blk_drew ?_ | refine blk_alloc ?_ _)); exact BK307.out) hb)
          have n5_ := Aside0.mk (blk_below (g := gb308) (o := .cells #[.int .u64 a1_0, .slice A1_1 l1_1.length c1_1, .slice A1_2 l1_2.length c1_2] 46 (0, 0)) (by (with_reducible repeat (first | refine blk_drewN ?_ _ | refine blk_drew ?_ | refine blk_alloc ?_ _)); exact BK308.out) hb)
          have n6_ := Aside0.mk (below_step (by repeat (first | (with_reducible first | exact HB.out | apply below_alloc | apply pw_below_drewN | apply below_drew1 | refine below_set ?_ GE307.out | refine below_set ?_ GE308.out) | exact HB.out)) hb)
          clear HO_308001
          clear HO_308002
          clear HO_309001
          clear HO_309002
          clear BK307
          clear BK308
          clear HB
          have HO_308001 := n0_
          have HO_308002 := n1_
          have HO_309001 := n2_
          have HO_309002 := n3_
          have BK307 := n4_
          have BK308 := n5_
          have HB := n6_
          clear n0_ n1_ n2_ n3_ n4_ n5_ n6_
          (try clear hb)
          (try clear hb2)
          (try clear hk)
          (try clear hi)
          refine hK.out _ _ ⟨(blk_cell BK307.out 0).trans rfl, (blk_cell BK307.out 1).trans rfl, (blk_cell BK307.out 2).trans rfl, (blk_cell BK308.out 0).trans rfl, (blk_cell BK308.out 1).trans rfl, (blk_cell BK308.out 2).trans rfl⟩ (fun hHeld => ?_)
          clear hK K
          refine norm_ (a' := ?_) ?_ ?_
          rotate_left
          · show Act.put _ (some 21) _ = _
            simp only [Act.put, List.setIfInBounds_toArray, List.set_cons_zero, List.set_cons_succ, i64_w, i32_w]
            rfl
          refine pure_ (i := 6) (N := some 22) (v := ?_) (a' := ?_) #[true, true, true, true, true, true, true, false, false, false, false, false, false, false, false, false, false, false, false, false, false, false, false, false, false, false, false, false, false] rfl rfl (any_of HT_.out (by kernel_rfl)) (fun _ _ _ h => h) (Or.inl ⟨by rfl, ?_⟩) ?_ ?_
          rotate_left
          · intro w'
            go_simp
            with_reducible rfl
          rotate_left
          · simp only [Act.put, List.setIfInBounds_toArray, List.set_cons_zero, List.set_cons_succ, i64_w, i32_w]
            rfl
          refine pure_ (i := 7) (N := some 23) (v := ?_) (a' := ?_) #[true, true, true, true, true, true, true, true, false, false, false, false, false, false, false, false, false, false, false, false, false, false, false, false, false, false, false, false, false] rfl rfl (any_of HT_.out (by kernel_rfl)) (fun _ _ _ h => h) (Or.inl ⟨by rfl, ?_⟩) ?_ ?_
          rotate_left
          · intro w'
            go_simp
            with_reducible rfl
          rotate_left
          · simp only [Act.put, List.setIfInBounds_toArray, List.set_cons_zero, List.set_cons_succ, i64_w, i32_w]
            rfl
          refine pure_ (i := 8) (N := some 24) (v := undef) (a' := ?_) #[true, true, true, true, true, true, true, true, true, false, false, false, false, false, false, false, false, false, false, false, false, false, false, false, false, false, false, false, false] rfl rfl (any_of HT_.out (by kernel_rfl)) (fun _ _ _ h => h) (Or.inr ⟨by rfl, rfl⟩) ?_ ?_
          rotate_left
          · simp only [Act.put, List.setIfInBounds_toArray, List.set_cons_zero, List.set_cons_succ, i64_w, i32_w]
            rfl
          refine pure_ (i := 9) (N := some 25) (v := undef) (a' := ?_) #[true, true, true, true, true, true, true, true, true, true, false, false, false, false, false, false, false, false, false, false, false, false, false, false, false, false, false, false, false] rfl rfl (any_of HT_.out (by kernel_rfl)) (fun _ _ _ h => h) (Or.inr ⟨by rfl, rfl⟩) ?_ ?_
          rotate_left
          · simp only [Act.put, List.setIfInBounds_toArray, List.set_cons_zero, List.set_cons_succ, i64_w, i32_w]
            rfl
          refine pure_ (i := 10) (N := some 26) (v := undef) (a' := ?_) #[true, true, true, true, true, true, true, true, true, true, true, false, false, false, false, false, false, false, false, false, false, false, false, false, false, false, false, false, false] rfl rfl (any_of HT_.out (by kernel_rfl)) (fun _ _ _ h => h) (Or.inr ⟨by rfl, rfl⟩) ?_ ?_
          rotate_left
          · simp only [Act.put, List.setIfInBounds_toArray, List.set_cons_zero, List.set_cons_succ, i64_w, i32_w]
            rfl
          refine pure_ (i := 11) (N := some 27) (v := undef) (a' := ?_) #[true, true, true, true, true, true, true, true, true, true, true, true, false, false, false, false, false, false, false, false, false, false, false, false, false, false, false, false, false] rfl rfl (any_of HT_.out (by kernel_rfl)) (fun _ _ _ h => h) (Or.inr ⟨by rfl, rfl⟩) ?_ ?_
          rotate_left
          · simp only [Act.put, List.setIfInBounds_toArray, List.set_cons_zero, List.set_cons_succ, i64_w, i32_w]
            rfl
          refine pure_ (i := 12) (N := some 28) (v := undef) (a' := ?_) #[true, true, true, true, true, true, true, true, true, true, true, true, true, false, false, false, false, false, false, false, false, false, false, false, false, false, false, false, false] rfl rfl (any_of HT_.out (by kernel_rfl)) (fun _ _ _ h => h) (Or.inr ⟨by rfl, rfl⟩) ?_ ?_
          rotate_left
          · simp only [Act.put, List.setIfInBounds_toArray, List.set_cons_zero, List.set_cons_succ, i64_w, i32_w]
            rfl
          refine pure_ (i := 13) (N := some 29) (v := undef) (a' := ?_) #[true, true, true, true, true, true, true, true, true, true, true, true, true, true, false, false, false, false, false, false, false, false, false, false, false, false, false, false, false] rfl rfl (any_of HT_.out (by kernel_rfl)) (fun _ _ _ h => h) (Or.inr ⟨by rfl, rfl⟩) ?_ ?_
          rotate_left
          · simp only [Act.put, List.setIfInBounds_toArray, List.set_cons_zero, List.set_cons_succ, i64_w, i32_w]
            rfl
          refine pure_ (i := 14) (N := some 30) (v := undef) (a' := ?_) #[true, true, true, true, true, true, true, true, true, true, true, true, true, true, true, false, false, false, false, false, false, false, false, false, false, false, false, false, false] rfl rfl (any_of HT_.out (by kernel_rfl)) (fun _ _ _ h => h) (Or.inr ⟨by rfl, rfl⟩) ?_ ?_
          rotate_left
          · simp only [Act.put, List.setIfInBounds_toArray, List.set_cons_zero, List.set_cons_succ, i64_w, i32_w]
            rfl
          refine pure_ (i := 15) (N := some 31) (v := ?_) (a' := ?_) #[true, true, true, true, true, true, true, true, true, true, true, true, true, true, true, true, false, false, false, false, false, false, false, false, false, false, false, false, false] rfl rfl (any_of HT_.out (by kernel_rfl)) (fun _ _ _ h => h) (Or.inl ⟨by rfl, ?_⟩) ?_ ?_
          rotate_left
          · intro w'
            go_simp
            with_reducible rfl
          rotate_left
          · simp only [Act.put, List.setIfInBounds_toArray, List.set_cons_zero, List.set_cons_succ, i64_w, i32_w]
            rfl
          refine pure_ (i := 16) (N := some 32) (v := ?_) (a' := ?_) #[true, true, true, true, true, true, true, true, true, true, true, true, true, true, true, true, true, false, false, false, false, false, false, false, false, false, false, false, false] rfl rfl (any_of HT_.out (by kernel_rfl)) (fun _ _ _ h => h) (Or.inl ⟨by rfl, ?_⟩) ?_ ?_
          rotate_left
          · intro w'
            go_simp
            with_reducible rfl
          rotate_left
          · simp only [Act.put, List.setIfInBounds_toArray, List.set_cons_zero, List.set_cons_succ, i64_w, i32_w]
            rfl
          refine pure_ (i := 17) (N := some 33) (v := undef) (a' := ?_) #[true, true, true, true, true, true, true, true, true, true, true, true, true, true, true, true, true, true, false, false, false, false, false, false, false, false, false, false, false] rfl rfl (any_of HT_.out (by kernel_rfl)) (fun _ _ _ h => h) (Or.inr ⟨by rfl, rfl⟩) ?_ ?_
          rotate_left
          · simp only [Act.put, List.setIfInBounds_toArray, List.set_cons_zero, List.set_cons_succ, i64_w, i32_w]
            rfl
          refine pure_ (i := 18) (N := some 34) (v := undef) (a' := ?_) #[true, true, true, true, true, true, true, true, true, true, true, true, true, true, true, true, true, true, true, false, false, false, false, false, false, false, false, false, false] rfl rfl (any_of HT_.out (by kernel_rfl)) (fun _ _ _ h => h) (Or.inr ⟨by rfl, rfl⟩) ?_ ?_
          rotate_left
          · simp only [Act.put, List.setIfInBounds_toArray, List.set_cons_zero, List.set_cons_succ, i64_w, i32_w]
            rfl
          refine pure_ (i := 19) (N := some 35) (v := undef) (a' := ?_) #[true, true, true, true, true, true, true, true, true, true, true, true, true, true, true, true, true, true, true, true, false, false, false, false, false, false, false, false, false] rfl rfl (any_of HT_.out (by kernel_rfl)) (fun _ _ _ h => h) (Or.inr ⟨by rfl, rfl⟩) ?_ ?_
          rotate_left
          · simp only [Act.put, List.setIfInBounds_toArray, List.set_cons_zero, List.set_cons_succ, i64_w, i32_w]
            rfl
          refine pure_ (i := 20) (N := some 36) (v := ?_) (a' := ?_) #[true, true, true, true, true, true, true, true, true, true, true, true, true, true, true, true, true, true, true, true, true, false, false, false, false, false, false, false, false] rfl rfl (any_of HT_.out (by kernel_rfl)) (fun _ _ _ h => h) (Or.inl ⟨by rfl, ?_⟩) ?_ ?_
          rotate_left
          · intro w'
            go_simp
            with_reducible rfl
          rotate_left
          · simp only [Act.put, List.setIfInBounds_toArray, List.set_cons_zero, List.set_cons_succ, i64_w, i32_w]
            rfl
          refine pure_ (i := 21) (N := some 37) (v := ?_) (a' := ?_) #[true, true, true, true, true, true, true, true, true, true, true, true, true, true, true, true, true, true, true, true, true, true, false, false, false, false, false, false, false] rfl rfl (any_of HT_.out (by kernel_rfl)) (fun _ _ _ h => h) (Or.inl ⟨by rfl, ?_⟩) ?_ ?_
          rotate_left
          · intro w'
            go_simp
            with_reducible rfl
          rotate_left
          · simp only [Act.put, List.setIfInBounds_toArray, List.set_cons_zero, List.set_cons_succ, i64_w, i32_w]
            rfl
          refine pure_ (i := 22) (N := some 38) (v := undef) (a' := ?_) #[true, true, true, true, true, true, true, true, true, true, true, true, true, true, true, true, true, true, true, true, true, true, true, false, false, false, false, false, false] rfl rfl (any_of HT_.out (by kernel_rfl)) (fun _ _ _ h => h) (Or.inr ⟨by rfl, rfl⟩) ?_ ?_
          rotate_left
          · simp only [Act.put, List.setIfInBounds_toArray, List.set_cons_zero, List.set_cons_succ, i64_w, i32_w]
            rfl
          refine pure_ (i := 23) (N := some 39) (v := undef) (a' := ?_) #[true, true, true, true, true, true, true, true, true, true, true, true, true, true, true, true, true, true, true, true, true, true, true, true, false, false, false, false, false] rfl rfl (any_of HT_.out (by kernel_rfl)) (fun _ _ _ h => h) (Or.inr ⟨by rfl, rfl⟩) ?_ ?_
          rotate_left
          · simp only [Act.put, List.setIfInBounds_toArray, List.set_cons_zero, List.set_cons_succ, i64_w, i32_w]
            rfl
          refine pure_ (i := 24) (N := some 40) (v := undef) (a' := ?_) #[true, true, true, true, true, true, true, true, true, true, true, true, true, true, true, true, true, true, true, true, true, true, true, true, true, false, false, false, false] rfl rfl (any_of HT_.out (by kernel_rfl)) (fun _ _ _ h => h) (Or.inr ⟨by rfl, rfl⟩) ?_ ?_
          rotate_left
          · simp only [Act.put, List.setIfInBounds_toArray, List.set_cons_zero, List.set_cons_succ, i64_w, i32_w]
            rfl
          refine pure_ (i := 25) (N := some 41) (v := undef) (a' := ?_) #[true, true, true, true, true, true, true, true, true, true, true, true, true, true, true, true, true, true, true, true, true, true, true, true, true, true, false, false, false] rfl rfl (any_of HT_.out (by kernel_rfl)) (fun _ _ _ h => h) (Or.inr ⟨by rfl, rfl⟩) ?_ ?_
          rotate_left
          · simp only [Act.put, List.setIfInBounds_toArray, List.set_cons_zero, List.set_cons_succ, i64_w, i32_w]
            rfl
          refine pure_ (i := 26) (N := some 42) (v := undef) (a' := ?_) #[true, true, true, true, true, true, true, true, true, true, true, true, true, true, true, true, true, true, true, true, true, true, true, true, true, true, true, false, false] rfl rfl (any_of HT_.out (by kernel_rfl)) (fun _ _ _ h => h) (Or.inr ⟨by rfl, rfl⟩) ?_ ?_
          rotate_left
          · simp only [Act.put, List.setIfInBounds_toArray, List.set_cons_zero, List.set_cons_succ, i64_w, i32_w]
            rfl
          refine pure_ (i := 27) (N := some 43) (v := ?_) (a' := ?_) #[true, true, true, true, true, true, true, true, true, true, true, true, true, true, true, true, true, true, true, true, true, true, true, true, true, true, true, true, false] rfl rfl (any_of HT_.out (by kernel_rfl)) (fun _ _ _ h => h) (Or.inl ⟨by rfl, ?_⟩) ?_ ?_
          rotate_left
          · intro w'
            go_simp
            with_reducible rfl
          rotate_left
          · simp only [Act.put, List.setIfInBounds_toArray, List.set_cons_zero, List.set_cons_succ, i64_w, i32_w]
            rfl
          refine pure_ (i := 28) (N := some 4) (v := ?_) (a' := ?_) #[true, true, true, true, true, true, true, true, true, true, true, true, true, true, true, true, true, true, true, true, true, true, true, true, true, true, true, true, true] rfl rfl (any_of HT_.out (by kernel_rfl)) (fun _ _ _ h => h) (Or.inl ⟨by rfl, ?_⟩) ?_ ?_
          rotate_left
          · intro w'
            go_simp
            with_reducible rfl
          rotate_left
          · simp only [Act.put, List.setIfInBounds_toArray, List.set_cons_zero, List.set_cons_succ, i64_w, i32_w]
            rfl
          refine done_ (done_of HT_.out (by kernel_rfl)) ?_
          try go_wp2
          go_ret
          exact ⟨by first | rfl | (simp [errW_none, errW_some] <;> rfl) | (simp [*, errW_none, errW_some] <;> rfl), by repeat (first | (with_reducible first | exact HB.out | apply below_alloc | apply pw_below_drewN | apply below_drew1 | refine below_set ?_ GE307.out | refine below_set ?_ GE308.out) | exact HB.out)⟩

end Go.Proofs.Ytfcghajnnllmhaa.QP

namespace Go.Proofs.Ytfcghajnnllmhaa
open Go.RowKit YtfcghajnnllmhaaW.PrintWords

theorem alive5_f : QP.passepartoutlaw05_alive.f = some true := rfl
theorem two_ofV (x y : Vt) : ([x, y].map ofV) = [⟨x.a.n, bI x.a.b, x.l.map ofV⟩, ⟨y.a.n, bI y.a.b, y.l.map ofV⟩] := by
  obtain ⟨a, l⟩ := x
  obtain ⟨b, m⟩ := y
  simp only [List.map_cons, List.map_nil, ofV_mk, RT.a, RT.l]
theorem vsames_ev (x y : Vt) (hx : wfV x = true) (hy : wfV y = true) : Ev (fun k => QP.passepartoutlaw05_ValueSames.f k x.a.n (bI x.a.b) (x.l.map ofV) y.a.n (bI y.a.b) (y.l.map ofV)) true := by
  simp only [QP.passepartoutlaw05_ValueSames.f]
  refine Ev.cb alive5_f (Ev.ip rfl ?_)
  have hg := greatV_ev [x, y] (by simp) (fun z hz => by simp at hz; rcases hz with rfl | rfl <;> assumption)
  rw [two_ofV] at hg
  refine Ev.bind hg ?_
  apply Ev.step
  · intro k
    simp only [QP.passepartoutlaw05_ValueSames.j0]
    rfl
  by_cases hbig : [x, y].any bigV = true
  · rw [if_pos hbig]
    exact Ev.ip (by simp) (Ev.cb alive5_f (Ev.now _))
  rw [if_neg hbig]
  refine Ev.in_ (by simp) ?_
  have hc : cntV 2000 x ≤ 2000 := by
    simp [bigV] at hbig
    omega
  refine Ev.cb (vsame_f x y hx hy) (Ev.bind (same05_ev x y hx hy) (Ev.ip (by simp) ?_))
  refine Ev.cb (vsame_f y x hy hx) (Ev.cb (vsame_f x y hx hy) (Ev.ip (by simp [sameV_comm x y]) ?_))
  refine Ev.cb (vsame_f x x hx hx) (Ev.ip (sameV_refl x) ?_)
  refine Ev.bind (vcount_ev x 2000 (by omega) hc hx) (Ev.bind (cntv_ev x 1099511627776 (by omega) hx) (Ev.is ?_))
  rw [cntV_grow x 2000 1099511627776 hc (by omega)]
  simp

theorem vsames_walk (w : World) (v : Value) (x : Vt) (hv : VtR w (· < w.heap.size) v x) (u : Value) (y : Vt) (hu : VtR w (· < w.heap.size) u y) : Calls Try.prog 13 #[v, u] w fun e w' => e = .returned (.bool true) ∧ Below w.heap.size w w' := by
  obtain ⟨hw1, hw2⟩ : wfV x = true ∧ wfV y = true := by
    obtain ⟨_, _, _, h1⟩ := hv.tr
    obtain ⟨_, _, _, h2⟩ := hu.tr
    exact ⟨tr_wfV x _ h1, tr_wfV y _ h2⟩
  obtain ⟨K, hK⟩ := (vsames_ev x y hw1 hw2).rounds
  obtain ⟨⟨n, b⟩, l⟩ := x
  obtain ⟨⟨n2, b2⟩, l2⟩ := y
  obtain ⟨A1, c1, A2, c2, rfl, _, _, hbl, hb, _, _, h2⟩ := hv.parts
  obtain ⟨A3, c3, A4, c4, rfl, _, _, hbl2, hb2, _, _, h4⟩ := hu.parts
  obtain ⟨_, g3, g4⟩ := br_c hb hbl
  obtain ⟨_, g5, g6⟩ := h2.c
  obtain ⟨_, g7, g8⟩ := br_c hb2 hbl2
  obtain ⟨_, g9, g0⟩ := h4.c
  have := QP.passepartoutlaw05_ValueSames.calls K n (fun k => k < w.heap.size) A1 c1 (bI b) (fun k => k < w.heap.size) A2 c2 (l.map ofV) n2 (fun k => k < w.heap.size) A3 c3 (bI b2) (fun k => k < w.heap.size) A4 c4 (l2.map ofV) _ w (Kd.V_mk g3 (Kd.C_F (Kd.heap_int .u8) g4)) (Kd.V_mk g5 (Kd.C_F QP.k46_heap g6)) (Kd.V_mk g7 (Kd.C_F (Kd.heap_int .u8) g8)) (Kd.V_mk g9 (Kd.C_F QP.k46_heap g0)) hK
  simp only [List.length_map, bI_len] at this
  exact this
end Go.Proofs.Ytfcghajnnllmhaa

namespace Go.Proofs.Ytfcghajnnllmhaa
open Go.Joins Go.ChangeShapes Go.WideShapes Go.ChangeAt Go.RowKit Go.Deep

section
variable {H : Type} {enc : TypeId × Value → H} {w : World} {sp : Nat → Bool} {held : Bool} {r : Reach} {b0 : Nat}
end
end Go.Proofs.Ytfcghajnnllmhaa

namespace Go.Proofs.Ytfcghajnnllmhaa
open Go.Joins Go.ChangeShapes Go.WideShapes Go.ChangeAt Go.RowKit Go.Deep

theorem okWide_struct_ {P : Program} {w : World} {r : Reach} {b : Nat} {t : TypeId} {fs : Array Field} {v : Value} (ht : P.underlying t = some (.struct fs)) (h : Value.okWide P w r b t v) : ∃ cs, v = .agg cs := by
  simp only [Value.okWide, ht] at h
  obtain ⟨cs, h1, _⟩ := h
  exact ⟨cs, h1⟩
section
variable {H : Type} {enc : TypeId × Value → H} {w : World} {sp : Nat → Bool} {held : Bool} {r : Reach} {b0 : Nat}
theorem sized_at {P : Program} {ts : List TypeId} {ds : List (DataW H)} (hsz : (DataW.weightsEach P ts ds).all (· ≤ reachBytes) = true) {j : Nat} {t : TypeId} {d : DataW H} (ht : ts[j]? = some t) (hd : ds[j]? = some d) : (d.weights P t).all (· ≤ reachBytes) = true :=
  List.all_eq_true.2 fun n hn => List.all_eq_true.1 hsz n (DataW.weights_mem_each ht hd n hn)
end
end Go.Proofs.Ytfcghajnnllmhaa

namespace Go.Proofs.Ytfcghajnnllmhaa
open Go.ChangeShapes Go.WideShapes Go.ChangeAt Go.RowKit Go.Deep

section
variable {H : Type} {enc : TypeId × Value → H} {P : Program} {w : World} {spare : Nat → Bool} {held : Bool}

theorem cells_ir {t e : TypeId} {k : IntKind} {v : Value} {fuel : Nat} {x : DataW H × List MemPlace} (ht : P.underlying t = some (.slice e)) (he : P.underlying e = some (.int k)) (hC : P.cellsOf e = 1)
    (hf : DataW.trod enc P w 0 spare held fuel t [v] = some x) :
    ∃ l : List Int, IR k w (· < w.heap.size) v l ∧ (∀ n ∈ l, (Lit.int k n).wf = true) ∧ lenD x.1 = l.length ∧ l.length ≤ maxLen := by
  rcases open_ints ht he hC hf with ⟨hcs, hx⟩ | ⟨x, l, c, zs, hcs, _, hl, hm, hz, hx, hcell, hwz⟩
  · simp only [List.cons.injEq, and_true] at hcs
    subst hcs hx
    exact ⟨[], ⟨none, 0, rfl, Nat.le_refl _, Rd.none_⟩, fun n hn => by simp at hn, rfl, Nat.zero_le _⟩
  · simp only [List.cons.injEq, and_true] at hcs
    subst hcs hx
    have hlz : l ≤ zs.length := by rw [hz]; split <;> omega
    have hlt : (zs.take l).length = l := by simp; omega
    refine ⟨zs.take l, ⟨some x, c, ?_, ?_, ?_, fun hn => ?_⟩, fun n hn => hwz n (List.mem_of_mem_take hn), ?_, by rw [hlt]; omega⟩
    · rw [hlt]
    · rw [hlt]; exact hl
    · simp [ic]
    · have h0 := hcell 0 (by rw [hlt] at hn; omega)
      have hsp : x.spot = none := by simpa [Addr.add] using World.cell?_spot h0
      have hb := cell_lt h0
      rw [block_add] at hb
      refine ⟨x, rfl, hsp, hb, fun j u hu => ?_⟩
      simp only [ic, List.getElem?_map, List.getElem?_take] at hu
      split at hu
      · rename_i hj
        have hj' : j < zs.length := by omega
        rw [List.getElem?_eq_getElem hj'] at hu
        simp at hu
        subst hu
        have h1 := hcell j hj'
        rw [h1]
        simp [List.getElem?_eq_getElem hj']
      · simp at hu
    · simp [lenD, lits]

theorem cells_br {t e : TypeId} {v : Value} {fuel : Nat} {x : DataW H × List MemPlace} (ht : P.underlying t = some (.slice e)) (he : P.underlying e = some (.int .u8)) (hC : P.cellsOf e = 1)
    (hf : DataW.trod enc P w 0 spare held fuel t [v] = some x) :
    ∃ l : List UInt8, BR w (· < w.heap.size) v l ∧ lenD x.1 = l.length ∧ l.length ≤ maxLen := by
  obtain ⟨l, ⟨A, c, rfl, hc, hr⟩, hw, hd, hm⟩ := cells_ir ht he hC hf
  obtain ⟨m, hme, hl⟩ := bytes_of hw
  refine ⟨m, ⟨A, c, by rw [hl], by omega, ?_⟩, by omega, by omega⟩
  rw [← hme, hl]
  exact hr
end
end Go.Proofs.Ytfcghajnnllmhaa

namespace Go.Proofs.Ytfcghajnnllmhaa
open Go.Joins Go.ChangeShapes Go.WideShapes Go.ChangeAt Go.RowKit Go.Deep

theorem value_type : TreeType Try.prog 46 44 (match Try.prog.underlying 46 with | some (.struct fs) => fs | _ => #[]) 2 where
  ht := by rw [Try.underlying46]
  hone := by rw [Try.underlying46]; kernel_rfl
  hC := by kernel_rfl
  hn := by rw [Try.underlying46]; rfl
  hlast := by rw [Try.underlying46]; rfl
  hts := Try.underlying44
  hB := by rw [show Try.prog.bytesOf 46 = 56 from by kernel_rfl]; omega
section
variable {H : Type} {enc : TypeId × Value → H} {w : World} {sp : Nat → Bool} {held : Bool} {r : Reach} {b0 : Nat}
theorem weights_lenD {P : Program} {t e : TypeId} {d : DataW H} (ht : P.underlying t = some (.slice e)) (h : (d.weights P t).all (· ≤ reachBytes) = true) : lenD d * P.bytesOf e ≤ 140737488351232 := by
  cases d with
  | slice es rest => exact weights_len ht h
  | _ => simp [lenD]
theorem value_head : HeadOpen enc Try.prog w sp held (match Try.prog.underlying 46 with | some (.struct fs) => fs | _ => #[]) 2 VHd := by
  intro vs ds hl hf
  obtain ⟨f0, v0, d0, ps0, fuel0, hf0, hv0, _, ht0, _⟩ := hf 0 (by omega)
  obtain ⟨f1, v1, d1, ps1, fuel1, hf1, hv1, _, ht1, hw1⟩ := hf 1 (by omega)
  have e0 : f0.type = 42 := by
    rw [Try.underlying46] at hf0
    simp at hf0
    rw [← hf0]
  have e1 : f1.type = 43 := by
    rw [Try.underlying46] at hf1
    simp at hf1
    rw [← hf1]
  rw [e0] at ht0
  rw [e1] at ht1 hw1
  obtain ⟨k0, x0, _, hk0⟩ := DataW.trod_int Try.underlying42 ht0
  simp only [List.cons.injEq, and_true] at x0
  obtain ⟨b, hb, hb2, _⟩ := cells_br Try.underlying43 Try.underlying5 (by kernel_rfl) ht1
  have hlen := weights_lenD Try.underlying43 hw1
  rw [show Try.prog.bytesOf 5 = 1 from by kernel_rfl, Nat.mul_one] at hlen
  obtain ⟨q0, q1⟩ := bounds_u64 hk0
  refine ⟨⟨k0, b⟩, v1, ?_, ⟨q0, by show k0 < _; omega⟩, hb, by show b.length ≤ _; simp only at hb2; omega⟩
  rcases vs with _ | ⟨y0, _ | ⟨y1, _ | ⟨y2, vs⟩⟩⟩ <;> simp_all
theorem open_value {v : Value} {d : DataW H} {ps : List MemPlace} {ts : List TypeId} {ds : List (DataW H)} (hv : Value.okWide Try.prog w r b0 46 v) (h : DataW.Trod enc Try.prog w 0 sp held 46 v d ps)
    (_hsz : (DataW.weightsEach Try.prog ts ds).all (· ≤ reachBytes) = true) {j : Nat} (_ht : ts[j]? = some 46) (_hd : ds[j]? = some d) : ∃ x : Vt, VtR w (· < w.heap.size) v x := by
  obtain ⟨cs, rfl⟩ := okWide_struct_ Try.underlying46 hv
  obtain ⟨fuel, hf⟩ := h
  obtain ⟨x, hx⟩ := (open_tree_ value_type value_head fuel).1 _ _ _ hf (sized_at _hsz _ht _hd)
  have h1 := (VtR.of_tr hx).1
  rw [show (Value.agg cs).cells.toList.toArray = cs from by simp [Value.cells]] at h1
  exact ⟨x, h1⟩
end
end Go.Proofs.Ytfcghajnnllmhaa

namespace Go.Proofs.Ytfcghajnnllmhaa.valueSames
open Go.ChangeShapes Go.WideShapes Go.ChangeAt Go.RowKit
set_option linter.unusedVariables false

theorem own : ownKnob Try.prog.godebug = none := by kernel_rfl
theorem laidOut : laidOutB Try.prog = true := by kernel_rfl

set_option maxRecDepth 100000 in
theorem lifted (os : Os) (started : os.Started) (H : Type) (enc : TypeId × Value → H) :
    ReturnsInHanded {} Try.checked os 13 .any (Rows.valueSamesSpec.pre6 enc Try.prog Try.f13 Rows.valueSamesRow.domain false) (Rows.valueSamesSpec.post enc Try.prog Try.f13 false true false false) := by
  refine returnsInHanded_of_change_sized (C := Try.checked) own started (by kernel_rfl) Try.func13
    (ChangeSpec.witness6 (enc := enc) (C := Try.checked) false ⟨#[], #[.agg #[.int .u64 0, .slice none 0 0, .slice none 0 0], .agg #[.int .u64 0, .slice none 0 0, .slice none 0 0]], []⟩ 8 (by kernel_rfl) (by kernel_rfl) (by kernel_rfl) (by kernel_rfl)) ?_
  intro W base args ds gs before hval0 hW hcnd hsz0 _
  have hval : ∀ (j : Nat) t v, Try.f13.params[j]? = some t → args[j]? = some v → Value.okWide Try.prog W .any base t v := hval0
  have hW' := hW
  obtain ⟨p, q, hA0, hV, rfl, hfz, hnd⟩ := hW
  have hA : DataW.TrodAll enc Try.prog W 0 (fun _ => true) true Try.f13.params.toList args.toList ds p := hA0
  obtain ⟨rfl, rfl⟩ := trodVars_none hV
  have hsz : (DataW.weightsEach Try.prog (Try.f13.params.toList ++ []) (ds ++ [])).all (· ≤ reachBytes) = true := hsz0
  rw [List.append_nil, List.append_nil] at hsz
  rw [Try.params13] at hA hval hsz
  obtain ⟨v0, vs0, d0, ds0, p0, q0, hargs, rfl, rfl, h0, r0⟩ := trodAll_cons hA
  obtain ⟨v1, vs1, d1, ds1, p1, q1, rfl, rfl, rfl, h1, r1⟩ := trodAll_cons r0
  obtain ⟨rfl, rfl, rfl⟩ := trodAll_nil r1
  obtain rfl : args = #[v0, v1] := by cases args; simp_all
  have k0 := h0
  have lt0 : ∀ x ∈ p0, x.block < W.heap.size := by obtain ⟨m, hm⟩ := k0; exact DataW.trod_lt m _ _ _ hm
  have k1 := h1
  have lt1 : ∀ x ∈ p1, x.block < W.heap.size := by obtain ⟨m, hm⟩ := k1; exact DataW.trod_lt m _ _ _ hm
  obtain ⟨l0, b0⟩ := open_value (hval 0 46 v0 rfl rfl) h0 (_hsz := hsz) (j := 0) rfl rfl
  obtain ⟨l1, b1⟩ := open_value (hval 1 46 v1 rfl rfl) h1 (_hsz := hsz) (j := 1) rfl rfl
  clear hA0 hval0 hsz0
  refine (vsames_walk W v0 l0 b0 v1 l1 b1).mono fun e W' ⟨he, bel⟩ => ?_
  subst he
  exact ⟨_, rfl, _, _, _, [], _, [], hW', trodAll_mk1 (shut_bool Try.underlying4 _), (trodAll_cons_mk (Below.trod laidOut (by kernel_rfl) (of_decide_eq_true (by kernel_rfl)) k0 bel lt0) (trodAll_cons_mk (Below.trod laidOut (by kernel_rfl) (of_decide_eq_true (by kernel_rfl)) k1 bel lt1) trodAll_mk0)), rfl, bel.frame _, fun h => by cases h⟩

theorem over : Rows.valueSamesRow.holds Try.pinned (OpenSpec.ofChange Rows.valueSamesSpec) :=
  OpenClaim.holds_of_wide 13 Try.f13 rfl rfl rfl rfl rfl rfl rfl ⟨rfl, rfl, rfl, rfl, rfl⟩ rfl rfl rfl rfl rfl (by kernel_rfl) Try.func13 (by kernel_rfl)
    (of_decide_eq_true (by kernel_rfl)) (by unfold Func.isWrapper; first | (rw [if_pos (by decide +kernel)]; kernel_rfl) | (rw [if_neg (by decide +kernel)]; exact ⟨rfl, rfl⟩))
    (fun os started H enc _ => lifted os started H enc)

theorem proved : Rows.ValueSamesSaid := over
#print axioms proved
end Go.Proofs.Ytfcghajnnllmhaa.valueSames
