/-
  The law ValueSizes: for every input it returns true, and its arguments read behind the call as before it. No condition.
-/
import Derived.Test.YtfcghajnnllmhaaProg
import Derived.Lib.SmallJoins
import Derived.Deep.RegionHeld3
import Derived.Deep.RegionWith
import Derived.Test.YtfcghajnnllmhaaRows
import Derived.Test.YtfcghajnnllmhaaMValueSizes1
import Derived.Test.YtfcghajnnllmhaaMValueSizes2
import Derived.Test.YtfcghajnnllmhaaMValueSizes3
import Derived.Test.YtfcghajnnllmhaaMValueSizes4

namespace Go.Proofs.Ytfcghajnnllmhaa
open Go.RowKit YtfcghajnnllmhaaW.PrintWords YtfcghajnnllmhaaW.PrintMore

theorem may_f (n lo hi st : Int) (h : st ≠ 0) : QP.value_may.f n lo hi st = some (mayR n lo hi st) := by
  unfold QP.value_may.f mayR
  split
  · rfl
  · by_cases h2 : n > hi
    · simp [h2]
    · simp only [if_neg h2]
      split <;> rfl
theorem alone_f (k n : Int) (hk : i64B k) (b : List Int) (l : List SV) : QP.value_alone.f k n b l = some (aloneB k n b.length l.length) := by
  unfold QP.value_alone.f
  rw [if_pos ((okI_iff k).2 hk)]
theorem getD_ofF (P : List Fm) (j : Nat) (h : j < P.length) : P.getD j nilF = P[j] := by simp [h]
theorem shr_u64 (x : Int) (s : Nat) (h0 : 0 ≤ x) (hs : s < 8) : shr .u64 x (8 * (s : Int)) = 0 ↔ ¬ (2 : Int) ^ (8 * s) ≤ x := by
  unfold shr
  have e1 : min ((8 * (s : Int)).toNat) IntKind.u64.bits = 8 * s := by
    have : IntKind.u64.bits = 64 := rfl
    rw [this]
    omega
  rw [e1]
  have hp : (0 : Int) < 2 ^ (8 * s) := Int.pow_pos (by omega)
  generalize (2 : Int) ^ (8 * s) = d at hp ⊢
  constructor
  · intro h hle
    have h1 : 1 ≤ x / d := Int.le_ediv_of_mul_le hp (by omega)
    omega
  · intro h
    exact Int.ediv_eq_zero_of_lt h0 (by omega)

theorem fit_ev (x : Vt) : ∀ f : Fm, wfF f = true → checkR f = 0 → wfV x = true → Ev (fun k => QP.value_fit.f k f.a.k f.a.s f.a.lo f.a.hi f.a.st (f.l.map ofF) x.a.n (bI x.a.b) (x.l.map ofV)) (fitR f x) := by
  induction x using RT.induct with
  | h a l ih =>
  intro f hwf hck hwx
  obtain ⟨h, P⟩ := f
  obtain ⟨hok, hPl, hPw⟩ := (wfF_mk _ _).1 hwf
  obtain ⟨hn, hbl, hll, hlw⟩ := (wfV_mk _ _).1 hwx
  obtain ⟨hown, hone, h32, hch⟩ := check_ok hck
  rw [fitR_mk]
  simp only [RT.a, RT.l]
  apply Ev.step
  · intro k
    simp only [QP.value_fit.f]
    rfl
  refine Ev.cb (alone_f h.k a.n hok.k (bI a.b) (l.map ofV)) ?_
  rw [bI_len, List.length_map]
  by_cases hal : aloneB h.k a.n a.b.length l.length = true
  rotate_left
  · have hal' : aloneB h.k a.n a.b.length l.length = false := by simpa using hal
    exact Ev.eq_ (Ev.in_ hal (Ev.now _)) (if_pos hal').symm
  refine Ev.eq_ ?_ (if_neg (show ¬ aloneB h.k a.n a.b.length l.length = false by simp [hal])).symm
  refine Ev.ip hal ?_
  by_cases k0 : h.k = 0
  · refine Ev.ip k0 ?_
    have hs := hown.k0 k0
    obtain ⟨s, hse⟩ : ∃ s : Nat, h.s = s := ⟨h.s.toNat, by omega⟩
    have hst : h.s.toNat = s := by omega
    refine Ev.rp k0 ?_
    rw [hst]
    by_cases hs8 : h.s < 8
    · refine Ev.ip hs8 ?_
      rw [hse, w64 (by omega) (by omega)]
      refine Ev.ip (by omega) ?_
      have hsh := shr_u64 a.n s hn.1 (by omega)
      by_cases hx : (2 : Int) ^ (8 * s) ≤ a.n
      · refine Ev.rp ⟨by omega, hx⟩ ?_
        exact Ev.in_ (fun e => hsh.1 e hx) (Ev.now _)
      · refine Ev.rn (fun e => hx e.2) ?_
        exact Ev.ip (hsh.2 hx) (Ev.now _)
    · refine Ev.rn (fun e => hs8 e.1) ?_
      exact Ev.in_ hs8 (Ev.now _)
  refine Ev.rn k0 ?_
  refine Ev.in_ k0 ?_
  by_cases k1 : h.k = 1
  · refine Ev.rp k1 ?_
    have hs := hown.k12 (.inl k1)
    exact Ev.ip k1 (Ev.cb (may_f _ _ _ _ (by omega)) (Ev.now _))
  refine Ev.rn k1 ?_
  refine Ev.in_ k1 ?_
  by_cases k4 : h.k = 4
  · refine Ev.rp k4 ?_
    exact Ev.ip k4 (Ev.cb (may_f _ _ _ _ (by omega)) (Ev.now _))
  refine Ev.rn k4 ?_
  refine Ev.in_ k4 ?_
  by_cases k5 : h.k = 5
  · refine Ev.rp k5 ?_
    exact Ev.ip k5 (Ev.cb (may_f _ _ _ _ (by omega)) (Ev.now _))
  refine Ev.rn k5 ?_
  refine Ev.in_ k5 ?_
  have hk23 : h.k = 2 ∨ h.k = 3 := by have := hown.k; omega
  have hPc : ∀ y ∈ P, checkR y = 0 := (hch hk23).1
  have key : (h.k = 3 → l.length = P.length) → ∀ (d j : Nat) (q : Int), l.length - j = d → j ≤ l.length → Ev (fun k => QP.value_fit.l0 k q (l.map ofV) (l.length : Int) (j : Int) h.k h.s h.lo h.hi h.st (P.map ofF)) (fitL (.mk h P) q j (l.drop j)) := by
    intro hlen d
    induction d with
    | zero =>
      intro j q hd hj
      apply Ev.step
      · intro k
        simp only [QP.value_fit.l0]
        rfl
      refine Ev.in_ (by omega) ?_
      rw [List.drop_of_length_le (by omega), fitL]
      simp only [RT.a]
      by_cases k3 : h.k = 3
      · refine Ev.rp k3 ?_
        exact Ev.ip k3 (Ev.now _)
      · refine Ev.rn k3 ?_
        have hs := hown.k12 (.inr (by omega))
        exact Ev.in_ k3 (Ev.cb (may_f _ _ _ _ (by omega)) (Ev.now _))
    | succ d ihd =>
      intro j q hd hj
      have hlt : j < l.length := by omega
      have hP0 : 0 < P.length := by
        rcases hk23 with k2 | k3
        · have := hone k2; omega
        · have := hlen k3; omega
      have hmod : j % P.length < P.length := Nat.mod_lt _ hP0
      apply Ev.step
      · intro k
        simp only [QP.value_fit.l0, rd_ofV l j hlt, ofV_f0, ofV_f1, ofV_f2]
        rfl
      refine Ev.ip (by omega) (Ev.ip (by omega) (Ev.ip (by rw [List.length_map]; omega) (Ev.in_ (by rw [List.length_map]; omega) ?_)))
      have hmodI : Int.tmod (j : Int) ((P.map ofF).length : Int) = ((j % P.length : Nat) : Int) := by rw [List.length_map]; rfl
      simp only [hmodI, rd_ofF P _ hmod, of_f0, of_f1, of_f2, of_f3, of_f4, of_f5]
      refine Ev.ip (by omega) (Ev.ip (by rw [List.length_map]; omega) ?_)
      refine Ev.bind (ih l[j] (List.getElem_mem hlt) (P[j % P.length]) (hPw _ (List.getElem_mem hmod)) (hPc _ (List.getElem_mem hmod)) (hlw _ (List.getElem_mem hlt))) ?_
      rw [fitL_drop _ _ _ _ _ hlt]
      simp only [getD_ofF P _ hmod]
      rw [w64 (x := (j : Int) + 1) (by omega) (by omega), show (j : Int) + 1 = ((j + 1 : Nat) : Int) by omega]
      by_cases he : (fitR P[j % P.length] l[j]).2 = 0
      · refine Ev.ip he ?_
        refine Ev.rp he ?_
        exact ihd (j + 1) _ (by omega) (by omega)
      · refine Ev.in_ he ?_
        exact Ev.eq_ (Ev.now _) (if_neg he).symm
  have hj0 : ∀ b : Bool, b = decide (h.k = 3 ∧ l.length ≠ P.length) → Ev (fun k => QP.value_fit.j0 k b h.k h.s h.lo h.hi h.st (P.map ofF) a.n (bI a.b) (l.map ofV)) (if h.k = 3 ∧ l.length ≠ P.length then (0, 15) else fitL (.mk h P) 0 0 l) := by
    intro b hb
    apply Ev.step
    · intro k
      simp only [QP.value_fit.j0, List.length_map]
      rfl
    by_cases hc : h.k = 3 ∧ l.length ≠ P.length
    · rw [decide_eq_true hc] at hb
      refine Ev.rp hc ?_
      exact Ev.ip hb (Ev.now _)
    · rw [decide_eq_false hc] at hb
      refine Ev.rn hc ?_
      refine Ev.in_ (by simp [hb]) ?_
      have h0 := key (fun k3 => Decidable.byContradiction fun hne => hc ⟨k3, hne⟩) l.length 0 0 (by omega) (by omega)
      rw [List.drop_zero] at h0
      exact h0
  simp only [List.length_map]
  by_cases k3 : h.k = 3
  · refine Ev.ip k3 (hj0 _ ?_)
    rw [Bool.eq_iff_iff]
    simp [k3]
    omega
  · refine Ev.in_ k3 (hj0 _ ?_)
    simp [k3]

theorem size_ev (f : Fm) (x : Vt) (hf : wfF f = true) (hx : wfV x = true) : Ev (fun k => QP.value_size.f k f.a.k f.a.s f.a.lo f.a.hi f.a.st (f.l.map ofF) x.a.n (bI x.a.b) (x.l.map ofV)) (sizeR f x) := by
  simp only [QP.value_size.f]
  refine Ev.cb (lay_check f hf) ?_
  rw [sizeR]
  by_cases hc : (if deepB 8 f = true then (14 : Int) else checkR f) = 0
  · refine Ev.rp hc ?_
    have hck : checkR f = 0 := by
      split at hc
      · omega
      · exact hc
    refine Ev.ip hc (Ev.bind (fit_ev x f hf hck hx) ?_)
    by_cases he : (fitR f x).2 = 0
    · refine Ev.rp he ?_
      exact Ev.ip he (Ev.now _)
    · refine Ev.rn he ?_
      exact Ev.in_ he (Ev.now _)
  · refine Ev.rn hc ?_
    exact Ev.in_ hc (Ev.now _)
theorem Fits_ev (f : Fm) (x : Vt) (hf : wfF f = true) (hx : wfV x = true) : Ev (fun k => QP.value_Fits.f k f.a.k f.a.s f.a.lo f.a.hi f.a.st (f.l.map ofF) x.a.n (bI x.a.b) (x.l.map ofV)) (sizeR f x).2 := by
  simp only [QP.value_Fits.f]
  exact Ev.bind (size_ev f x hf hx) (Ev.now _)
theorem Size_ev (f : Fm) (x : Vt) (hf : wfF f = true) (hx : wfV x = true) : Ev (fun k => QP.value_Size.f k f.a.k f.a.s f.a.lo f.a.hi f.a.st (f.l.map ofF) x.a.n (bI x.a.b) (x.l.map ofV)) (sizeR f x).1 := by
  simp only [QP.value_Size.f]
  exact Ev.bind (size_ev f x hf hx) (Ev.now _)
/-! ### value.Fits and Size, at my words. -/
theorem vfits_any (ok ok2 : Nat → Prop) (f : Fm) (x : Vt) (v u : Value) (w : World) (hv : FmR w ok v f) (hu : VtR w ok2 u x) : Calls Try.prog 33 #[v, u] w fun e w' => e = .returned (.int .i64 (sizeR f x).2) ∧ Kp (fun _ => False) w w' := by
  obtain ⟨hw1, hw2⟩ : wfF f = true ∧ wfV x = true := by
    obtain ⟨_, _, h1⟩ := hv.tr
    obtain ⟨_, _, _, h2⟩ := hu.tr
    exact ⟨tr_wfF f _ h1, tr_wfV x _ h2⟩
  obtain ⟨K, hK⟩ := (Fits_ev f x hw1 hw2).rounds
  obtain ⟨⟨k, s, lo, hi, st⟩, P⟩ := f
  obtain ⟨⟨n, b⟩, l⟩ := x
  obtain ⟨A, c, rfl, _, _, _, _, _, _, _, h1⟩ := hv.parts
  obtain ⟨A1, c1, A2, c2, rfl, _, _, hbl, hb, _, _, h2⟩ := hu.parts
  obtain ⟨_, g1, g2⟩ := h1.c
  obtain ⟨_, g3, g4⟩ := br_c hb hbl
  obtain ⟨_, g5, g6⟩ := h2.c
  have := QP.value_Fits.calls K k s lo hi st A c (P.map ofF) n A1 c1 (bI b) A2 c2 (l.map ofV) _ w g2 g1 g4 g3 g6 g5 hK
  simp only [List.length_map, bI_len] at this
  exact this.mono fun e w' h => ⟨h.1, Kp.of_below h.2⟩
theorem vsize_any (ok ok2 : Nat → Prop) (f : Fm) (x : Vt) (v u : Value) (w : World) (hv : FmR w ok v f) (hu : VtR w ok2 u x) : Calls Try.prog 32 #[v, u] w fun e w' => e = .returned (.int .i64 (sizeR f x).1) ∧ Kp (fun _ => False) w w' := by
  obtain ⟨hw1, hw2⟩ : wfF f = true ∧ wfV x = true := by
    obtain ⟨_, _, h1⟩ := hv.tr
    obtain ⟨_, _, _, h2⟩ := hu.tr
    exact ⟨tr_wfF f _ h1, tr_wfV x _ h2⟩
  obtain ⟨K, hK⟩ := (Size_ev f x hw1 hw2).rounds
  obtain ⟨⟨k, s, lo, hi, st⟩, P⟩ := f
  obtain ⟨⟨n, b⟩, l⟩ := x
  obtain ⟨A, c, rfl, _, _, _, _, _, _, _, h1⟩ := hv.parts
  obtain ⟨A1, c1, A2, c2, rfl, _, _, hbl, hb, _, _, h2⟩ := hu.parts
  obtain ⟨_, g1, g2⟩ := h1.c
  obtain ⟨_, g3, g4⟩ := br_c hb hbl
  obtain ⟨_, g5, g6⟩ := h2.c
  have := QP.value_Size.calls K k s lo hi st A c (P.map ofF) n A1 c1 (bI b) A2 c2 (l.map ofV) _ w g2 g1 g4 g3 g6 g5 hK
  simp only [List.length_map, bI_len] at this
  exact this.mono fun e w' h => ⟨h.1, Kp.of_below h.2⟩
end Go.Proofs.Ytfcghajnnllmhaa

namespace Go.Proofs.Ytfcghajnnllmhaa
open Go.Joins Go.ChangeShapes Go.WideShapes Go.ChangeAt Go.RowKit Go.Deep

theorem i64B_of {n : Int} (h : (Lit.int .i64 n).wf = true) : i64B n := by
  obtain ⟨h0, h1⟩ := bounds_i64 h
  exact ⟨h0, by omega⟩
section
variable {H : Type} {enc : TypeId × Value → H} {w : World} {sp : Nat → Bool} {held : Bool} {r : Reach} {b0 : Nat}
end
end Go.Proofs.Ytfcghajnnllmhaa

namespace Go.Proofs.Ytfcghajnnllmhaa
open Go.Joins Go.ChangeShapes Go.WideShapes Go.ChangeAt Go.RowKit Go.Deep

theorem okWide_struct_ {P : Program} {w : World} {r : Reach} {b : Nat} {t : TypeId} {fs : Array Field} {v : Value} (ht : P.underlying t = some (.struct fs)) (h : Value.okWide P w r b t v) : ∃ cs, v = .agg cs := by
  simp only [Value.okWide, ht] at h
  obtain ⟨cs, h1, _⟩ := h
  exact ⟨cs, h1⟩
theorem form_type : TreeType Try.prog 27 25 (match Try.prog.underlying 27 with | some (.struct fs) => fs | _ => #[]) 5 where
  ht := by rw [Try.underlying27]
  hone := by rw [Try.underlying27]; kernel_rfl
  hC := by kernel_rfl
  hn := by rw [Try.underlying27]; rfl
  hlast := by rw [Try.underlying27]; rfl
  hts := Try.underlying25
  hB := by rw [show Try.prog.bytesOf 27 = 64 from by kernel_rfl]; omega
section
variable {H : Type} {enc : TypeId × Value → H} {w : World} {sp : Nat → Bool} {held : Bool} {r : Reach} {b0 : Nat}
theorem sized_at {P : Program} {ts : List TypeId} {ds : List (DataW H)} (hsz : (DataW.weightsEach P ts ds).all (· ≤ reachBytes) = true) {j : Nat} {t : TypeId} {d : DataW H} (ht : ts[j]? = some t) (hd : ds[j]? = some d) : (d.weights P t).all (· ≤ reachBytes) = true :=
  List.all_eq_true.2 fun n hn => List.all_eq_true.1 hsz n (DataW.weights_mem_each ht hd n hn)
theorem form_head : HeadOpen enc Try.prog w sp held (match Try.prog.underlying 27 with | some (.struct fs) => fs | _ => #[]) 5 FHd := by
  intro vs ds hl hf
  have each : ∀ i, i < 5 → ∃ n : Int, vs[i]? = some (.int .i64 n) ∧ i64B n := by
    intro i hi
    obtain ⟨f, v, d, ps, fuel, hfi, hv, _, ht, _⟩ := hf i hi
    have hft : f.type = 3 := by
      rw [Try.underlying27] at hfi
      rcases (show i = 0 ∨ i = 1 ∨ i = 2 ∨ i = 3 ∨ i = 4 by omega) with rfl | rfl | rfl | rfl | rfl <;>
        · simp at hfi
          rw [← hfi]
    rw [hft] at ht
    obtain ⟨k0, e0, _, hw0⟩ := DataW.trod_int Try.underlying3 ht
    simp only [List.cons.injEq, and_true] at e0
    exact ⟨k0, by rw [hv, e0], i64B_of hw0⟩
  obtain ⟨a, ha, b0⟩ := each 0 (by omega)
  obtain ⟨b, hb, b1⟩ := each 1 (by omega)
  obtain ⟨c, hc, b2⟩ := each 2 (by omega)
  obtain ⟨d, hd, b3⟩ := each 3 (by omega)
  obtain ⟨e, he, b4⟩ := each 4 (by omega)
  refine ⟨⟨a, b, c, d, e⟩, ?_, ⟨b0, b1, b2, b3, b4⟩⟩
  rcases vs with _ | ⟨v0, _ | ⟨v1, _ | ⟨v2, _ | ⟨v3, _ | ⟨v4, _ | ⟨v5, vs⟩⟩⟩⟩⟩⟩ <;> simp_all
theorem open_form {v : Value} {d : DataW H} {ps : List MemPlace} {ts : List TypeId} {ds : List (DataW H)} (hv : Value.okWide Try.prog w r b0 27 v) (h : DataW.Trod enc Try.prog w 0 sp held 27 v d ps)
    (_hsz : (DataW.weightsEach Try.prog ts ds).all (· ≤ reachBytes) = true) {j : Nat} (_ht : ts[j]? = some 27) (_hd : ds[j]? = some d) : ∃ x : Fm, FmR w (· < w.heap.size) v x := by
  obtain ⟨cs, rfl⟩ := okWide_struct_ Try.underlying27 hv
  obtain ⟨fuel, hf⟩ := h
  obtain ⟨x, hx⟩ := (open_tree_ form_type form_head fuel).1 _ _ _ hf (sized_at _hsz _ht _hd)
  have h1 := (FmR.of_tr hx).1
  rw [show (Value.agg cs).cells.toList.toArray = cs from by simp [Value.cells]] at h1
  exact ⟨x, h1⟩
end
end Go.Proofs.Ytfcghajnnllmhaa

namespace Go.Proofs.Ytfcghajnnllmhaa
open Go.RowKit

theorem value_info : (Try.prog.info? 46).map (fun i => (i.zero, i.size, i.bytes)) = some (some (.agg #[.int .u64 0, .slice none 0 0, .slice none 0 0]), 3, 56) := by kernel_rfl
/-- append of values to values of the call's own. -/
theorem app_vals {w : World} {ops : Array Oper} {rest : List Oper} {o : Oper} {a : Act} {Q : Exit → Act → World → Prop} (hgd : o.guard = none) (s x : Operand)
    (ho : o.op = .call { callee := .builtin .append, args := #[s, x], argTypes := #[44, 44] })
    (B : Nat) (A : Option Addr) (n c : Nat) (xs : List Value) (hs : a.eval s = .slice A n c) (hown : Own w (B ≤ ·) 46 3 (.slice A n c) n xs)
    (ok : Nat → Prop) (Ax : Option Addr) (m cx : Nat) (xx : List Value) (hx : a.eval x = .slice Ax m cx) (hr : Rd w ok 3 Ax m xx) (h1 : ∀ u ∈ xx, u.oneCell' = true)
    (hk2 : n + m ≤ 2199023255552) (hB : B ≤ w.heap.size)
    (h : ∀ A' c' w', Own w' (B ≤ ·) 46 3 (.slice A' (n + m) c') (n + m) (xs ++ xx) → Kp (B ≤ ·) w w' → wpList Try.prog ops Q rest (a.put o.dst (.slice A' (n + m) c')) w') : wpList Try.prog ops Q (o :: rest) a w := by
  obtain ⟨i0, hi0, hz0, hz1, hz2⟩ := info_parts value_info
  refine wpList_append_any w hgd s x _ ho 0 46 i0 _ 3 56 Try.underlying44 hi0 hz0 hz1 hz2 rfl (by omega) (.slice A n c) n xs hs hown.1 ok Ax m cx xx hx hr h1 (by simp only [maxLen]; omega) (by omega) (Nat.zero_le _) ?_
  intro v' w' h1 h2 h3
  have hk' : Kp (B ≤ ·) w w' := (Kp.refl _ _).grown h2 (fun j hj => .inl (hown.2 j hj))
  have ho' : Own w' (B ≤ ·) 46 3 v' (n + m) (xs ++ xx) := ⟨h1, fun j hj => by
    rcases h3 with e | e
    · exact hown.2 j (e ▸ hj)
    · rw [e] at hj
      injection hj with hj
      omega⟩
  obtain ⟨A', c', e, _⟩ := ho'.shape
  subst e
  exact h A' c' w' ho' hk'

set_option maxRecDepth 100000 in
theorem vclone_any (ok : Nat → Prop) (v : Value) (l : List Vt) (w : World) (hv : VsR w ok v l) (hl : l.length ≤ 2199023255552) :
    Calls Try.prog 57 #[v] w fun e w' => ∃ A c, e = .returned (.slice A l.length c) ∧ VsR w' (fun i => ok i ∨ w.heap.size ≤ i) (.slice A l.length c) l ∧ Kp (fun _ => False) w w' := by
  obtain ⟨A, c, rfl, hc, hc2, ht⟩ := id hv
  cases A with
  | none =>
    have h0 : l = [] := by
      rcases l with _ | ⟨a, l⟩
      · rfl
      · obtain ⟨b, off, e, _⟩ := ht (by simp)
        cases e
    subst h0
    have HN := fun W c => Lib.run_eql_slice_nil (P := Try.prog) W 44 46 none 0 c 0 0 Try.underlying44
    clear ht hv
    go_enter Try.func57, Try.ntmps57
    go_wp2_with fail
    go_ret
    exact ⟨none, 0, rfl, VsR.nil, Kp.refl _ _⟩
  | some ad =>
    have HN := fun W => Lib.run_eql_slice_nil (P := Try.prog) W 44 46 (some ad) l.length c 0 0 Try.underlying44
    obtain ⟨xs, hr, h1, hmv⟩ := TL.flat VHd_kp VHd_one ht
    have ka : Kp (fun _ => False) w (w.alloc (.cells #[] 46)) := (Kp.refl _ _).alloc _
    have HR := Lib.hid (hr.kp ka (fun _ _ h => h))
    have H1 := Lib.hid h1
    have HM := Lib.hid hmv
    have HO := Lib.hid (Own.lit_ w 46 3 [] #[] 0 w.heap.size rfl rfl (Nat.le_refl _) (by decide))
    have hz := ka.size
    clear hr h1 hmv ht hv
    go_enter Try.func57, Try.ntmps57
    go_wp2_with (at_builtin; refine app_vals rfl (.tmp 5) (.tmp 6) rfl w.heap.size _ 0 _ [] rfl HO.out _ (some ad) l.length c xs rfl HR.out H1.out (by omega) hz ?_; intro A2 c2 W2 o2 q2; have O2 := Lib.hid o2; have K2 := Lib.hid (ka.then_ q2 (fun i hi => .inr hi)); clear o2 q2; rw [Nat.zero_add] at *)
    go_ret
    obtain ⟨A', c', e, hcc⟩ := O2.out.shape
    injection e with e1 e2 e3
    subst e1 e3
    refine ⟨A2, c2, rfl, ⟨A2, c2, rfl, hcc, hc2, HM.out (fun _ => False) _ W2 A2 K2.out (fun _ _ h => h) (fun i hi => .inl hi) ?_⟩, K2.out⟩
    have hrd := O2.out.rd
    rw [List.nil_append] at hrd
    refine ⟨hrd.1, fun h0 => ?_⟩
    obtain ⟨ad', e', hsp, hb', hcell⟩ := hrd.2 h0
    exact ⟨ad', e', hsp, .inr hb', hcell⟩

set_option maxRecDepth 100000 in
theorem vnum_any (x : Int) (w : World) : Calls Try.prog 38 #[.int .u64 x] w fun e w' => e = .returned (.agg #[.int .u64 x, .slice none 0 0, .slice none 0 0]) ∧ Kp (fun _ => False) w w' := by
  have HK := Lib.hid (show ∀ o, Kp (fun _ => False) w (w.alloc o) from fun o => (Kp.refl _ _).alloc o)
  go_enter Try.func38, Try.ntmps38
  go_wp2_with fail
  refine bodyPost_ret (v := .agg #[.int .u64 x, .slice none 0 0, .slice none 0 0]) (by simp [results, Try.results38, go_sem]) rfl ⟨rfl, HK.out _⟩

theorem Kp.put3 {S : Nat → Prop} {a w : World} (h : Kp S a w) {B : Nat} (hB : S B ∨ a.heap.size ≤ B) (v0 v1 v2 : Value) : Kp S a (((w.setCell ⟨B, 0, none⟩ v0).setCell ⟨B, 1, none⟩ v1).setCell ⟨B, 2, none⟩ v2) :=
  ((h.at_ B hB 0 v0).at_ B hB 1 v1).at_ B hB 2 v2
set_option maxRecDepth 100000 in
theorem vlist_any (ok : Nat → Prop) (v : Value) (l : List Vt) (w : World) (hlt : ∀ i, ok i → i < w.heap.size) (hv : VsR w ok v l) (hl : l.length ≤ 2199023255552) :
    Calls Try.prog 36 #[v] w fun e w' => ∃ A c, e = .returned (.agg #[.int .u64 0, .slice none 0 0, .slice A l.length c]) ∧ VtR w' (fun i => ok i ∨ w.heap.size ≤ i) (.agg #[.int .u64 0, .slice none 0 0, .slice A l.length c]) (.mk ⟨0, []⟩ l) ∧ Kp (fun _ => False) w w' := by
  have HK := Lib.hid (show ∀ o, Kp (fun _ => False) w (w.alloc o) from fun o => (Kp.refl _ _).alloc o)
  have HC := Lib.hid (fun o => vclone_any ok v l (w.alloc o) (VsR.kp hv ((Kp.refl (fun _ => False) w).alloc o) (fun _ _ h => h)) hl)
  have HB := Lib.hid (Blk.new w 46 #[.int .u64 0, .slice none 0 0, .slice none 0 0])
  have HLT := Lib.hid hlt
  clear hv hlt
  go_enter Try.func36, Try.ntmps36
  go_wp2_with fail
  refine (HC.out _).mono ?_
  rintro e w1 ⟨A, c, rfl, hs1, hk1⟩
  have hb1 := HB.out.kp hk1 (fun h => h)
  have e0 := hb1.cell 0
  have e1 := hb1.cell 1
  have e2 := hb1.cell 2
  simp at e0 e1 e2
  have z0 := hb1.frozen 0
  have z1 := hb1.frozen 1
  have z2 := hb1.frozen 2
  have HK1 := Lib.hid ((HK.out _).then_ hk1 (fun _ h => h.elim))
  have HS1 := Lib.hid hs1
  have hlt := hb1.lt
  clear hk1 hs1 hb1
  go_wp2_with fail
  have hk9 := (Kp.refl (fun x => x = w.heap.size) w1).put3 (B := w.heap.size) (.inl rfl) (.int .u64 0) (.slice none 0 0) (.slice A l.length c)
  have hkw := HK1.out.then_ hk9 (fun i hi => .inr (by omega))
  have hs9 := HS1.out.kp hk9 (fun i hi he => by
    rw [World.size_alloc] at hi
    rcases hi with hi | hi
    · have := HLT.out i hi; omega
    · omega)
  refine bodyPost_ret (v := .agg #[.int .u64 0, .slice none 0 0, .slice A l.length c]) (by simp [results, Try.results36, go_sem, e0, e1, e2]) rfl ⟨A, c, rfl, ⟨_, _, rfl, ⟨by show (0 : Int) ≤ 0; omega, by show (0 : Int) < _; omega⟩, BR.nil, by show 0 ≤ 140737488355328; omega, hs9.mono (fun i hi => ?_)⟩, hkw⟩
  rw [World.size_alloc] at hi
  rcases hi with hi | hi
  · exact .inl hi
  · exact .inr (by omega)
end Go.Proofs.Ytfcghajnnllmhaa

namespace Go.Proofs.Ytfcghajnnllmhaa
open Go.RowKit

theorem FHd_lt : HeadLt FHd := ⟨fun h => h⟩
theorem FsR.lt_ {w : World} {ok : Nat → Prop} {v : Value} {l : List Fm} (h : FsR w ok v l) : FsR w (fun i => ok i ∧ i < w.heap.size) v l := by
  obtain ⟨A, c, e, h1, h2, h3⟩ := h
  exact ⟨A, c, e, h1, h2, h3.lt_ FHd_lt⟩
theorem FmR.lt_ {w : World} {ok : Nat → Prop} {v : Value} {f : Fm} (h : FmR w ok v f) : FmR w (fun i => ok i ∧ i < w.heap.size) v f := by
  obtain ⟨sv, e, h1, h2⟩ := h
  exact ⟨sv, e, h1, h2.lt_⟩

/-- Forms in a slice, of blocks that there are. -/
def FsW (w : World) (v : Value) (l : List Fm) : Prop := FsR w (· < w.heap.size) v l
theorem FsW.kp {w w' : World} {v : Value} {l : List Fm} (h : FsW w v l) (hk : Kp (fun _ => False) w w') : FsW w' v l :=
  (FsR.kp h hk (fun _ _ h => h)).mono (fun _ hi => Nat.lt_of_lt_of_le hi hk.size)

end Go.Proofs.Ytfcghajnnllmhaa

namespace Go.Proofs.Ytfcghajnnllmhaa
open Go.RowKit

/-- One form, laid as a slice. -/
theorem FsR.one_ {w : World} {ok : Nat → Prop} {f : Fm} {A : Option Addr} {c : Nat} (h : FmR w ok (.agg #[.int .i64 f.a.k, .int .i64 f.a.s, .int .i64 f.a.lo, .int .i64 f.a.hi, .int .i64 f.a.st, .slice A f.l.length c]) f) {W : World} {B : Nat} {S : Nat → Prop}
    (hk : Kp S w W) (hd : ∀ i, ok i → ¬ S i) (hb : w.heap.size ≤ B) (hB : Blk W B 27 #[.int .i64 f.a.k, .int .i64 f.a.s, .int .i64 f.a.lo, .int .i64 f.a.hi, .int .i64 f.a.st, .slice A f.l.length c]) :
    FsR W (fun i => ok i ∨ w.heap.size ≤ i) (.slice (some ⟨B, 0, none⟩) 1 1) [f] := by
  refine ⟨_, _, rfl, Nat.le_refl _, by simp, fun _ => ⟨B, 0, rfl, .inr hb, ?_⟩⟩
  rw [TRs]
  obtain ⟨sv, e, ht⟩ := FmR.tr ((h.kp hk hd).mono (ok' := fun i => ok i ∨ w.heap.size ≤ i) (fun _ h => .inl h))
  simp only [Value.agg.injEq, Array.mk.injEq, List.cons.injEq, and_true, true_and] at e
  subst e
  refine ⟨⟨_, ht, fun j u hu => ?_⟩, by rw [TRs]; trivial⟩
  rw [Nat.zero_add, hB.cell]
  simpa using hu

/-! ### Rows in rows. -/
structure NestP (j : Nat) (f : Fm) : Prop where
  deep : ∀ m, deepB m f = decide (m ≤ j)
  check : checkR f = 0
  opn : openR f = false
  least : leastR f = 2
theorem NestP.row {j : Nat} {f : Fm} (h : NestP j f) : NestP (j + 1) (.mk ⟨3, 0, 0, 0, 0⟩ [f]) := by
  refine ⟨fun m => ?_, ?_, ?_, ?_⟩
  · cases m with
    | zero => rfl
    | succ m =>
      show [f].any (deepB m) = _
      simp [h.deep]
  · rw [checkR_mk]
    have e : ownN 3 0 0 0 0 [f].length = 0 := by rfl
    have e2 : checkL [f] = 0 := by rw [checkL, checkL, h.check]; rfl
    have e3 : badF 3 [f].length 0 [f] = false := by rw [badF, badF, badI, h.opn]; rfl
    simp only [e, e2, e3]
    rfl
  · rw [openR_mk]
    simp only [openL, h.opn]
    rfl
  · have e : spanR FH.lo f = 2 := h.least
    rw [leastR, spanR_mk]
    simp only [spanL, e]
    simp [wrap64]
end Go.Proofs.Ytfcghajnnllmhaa

namespace Go.Proofs.Ytfcghajnnllmhaa
open Go.RowKit

def numsV (ns : List Int) : List Vt := ns.map fun n => .mk ⟨n, []⟩ []
def numsC (ns : List Int) : List Value := ns.flatMap fun n => [.int .u64 n, .slice none 0 0, .slice none 0 0]
/-- Numbers, laid as a slice of values. -/
theorem VsR.nums {W : World} {g : Nat} {ns : List Int} (hu : ∀ n ∈ ns, u64B n) (hl : ns.length ≤ 140737488355328) (hb : Blk W g 46 (numsC ns).toArray) : VsR W (· = g) (.slice (some ⟨g, 0, none⟩) ns.length ns.length) (numsV ns) := by
  refine ⟨some ⟨g, 0, none⟩, ns.length, by simp [numsV], by simp [numsV], by simpa [numsV] using hl, fun h0 => ⟨g, 0, rfl, rfl, ?_⟩⟩
  refine TRs.of (fun i hi => ?_)
  have hi' : i < ns.length := by simpa [numsV] using hi
  refine ⟨[.int .u64 ns[i], .slice none 0 0, .slice none 0 0], ?_, fun j u hu' => ?_⟩
  · have e : (numsV ns)[i] = .mk ⟨ns[i], []⟩ [] := by simp [numsV]
    rw [e]
    exact (TR_def _ _ _ _ _ _).2 ⟨[.int .u64 ns[i], .slice none 0 0], none, 0, rfl, rfl, ⟨_, rfl, hu _ (List.getElem_mem hi'), BR.nil, by show 0 ≤ _; omega⟩, Nat.le_refl _, by show 0 ≤ _; omega, fun h => by simp [RT.l] at h⟩
  · rw [Nat.zero_add, hb.cell]
    have hj : j < 3 := by
      have := (List.getElem?_eq_some_iff.1 hu').1
      simpa using this
    have key : ∀ (ns : List Int) (i : Nat) (hi : i < ns.length), (numsC ns)[i * 3 + j]? = ([.int .u64 (ns[i]'hi), .slice none 0 0, .slice none 0 0] : List Value)[j]? := by
      intro ns
      induction ns with
      | nil => intro i hi; simp at hi
      | cons n t ih =>
        intro i hi
        rw [numsC, List.flatMap_cons]
        cases i with
        | zero =>
          rw [List.getElem?_append_left (by simp; omega)]
          simp
        | succ i =>
          rw [List.getElem?_append_right (by simp; omega)]
          have := ih i (by simpa using hi)
          rw [numsC] at this
          simp only [List.length_cons, List.length_nil, List.getElem_cons_succ]
          rw [← this]
          congr 1
          omega
    have := key ns i hi'
    rw [hu'] at this
    simpa using this

def F5a : Fm := .mk ⟨2, 1, 2, 4, 2⟩ [.mk ⟨0, 1, 0, 0, 0⟩ []]
theorem fits5a : sizeR F5a (.mk ⟨0, []⟩ (numsV [5, 6])) = (3, 0) := by kernel_rfl
theorem fits5b : sizeR F5a (.mk ⟨0, []⟩ (numsV [5, 6, 7])) = (0, 5) := by kernel_rfl
theorem fits5c : sizeR F5a (.mk ⟨0, []⟩ (numsV [5, 256])) = (0, 3) := by kernel_rfl

set_option maxRecDepth 100000 in
set_option maxHeartbeats 3200000 in
theorem alive05 (w : World) : Calls Try.prog 30 #[] w fun e w' => e = .returned (.bool true) ∧ Kp (fun _ => False) w w' := by
  have u5 : ∀ n : Int, 0 ≤ n → n ≤ 1000 → u64B n := fun n h0 h1 => by unfold u64B; omega
  have bb : ∀ n : Int, 0 ≤ n → n ≤ 100000 → i64B n := fun n h0 h1 => by unfold i64B; omega
  have HN := Lib.hid (fun x W => vnum_any x W)
  have HL := Lib.hid (fun (ns : List Int) (hu : ∀ n ∈ ns, u64B n) (hl : ns.length ≤ 1000) W g (hb : Blk W g 46 (numsC ns).toArray) => vlist_any (· = g) _ (numsV ns) W (fun i hi => hi ▸ hb.lt) (VsR.nums hu (by omega) hb) (by simp [numsV]; omega))
  have hn2 : ∀ n ∈ ([5, 6] : List Int), u64B n := by intro n hn; simp at hn; rcases hn with rfl | rfl <;> exact u5 _ (by omega) (by omega)
  have hn3 : ∀ n ∈ ([5, 6, 7] : List Int), u64B n := by intro n hn; simp at hn; rcases hn with rfl | rfl | rfl <;> exact u5 _ (by omega) (by omega)
  have hn4 : ∀ n ∈ ([5, 256] : List Int), u64B n := by intro n hn; simp at hn; rcases hn with rfl | rfl <;> exact u5 _ (by omega) (by omega)
  have HL2 := Lib.hid (fun W g hb => HL.out [5, 6] hn2 (by simp) W g hb)
  have HL3 := Lib.hid (fun W g hb => HL.out [5, 6, 7] hn3 (by simp) W g hb)
  have HL4 := Lib.hid (fun W g hb => HL.out [5, 256] hn4 (by simp) W g hb)
  clear hn2 hn3 hn4 HL
  have hka0 : ∀ o1 o2, Kp (fun _ => False) w ((w.alloc o1).alloc o2) := fun o1 o2 => ((Kp.refl _ _).alloc o1).alloc o2
  have HKA := Lib.hid hka0
  have h1 : FmR w (· < w.heap.size) (.agg #[.int .i64 0, .int .i64 1, .int .i64 0, .int .i64 0, .int .i64 0, .slice none 0 0]) (.mk ⟨0, 1, 0, 0, 0⟩ []) := FmW.flat w 0 1 0 0 0 (bb 0 (by omega) (by omega)) (bb 1 (by omega) (by omega)) (bb 0 (by omega) (by omega)) (bb 0 (by omega) (by omega)) (bb 0 (by omega) (by omega))
  have hform : ∀ o2, FmR ((w.alloc (.cells #[.int .i64 0, .int .i64 1, .int .i64 0, .int .i64 0, .int .i64 0, .slice none 0 0] 27)).alloc o2) (fun i => i < w.heap.size ∨ w.heap.size ≤ i) (.agg #[.int .i64 2, .int .i64 1, .int .i64 2, .int .i64 4, .int .i64 2, .slice (some ⟨w.heap.size, 0, none⟩) 1 1]) F5a := fun o2 =>
    ⟨_, rfl, ⟨bb 2 (by omega) (by omega), bb 1 (by omega) (by omega), bb 2 (by omega) (by omega), bb 4 (by omega) (by omega), bb 2 (by omega) (by omega)⟩, FsR.one_ (f := .mk ⟨0, 1, 0, 0, 0⟩ []) h1 (hka0 _ _) (fun _ _ h => h) (Nat.le_refl _) ((Blk.new w 27 _).alloc o2)⟩
  have HFM := Lib.hid hform
  have HBF := Lib.hid (Blk.new (w.alloc (.cells #[.int .i64 0, .int .i64 1, .int .i64 0, .int .i64 0, .int .i64 0, .slice none 0 0] 27)) 27 #[.int .i64 2, .int .i64 1, .int .i64 2, .int .i64 4, .int .i64 2, .slice (some ⟨w.heap.size, 0, none⟩) 1 1])
  clear hka0 hform u5 bb h1
  go_enter Try.func30, Try.ntmps30
  go_upto_region 2 with fail
  obtain ⟨W0, hW0⟩ : ∃ W0, (w.alloc (.cells #[.int .i64 0, .int .i64 1, .int .i64 0, .int .i64 0, .int .i64 0, .slice none 0 0] 27)).alloc (.cells #[.int .i64 2, .int .i64 1, .int .i64 2, .int .i64 4, .int .i64 2, .slice (some ⟨w.heap.size, 0, none⟩) 1 1] 27) = W0 := ⟨_, rfl⟩
  have hk0 := HKA.out (.cells #[.int .i64 0, .int .i64 1, .int .i64 0, .int .i64 0, .int .i64 0, .slice none 0 0] 27) (.cells #[.int .i64 2, .int .i64 1, .int .i64 2, .int .i64 4, .int .i64 2, .slice (some ⟨w.heap.size, 0, none⟩) 1 1] 27)
  have hf0 := HFM.out (.cells #[.int .i64 2, .int .i64 1, .int .i64 2, .int .i64 4, .int .i64 2, .slice (some ⟨w.heap.size, 0, none⟩) 1 1] 27)
  have hb0 := HBF.out
  rw [World.size_alloc] at hb0
  rw [hW0] at hk0 hf0 hb0 ⊢
  obtain ⟨gi, hgi⟩ : ∃ gi, w.heap.size = gi := ⟨_, rfl⟩
  obtain ⟨g1, hg1⟩ : ∃ g1, gi + 1 = g1 := ⟨_, rfl⟩
  rw [hgi] at hf0 hb0 ⊢
  rw [hg1] at hb0 ⊢
  have HK0 := Lib.hid hk0
  have HF0 := Lib.hid hf0
  have HB0 := Lib.hid hb0
  clear hW0 hk0 hf0 hb0 hgi hg1 HFM HBF HKA
  go_wp2_with fail
  refine (HN.out _ _).mono ?_
  rintro e w1 ⟨rfl, hk1⟩
  have HK1 := Lib.hid hk1
  clear hk1
  go_wp2_with fail
  refine (HN.out _ _).mono ?_
  rintro e w2 ⟨rfl, hk2⟩
  have HK2 := Lib.hid (HK1.out.then_ hk2 (fun _ h => h.elim))
  clear hk2
  have HB2 := Lib.hid (Blk.new w2 46 #[.int .u64 5, .slice none 0 0, .slice none 0 0, .int .u64 6, .slice none 0 0, .slice none 0 0])
  have HK2a := Lib.hid (HK2.out.alloc (.cells #[.int .u64 5, .slice none 0 0, .slice none 0 0, .int .u64 6, .slice none 0 0, .slice none 0 0] 46))
  go_wp2_with fail
  refine (HL2.out _ _ HB2.out).mono ?_
  rintro e w3 ⟨A, c, rfl, hv3, hk3⟩
  simp only [show (numsV [5, 6]).length = 2 from rfl] at hv3 ⊢
  have hk30 := HK2a.out.then_ hk3 (fun _ h => h.elim)
  have hka := hk30.alloc (.cells #[.int .u64 0, .slice none 0 0, .slice A 2 c] 46)
  have HB3 := Lib.hid (Blk.new w3 46 #[.int .u64 0, .slice none 0 0, .slice A 2 c])
  have HK3 := Lib.hid hka
  have HV3 := Lib.hid (hv3.kp ((Kp.refl (fun _ => False) w3).alloc (.cells #[.int .u64 0, .slice none 0 0, .slice A 2 c] 46)) (fun _ _ h => h))
  clear hv3 hk3 hk30 hka
  go_upto_region 3 with fail
  obtain ⟨W1, hW1⟩ : ∃ W1, w3.alloc (.cells #[.int .u64 0, .slice none 0 0, .slice A 2 c] 46) = W1 := ⟨_, rfl⟩
  have hk3 := HK3.out
  have hv3 := HV3.out
  have hb3 := HB3.out
  rw [hW1] at hk3 hv3 hb3 ⊢
  obtain ⟨g2, hg2⟩ : ∃ g2, w3.heap.size = g2 := ⟨_, rfl⟩
  rw [hg2] at hb3 ⊢
  have HCE := Lib.hid (show ∀ w', Kp (fun _ => False) W1 w' → ((w').cell? ⟨g1, 0, none⟩ = some (.int .i64 2) ∧ (w').cell? ⟨g1, 1, none⟩ = some (.int .i64 1) ∧ (w').cell? ⟨g1, 2, none⟩ = some (.int .i64 2) ∧ (w').cell? ⟨g1, 3, none⟩ = some (.int .i64 4) ∧ (w').cell? ⟨g1, 4, none⟩ = some (.int .i64 2) ∧ (w').cell? ⟨g1, 5, none⟩ = some (.slice (some ⟨gi, 0, none⟩) 1 1) ∧ (w').cell? ⟨g2, 0, none⟩ = some (.int .u64 0) ∧ (w').cell? ⟨g2, 1, none⟩ = some (.slice none 0 0) ∧ (w').cell? ⟨g2, 2, none⟩ = some (.slice A 2 c)) from fun w' hk => by
    have hb := (HB0.out.kp hk3 (fun h => h)).kp hk (fun h => h)
    have hc := hb3.kp hk (fun h => h)
    exact ⟨hb.cell 0, hb.cell 1, hb.cell 2, hb.cell 3, hb.cell 4, hb.cell 5, hc.cell 0, hc.cell 1, hc.cell 2⟩)
  have HFC := Lib.hid (show ∀ (x : Vt) (r : Int × Int), sizeR F5a x = r → ∀ u W, Kp (fun _ => False) W1 W → (∃ ok, VtR W ok u x) → Calls Try.prog 33 #[.agg #[.int .i64 2, .int .i64 1, .int .i64 2, .int .i64 4, .int .i64 2, .slice (some ⟨gi, 0, none⟩) 1 1], u] W fun e w' => e = .returned (.int .i64 r.2) ∧ Kp (fun _ => False) W w' from fun x r hr u W hk ⟨ok, hu⟩ => hr ▸ vfits_any _ ok F5a x _ u W ((HF0.out.kp hk3 (fun _ _ h => h)).kp hk (fun _ _ h => h)) hu)
  have HSC := Lib.hid (show ∀ u W, Kp (fun _ => False) W1 W → (∃ ok, VtR W ok u (.mk ⟨0, []⟩ (numsV [5, 6]))) → Calls Try.prog 32 #[.agg #[.int .i64 2, .int .i64 1, .int .i64 2, .int .i64 4, .int .i64 2, .slice (some ⟨gi, 0, none⟩) 1 1], u] W fun e w' => e = .returned (.int .i64 3) ∧ Kp (fun _ => False) W w' from fun u W hk ⟨ok, hu⟩ => by
    have := vsize_any _ ok F5a _ _ u W ((HF0.out.kp hk3 (fun _ _ h => h)).kp hk (fun _ _ h => h)) hu
    rw [fits5a] at this
    exact this)
  have HVA := Lib.hid (show ∀ W, Kp (fun _ => False) W1 W → VtR W (fun i => i = w2.heap.size ∨ (w2.alloc (.cells #[.int .u64 5, .slice none 0 0, .slice none 0 0, .int .u64 6, .slice none 0 0, .slice none 0 0] 46)).heap.size ≤ i) (.agg #[.int .u64 0, .slice none 0 0, .slice A 2 c]) (.mk ⟨0, []⟩ (numsV [5, 6])) from fun W hk => hv3.kp hk (fun _ _ h => h))
  have HKW := Lib.hid hk3
  have HKR := Lib.hid (Kp.refl (fun _ => False) W1)
  have HFA := Lib.hid (HFC.out _ _ fits5a)
  have HFB := Lib.hid (HFC.out _ _ fits5b)
  have HFD := Lib.hid (HFC.out _ _ fits5c)
  clear hW1 hk3 hv3 hb3 hg2 HFC HK1 HK2 HK2a HK3 HV3 HB3 HB2 HF0 HB0 HL2
  go_region_held3 (fun w' => ((w').cell? ⟨g1, 0, none⟩ = some (.int .i64 2) ∧ (w').cell? ⟨g1, 1, none⟩ = some (.int .i64 1) ∧ (w').cell? ⟨g1, 2, none⟩ = some (.int .i64 2) ∧ (w').cell? ⟨g1, 3, none⟩ = some (.int .i64 4) ∧ (w').cell? ⟨g1, 4, none⟩ = some (.int .i64 2) ∧ (w').cell? ⟨g1, 5, none⟩ = some (.slice (some ⟨gi, 0, none⟩) 1 1) ∧ (w').cell? ⟨g2, 0, none⟩ = some (.int .u64 0) ∧ (w').cell? ⟨g2, 1, none⟩ = some (.slice none 0 0) ∧ (w').cell? ⟨g2, 2, none⟩ = some (.slice A 2 c))) (first | exact HCE.out _ HKR.out | exact HCE.out _ HKR.out.drew | exact HCE.out _ (HKR.out.alloc _) | exact HCE.out _ (HKR.out.drew.alloc _)) (first
    | (go_at_call_of 33 (Value.slice A 2 c); refine (HFA.out _ _ ?_ ?_).mono ?_; exact (by first | exact HKR.out | exact HKR.out.drew | exact HKR.out.alloc _ | exact (HKR.out.drew).alloc _ | exact (HKR.out.alloc _).drew); exact ⟨_, HVA.out _ (by first | exact HKR.out | exact HKR.out.drew | exact HKR.out.alloc _ | exact (HKR.out.drew).alloc _ | exact (HKR.out.alloc _).drew)⟩; rintro e w5 ⟨rfl, hk5⟩; have hq := Kp.then_ (a := W1) (S := fun _ => False) (by first | exact HKR.out | exact HKR.out.drew | exact HKR.out.alloc _ | exact (HKR.out.drew).alloc _ | exact (HKR.out.alloc _).drew) hk5 (fun _ h => h.elim); clear HKR; have HKR := Lib.hid hq; clear hq; clear hk5)
    | (go_at_call 32; refine (HSC.out _ _ ?_ ?_).mono ?_; exact (by first | exact HKR.out | exact HKR.out.drew | exact HKR.out.alloc _ | exact (HKR.out.drew).alloc _ | exact (HKR.out.alloc _).drew); exact ⟨_, HVA.out _ (by first | exact HKR.out | exact HKR.out.drew | exact HKR.out.alloc _ | exact (HKR.out.drew).alloc _ | exact (HKR.out.alloc _).drew)⟩; rintro e w5 ⟨rfl, hk5⟩; have hq := Kp.then_ (a := W1) (S := fun _ => False) (by first | exact HKR.out | exact HKR.out.drew | exact HKR.out.alloc _ | exact (HKR.out.drew).alloc _ | exact (HKR.out.alloc _).drew) hk5 (fun _ h => h.elim); clear HKR; have HKR := Lib.hid hq; clear hq; clear hk5)
    | (go_at_call 38; refine (HN.out _ _).mono ?_; rintro e w5 ⟨rfl, hk5⟩; have hq := Kp.then_ (a := W1) (S := fun _ => False) (by first | exact HKR.out | exact HKR.out.drew | exact HKR.out.alloc _ | exact (HKR.out.drew).alloc _ | exact (HKR.out.alloc _).drew) hk5 (fun _ h => h.elim); clear HKR; have HKR := Lib.hid hq; clear hq; clear hk5)
    | (go_at_call_of 36 (3 : Nat); refine (HL3.out _ _ ?_).mono ?_; (first | exact Blk.new _ _ _ | exact (Blk.new _ _ _).drew); rintro e w5 ⟨A5, c5, rfl, hv5, hk5⟩; have HV5 := Lib.hid hv5; clear hv5; have hq := Kp.then_ (a := W1) (S := fun _ => False) (by first | exact HKR.out | exact HKR.out.drew | exact HKR.out.alloc _ | exact (HKR.out.drew).alloc _ | exact (HKR.out.alloc _).drew) hk5 (fun _ h => h.elim); clear HKR; have HKR := Lib.hid hq; clear hq; clear hk5)
    | (go_at_call_of 36 (2 : Nat); refine (HL4.out _ _ ?_).mono ?_; (first | exact Blk.new _ _ _ | exact (Blk.new _ _ _).drew); rintro e w5 ⟨A6, c6, rfl, hv5, hk5⟩; have HV6 := Lib.hid hv5; clear hv5; have hq := Kp.then_ (a := W1) (S := fun _ => False) (by first | exact HKR.out | exact HKR.out.drew | exact HKR.out.alloc _ | exact (HKR.out.drew).alloc _ | exact (HKR.out.alloc _).drew) hk5 (fun _ h => h.elim); clear HKR; have HKR := Lib.hid hq; clear hq; clear hk5)
    | (go_at_call_of 33 A5; refine (HFB.out _ _ ?_ ?_).mono ?_; exact (by first | exact HKR.out | exact HKR.out.drew | exact HKR.out.alloc _ | exact (HKR.out.drew).alloc _ | exact (HKR.out.alloc _).drew); (first | exact ⟨_, HV5.out⟩ | exact ⟨_, HV5.out.kp (Kp.refl (fun _ => False) _).drew (fun _ _ h => h)⟩); rintro e w5 ⟨rfl, hk5⟩; have hq := Kp.then_ (a := W1) (S := fun _ => False) (by first | exact HKR.out | exact HKR.out.drew | exact HKR.out.alloc _ | exact (HKR.out.drew).alloc _ | exact (HKR.out.alloc _).drew) hk5 (fun _ h => h.elim); clear HKR; have HKR := Lib.hid hq; clear hq; clear hk5)
    | (go_at_call_of 33 A6; refine (HFD.out _ _ ?_ ?_).mono ?_; exact (by first | exact HKR.out | exact HKR.out.drew | exact HKR.out.alloc _ | exact (HKR.out.drew).alloc _ | exact (HKR.out.alloc _).drew); (first | exact ⟨_, HV6.out⟩ | exact ⟨_, HV6.out.kp (Kp.refl (fun _ => False) _).drew (fun _ _ h => h)⟩); rintro e w5 ⟨rfl, hk5⟩; have hq := Kp.then_ (a := W1) (S := fun _ => False) (by first | exact HKR.out | exact HKR.out.drew | exact HKR.out.alloc _ | exact (HKR.out.drew).alloc _ | exact (HKR.out.alloc _).drew) hk5 (fun _ h => h.elim); clear HKR; have HKR := Lib.hid hq; clear hq; clear hk5))
  go_wp2_with fail
  go_ret
  exact ⟨rfl, HK0.out.then_ (HKW.out.then_ HKR.out (fun _ h => h.elim)) (fun _ h => h.elim)⟩
end Go.Proofs.Ytfcghajnnllmhaa

namespace Go.Proofs.Ytfcghajnnllmhaa.QP
open Go.RowKit Go.Proofs.YtfcghajnnllmhaaW.PrintWords Go.Proofs.YtfcghajnnllmhaaW.PrintLast Go.Proofs.YtfcghajnnllmhaaW.PrintMore
attribute [local go_sem] max2_int min2_int max_two min_two max_three min_three max_four min_four   -- for this text's walks alone
set_option linter.unusedVariables false
set_option linter.unusedSimpArgs false

/-! ### passepartoutlaw05_alive: function 30 -/
def passepartoutlaw05_alive.f  : Option (Bool) := some true
set_option maxHeartbeats 8000000 in
set_option maxRecDepth 100000 in
theorem passepartoutlaw05_alive.calls  (r : Bool) (w : World)  (h : passepartoutlaw05_alive.f  = some r) :
    Calls Try.prog 30 #[] w fun e w' => e = .returned (.bool r) ∧ Below w.heap.size w w' := by
  unfold passepartoutlaw05_alive.f at h
  injection h with h
  subst h
  exact (alive05 w).mono fun e w' h => ⟨h.1, h.2.below⟩

end Go.Proofs.Ytfcghajnnllmhaa.QP

namespace Go.Proofs.Ytfcghajnnllmhaa.QP
open Go.RowKit Go.Proofs.YtfcghajnnllmhaaW.PrintWords Go.Proofs.YtfcghajnnllmhaaW.PrintLast Go.Proofs.YtfcghajnnllmhaaW.PrintMore
attribute [local go_sem] max2_int min2_int max_two min_two max_three min_three max_four min_four   -- for this text's walks alone
set_option linter.unusedVariables false
set_option linter.unusedSimpArgs false

/-! ### passepartoutlaw05_ValueSizes: function 8 -/
def passepartoutlaw05_ValueSizes.j0 : Nat → Bool → Int → Int → Int → Int → Int → List (S27) → Int → List Int → List (S46) → Option (Bool)
  | 0, _, _, _, _, _, _, _, _, _, _ => none
  | k + 1, x14, x287000, x287001, x287002, x287003, x287004, x287005, x288000, x288001, x288002 => if x14 = true then ((passepartoutlaw05_alive.f).bind fun t293 => (some t293)) else ((value_Size.f k x287000 x287001 x287002 x287003 x287004 x287005 x288000 x288001 x288002).bind fun t294 => ((value_Fits.f k x287000 x287001 x287002 x287003 x287004 x287005 x288000 x288001 x288002).bind fun t295 => (if t295 = 0 then ((passepartoutref04_Least.f k x287000 x287001 x287002 x287003 x287004 x287005).bind fun t296 => (if t294 ≥ t296 then ((passepartoutref04_Most.f k x287000 x287001 x287002 x287003 x287004 x287005).bind fun t297 => (some (decide (t294 ≤ t297)))) else (some false))) else (some (t294 == 0)))))
def passepartoutlaw05_ValueSizes.f (k : Nat) (a0_0 : Int) (a0_1 : Int) (a0_2 : Int) (a0_3 : Int) (a0_4 : Int) (l0_5 : List (S27)) (a1_0 : Int) (l1_1 : List Int) (l1_2 : List (S46)) : Option (Bool) := (passepartoutlaw05_alive.f).bind fun t288 => (if t288 = true then ((passepartoutlaw05_Great.f k a0_0 a0_1 a0_2 a0_3 a0_4 l0_5 (([(⟨a1_0, l1_1, l1_2⟩ : S46)] : List (S46)))).bind fun t292 => (passepartoutlaw05_ValueSizes.j0 k (decide (t292 > 0)) a0_0 a0_1 a0_2 a0_3 a0_4 l0_5 a1_0 l1_1 l1_2)) else (passepartoutlaw05_ValueSizes.j0 k true a0_0 a0_1 a0_2 a0_3 a0_4 l0_5 a1_0 l1_1 l1_2))
theorem passepartoutlaw05_ValueSizes.mono_l : ∀ k, (∀ y0 y1 y2 y3 y4 y5 y6 y7 y8 y9, LeO (passepartoutlaw05_ValueSizes.j0 k y0 y1 y2 y3 y4 y5 y6 y7 y8 y9) (passepartoutlaw05_ValueSizes.j0 (k + 1) y0 y1 y2 y3 y4 y5 y6 y7 y8 y9))
  | 0 => fun _ _ _ _ _ _ _ _ _ _ r h => by simp [passepartoutlaw05_ValueSizes.j0] at h
  | k + 1 => by
    have ih0 := passepartoutlaw05_ValueSizes.mono_l k
    · intro y0 y1 y2 y3 y4 y5 y6 y7 y8 y9
      unfold passepartoutlaw05_ValueSizes.j0
      repeat' first
      | (with_reducible exact ih0 _ _ _ _ _ _ _ _ _ _)
      | (with_reducible exact passepartoutlaw05_Great.mono _ _ _ _ _ _ _ _)
      | (with_reducible exact passepartoutref04_Least.mono _ _ _ _ _ _ _)
      | (with_reducible exact passepartoutref04_Most.mono _ _ _ _ _ _ _)
      | (with_reducible exact value_Fits.mono _ _ _ _ _ _ _ _ _ _)
      | (with_reducible exact value_Size.mono _ _ _ _ _ _ _ _ _ _)
      | (with_reducible exact LeO.refl _)
      | (with_reducible exact LeO.none _)
      | (with_reducible refine LeO.ite ?_ ?_)
      | (with_reducible refine LeO.bind ?_ (fun _ => ?_))
      | exact ih0 _ _ _ _ _ _ _ _ _ _
      | exact passepartoutlaw05_Great.mono _ _ _ _ _ _ _ _
      | exact passepartoutref04_Least.mono _ _ _ _ _ _ _
      | exact passepartoutref04_Most.mono _ _ _ _ _ _ _
      | exact value_Fits.mono _ _ _ _ _ _ _ _ _ _
      | exact value_Size.mono _ _ _ _ _ _ _ _ _ _
      | exact LeO.none _
      | refine LeO.ite ?_ ?_
      | refine LeO.bind ?_ (fun _ => ?_)
theorem passepartoutlaw05_ValueSizes.mono : ∀ a0 a1 a2 a3 a4 a5 a6 a7 a8 k, LeO (passepartoutlaw05_ValueSizes.f k a0 a1 a2 a3 a4 a5 a6 a7 a8) (passepartoutlaw05_ValueSizes.f (k + 1) a0 a1 a2 a3 a4 a5 a6 a7 a8) := by
  intro a0 a1 a2 a3 a4 a5 a6 a7 a8 k
  have ih0 := passepartoutlaw05_ValueSizes.mono_l k
  unfold passepartoutlaw05_ValueSizes.f
  repeat' first
      | (with_reducible exact ih0 _ _ _ _ _ _ _ _ _ _)
      | (with_reducible exact passepartoutlaw05_Great.mono _ _ _ _ _ _ _ _)
      | (with_reducible exact passepartoutref04_Least.mono _ _ _ _ _ _ _)
      | (with_reducible exact passepartoutref04_Most.mono _ _ _ _ _ _ _)
      | (with_reducible exact value_Fits.mono _ _ _ _ _ _ _ _ _ _)
      | (with_reducible exact value_Size.mono _ _ _ _ _ _ _ _ _ _)
      | (with_reducible exact LeO.refl _)
      | (with_reducible exact LeO.none _)
      | (with_reducible refine LeO.ite ?_ ?_)
      | (with_reducible refine LeO.bind ?_ (fun _ => ?_))
      | exact ih0 _ _ _ _ _ _ _ _ _ _
      | exact passepartoutlaw05_Great.mono _ _ _ _ _ _ _ _
      | exact passepartoutref04_Least.mono _ _ _ _ _ _ _
      | exact passepartoutref04_Most.mono _ _ _ _ _ _ _
      | exact value_Fits.mono _ _ _ _ _ _ _ _ _ _
      | exact value_Size.mono _ _ _ _ _ _ _ _ _ _
      | exact LeO.none _
      | refine LeO.ite ?_ ?_
      | refine LeO.bind ?_ (fun _ => ?_)
set_option maxHeartbeats 8000000 in
set_option maxRecDepth 100000 in
theorem passepartoutlaw05_ValueSizes.calls (k : Nat) (a0_0 : Int) (a0_1 : Int) (a0_2 : Int) (a0_3 : Int) (a0_4 : Int) (A0_5 : Option Addr) (c0_5 : Nat) (l0_5 : List (S27)) (a1_0 : Int) (P1_1_ : Nat → Prop) (A1_1 : Option Addr) (c1_1 : Nat) (l1_1 : List Int) (P1_2_ : Nat → Prop) (A1_2 : Option Addr) (c1_2 : Nat) (l1_2 : List (S46)) (r : Bool) (w : World) (hr0_5 : Kd.C k27 w A0_5 l0_5.length l0_5) (hc0_5 : l0_5.length ≤ c0_5) (hs1_1 : Kd.V (Kd.int .u8) 5 w w.heap.size (fun k_ => P1_1_ k_) (.slice A1_1 l1_1.length c1_1) l1_1) (hs1_2 : Kd.V k46 46 w w.heap.size (fun k_ => P1_2_ k_) (.slice A1_2 l1_2.length c1_2) l1_2) (h : passepartoutlaw05_ValueSizes.f k a0_0 a0_1 a0_2 a0_3 a0_4 l0_5 a1_0 l1_1 l1_2 = some r) :
    Calls Try.prog 8 #[.agg #[.int .i64 a0_0, .int .i64 a0_1, .int .i64 a0_2, .int .i64 a0_3, .int .i64 a0_4, .slice A0_5 l0_5.length c0_5], .agg #[.int .u64 a1_0, .slice A1_1 l1_1.length c1_1, .slice A1_2 l1_2.length c1_2]] w fun e w' => e = .returned (.bool r) ∧ Below w.heap.size w w' := by
  have hu27 := Try.underlying27
  have hu46 := Try.underlying46
  have HR0_5 := Aside0.mk hr0_5
  have HC0_5 := Aside0.mk hc0_5
  clear hr0_5 hc0_5
  have HO1_1 := Aside0.mk (show Kd.V (Kd.int .u8) 5 w w.heap.size (fun k_ => ((P1_1_ k_ ∨ P1_2_ k_) ∨ w.heap.size ≤ k_)) (.slice A1_1 l1_1.length c1_1) l1_1 from Kd.V_mono hs1_1 (fun k_ hk => .inl (.inl hk)))
  have HO1_2 := Aside0.mk (show Kd.V k46 46 w w.heap.size (fun k_ => ((P1_1_ k_ ∨ P1_2_ k_) ∨ w.heap.size ≤ k_)) (.slice A1_2 l1_2.length c1_2) l1_2 from Kd.V_mono hs1_2 (fun k_ hk => .inl (.inr hk)))
  have HB := Aside0.mk (Below.refl w.heap.size w)
  have H : ((passepartoutlaw05_alive.f).bind fun t288 => (if t288 = true then ((passepartoutlaw05_Great.f k a0_0 a0_1 a0_2 a0_3 a0_4 l0_5 (([(⟨a1_0, l1_1, l1_2⟩ : S46)] : List (S46)))).bind fun t292 => (passepartoutlaw05_ValueSizes.j0 k (decide (t292 > 0)) a0_0 a0_1 a0_2 a0_3 a0_4 l0_5 a1_0 l1_1 l1_2)) else (passepartoutlaw05_ValueSizes.j0 k true a0_0 a0_1 a0_2 a0_3 a0_4 l0_5 a1_0 l1_1 l1_2))) = some r := h
  clear h
  have HC3 := Aside0.mk H
  clear H
  go_enter Try.func8, Try.ntmps8
  go_upto_region 1 with (first | ((with_reducible refine gate_dst (N := 2) rfl ?_); (try (refine gate_guard (by rfl) ?_; dsimp only)); refine box_event ?hg (N := 2) ?hd (cs := #[.int .i64 a0_0, .int .i64 a0_1, .int .i64 a0_2, .int .i64 a0_3, .int .i64 a0_4, .slice A0_5 l0_5.length c0_5]) (t := 27) ?hr ?_; (case hd => rfl); (case hg => rfl); (case hr => first | (go_simp; done) | (go_simp; rfl)); intro gb286 hg w4 hbox hb; have n0_ := Aside0.mk (Kd.V_below (Kd.V_elderB (by (with_reducible repeat (first | apply Kd.V_alloc | apply Kd.V_drewN | apply Kd.V_drew)); exact HO1_1.out) gb286 (Nat.le_of_eq hg.symm)) hb); have n1_ := Aside0.mk (Kd.V_below (Kd.V_elderB (by (with_reducible repeat (first | apply Kd.V_alloc | apply Kd.V_drewN | apply Kd.V_drew)); exact HO1_2.out) gb286 (Nat.le_of_eq hg.symm)) hb); have n2_ := Aside0.mk (below_step (by repeat (first | (with_reducible first | exact HB.out | apply below_alloc | apply pw_below_drewN | apply below_drew1) | exact HB.out)) hb); have n3_ := Aside0.mk (hbox); have n4_ := Aside0.mk ((by rw [hg]; exact (below_size (by repeat (first | (with_reducible first | exact HB.out | apply below_alloc | apply pw_below_drewN | apply below_drew1) | exact HB.out))) : w.heap.size ≤ gb286)); have n5_ := Aside0.mk ((by rw [hg]; exact (below_size (by repeat (first | (with_reducible first | exact HB.out | apply below_alloc | apply pw_below_drewN | apply below_drew1) | exact HB.out))) : w.heap.size ≤ gb286)); clear HO1_1; clear HO1_2; clear HB; have HO1_1 := n0_; have HO1_2 := n1_; have HB := n2_; have BK286 := n3_; have GW286 := n4_; have GE286 := n5_; clear n0_ n1_ n2_ n3_ n4_ n5_; clear hb hbox hg) | ((with_reducible refine gate_dst (N := 3) rfl ?_); (try (refine gate_guard (by rfl) ?_; dsimp only)); refine box_event ?hg (N := 3) ?hd (cs := #[.int .u64 a1_0, .slice A1_1 l1_1.length c1_1, .slice A1_2 l1_2.length c1_2]) (t := 46) ?hr ?_; (case hd => rfl); (case hg => rfl); (case hr => first | (go_simp; done) | (go_simp; rfl)); intro gb287 hg w5 hbox hb; have n0_ := Aside0.mk (Kd.V_below (Kd.V_elderB (by (with_reducible repeat (first | apply Kd.V_alloc | apply Kd.V_drewN | apply Kd.V_drew)); exact HO1_1.out) gb287 (Nat.le_of_eq hg.symm)) hb); have n1_ := Aside0.mk (Kd.V_below (Kd.V_elderB (by (with_reducible repeat (first | apply Kd.V_alloc | apply Kd.V_drewN | apply Kd.V_drew)); exact HO1_2.out) gb287 (Nat.le_of_eq hg.symm)) hb); have n2_ := Aside0.mk (blk_below (g := gb286) (o := .cells #[.int .i64 a0_0, .int .i64 a0_1, .int .i64 a0_2, .int .i64 a0_3, .int .i64 a0_4, .slice A0_5 l0_5.length c0_5] 27 (0, 0)) (by (with_reducible repeat (first | refine blk_drewN ?_ _ | refine blk_drew ?_ | refine blk_alloc ?_ _)); exact BK286.out) hb); have n3_ := Aside0.mk (below_step (by repeat (first | (with_reducible first | exact HB.out | apply below_alloc | apply pw_below_drewN | apply below_drew1 | refine below_set ?_ GE286.out) | exact HB.out)) hb); have n4_ := Aside0.mk (hbox); have n5_ := Aside0.mk ((by rw [hg]; exact (below_size (by repeat (first | (with_reducible first | exact HB.out | apply below_alloc | apply pw_below_drewN | apply below_drew1 | refine below_set ?_ GE286.out) | exact HB.out))) : w.heap.size ≤ gb287)); have n6_ := Aside0.mk ((by rw [hg]; exact (below_size (by repeat (first | (with_reducible first | exact HB.out | apply below_alloc | apply pw_below_drewN | apply below_drew1 | refine below_set ?_ GE286.out) | exact HB.out))) : w.heap.size ≤ gb287)); have n7_ := Aside0.mk ((by rw [hg]; exact Nat.ne_of_lt (blk_lt (g := gb286) (o := .cells #[.int .i64 a0_0, .int .i64 a0_1, .int .i64 a0_2, .int .i64 a0_3, .int .i64 a0_4, .slice A0_5 l0_5.length c0_5] 27 (0, 0)) (by (with_reducible repeat (first | refine blk_drewN ?_ _ | refine blk_drew ?_ | refine blk_alloc ?_ _)); exact BK286.out)) : gb286 ≠ gb287)); have n8_ := Aside0.mk ((by rw [hg]; exact Nat.ne_of_gt (blk_lt (g := gb286) (o := .cells #[.int .i64 a0_0, .int .i64 a0_1, .int .i64 a0_2, .int .i64 a0_3, .int .i64 a0_4, .slice A0_5 l0_5.length c0_5] 27 (0, 0)) (by (with_reducible repeat (first | refine blk_drewN ?_ _ | refine blk_drew ?_ | refine blk_alloc ?_ _)); exact BK286.out)) : gb287 ≠ gb286)); clear HO1_1; clear HO1_2; clear BK286; clear HB; have HO1_1 := n0_; have HO1_2 := n1_; have BK286 := n2_; have HB := n3_; have BK287 := n4_; have GW287 := n5_; have GE287 := n6_; have NB286_287 := n7_; have NB287_286 := n8_; clear n0_ n1_ n2_ n3_ n4_ n5_ n6_ n7_ n8_; clear hb hbox hg))
  (try simp only [Act.put, List.setIfInBounds_toArray, List.set_cons_zero, List.set_cons_succ])
  go_cut [14] (fun v14 wc => ∃ (kq : Nat) (x14_2 : Bool), v14 = .bool x14_2 ∧ Aside0 (passepartoutlaw05_ValueSizes.j0 kq x14_2 a0_0 a0_1 a0_2 a0_3 a0_4 l0_5 a1_0 l1_1 l1_2 = some r) ∧ Aside0 (kq ≤ k) ∧ Aside0 (Kd.V (Kd.int .u8) 5 wc w.heap.size (fun k_ => ((P1_1_ k_ ∨ P1_2_ k_) ∨ w.heap.size ≤ k_) ∧ k_ ≠ gb286 ∧ k_ ≠ gb287) (.slice A1_1 l1_1.length c1_1) l1_1) ∧ Aside0 (Kd.V k46 46 wc w.heap.size (fun k_ => ((P1_1_ k_ ∨ P1_2_ k_) ∨ w.heap.size ≤ k_) ∧ k_ ≠ gb286 ∧ k_ ≠ gb287) (.slice A1_2 l1_2.length c1_2) l1_2) ∧ Aside0 (wc.heap[gb286]? = some (.cells #[.int .i64 a0_0, .int .i64 a0_1, .int .i64 a0_2, .int .i64 a0_3, .int .i64 a0_4, (.slice A0_5 l0_5.length c0_5)] 27 (0, 0))) ∧ Aside0 (wc.heap[gb287]? = some (.cells #[.int .u64 a1_0, (.slice A1_1 l1_1.length c1_1), (.slice A1_2 l1_2.length c1_2)] 46 (0, 0))) ∧ Aside0 (Below w.heap.size w wc))
  case first =>
    have H := HC3.out
    clear HC3
    replace H := Option.bind_eq_some_iff.mp H
    obtain ⟨t288, A60, H⟩ := H
    replace H : (if t288 = true then ((passepartoutlaw05_Great.f k a0_0 a0_1 a0_2 a0_3 a0_4 l0_5 (([(⟨a1_0, l1_1, l1_2⟩ : S46)] : List (S46)))).bind fun t292 => (passepartoutlaw05_ValueSizes.j0 k (decide (t292 > 0)) a0_0 a0_1 a0_2 a0_3 a0_4 l0_5 a1_0 l1_1 l1_2)) else (passepartoutlaw05_ValueSizes.j0 k true a0_0 a0_1 a0_2 a0_3 a0_4 l0_5 a1_0 l1_1 l1_2)) = some r := H
    have A6 := Aside0.mk A60
    clear A60
    by_cases c7 : t288 = true
    · subst c7
      have H1 : ((passepartoutlaw05_Great.f k a0_0 a0_1 a0_2 a0_3 a0_4 l0_5 (([(⟨a1_0, l1_1, l1_2⟩ : S46)] : List (S46)))).bind fun t292 => (passepartoutlaw05_ValueSizes.j0 k (decide (t292 > 0)) a0_0 a0_1 a0_2 a0_3 a0_4 l0_5 a1_0 l1_1 l1_2)) = some r := by rw [if_pos rfl] at H; exact H
      clear H
      have H := H1
      clear H1
      obtain ⟨y289, hy289⟩ : ∃ y_ : List (S46), y_ = (([(⟨a1_0, l1_1, l1_2⟩ : S46)] : List (S46))) := ⟨_, rfl⟩
      replace H : ((passepartoutlaw05_Great.f k a0_0 a0_1 a0_2 a0_3 a0_4 l0_5 y289).bind fun t292 => (passepartoutlaw05_ValueSizes.j0 k (decide (t292 > 0)) a0_0 a0_1 a0_2 a0_3 a0_4 l0_5 a1_0 l1_1 l1_2)) = some r := by first | (rw [hy289]; with_reducible exact H) | (have H2_ := (Option.bind_some _ _).symm.trans H; rw [hy289]; with_reducible exact H2_) | (have H2_ := (Option.bind_some _ _).symm.trans H; with_reducible exact H2_) | with_reducible exact H | (rw [hy289]; exact H) | exact H
      have Ny289 := Aside0.mk hy289
      clear hy289
      replace H := Option.bind_eq_some_iff.mp H
      obtain ⟨t292, A80, H⟩ := H
      replace H : (passepartoutlaw05_ValueSizes.j0 k (decide (t292 > 0)) a0_0 a0_1 a0_2 a0_3 a0_4 l0_5 a1_0 l1_1 l1_2) = some r := H
      have A8 := Aside0.mk A80
      clear A80
      have H' := Aside0.mk H
      clear H
      go_wp2_with (first | ((with_reducible refine gate_callee (f := 30) rfl ?_); refine goesL_ (some 6) rfl rfl Try.func30 (by kernel_rfl) rfl #[] rfl (by (try simp only [List.map_toArray, List.map_cons, List.map_nil]); first | done | rfl | (simp only [List.length_drop, List.length_take]; rfl)) ?_; (with_reducible refine (passepartoutlaw05_alive.calls  true _ A6.out).mono ?_); rintro e w9 ⟨rfl, hb⟩; refine ⟨_, rfl, ?_⟩; have n0_ := Aside0.mk (Kd.V_below (by (with_reducible repeat (first | apply Kd.V_alloc | apply Kd.V_drewN | apply Kd.V_drew)); exact HO1_1.out) hb); have n1_ := Aside0.mk (Kd.V_below (by (with_reducible repeat (first | apply Kd.V_alloc | apply Kd.V_drewN | apply Kd.V_drew)); exact HO1_2.out) hb); have n2_ := Aside0.mk (blk_below (g := gb286) (o := .cells #[.int .i64 a0_0, .int .i64 a0_1, .int .i64 a0_2, .int .i64 a0_3, .int .i64 a0_4, .slice A0_5 l0_5.length c0_5] 27 (0, 0)) (by (with_reducible repeat (first | refine blk_drewN ?_ _ | refine blk_drew ?_ | refine blk_alloc ?_ _)); exact BK286.out) hb); have n3_ := Aside0.mk (blk_below (g := gb287) (o := .cells #[.int .u64 a1_0, .slice A1_1 l1_1.length c1_1, .slice A1_2 l1_2.length c1_2] 46 (0, 0)) (by (with_reducible repeat (first | refine blk_drewN ?_ _ | refine blk_drew ?_ | refine blk_alloc ?_ _)); exact BK287.out) hb); have n4_ := Aside0.mk (below_step (by repeat (first | (with_reducible first | exact HB.out | apply below_alloc | apply pw_below_drewN | apply below_drew1 | refine below_set ?_ GE286.out | refine below_set ?_ GE287.out) | exact HB.out)) hb); clear HO1_1; clear HO1_2; clear BK286; clear BK287; clear HB; have HO1_1 := n0_; have HO1_2 := n1_; have BK286 := n2_; have BK287 := n3_; have HB := n4_; clear n0_ n1_ n2_ n3_ n4_; (try clear hb); (try clear hb2); (try clear hk); (try clear hi); have hnb10 := NB286_287.out; have hnc10 := NB287_286.out; have hcz11_0 : w9.cell? ⟨gb286, 0, none⟩ = some (.int .i64 a0_0) := (blk_cell BK286.out 0).trans rfl; have hcz11_1 : w9.cell? ⟨gb286, 1, none⟩ = some (.int .i64 a0_1) := (blk_cell BK286.out 1).trans rfl; have hcz11_2 : w9.cell? ⟨gb286, 2, none⟩ = some (.int .i64 a0_2) := (blk_cell BK286.out 2).trans rfl; have hcz11_3 : w9.cell? ⟨gb286, 3, none⟩ = some (.int .i64 a0_3) := (blk_cell BK286.out 3).trans rfl; have hcz11_4 : w9.cell? ⟨gb286, 4, none⟩ = some (.int .i64 a0_4) := (blk_cell BK286.out 4).trans rfl; have hcz11_5 : w9.cell? ⟨gb286, 5, none⟩ = some (.slice A0_5 l0_5.length c0_5) := (blk_cell BK286.out 5).trans rfl; have hfz11_0 := blk_frozen BK286.out 0; have hfz11_1 := blk_frozen BK286.out 1; have hfz11_2 := blk_frozen BK286.out 2; have hfz11_3 := blk_frozen BK286.out 3; have hfz11_4 := blk_frozen BK286.out 4; have hfz11_5 := blk_frozen BK286.out 5; have hcz12_0 : w9.cell? ⟨gb287, 0, none⟩ = some (.int .u64 a1_0) := (blk_cell BK287.out 0).trans rfl; have hcz12_1 : w9.cell? ⟨gb287, 1, none⟩ = some (.slice A1_1 l1_1.length c1_1) := (blk_cell BK287.out 1).trans rfl; have hcz12_2 : w9.cell? ⟨gb287, 2, none⟩ = some (.slice A1_2 l1_2.length c1_2) := (blk_cell BK287.out 2).trans rfl; have hfz12_0 := blk_frozen BK287.out 0; have hfz12_1 := blk_frozen BK287.out 1; have hfz12_2 := blk_frozen BK287.out 2) | ((with_reducible refine gate_dst (N := 11) rfl ?_); (try (refine gate_guard (by rfl) ?_; dsimp only)); refine Kd.N_lit k46 _ 46 ?hg (N' := 11) ?hd (xs := ([(⟨a1_0, l1_1, l1_2⟩ : S46)] : List (S46))) (inner := [.int .u64 a1_0, .slice A1_1 l1_1.length c1_1, .slice A1_2 l1_2.length c1_2]) (ok := (fun k_ => ((P1_1_ k_ ∨ P1_2_ k_) ∨ w.heap.size ≤ k_) ∧ k_ ≠ gb286 ∧ k_ ≠ gb287)) (okp := (fun k_ => ((P1_1_ k_ ∨ P1_2_ k_) ∨ w.heap.size ≤ k_) ∧ k_ ≠ gb286 ∧ k_ ≠ gb287)) ?hr ?hp (fun _ hk => hk) ((show ∀ k_, w9.heap.size ≤ k_ → (fun k_ => ((P1_1_ k_ ∨ P1_2_ k_) ∨ w.heap.size ≤ k_) ∧ k_ ≠ gb286 ∧ k_ ≠ gb287) k_ from fun k_ hk => ⟨(.inr (Nat.le_trans (below_size (by repeat (first | (with_reducible first | exact HB.out | apply below_alloc | apply pw_below_drewN | apply below_drew1 | refine below_set ?_ GE286.out | refine below_set ?_ GE287.out) | exact HB.out))) hk)), Kd.freshB (g := gb286) (o := .cells #[.int .i64 a0_0, .int .i64 a0_1, .int .i64 a0_2, .int .i64 a0_3, .int .i64 a0_4, .slice A0_5 l0_5.length c0_5] 27 (0, 0)) (by (with_reducible repeat (first | refine blk_drewN ?_ _ | refine blk_drew ?_ | refine blk_alloc ?_ _)); exact BK286.out) k_ hk, Kd.freshB (g := gb287) (o := .cells #[.int .u64 a1_0, .slice A1_1 l1_1.length c1_1, .slice A1_2 l1_2.length c1_2] 46 (0, 0)) (by (with_reducible repeat (first | refine blk_drewN ?_ _ | refine blk_drew ?_ | refine blk_alloc ?_ _)); exact BK287.out) k_ hk⟩) _ (Nat.le_refl _)) (Below.refl _ _) (Nat.le_refl _) (by simp) ?_; (case hd => rfl); (case hg => rfl); (case hr => first | (go_simp; done) | (go_simp; rfl)); (case hp => exact (Reps.c3 (show Kd.FK k46 _ _ (⟨a1_0, l1_1, l1_2⟩ : S46) [.int .u64 a1_0, .slice A1_1 l1_1.length c1_1, .slice A1_2 l1_2.length c1_2] from (k46_mkF _ _ (⟨a1_0, l1_1, l1_2⟩ : S46) (Kd.V_reads' (Kd.V_mono (ok' := (fun k_ => ((P1_1_ k_ ∨ P1_2_ k_) ∨ w.heap.size ≤ k_) ∧ k_ ≠ gb286 ∧ k_ ≠ gb287)) (HO1_1.out) (fun k_ hk => ⟨hk.1.1, ⟨hk.1.2, hk.2⟩⟩))).2.1 (Kd.V_F (Kd.V_mono (ok' := (fun k_ => ((P1_1_ k_ ∨ P1_2_ k_) ∨ w.heap.size ≤ k_) ∧ k_ ≠ gb286 ∧ k_ ≠ gb287)) (HO1_1.out) (fun k_ hk => ⟨hk.1.1, ⟨hk.1.2, hk.2⟩⟩))) (Kd.V_reads' (Kd.V_mono (ok' := (fun k_ => ((P1_1_ k_ ∨ P1_2_ k_) ∨ w.heap.size ≤ k_) ∧ k_ ≠ gb286 ∧ k_ ≠ gb287)) (HO1_2.out) (fun k_ hk => ⟨hk.1.1, ⟨hk.1.2, hk.2⟩⟩))).2.1 (Kd.V_F (Kd.V_mono (ok' := (fun k_ => ((P1_1_ k_ ∨ P1_2_ k_) ∨ w.heap.size ≤ k_) ∧ k_ ≠ gb286 ∧ k_ ≠ gb287)) (HO1_2.out) (fun k_ hk => ⟨hk.1.1, ⟨hk.1.2, hk.2⟩⟩))))) (Reps.none _ _))); intro v290 w13 ho14 hb hg_ hnew_; clear hg_ hnew_; (first | rw [← Ny289.out] at ho14 | (simp only [Int.reduceToNat] at ho14; rw [← Ny289.out] at ho14)); have n0_ := Aside0.mk (Kd.V_elder' (by (with_reducible repeat (first | apply Kd.V_alloc | apply Kd.V_drewN | apply Kd.V_drew)); exact HO1_1.out) (by first | exact Kd.N_base ho14 | exact Kd.R_base ho14) hb); have n1_ := Aside0.mk (Kd.V_elder' (by (with_reducible repeat (first | apply Kd.V_alloc | apply Kd.V_drewN | apply Kd.V_drew)); exact HO1_2.out) (by first | exact Kd.N_base ho14 | exact Kd.R_base ho14) hb); have n2_ := Aside0.mk (Kd.N_lower ho14 (below_size (by repeat (first | (with_reducible first | exact HB.out | apply below_alloc | apply pw_below_drewN | apply below_drew1 | refine below_set ?_ GE286.out | refine below_set ?_ GE287.out) | exact HB.out)))); have n3_ := Aside0.mk (blk_below (g := gb286) (o := .cells #[.int .i64 a0_0, .int .i64 a0_1, .int .i64 a0_2, .int .i64 a0_3, .int .i64 a0_4, .slice A0_5 l0_5.length c0_5] 27 (0, 0)) (by (with_reducible repeat (first | refine blk_drewN ?_ _ | refine blk_drew ?_ | refine blk_alloc ?_ _)); exact BK286.out) hb); have n4_ := Aside0.mk (blk_below (g := gb287) (o := .cells #[.int .u64 a1_0, .slice A1_1 l1_1.length c1_1, .slice A1_2 l1_2.length c1_2] 46 (0, 0)) (by (with_reducible repeat (first | refine blk_drewN ?_ _ | refine blk_drew ?_ | refine blk_alloc ?_ _)); exact BK287.out) hb); have n5_ := Aside0.mk (below_step (by repeat (first | (with_reducible first | exact HB.out | apply below_alloc | apply pw_below_drewN | apply below_drew1 | refine below_set ?_ GE286.out | refine below_set ?_ GE287.out) | exact HB.out)) hb); clear HO1_1; clear HO1_2; clear BK286; clear BK287; clear HB; have HO1_1 := n0_; have HO1_2 := n1_; have HO291 := n2_; have BK286 := n3_; have BK287 := n4_; have HB := n5_; clear n0_ n1_ n2_ n3_ n4_ n5_; clear hb ho14; obtain ⟨Ao15, co15, eo15⟩ := Kd.N_slice HO291.out; subst eo15) | (go_at_call 31; (with_reducible refine (passepartoutlaw05_Great.calls k a0_0 a0_1 a0_2 a0_3 a0_4 _ _ l0_5 _ _ y289 t292 _ ?side1 ?side2 ?side3 ?side4 A8.out).mono ?_); (case side1 => repeat (first | exact (Kd.C_below HR0_5.out HB.out) | (with_reducible refine Kd.C_alloc ?_ _) | (with_reducible refine Kd.C_drewN ?_ _) | (with_reducible refine Kd.C_drew ?_))); (case side2 => exact HC0_5.out); (case side3 => repeat (first | exact (Kd.N_reads' HO291.out).2.2 | (with_reducible refine Kd.C_alloc ?_ _) | (with_reducible refine Kd.C_drewN ?_ _) | (with_reducible refine Kd.C_drew ?_))); (case side4 => exact (Kd.N_reads' HO291.out).2.1); rintro e w16 ⟨rfl, hb⟩; have n0_ := Aside0.mk (Kd.V_below (by (with_reducible repeat (first | apply Kd.V_alloc | apply Kd.V_drewN | apply Kd.V_drew)); exact HO1_1.out) hb); have n1_ := Aside0.mk (Kd.V_below (by (with_reducible repeat (first | apply Kd.V_alloc | apply Kd.V_drewN | apply Kd.V_drew)); exact HO1_2.out) hb); have n2_ := Aside0.mk (Kd.N_below (by (with_reducible repeat (first | apply Kd.N_alloc | apply Kd.N_drewN | apply Kd.N_drew)); exact HO291.out) hb); have n3_ := Aside0.mk (blk_below (g := gb286) (o := .cells #[.int .i64 a0_0, .int .i64 a0_1, .int .i64 a0_2, .int .i64 a0_3, .int .i64 a0_4, .slice A0_5 l0_5.length c0_5] 27 (0, 0)) (by (with_reducible repeat (first | refine blk_drewN ?_ _ | refine blk_drew ?_ | refine blk_alloc ?_ _)); exact BK286.out) hb); have n4_ := Aside0.mk (blk_below (g := gb287) (o := .cells #[.int .u64 a1_0, .slice A1_1 l1_1.length c1_1, .slice A1_2 l1_2.length c1_2] 46 (0, 0)) (by (with_reducible repeat (first | refine blk_drewN ?_ _ | refine blk_drew ?_ | refine blk_alloc ?_ _)); exact BK287.out) hb); have n5_ := Aside0.mk (below_step (by repeat (first | (with_reducible first | exact HB.out | apply below_alloc | apply pw_below_drewN | apply below_drew1 | refine below_set ?_ GE286.out | refine below_set ?_ GE287.out) | exact HB.out)) hb); clear HO1_1; clear HO1_2; clear HO291; clear BK286; clear BK287; clear HB; have HO1_1 := n0_; have HO1_2 := n1_; have HO291 := n2_; have BK286 := n3_; have BK287 := n4_; have HB := n5_; clear n0_ n1_ n2_ n3_ n4_ n5_; (try clear hb); (try clear hb2); (try clear hk); (try clear hi)))
      go_meet
      case rel => exact ⟨_, (decide (t292 > 0)), (by first | rfl | (simp; done) | (simp [*]; done)), H', ⟨by first | omega | exact Nat.le_refl _⟩, ⟨by (with_reducible repeat (first | apply Kd.V_alloc | apply Kd.V_drewN | apply Kd.V_drew)); exact Kd.V_mono HO1_1.out (fun _ hk => ⟨hk.1.1.1, ⟨hk.1.1.2, hk.1.2⟩⟩)⟩, ⟨by (with_reducible repeat (first | apply Kd.V_alloc | apply Kd.V_drewN | apply Kd.V_drew)); exact Kd.V_mono HO1_2.out (fun _ hk => ⟨hk.1.1.1, ⟨hk.1.1.2, hk.1.2⟩⟩)⟩, ⟨by (with_reducible repeat (first | refine blk_drewN ?_ _ | refine blk_drew ?_ | refine blk_alloc ?_ _)); exact BK286.out⟩, ⟨by (with_reducible repeat (first | refine blk_drewN ?_ _ | refine blk_drew ?_ | refine blk_alloc ?_ _)); exact BK287.out⟩, ⟨by repeat (first | (with_reducible first | exact HB.out | apply below_alloc | apply pw_below_drewN | apply below_drew1 | refine below_set ?_ GE286.out | refine below_set ?_ GE287.out) | exact HB.out)⟩⟩
    · replace c7 := Bool.eq_false_iff.mpr c7
      subst c7
      have H1 : (passepartoutlaw05_ValueSizes.j0 k true a0_0 a0_1 a0_2 a0_3 a0_4 l0_5 a1_0 l1_1 l1_2) = some r := by rw [if_neg (show ¬ (false = true) by decide)] at H; exact H
      clear H
      have H := H1
      clear H1
      have H' := Aside0.mk H
      clear H
      go_wp2_with (first | ((with_reducible refine gate_callee (f := 30) rfl ?_); refine goesL_ (some 6) rfl rfl Try.func30 (by kernel_rfl) rfl #[] rfl (by (try simp only [List.map_toArray, List.map_cons, List.map_nil]); first | done | rfl | (simp only [List.length_drop, List.length_take]; rfl)) ?_; (with_reducible refine (passepartoutlaw05_alive.calls  false _ A6.out).mono ?_); rintro e w17 ⟨rfl, hb⟩; refine ⟨_, rfl, ?_⟩; have n0_ := Aside0.mk (Kd.V_below (by (with_reducible repeat (first | apply Kd.V_alloc | apply Kd.V_drewN | apply Kd.V_drew)); exact HO1_1.out) hb); have n1_ := Aside0.mk (Kd.V_below (by (with_reducible repeat (first | apply Kd.V_alloc | apply Kd.V_drewN | apply Kd.V_drew)); exact HO1_2.out) hb); have n2_ := Aside0.mk (blk_below (g := gb286) (o := .cells #[.int .i64 a0_0, .int .i64 a0_1, .int .i64 a0_2, .int .i64 a0_3, .int .i64 a0_4, .slice A0_5 l0_5.length c0_5] 27 (0, 0)) (by (with_reducible repeat (first | refine blk_drewN ?_ _ | refine blk_drew ?_ | refine blk_alloc ?_ _)); exact BK286.out) hb); have n3_ := Aside0.mk (blk_below (g := gb287) (o := .cells #[.int .u64 a1_0, .slice A1_1 l1_1.length c1_1, .slice A1_2 l1_2.length c1_2] 46 (0, 0)) (by (with_reducible repeat (first | refine blk_drewN ?_ _ | refine blk_drew ?_ | refine blk_alloc ?_ _)); exact BK287.out) hb); have n4_ := Aside0.mk (below_step (by repeat (first | (with_reducible first | exact HB.out | apply below_alloc | apply pw_below_drewN | apply below_drew1 | refine below_set ?_ GE286.out | refine below_set ?_ GE287.out) | exact HB.out)) hb); clear HO1_1; clear HO1_2; clear BK286; clear BK287; clear HB; have HO1_1 := n0_; have HO1_2 := n1_; have BK286 := n2_; have BK287 := n3_; have HB := n4_; clear n0_ n1_ n2_ n3_ n4_; (try clear hb); (try clear hb2); (try clear hk); (try clear hi)))
      go_meet
      case rel => exact ⟨_, (true), (by first | rfl | (simp; done) | (simp [*]; done)), H', ⟨by first | omega | exact Nat.le_refl _⟩, ⟨by (with_reducible repeat (first | apply Kd.V_alloc | apply Kd.V_drewN | apply Kd.V_drew)); exact Kd.V_mono HO1_1.out (fun _ hk => ⟨hk.1.1, ⟨hk.1.2, hk.2⟩⟩)⟩, ⟨by (with_reducible repeat (first | apply Kd.V_alloc | apply Kd.V_drewN | apply Kd.V_drew)); exact Kd.V_mono HO1_2.out (fun _ hk => ⟨hk.1.1, ⟨hk.1.2, hk.2⟩⟩)⟩, ⟨by (with_reducible repeat (first | refine blk_drewN ?_ _ | refine blk_drew ?_ | refine blk_alloc ?_ _)); exact BK286.out⟩, ⟨by (with_reducible repeat (first | refine blk_drewN ?_ _ | refine blk_drew ?_ | refine blk_alloc ?_ _)); exact BK287.out⟩, ⟨by repeat (first | (with_reducible first | exact HB.out | apply below_alloc | apply pw_below_drewN | apply below_drew1 | refine below_set ?_ GE286.out | refine below_set ?_ GE287.out) | exact HB.out)⟩⟩
  case rest =>
    clear HC3
    try clear c1
    try clear p2
    try clear c3
    try clear c7
    try clear c8
    try clear c10
    try clear hcz11_0
    try clear hcz11_1
    try clear hcz11_2
    try clear hcz11_3
    try clear hcz11_4
    try clear hcz11_5
    try clear hcz12_0
    try clear hcz12_1
    try clear hcz12_2
    try clear hfz11_0
    try clear hfz11_1
    try clear hfz11_2
    try clear hfz11_3
    try clear hfz11_4
    try clear hfz11_5
    try clear hfz12_0
    try clear hfz12_1
    try clear hfz12_2
    obtain ⟨kq, x14_2, rfl, HA, HJ2, HO_288001, HO_288002, BK286, BK287, HB⟩ := hcut
    cases kq with
    | zero => exact absurd HA.out (by simp [passepartoutlaw05_ValueSizes.j0])
    | succ kj2 =>
      have H := HA.out
      clear HA
      simp only [passepartoutlaw05_ValueSizes.j0] at H
      by_cases c18 : x14_2 = true
      · subst c18
        have H1 : ((passepartoutlaw05_alive.f).bind fun t293 => (some t293)) = some r := by rw [if_pos rfl] at H; exact H
        clear H
        have H := H1
        clear H1
        replace H := Option.bind_eq_some_iff.mp H
        obtain ⟨t293, A190, H⟩ := H
        replace H : (some t293) = some r := H
        have A19 := Aside0.mk A190
        clear A190
        obtain rfl := Option.some.inj H
        go_wp2_with (first | ((with_reducible refine gate_callee (f := 30) rfl ?_); refine goesL_ (some 15) rfl rfl Try.func30 (by kernel_rfl) rfl #[] rfl (by (try simp only [List.map_toArray, List.map_cons, List.map_nil]); first | done | rfl | (simp only [List.length_drop, List.length_take]; rfl)) ?_; (with_reducible refine (passepartoutlaw05_alive.calls  t293 _ A19.out).mono ?_); rintro e w20 ⟨rfl, hb⟩; refine ⟨_, rfl, ?_⟩; have n0_ := Aside0.mk (Kd.V_below (by (with_reducible repeat (first | apply Kd.V_alloc | apply Kd.V_drewN | apply Kd.V_drew)); exact HO_288001.out) hb); have n1_ := Aside0.mk (Kd.V_below (by (with_reducible repeat (first | apply Kd.V_alloc | apply Kd.V_drewN | apply Kd.V_drew)); exact HO_288002.out) hb); have n2_ := Aside0.mk (blk_below (g := gb286) (o := .cells #[.int .i64 a0_0, .int .i64 a0_1, .int .i64 a0_2, .int .i64 a0_3, .int .i64 a0_4, .slice A0_5 l0_5.length c0_5] 27 (0, 0)) (by (with_reducible repeat (first | refine blk_drewN ?_ _ | refine blk_drew ?_ | refine blk_alloc ?_ _)); exact BK286.out) hb); have n3_ := Aside0.mk (blk_below (g := gb287) (o := .cells #[.int .u64 a1_0, .slice A1_1 l1_1.length c1_1, .slice A1_2 l1_2.length c1_2] 46 (0, 0)) (by (with_reducible repeat (first | refine blk_drewN ?_ _ | refine blk_drew ?_ | refine blk_alloc ?_ _)); exact BK287.out) hb); have n4_ := Aside0.mk (below_step (by repeat (first | (with_reducible first | exact HB.out | apply below_alloc | apply pw_below_drewN | apply below_drew1 | refine below_set ?_ GE286.out | refine below_set ?_ GE287.out) | exact HB.out)) hb); clear HO_288001; clear HO_288002; clear BK286; clear BK287; clear HB; have HO_288001 := n0_; have HO_288002 := n1_; have BK286 := n2_; have BK287 := n3_; have HB := n4_; clear n0_ n1_ n2_ n3_ n4_; (try clear hb); (try clear hb2); (try clear hk); (try clear hi)))
        go_ret
        exact ⟨by first | rfl | (simp [errW_none, errW_some] <;> rfl) | (simp [*, errW_none, errW_some] <;> rfl), by repeat (first | (with_reducible first | exact HB.out | apply below_alloc | apply pw_below_drewN | apply below_drew1 | refine below_set ?_ GE286.out | refine below_set ?_ GE287.out) | exact HB.out)⟩
      · replace c18 := Bool.eq_false_iff.mpr c18
        subst c18
        have H1 : ((value_Size.f kj2 a0_0 a0_1 a0_2 a0_3 a0_4 l0_5 a1_0 l1_1 l1_2).bind fun t294 => ((value_Fits.f kj2 a0_0 a0_1 a0_2 a0_3 a0_4 l0_5 a1_0 l1_1 l1_2).bind fun t295 => (if t295 = 0 then ((passepartoutref04_Least.f kj2 a0_0 a0_1 a0_2 a0_3 a0_4 l0_5).bind fun t296 => (if t294 ≥ t296 then ((passepartoutref04_Most.f kj2 a0_0 a0_1 a0_2 a0_3 a0_4 l0_5).bind fun t297 => (some (decide (t294 ≤ t297)))) else (some false))) else (some (t294 == 0))))) = some r := by rw [if_neg (show ¬ (false = true) by decide)] at H; exact H
        clear H
        have H := H1
        clear H1
        replace H := Option.bind_eq_some_iff.mp H
        obtain ⟨t294, A210, H⟩ := H
        replace H : ((value_Fits.f kj2 a0_0 a0_1 a0_2 a0_3 a0_4 l0_5 a1_0 l1_1 l1_2).bind fun t295 => (if t295 = 0 then ((passepartoutref04_Least.f kj2 a0_0 a0_1 a0_2 a0_3 a0_4 l0_5).bind fun t296 => (if t294 ≥ t296 then ((passepartoutref04_Most.f kj2 a0_0 a0_1 a0_2 a0_3 a0_4 l0_5).bind fun t297 => (some (decide (t294 ≤ t297)))) else (some false))) else (some (t294 == 0)))) = some r := H
        have A21 := Aside0.mk A210
        clear A210
        replace H := Option.bind_eq_some_iff.mp H
        obtain ⟨t295, A220, H⟩ := H
        replace H : (if t295 = 0 then ((passepartoutref04_Least.f kj2 a0_0 a0_1 a0_2 a0_3 a0_4 l0_5).bind fun t296 => (if t294 ≥ t296 then ((passepartoutref04_Most.f kj2 a0_0 a0_1 a0_2 a0_3 a0_4 l0_5).bind fun t297 => (some (decide (t294 ≤ t297)))) else (some false))) else (some (t294 == 0))) = some r := H
        have A22 := Aside0.mk A220
        clear A220
        by_cases c23 : t295 = 0
        · rw [if_pos c23] at H
          have c23b0 : (t295 == 0) = true := beq_iff_eq.mpr c23
          have c23b1 : (t295 != 0) = false := bne_eq_false_iff_eq.mpr c23
          clear c23
          replace H := Option.bind_eq_some_iff.mp H
          obtain ⟨t296, A240, H⟩ := H
          replace H : (if t294 ≥ t296 then ((passepartoutref04_Most.f kj2 a0_0 a0_1 a0_2 a0_3 a0_4 l0_5).bind fun t297 => (some (decide (t294 ≤ t297)))) else (some false)) = some r := H
          have A24 := Aside0.mk A240
          clear A240
          by_cases c25 : t294 ≥ t296
          · rw [if_pos c25] at H
            have c25b0 : decide (t296 ≤ t294) = true := decide_eq_true c25
            clear c25
            replace H := Option.bind_eq_some_iff.mp H
            obtain ⟨t297, A260, H⟩ := H
            replace H : (some (decide (t294 ≤ t297))) = some r := H
            have A26 := Aside0.mk A260
            clear A260
            obtain rfl := Option.some.inj H
            have hnb27 := NB286_287.out
            have hnc27 := NB287_286.out
            have hcz28_0 : wc.cell? ⟨gb286, 0, none⟩ = some (.int .i64 a0_0) := (blk_cell BK286.out 0).trans rfl
            have hcz28_1 : wc.cell? ⟨gb286, 1, none⟩ = some (.int .i64 a0_1) := (blk_cell BK286.out 1).trans rfl
            have hcz28_2 : wc.cell? ⟨gb286, 2, none⟩ = some (.int .i64 a0_2) := (blk_cell BK286.out 2).trans rfl
            have hcz28_3 : wc.cell? ⟨gb286, 3, none⟩ = some (.int .i64 a0_3) := (blk_cell BK286.out 3).trans rfl
            have hcz28_4 : wc.cell? ⟨gb286, 4, none⟩ = some (.int .i64 a0_4) := (blk_cell BK286.out 4).trans rfl
            have hcz28_5 : wc.cell? ⟨gb286, 5, none⟩ = some (.slice A0_5 l0_5.length c0_5) := (blk_cell BK286.out 5).trans rfl
            have hfz28_0 := blk_frozen BK286.out 0
            have hfz28_1 := blk_frozen BK286.out 1
            have hfz28_2 := blk_frozen BK286.out 2
            have hfz28_3 := blk_frozen BK286.out 3
            have hfz28_4 := blk_frozen BK286.out 4
            have hfz28_5 := blk_frozen BK286.out 5
            have hcz29_0 : wc.cell? ⟨gb287, 0, none⟩ = some (.int .u64 a1_0) := (blk_cell BK287.out 0).trans rfl
            have hcz29_1 : wc.cell? ⟨gb287, 1, none⟩ = some (.slice A1_1 l1_1.length c1_1) := (blk_cell BK287.out 1).trans rfl
            have hcz29_2 : wc.cell? ⟨gb287, 2, none⟩ = some (.slice A1_2 l1_2.length c1_2) := (blk_cell BK287.out 2).trans rfl
            have hfz29_0 := blk_frozen BK287.out 0
            have hfz29_1 := blk_frozen BK287.out 1
            have hfz29_2 := blk_frozen BK287.out 2
            go_wp2_with (first | ((with_reducible refine gate_callee (f := 32) rfl ?_); refine goesL_ (some 18) rfl rfl Try.func32 (by kernel_rfl) rfl #[.agg #[.int .i64 a0_0, .int .i64 a0_1, .int .i64 a0_2, .int .i64 a0_3, .int .i64 a0_4, .slice A0_5 l0_5.length c0_5], .agg #[.int .u64 a1_0, .slice A1_1 l1_1.length c1_1, .slice A1_2 l1_2.length c1_2]] rfl (by (try simp only [List.map_toArray, List.map_cons, List.map_nil]); first | done | rfl | (simp only [List.length_drop, List.length_take]; rfl)) ?_; (with_reducible refine (value_Size.calls kj2 a0_0 a0_1 a0_2 a0_3 a0_4 _ _ l0_5 a1_0 _ _ l1_1 _ _ l1_2 t294 _ ?side1 ?side2 ?side3 ?side4 ?side5 ?side6 A21.out).mono ?_); (case side1 => repeat (first | exact (Kd.C_below HR0_5.out HB.out) | (with_reducible refine Kd.C_alloc ?_ _) | (with_reducible refine Kd.C_drewN ?_ _) | (with_reducible refine Kd.C_drew ?_))); (case side2 => exact HC0_5.out); (case side3 => repeat (first | exact (Kd.V_reads' HO_288001.out).2.2 | (with_reducible refine Kd.C_alloc ?_ _) | (with_reducible refine Kd.C_drewN ?_ _) | (with_reducible refine Kd.C_drew ?_))); (case side4 => exact (Kd.V_reads' HO_288001.out).2.1); (case side5 => repeat (first | exact (Kd.V_reads' HO_288002.out).2.2 | (with_reducible refine Kd.C_alloc ?_ _) | (with_reducible refine Kd.C_drewN ?_ _) | (with_reducible refine Kd.C_drew ?_))); (case side6 => exact (Kd.V_reads' HO_288002.out).2.1); rintro e w30 ⟨rfl, hb⟩; refine ⟨_, rfl, ?_⟩; have n0_ := Aside0.mk (Kd.V_below (by (with_reducible repeat (first | apply Kd.V_alloc | apply Kd.V_drewN | apply Kd.V_drew)); exact HO_288001.out) hb); have n1_ := Aside0.mk (Kd.V_below (by (with_reducible repeat (first | apply Kd.V_alloc | apply Kd.V_drewN | apply Kd.V_drew)); exact HO_288002.out) hb); have n2_ := Aside0.mk (blk_below (g := gb286) (o := .cells #[.int .i64 a0_0, .int .i64 a0_1, .int .i64 a0_2, .int .i64 a0_3, .int .i64 a0_4, .slice A0_5 l0_5.length c0_5] 27 (0, 0)) (by (with_reducible repeat (first | refine blk_drewN ?_ _ | refine blk_drew ?_ | refine blk_alloc ?_ _)); exact BK286.out) hb); have n3_ := Aside0.mk (blk_below (g := gb287) (o := .cells #[.int .u64 a1_0, .slice A1_1 l1_1.length c1_1, .slice A1_2 l1_2.length c1_2] 46 (0, 0)) (by (with_reducible repeat (first | refine blk_drewN ?_ _ | refine blk_drew ?_ | refine blk_alloc ?_ _)); exact BK287.out) hb); have n4_ := Aside0.mk (below_step (by repeat (first | (with_reducible first | exact HB.out | apply below_alloc | apply pw_below_drewN | apply below_drew1 | refine below_set ?_ GE286.out | refine below_set ?_ GE287.out) | exact HB.out)) hb); clear HO_288001; clear HO_288002; clear BK286; clear BK287; clear HB; have HO_288001 := n0_; have HO_288002 := n1_; have BK286 := n2_; have BK287 := n3_; have HB := n4_; clear n0_ n1_ n2_ n3_ n4_; (try clear hb); (try clear hb2); (try clear hk); (try clear hi); have hcz31_0 : w30.cell? ⟨gb286, 0, none⟩ = some (.int .i64 a0_0) := (blk_cell BK286.out 0).trans rfl; have hcz31_1 : w30.cell? ⟨gb286, 1, none⟩ = some (.int .i64 a0_1) := (blk_cell BK286.out 1).trans rfl; have hcz31_2 : w30.cell? ⟨gb286, 2, none⟩ = some (.int .i64 a0_2) := (blk_cell BK286.out 2).trans rfl; have hcz31_3 : w30.cell? ⟨gb286, 3, none⟩ = some (.int .i64 a0_3) := (blk_cell BK286.out 3).trans rfl; have hcz31_4 : w30.cell? ⟨gb286, 4, none⟩ = some (.int .i64 a0_4) := (blk_cell BK286.out 4).trans rfl; have hcz31_5 : w30.cell? ⟨gb286, 5, none⟩ = some (.slice A0_5 l0_5.length c0_5) := (blk_cell BK286.out 5).trans rfl; have hfz31_0 := blk_frozen BK286.out 0; have hfz31_1 := blk_frozen BK286.out 1; have hfz31_2 := blk_frozen BK286.out 2; have hfz31_3 := blk_frozen BK286.out 3; have hfz31_4 := blk_frozen BK286.out 4; have hfz31_5 := blk_frozen BK286.out 5; have hcz32_0 : w30.cell? ⟨gb287, 0, none⟩ = some (.int .u64 a1_0) := (blk_cell BK287.out 0).trans rfl; have hcz32_1 : w30.cell? ⟨gb287, 1, none⟩ = some (.slice A1_1 l1_1.length c1_1) := (blk_cell BK287.out 1).trans rfl; have hcz32_2 : w30.cell? ⟨gb287, 2, none⟩ = some (.slice A1_2 l1_2.length c1_2) := (blk_cell BK287.out 2).trans rfl; have hfz32_0 := blk_frozen BK287.out 0; have hfz32_1 := blk_frozen BK287.out 1; have hfz32_2 := blk_frozen BK287.out 2) | ((with_reducible refine gate_callee (f := 33) rfl ?_); refine goesL_ (some 21) rfl rfl Try.func33 (by kernel_rfl) rfl #[.agg #[.int .i64 a0_0, .int .i64 a0_1, .int .i64 a0_2, .int .i64 a0_3, .int .i64 a0_4, .slice A0_5 l0_5.length c0_5], .agg #[.int .u64 a1_0, .slice A1_1 l1_1.length c1_1, .slice A1_2 l1_2.length c1_2]] rfl (by (try simp only [List.map_toArray, List.map_cons, List.map_nil]); first | done | rfl | (simp only [List.length_drop, List.length_take]; rfl)) ?_; (with_reducible refine (value_Fits.calls kj2 a0_0 a0_1 a0_2 a0_3 a0_4 _ _ l0_5 a1_0 _ _ l1_1 _ _ l1_2 t295 _ ?side1 ?side2 ?side3 ?side4 ?side5 ?side6 A22.out).mono ?_); (case side1 => repeat (first | exact (Kd.C_below HR0_5.out HB.out) | (with_reducible refine Kd.C_alloc ?_ _) | (with_reducible refine Kd.C_drewN ?_ _) | (with_reducible refine Kd.C_drew ?_))); (case side2 => exact HC0_5.out); (case side3 => repeat (first | exact (Kd.V_reads' HO_288001.out).2.2 | (with_reducible refine Kd.C_alloc ?_ _) | (with_reducible refine Kd.C_drewN ?_ _) | (with_reducible refine Kd.C_drew ?_))); (case side4 => exact (Kd.V_reads' HO_288001.out).2.1); (case side5 => repeat (first | exact (Kd.V_reads' HO_288002.out).2.2 | (with_reducible refine Kd.C_alloc ?_ _) | (with_reducible refine Kd.C_drewN ?_ _) | (with_reducible refine Kd.C_drew ?_))); (case side6 => exact (Kd.V_reads' HO_288002.out).2.1); rintro e w33 ⟨rfl, hb⟩; refine ⟨_, rfl, ?_⟩; have n0_ := Aside0.mk (Kd.V_below (by (with_reducible repeat (first | apply Kd.V_alloc | apply Kd.V_drewN | apply Kd.V_drew)); exact HO_288001.out) hb); have n1_ := Aside0.mk (Kd.V_below (by (with_reducible repeat (first | apply Kd.V_alloc | apply Kd.V_drewN | apply Kd.V_drew)); exact HO_288002.out) hb); have n2_ := Aside0.mk (blk_below (g := gb286) (o := .cells #[.int .i64 a0_0, .int .i64 a0_1, .int .i64 a0_2, .int .i64 a0_3, .int .i64 a0_4, .slice A0_5 l0_5.length c0_5] 27 (0, 0)) (by (with_reducible repeat (first | refine blk_drewN ?_ _ | refine blk_drew ?_ | refine blk_alloc ?_ _)); exact BK286.out) hb); have n3_ := Aside0.mk (blk_below (g := gb287) (o := .cells #[.int .u64 a1_0, .slice A1_1 l1_1.length c1_1, .slice A1_2 l1_2.length c1_2] 46 (0, 0)) (by (with_reducible repeat (first | refine blk_drewN ?_ _ | refine blk_drew ?_ | refine blk_alloc ?_ _)); exact BK287.out) hb); have n4_ := Aside0.mk (below_step (by repeat (first | (with_reducible first | exact HB.out | apply below_alloc | apply pw_below_drewN | apply below_drew1 | refine below_set ?_ GE286.out | refine below_set ?_ GE287.out) | exact HB.out)) hb); clear HO_288001; clear HO_288002; clear BK286; clear BK287; clear HB; have HO_288001 := n0_; have HO_288002 := n1_; have BK286 := n2_; have BK287 := n3_; have HB := n4_; clear n0_ n1_ n2_ n3_ n4_; (try clear hb); (try clear hb2); (try clear hk); (try clear hi); have hcz34_0 : w33.cell? ⟨gb286, 0, none⟩ = some (.int .i64 a0_0) := (blk_cell BK286.out 0).trans rfl; have hcz34_1 : w33.cell? ⟨gb286, 1, none⟩ = some (.int .i64 a0_1) := (blk_cell BK286.out 1).trans rfl; have hcz34_2 : w33.cell? ⟨gb286, 2, none⟩ = some (.int .i64 a0_2) := (blk_cell BK286.out 2).trans rfl; have hcz34_3 : w33.cell? ⟨gb286, 3, none⟩ = some (.int .i64 a0_3) := (blk_cell BK286.out 3).trans rfl; have hcz34_4 : w33.cell? ⟨gb286, 4, none⟩ = some (.int .i64 a0_4) := (blk_cell BK286.out 4).trans rfl; have hcz34_5 : w33.cell? ⟨gb286, 5, none⟩ = some (.slice A0_5 l0_5.length c0_5) := (blk_cell BK286.out 5).trans rfl; have hfz34_0 := blk_frozen BK286.out 0; have hfz34_1 := blk_frozen BK286.out 1; have hfz34_2 := blk_frozen BK286.out 2; have hfz34_3 := blk_frozen BK286.out 3; have hfz34_4 := blk_frozen BK286.out 4; have hfz34_5 := blk_frozen BK286.out 5) | ((with_reducible refine gate_callee (f := 34) rfl ?_); refine goesL_ (some 27) rfl rfl Try.func34 (by kernel_rfl) rfl #[.agg #[.int .i64 a0_0, .int .i64 a0_1, .int .i64 a0_2, .int .i64 a0_3, .int .i64 a0_4, .slice A0_5 l0_5.length c0_5]] rfl (by (try simp only [List.map_toArray, List.map_cons, List.map_nil]); first | done | rfl | (simp only [List.length_drop, List.length_take]; rfl)) ?_; (with_reducible refine (passepartoutref04_Least.calls kj2 a0_0 a0_1 a0_2 a0_3 a0_4 _ _ l0_5 t296 _ ?side1 ?side2 A24.out).mono ?_); (case side1 => repeat (first | exact (Kd.C_below HR0_5.out HB.out) | (with_reducible refine Kd.C_alloc ?_ _) | (with_reducible refine Kd.C_drewN ?_ _) | (with_reducible refine Kd.C_drew ?_))); (case side2 => exact HC0_5.out); rintro e w35 ⟨rfl, hb⟩; refine ⟨_, rfl, ?_⟩; have n0_ := Aside0.mk (Kd.V_below (by (with_reducible repeat (first | apply Kd.V_alloc | apply Kd.V_drewN | apply Kd.V_drew)); exact HO_288001.out) hb); have n1_ := Aside0.mk (Kd.V_below (by (with_reducible repeat (first | apply Kd.V_alloc | apply Kd.V_drewN | apply Kd.V_drew)); exact HO_288002.out) hb); have n2_ := Aside0.mk (blk_below (g := gb286) (o := .cells #[.int .i64 a0_0, .int .i64 a0_1, .int .i64 a0_2, .int .i64 a0_3, .int .i64 a0_4, .slice A0_5 l0_5.length c0_5] 27 (0, 0)) (by (with_reducible repeat (first | refine blk_drewN ?_ _ | refine blk_drew ?_ | refine blk_alloc ?_ _)); exact BK286.out) hb); have n3_ := Aside0.mk (blk_below (g := gb287) (o := .cells #[.int .u64 a1_0, .slice A1_1 l1_1.length c1_1, .slice A1_2 l1_2.length c1_2] 46 (0, 0)) (by (with_reducible repeat (first | refine blk_drewN ?_ _ | refine blk_drew ?_ | refine blk_alloc ?_ _)); exact BK287.out) hb); have n4_ := Aside0.mk (below_step (by repeat (first | (with_reducible first | exact HB.out | apply below_alloc | apply pw_below_drewN | apply below_drew1 | refine below_set ?_ GE286.out | refine below_set ?_ GE287.out) | exact HB.out)) hb); clear HO_288001; clear HO_288002; clear BK286; clear BK287; clear HB; have HO_288001 := n0_; have HO_288002 := n1_; have BK286 := n2_; have BK287 := n3_; have HB := n4_; clear n0_ n1_ n2_ n3_ n4_; (try clear hb); (try clear hb2); (try clear hk); (try clear hi); have hcz36_0 : w35.cell? ⟨gb286, 0, none⟩ = some (.int .i64 a0_0) := (blk_cell BK286.out 0).trans rfl; have hcz36_1 : w35.cell? ⟨gb286, 1, none⟩ = some (.int .i64 a0_1) := (blk_cell BK286.out 1).trans rfl; have hcz36_2 : w35.cell? ⟨gb286, 2, none⟩ = some (.int .i64 a0_2) := (blk_cell BK286.out 2).trans rfl; have hcz36_3 : w35.cell? ⟨gb286, 3, none⟩ = some (.int .i64 a0_3) := (blk_cell BK286.out 3).trans rfl; have hcz36_4 : w35.cell? ⟨gb286, 4, none⟩ = some (.int .i64 a0_4) := (blk_cell BK286.out 4).trans rfl; have hcz36_5 : w35.cell? ⟨gb286, 5, none⟩ = some (.slice A0_5 l0_5.length c0_5) := (blk_cell BK286.out 5).trans rfl; have hfz36_0 := blk_frozen BK286.out 0; have hfz36_1 := blk_frozen BK286.out 1; have hfz36_2 := blk_frozen BK286.out 2; have hfz36_3 := blk_frozen BK286.out 3; have hfz36_4 := blk_frozen BK286.out 4; have hfz36_5 := blk_frozen BK286.out 5) | (go_at_call 35; (with_reducible refine (passepartoutref04_Most.calls kj2 a0_0 a0_1 a0_2 a0_3 a0_4 _ _ l0_5 t297 _ ?side1 ?side2 A26.out).mono ?_); (case side1 => repeat (first | exact (Kd.C_below HR0_5.out HB.out) | (with_reducible refine Kd.C_alloc ?_ _) | (with_reducible refine Kd.C_drewN ?_ _) | (with_reducible refine Kd.C_drew ?_))); (case side2 => exact HC0_5.out); rintro e w37 ⟨rfl, hb⟩; have n0_ := Aside0.mk (Kd.V_below (by (with_reducible repeat (first | apply Kd.V_alloc | apply Kd.V_drewN | apply Kd.V_drew)); exact HO_288001.out) hb); have n1_ := Aside0.mk (Kd.V_below (by (with_reducible repeat (first | apply Kd.V_alloc | apply Kd.V_drewN | apply Kd.V_drew)); exact HO_288002.out) hb); have n2_ := Aside0.mk (blk_below (g := gb286) (o := .cells #[.int .i64 a0_0, .int .i64 a0_1, .int .i64 a0_2, .int .i64 a0_3, .int .i64 a0_4, .slice A0_5 l0_5.length c0_5] 27 (0, 0)) (by (with_reducible repeat (first | refine blk_drewN ?_ _ | refine blk_drew ?_ | refine blk_alloc ?_ _)); exact BK286.out) hb); have n3_ := Aside0.mk (blk_below (g := gb287) (o := .cells #[.int .u64 a1_0, .slice A1_1 l1_1.length c1_1, .slice A1_2 l1_2.length c1_2] 46 (0, 0)) (by (with_reducible repeat (first | refine blk_drewN ?_ _ | refine blk_drew ?_ | refine blk_alloc ?_ _)); exact BK287.out) hb); have n4_ := Aside0.mk (below_step (by repeat (first | (with_reducible first | exact HB.out | apply below_alloc | apply pw_below_drewN | apply below_drew1 | refine below_set ?_ GE286.out | refine below_set ?_ GE287.out) | exact HB.out)) hb); clear HO_288001; clear HO_288002; clear BK286; clear BK287; clear HB; have HO_288001 := n0_; have HO_288002 := n1_; have BK286 := n2_; have BK287 := n3_; have HB := n4_; clear n0_ n1_ n2_ n3_ n4_; (try clear hb); (try clear hb2); (try clear hk); (try clear hi)))
            go_ret
            exact ⟨by first | rfl | (simp [errW_none, errW_some] <;> rfl) | (simp [*, errW_none, errW_some] <;> rfl), by repeat (first | (with_reducible first | exact HB.out | apply below_alloc | apply pw_below_drewN | apply below_drew1 | refine below_set ?_ GE286.out | refine below_set ?_ GE287.out) | exact HB.out)⟩
          · rw [if_neg c25] at H
            have c25b0 : decide (t296 ≤ t294) = false := decide_eq_false c25
            clear c25
            obtain rfl := Option.some.inj H
            have hnb38 := NB286_287.out
            have hnc38 := NB287_286.out
            have hcz39_0 : wc.cell? ⟨gb286, 0, none⟩ = some (.int .i64 a0_0) := (blk_cell BK286.out 0).trans rfl
            have hcz39_1 : wc.cell? ⟨gb286, 1, none⟩ = some (.int .i64 a0_1) := (blk_cell BK286.out 1).trans rfl
            have hcz39_2 : wc.cell? ⟨gb286, 2, none⟩ = some (.int .i64 a0_2) := (blk_cell BK286.out 2).trans rfl
            have hcz39_3 : wc.cell? ⟨gb286, 3, none⟩ = some (.int .i64 a0_3) := (blk_cell BK286.out 3).trans rfl
            have hcz39_4 : wc.cell? ⟨gb286, 4, none⟩ = some (.int .i64 a0_4) := (blk_cell BK286.out 4).trans rfl
            have hcz39_5 : wc.cell? ⟨gb286, 5, none⟩ = some (.slice A0_5 l0_5.length c0_5) := (blk_cell BK286.out 5).trans rfl
            have hfz39_0 := blk_frozen BK286.out 0
            have hfz39_1 := blk_frozen BK286.out 1
            have hfz39_2 := blk_frozen BK286.out 2
            have hfz39_3 := blk_frozen BK286.out 3
            have hfz39_4 := blk_frozen BK286.out 4
            have hfz39_5 := blk_frozen BK286.out 5
            have hcz40_0 : wc.cell? ⟨gb287, 0, none⟩ = some (.int .u64 a1_0) := (blk_cell BK287.out 0).trans rfl
            have hcz40_1 : wc.cell? ⟨gb287, 1, none⟩ = some (.slice A1_1 l1_1.length c1_1) := (blk_cell BK287.out 1).trans rfl
            have hcz40_2 : wc.cell? ⟨gb287, 2, none⟩ = some (.slice A1_2 l1_2.length c1_2) := (blk_cell BK287.out 2).trans rfl
            have hfz40_0 := blk_frozen BK287.out 0
            have hfz40_1 := blk_frozen BK287.out 1
            have hfz40_2 := blk_frozen BK287.out 2
            go_wp2_with (first | ((with_reducible refine gate_callee (f := 32) rfl ?_); refine goesL_ (some 18) rfl rfl Try.func32 (by kernel_rfl) rfl #[.agg #[.int .i64 a0_0, .int .i64 a0_1, .int .i64 a0_2, .int .i64 a0_3, .int .i64 a0_4, .slice A0_5 l0_5.length c0_5], .agg #[.int .u64 a1_0, .slice A1_1 l1_1.length c1_1, .slice A1_2 l1_2.length c1_2]] rfl (by (try simp only [List.map_toArray, List.map_cons, List.map_nil]); first | done | rfl | (simp only [List.length_drop, List.length_take]; rfl)) ?_; (with_reducible refine (value_Size.calls kj2 a0_0 a0_1 a0_2 a0_3 a0_4 _ _ l0_5 a1_0 _ _ l1_1 _ _ l1_2 t294 _ ?side1 ?side2 ?side3 ?side4 ?side5 ?side6 A21.out).mono ?_); (case side1 => repeat (first | exact (Kd.C_below HR0_5.out HB.out) | (with_reducible refine Kd.C_alloc ?_ _) | (with_reducible refine Kd.C_drewN ?_ _) | (with_reducible refine Kd.C_drew ?_))); (case side2 => exact HC0_5.out); (case side3 => repeat (first | exact (Kd.V_reads' HO_288001.out).2.2 | (with_reducible refine Kd.C_alloc ?_ _) | (with_reducible refine Kd.C_drewN ?_ _) | (with_reducible refine Kd.C_drew ?_))); (case side4 => exact (Kd.V_reads' HO_288001.out).2.1); (case side5 => repeat (first | exact (Kd.V_reads' HO_288002.out).2.2 | (with_reducible refine Kd.C_alloc ?_ _) | (with_reducible refine Kd.C_drewN ?_ _) | (with_reducible refine Kd.C_drew ?_))); (case side6 => exact (Kd.V_reads' HO_288002.out).2.1); rintro e w41 ⟨rfl, hb⟩; refine ⟨_, rfl, ?_⟩; have n0_ := Aside0.mk (Kd.V_below (by (with_reducible repeat (first | apply Kd.V_alloc | apply Kd.V_drewN | apply Kd.V_drew)); exact HO_288001.out) hb); have n1_ := Aside0.mk (Kd.V_below (by (with_reducible repeat (first | apply Kd.V_alloc | apply Kd.V_drewN | apply Kd.V_drew)); exact HO_288002.out) hb); have n2_ := Aside0.mk (blk_below (g := gb286) (o := .cells #[.int .i64 a0_0, .int .i64 a0_1, .int .i64 a0_2, .int .i64 a0_3, .int .i64 a0_4, .slice A0_5 l0_5.length c0_5] 27 (0, 0)) (by (with_reducible repeat (first | refine blk_drewN ?_ _ | refine blk_drew ?_ | refine blk_alloc ?_ _)); exact BK286.out) hb); have n3_ := Aside0.mk (blk_below (g := gb287) (o := .cells #[.int .u64 a1_0, .slice A1_1 l1_1.length c1_1, .slice A1_2 l1_2.length c1_2] 46 (0, 0)) (by (with_reducible repeat (first | refine blk_drewN ?_ _ | refine blk_drew ?_ | refine blk_alloc ?_ _)); exact BK287.out) hb); have n4_ := Aside0.mk (below_step (by repeat (first | (with_reducible first | exact HB.out | apply below_alloc | apply pw_below_drewN | apply below_drew1 | refine below_set ?_ GE286.out | refine below_set ?_ GE287.out) | exact HB.out)) hb); clear HO_288001; clear HO_288002; clear BK286; clear BK287; clear HB; have HO_288001 := n0_; have HO_288002 := n1_; have BK286 := n2_; have BK287 := n3_; have HB := n4_; clear n0_ n1_ n2_ n3_ n4_; (try clear hb); (try clear hb2); (try clear hk); (try clear hi); have hcz42_0 : w41.cell? ⟨gb286, 0, none⟩ = some (.int .i64 a0_0) := (blk_cell BK286.out 0).trans rfl; have hcz42_1 : w41.cell? ⟨gb286, 1, none⟩ = some (.int .i64 a0_1) := (blk_cell BK286.out 1).trans rfl; have hcz42_2 : w41.cell? ⟨gb286, 2, none⟩ = some (.int .i64 a0_2) := (blk_cell BK286.out 2).trans rfl; have hcz42_3 : w41.cell? ⟨gb286, 3, none⟩ = some (.int .i64 a0_3) := (blk_cell BK286.out 3).trans rfl; have hcz42_4 : w41.cell? ⟨gb286, 4, none⟩ = some (.int .i64 a0_4) := (blk_cell BK286.out 4).trans rfl; have hcz42_5 : w41.cell? ⟨gb286, 5, none⟩ = some (.slice A0_5 l0_5.length c0_5) := (blk_cell BK286.out 5).trans rfl; have hfz42_0 := blk_frozen BK286.out 0; have hfz42_1 := blk_frozen BK286.out 1; have hfz42_2 := blk_frozen BK286.out 2; have hfz42_3 := blk_frozen BK286.out 3; have hfz42_4 := blk_frozen BK286.out 4; have hfz42_5 := blk_frozen BK286.out 5; have hcz43_0 : w41.cell? ⟨gb287, 0, none⟩ = some (.int .u64 a1_0) := (blk_cell BK287.out 0).trans rfl; have hcz43_1 : w41.cell? ⟨gb287, 1, none⟩ = some (.slice A1_1 l1_1.length c1_1) := (blk_cell BK287.out 1).trans rfl; have hcz43_2 : w41.cell? ⟨gb287, 2, none⟩ = some (.slice A1_2 l1_2.length c1_2) := (blk_cell BK287.out 2).trans rfl; have hfz43_0 := blk_frozen BK287.out 0; have hfz43_1 := blk_frozen BK287.out 1; have hfz43_2 := blk_frozen BK287.out 2) | ((with_reducible refine gate_callee (f := 33) rfl ?_); refine goesL_ (some 21) rfl rfl Try.func33 (by kernel_rfl) rfl #[.agg #[.int .i64 a0_0, .int .i64 a0_1, .int .i64 a0_2, .int .i64 a0_3, .int .i64 a0_4, .slice A0_5 l0_5.length c0_5], .agg #[.int .u64 a1_0, .slice A1_1 l1_1.length c1_1, .slice A1_2 l1_2.length c1_2]] rfl (by (try simp only [List.map_toArray, List.map_cons, List.map_nil]); first | done | rfl | (simp only [List.length_drop, List.length_take]; rfl)) ?_; (with_reducible refine (value_Fits.calls kj2 a0_0 a0_1 a0_2 a0_3 a0_4 _ _ l0_5 a1_0 _ _ l1_1 _ _ l1_2 t295 _ ?side1 ?side2 ?side3 ?side4 ?side5 ?side6 A22.out).mono ?_); (case side1 => repeat (first | exact (Kd.C_below HR0_5.out HB.out) | (with_reducible refine Kd.C_alloc ?_ _) | (with_reducible refine Kd.C_drewN ?_ _) | (with_reducible refine Kd.C_drew ?_))); (case side2 => exact HC0_5.out); (case side3 => repeat (first | exact (Kd.V_reads' HO_288001.out).2.2 | (with_reducible refine Kd.C_alloc ?_ _) | (with_reducible refine Kd.C_drewN ?_ _) | (with_reducible refine Kd.C_drew ?_))); (case side4 => exact (Kd.V_reads' HO_288001.out).2.1); (case side5 => repeat (first | exact (Kd.V_reads' HO_288002.out).2.2 | (with_reducible refine Kd.C_alloc ?_ _) | (with_reducible refine Kd.C_drewN ?_ _) | (with_reducible refine Kd.C_drew ?_))); (case side6 => exact (Kd.V_reads' HO_288002.out).2.1); rintro e w44 ⟨rfl, hb⟩; refine ⟨_, rfl, ?_⟩; have n0_ := Aside0.mk (Kd.V_below (by (with_reducible repeat (first | apply Kd.V_alloc | apply Kd.V_drewN | apply Kd.V_drew)); exact HO_288001.out) hb); have n1_ := Aside0.mk (Kd.V_below (by (with_reducible repeat (first | apply Kd.V_alloc | apply Kd.V_drewN | apply Kd.V_drew)); exact HO_288002.out) hb); have n2_ := Aside0.mk (blk_below (g := gb286) (o := .cells #[.int .i64 a0_0, .int .i64 a0_1, .int .i64 a0_2, .int .i64 a0_3, .int .i64 a0_4, .slice A0_5 l0_5.length c0_5] 27 (0, 0)) (by (with_reducible repeat (first | refine blk_drewN ?_ _ | refine blk_drew ?_ | refine blk_alloc ?_ _)); exact BK286.out) hb); have n3_ := Aside0.mk (blk_below (g := gb287) (o := .cells #[.int .u64 a1_0, .slice A1_1 l1_1.length c1_1, .slice A1_2 l1_2.length c1_2] 46 (0, 0)) (by (with_reducible repeat (first | refine blk_drewN ?_ _ | refine blk_drew ?_ | refine blk_alloc ?_ _)); exact BK287.out) hb); have n4_ := Aside0.mk (below_step (by repeat (first | (with_reducible first | exact HB.out | apply below_alloc | apply pw_below_drewN | apply below_drew1 | refine below_set ?_ GE286.out | refine below_set ?_ GE287.out) | exact HB.out)) hb); clear HO_288001; clear HO_288002; clear BK286; clear BK287; clear HB; have HO_288001 := n0_; have HO_288002 := n1_; have BK286 := n2_; have BK287 := n3_; have HB := n4_; clear n0_ n1_ n2_ n3_ n4_; (try clear hb); (try clear hb2); (try clear hk); (try clear hi); have hcz45_0 : w44.cell? ⟨gb286, 0, none⟩ = some (.int .i64 a0_0) := (blk_cell BK286.out 0).trans rfl; have hcz45_1 : w44.cell? ⟨gb286, 1, none⟩ = some (.int .i64 a0_1) := (blk_cell BK286.out 1).trans rfl; have hcz45_2 : w44.cell? ⟨gb286, 2, none⟩ = some (.int .i64 a0_2) := (blk_cell BK286.out 2).trans rfl; have hcz45_3 : w44.cell? ⟨gb286, 3, none⟩ = some (.int .i64 a0_3) := (blk_cell BK286.out 3).trans rfl; have hcz45_4 : w44.cell? ⟨gb286, 4, none⟩ = some (.int .i64 a0_4) := (blk_cell BK286.out 4).trans rfl; have hcz45_5 : w44.cell? ⟨gb286, 5, none⟩ = some (.slice A0_5 l0_5.length c0_5) := (blk_cell BK286.out 5).trans rfl; have hfz45_0 := blk_frozen BK286.out 0; have hfz45_1 := blk_frozen BK286.out 1; have hfz45_2 := blk_frozen BK286.out 2; have hfz45_3 := blk_frozen BK286.out 3; have hfz45_4 := blk_frozen BK286.out 4; have hfz45_5 := blk_frozen BK286.out 5) | ((with_reducible refine gate_callee (f := 34) rfl ?_); refine goesL_ (some 27) rfl rfl Try.func34 (by kernel_rfl) rfl #[.agg #[.int .i64 a0_0, .int .i64 a0_1, .int .i64 a0_2, .int .i64 a0_3, .int .i64 a0_4, .slice A0_5 l0_5.length c0_5]] rfl (by (try simp only [List.map_toArray, List.map_cons, List.map_nil]); first | done | rfl | (simp only [List.length_drop, List.length_take]; rfl)) ?_; (with_reducible refine (passepartoutref04_Least.calls kj2 a0_0 a0_1 a0_2 a0_3 a0_4 _ _ l0_5 t296 _ ?side1 ?side2 A24.out).mono ?_); (case side1 => repeat (first | exact (Kd.C_below HR0_5.out HB.out) | (with_reducible refine Kd.C_alloc ?_ _) | (with_reducible refine Kd.C_drewN ?_ _) | (with_reducible refine Kd.C_drew ?_))); (case side2 => exact HC0_5.out); rintro e w46 ⟨rfl, hb⟩; refine ⟨_, rfl, ?_⟩; have n0_ := Aside0.mk (Kd.V_below (by (with_reducible repeat (first | apply Kd.V_alloc | apply Kd.V_drewN | apply Kd.V_drew)); exact HO_288001.out) hb); have n1_ := Aside0.mk (Kd.V_below (by (with_reducible repeat (first | apply Kd.V_alloc | apply Kd.V_drewN | apply Kd.V_drew)); exact HO_288002.out) hb); have n2_ := Aside0.mk (blk_below (g := gb286) (o := .cells #[.int .i64 a0_0, .int .i64 a0_1, .int .i64 a0_2, .int .i64 a0_3, .int .i64 a0_4, .slice A0_5 l0_5.length c0_5] 27 (0, 0)) (by (with_reducible repeat (first | refine blk_drewN ?_ _ | refine blk_drew ?_ | refine blk_alloc ?_ _)); exact BK286.out) hb); have n3_ := Aside0.mk (blk_below (g := gb287) (o := .cells #[.int .u64 a1_0, .slice A1_1 l1_1.length c1_1, .slice A1_2 l1_2.length c1_2] 46 (0, 0)) (by (with_reducible repeat (first | refine blk_drewN ?_ _ | refine blk_drew ?_ | refine blk_alloc ?_ _)); exact BK287.out) hb); have n4_ := Aside0.mk (below_step (by repeat (first | (with_reducible first | exact HB.out | apply below_alloc | apply pw_below_drewN | apply below_drew1 | refine below_set ?_ GE286.out | refine below_set ?_ GE287.out) | exact HB.out)) hb); clear HO_288001; clear HO_288002; clear BK286; clear BK287; clear HB; have HO_288001 := n0_; have HO_288002 := n1_; have BK286 := n2_; have BK287 := n3_; have HB := n4_; clear n0_ n1_ n2_ n3_ n4_; (try clear hb); (try clear hb2); (try clear hk); (try clear hi)))
            go_ret
            exact ⟨by first | rfl | (simp [errW_none, errW_some] <;> rfl) | (simp [*, errW_none, errW_some] <;> rfl), by repeat (first | (with_reducible first | exact HB.out | apply below_alloc | apply pw_below_drewN | apply below_drew1 | refine below_set ?_ GE286.out | refine below_set ?_ GE287.out) | exact HB.out)⟩
        · rw [if_neg c23] at H
          have c23b0 : (t295 == 0) = false := beq_eq_false_iff_ne.mpr c23
          have c23b1 : (t295 != 0) = true := bne_iff_ne.mpr c23
          obtain rfl := Option.some.inj H
          have hnb47 := NB286_287.out
          have hnc47 := NB287_286.out
          have hcz48_0 : wc.cell? ⟨gb286, 0, none⟩ = some (.int .i64 a0_0) := (blk_cell BK286.out 0).trans rfl
          have hcz48_1 : wc.cell? ⟨gb286, 1, none⟩ = some (.int .i64 a0_1) := (blk_cell BK286.out 1).trans rfl
          have hcz48_2 : wc.cell? ⟨gb286, 2, none⟩ = some (.int .i64 a0_2) := (blk_cell BK286.out 2).trans rfl
          have hcz48_3 : wc.cell? ⟨gb286, 3, none⟩ = some (.int .i64 a0_3) := (blk_cell BK286.out 3).trans rfl
          have hcz48_4 : wc.cell? ⟨gb286, 4, none⟩ = some (.int .i64 a0_4) := (blk_cell BK286.out 4).trans rfl
          have hcz48_5 : wc.cell? ⟨gb286, 5, none⟩ = some (.slice A0_5 l0_5.length c0_5) := (blk_cell BK286.out 5).trans rfl
          have hfz48_0 := blk_frozen BK286.out 0
          have hfz48_1 := blk_frozen BK286.out 1
          have hfz48_2 := blk_frozen BK286.out 2
          have hfz48_3 := blk_frozen BK286.out 3
          have hfz48_4 := blk_frozen BK286.out 4
          have hfz48_5 := blk_frozen BK286.out 5
          have hcz49_0 : wc.cell? ⟨gb287, 0, none⟩ = some (.int .u64 a1_0) := (blk_cell BK287.out 0).trans rfl
          have hcz49_1 : wc.cell? ⟨gb287, 1, none⟩ = some (.slice A1_1 l1_1.length c1_1) := (blk_cell BK287.out 1).trans rfl
          have hcz49_2 : wc.cell? ⟨gb287, 2, none⟩ = some (.slice A1_2 l1_2.length c1_2) := (blk_cell BK287.out 2).trans rfl
          have hfz49_0 := blk_frozen BK287.out 0
          have hfz49_1 := blk_frozen BK287.out 1
          have hfz49_2 := blk_frozen BK287.out 2
          go_wp2_with (first | ((with_reducible refine gate_callee (f := 32) rfl ?_); refine goesL_ (some 18) rfl rfl Try.func32 (by kernel_rfl) rfl #[.agg #[.int .i64 a0_0, .int .i64 a0_1, .int .i64 a0_2, .int .i64 a0_3, .int .i64 a0_4, .slice A0_5 l0_5.length c0_5], .agg #[.int .u64 a1_0, .slice A1_1 l1_1.length c1_1, .slice A1_2 l1_2.length c1_2]] rfl (by (try simp only [List.map_toArray, List.map_cons, List.map_nil]); first | done | rfl | (simp only [List.length_drop, List.length_take]; rfl)) ?_; (with_reducible refine (value_Size.calls kj2 a0_0 a0_1 a0_2 a0_3 a0_4 _ _ l0_5 a1_0 _ _ l1_1 _ _ l1_2 t294 _ ?side1 ?side2 ?side3 ?side4 ?side5 ?side6 A21.out).mono ?_); (case side1 => repeat (first | exact (Kd.C_below HR0_5.out HB.out) | (with_reducible refine Kd.C_alloc ?_ _) | (with_reducible refine Kd.C_drewN ?_ _) | (with_reducible refine Kd.C_drew ?_))); (case side2 => exact HC0_5.out); (case side3 => repeat (first | exact (Kd.V_reads' HO_288001.out).2.2 | (with_reducible refine Kd.C_alloc ?_ _) | (with_reducible refine Kd.C_drewN ?_ _) | (with_reducible refine Kd.C_drew ?_))); (case side4 => exact (Kd.V_reads' HO_288001.out).2.1); (case side5 => repeat (first | exact (Kd.V_reads' HO_288002.out).2.2 | (with_reducible refine Kd.C_alloc ?_ _) | (with_reducible refine Kd.C_drewN ?_ _) | (with_reducible refine Kd.C_drew ?_))); (case side6 => exact (Kd.V_reads' HO_288002.out).2.1); rintro e w50 ⟨rfl, hb⟩; refine ⟨_, rfl, ?_⟩; have n0_ := Aside0.mk (Kd.V_below (by (with_reducible repeat (first | apply Kd.V_alloc | apply Kd.V_drewN | apply Kd.V_drew)); exact HO_288001.out) hb); have n1_ := Aside0.mk (Kd.V_below (by (with_reducible repeat (first | apply Kd.V_alloc | apply Kd.V_drewN | apply Kd.V_drew)); exact HO_288002.out) hb); have n2_ := Aside0.mk (blk_below (g := gb286) (o := .cells #[.int .i64 a0_0, .int .i64 a0_1, .int .i64 a0_2, .int .i64 a0_3, .int .i64 a0_4, .slice A0_5 l0_5.length c0_5] 27 (0, 0)) (by (with_reducible repeat (first | refine blk_drewN ?_ _ | refine blk_drew ?_ | refine blk_alloc ?_ _)); exact BK286.out) hb); have n3_ := Aside0.mk (blk_below (g := gb287) (o := .cells #[.int .u64 a1_0, .slice A1_1 l1_1.length c1_1, .slice A1_2 l1_2.length c1_2] 46 (0, 0)) (by (with_reducible repeat (first | refine blk_drewN ?_ _ | refine blk_drew ?_ | refine blk_alloc ?_ _)); exact BK287.out) hb); have n4_ := Aside0.mk (below_step (by repeat (first | (with_reducible first | exact HB.out | apply below_alloc | apply pw_below_drewN | apply below_drew1 | refine below_set ?_ GE286.out | refine below_set ?_ GE287.out) | exact HB.out)) hb); clear HO_288001; clear HO_288002; clear BK286; clear BK287; clear HB; have HO_288001 := n0_; have HO_288002 := n1_; have BK286 := n2_; have BK287 := n3_; have HB := n4_; clear n0_ n1_ n2_ n3_ n4_; (try clear hb); (try clear hb2); (try clear hk); (try clear hi); have hcz51_0 : w50.cell? ⟨gb286, 0, none⟩ = some (.int .i64 a0_0) := (blk_cell BK286.out 0).trans rfl; have hcz51_1 : w50.cell? ⟨gb286, 1, none⟩ = some (.int .i64 a0_1) := (blk_cell BK286.out 1).trans rfl; have hcz51_2 : w50.cell? ⟨gb286, 2, none⟩ = some (.int .i64 a0_2) := (blk_cell BK286.out 2).trans rfl; have hcz51_3 : w50.cell? ⟨gb286, 3, none⟩ = some (.int .i64 a0_3) := (blk_cell BK286.out 3).trans rfl; have hcz51_4 : w50.cell? ⟨gb286, 4, none⟩ = some (.int .i64 a0_4) := (blk_cell BK286.out 4).trans rfl; have hcz51_5 : w50.cell? ⟨gb286, 5, none⟩ = some (.slice A0_5 l0_5.length c0_5) := (blk_cell BK286.out 5).trans rfl; have hfz51_0 := blk_frozen BK286.out 0; have hfz51_1 := blk_frozen BK286.out 1; have hfz51_2 := blk_frozen BK286.out 2; have hfz51_3 := blk_frozen BK286.out 3; have hfz51_4 := blk_frozen BK286.out 4; have hfz51_5 := blk_frozen BK286.out 5; have hcz52_0 : w50.cell? ⟨gb287, 0, none⟩ = some (.int .u64 a1_0) := (blk_cell BK287.out 0).trans rfl; have hcz52_1 : w50.cell? ⟨gb287, 1, none⟩ = some (.slice A1_1 l1_1.length c1_1) := (blk_cell BK287.out 1).trans rfl; have hcz52_2 : w50.cell? ⟨gb287, 2, none⟩ = some (.slice A1_2 l1_2.length c1_2) := (blk_cell BK287.out 2).trans rfl; have hfz52_0 := blk_frozen BK287.out 0; have hfz52_1 := blk_frozen BK287.out 1; have hfz52_2 := blk_frozen BK287.out 2) | ((with_reducible refine gate_callee (f := 33) rfl ?_); refine goesL_ (some 21) rfl rfl Try.func33 (by kernel_rfl) rfl #[.agg #[.int .i64 a0_0, .int .i64 a0_1, .int .i64 a0_2, .int .i64 a0_3, .int .i64 a0_4, .slice A0_5 l0_5.length c0_5], .agg #[.int .u64 a1_0, .slice A1_1 l1_1.length c1_1, .slice A1_2 l1_2.length c1_2]] rfl (by (try simp only [List.map_toArray, List.map_cons, List.map_nil]); first | done | rfl | (simp only [List.length_drop, List.length_take]; rfl)) ?_; (with_reducible refine (value_Fits.calls kj2 a0_0 a0_1 a0_2 a0_3 a0_4 _ _ l0_5 a1_0 _ _ l1_1 _ _ l1_2 t295 _ ?side1 ?side2 ?side3 ?side4 ?side5 ?side6 A22.out).mono ?_); (case side1 => repeat (first | exact (Kd.C_below HR0_5.out HB.out) | (with_reducible refine Kd.C_alloc ?_ _) | (with_reducible refine Kd.C_drewN ?_ _) | (with_reducible refine Kd.C_drew ?_))); (case side2 => exact HC0_5.out); (case side3 => repeat (first | exact (Kd.V_reads' HO_288001.out).2.2 | (with_reducible refine Kd.C_alloc ?_ _) | (with_reducible refine Kd.C_drewN ?_ _) | (with_reducible refine Kd.C_drew ?_))); (case side4 => exact (Kd.V_reads' HO_288001.out).2.1); (case side5 => repeat (first | exact (Kd.V_reads' HO_288002.out).2.2 | (with_reducible refine Kd.C_alloc ?_ _) | (with_reducible refine Kd.C_drewN ?_ _) | (with_reducible refine Kd.C_drew ?_))); (case side6 => exact (Kd.V_reads' HO_288002.out).2.1); rintro e w53 ⟨rfl, hb⟩; refine ⟨_, rfl, ?_⟩; have n0_ := Aside0.mk (Kd.V_below (by (with_reducible repeat (first | apply Kd.V_alloc | apply Kd.V_drewN | apply Kd.V_drew)); exact HO_288001.out) hb); have n1_ := Aside0.mk (Kd.V_below (by (with_reducible repeat (first | apply Kd.V_alloc | apply Kd.V_drewN | apply Kd.V_drew)); exact HO_288002.out) hb); have n2_ := Aside0.mk (blk_below (g := gb286) (o := .cells #[.int .i64 a0_0, .int .i64 a0_1, .int .i64 a0_2, .int .i64 a0_3, .int .i64 a0_4, .slice A0_5 l0_5.length c0_5] 27 (0, 0)) (by (with_reducible repeat (first | refine blk_drewN ?_ _ | refine blk_drew ?_ | refine blk_alloc ?_ _)); exact BK286.out) hb); have n3_ := Aside0.mk (blk_below (g := gb287) (o := .cells #[.int .u64 a1_0, .slice A1_1 l1_1.length c1_1, .slice A1_2 l1_2.length c1_2] 46 (0, 0)) (by (with_reducible repeat (first | refine blk_drewN ?_ _ | refine blk_drew ?_ | refine blk_alloc ?_ _)); exact BK287.out) hb); have n4_ := Aside0.mk (below_step (by repeat (first | (with_reducible first | exact HB.out | apply below_alloc | apply pw_below_drewN | apply below_drew1 | refine below_set ?_ GE286.out | refine below_set ?_ GE287.out) | exact HB.out)) hb); clear HO_288001; clear HO_288002; clear BK286; clear BK287; clear HB; have HO_288001 := n0_; have HO_288002 := n1_; have BK286 := n2_; have BK287 := n3_; have HB := n4_; clear n0_ n1_ n2_ n3_ n4_; (try clear hb); (try clear hb2); (try clear hk); (try clear hi)))
          go_ret
          exact ⟨by first | rfl | (simp [errW_none, errW_some] <;> rfl) | (simp [*, errW_none, errW_some] <;> rfl), by repeat (first | (with_reducible first | exact HB.out | apply below_alloc | apply pw_below_drewN | apply below_drew1 | refine below_set ?_ GE286.out | refine below_set ?_ GE287.out) | exact HB.out)⟩

end Go.Proofs.Ytfcghajnnllmhaa.QP

namespace Go.Proofs.Ytfcghajnnllmhaa
open Go.RowKit YtfcghajnnllmhaaW.PrintWords

theorem alive5_f : QP.passepartoutlaw05_alive.f = some true := rfl
theorem vsizes_ev (f : Fm) (x : Vt) (hf : wfF f = true) (hx : wfV x = true) : Ev (fun k => QP.passepartoutlaw05_ValueSizes.f k f.a.k f.a.s f.a.lo f.a.hi f.a.st (f.l.map ofF) x.a.n (bI x.a.b) (x.l.map ofV)) true := by
  simp only [QP.passepartoutlaw05_ValueSizes.f]
  refine Ev.cb alive5_f (Ev.ip rfl ?_)
  have hg := Great_ev f [x] hf (by simp) (fun y hy => by rw [List.mem_singleton] at hy; rw [hy]; exact hx)
  have e : ([x].map ofV) = [⟨x.a.n, bI x.a.b, x.l.map ofV⟩] := by
    cases x
    simp only [List.map_cons, List.map_nil, ofV_mk, RT.a, RT.l]
  rw [e] at hg
  refine Ev.bind hg ?_
  apply Ev.step
  · intro k
    simp only [QP.passepartoutlaw05_ValueSizes.j0]
    rfl
  by_cases hbig : (decide (500 < cntR 500 f) || [x].any bigV) = true
  · rw [if_pos hbig]
    exact Ev.ip (by simp) (Ev.cb alive5_f (Ev.now _))
  rw [if_neg hbig]
  refine Ev.in_ (by simp) ?_
  refine Ev.bind (Size_ev f x hf hx) (Ev.bind (Fits_ev f x hf hx) ?_)
  have hc : cntR 500 f ≤ 500 := by
    simp only [Bool.or_eq_true, decide_eq_true_eq] at hbig
    omega
  have hcv : cntV 2000 x ≤ 2000 := by
    simp [bigV] at hbig
    omega
  by_cases hz : (sizeR f x).2 = 0
  · refine Ev.ip hz ?_
    obtain ⟨_, hck, hfit, hse⟩ := sizeR_ok hz
    have hs := fit_bd x f 500 2000 (by omega) hc (by omega) hcv hck hx hfit
    rw [hse]
    refine Ev.bind (least_ev f hf) (Ev.ip hs.1 (Ev.bind (most_ev f hf) (Ev.is ?_)))
    rw [decide_eq_true hs.2]
  · refine Ev.in_ hz (Ev.is ?_)
    rw [sizeR_no hz]
    rfl

theorem vsizes_walk (w : World) (v : Value) (f : Fm) (hv : FmR w (· < w.heap.size) v f) (u : Value) (x : Vt) (hu : VtR w (· < w.heap.size) u x) : Calls Try.prog 8 #[v, u] w fun e w' => e = .returned (.bool true) ∧ Below w.heap.size w w' := by
  obtain ⟨hw1, hw2⟩ : wfF f = true ∧ wfV x = true := by
    obtain ⟨_, _, h1⟩ := hv.tr
    obtain ⟨_, _, _, h2⟩ := hu.tr
    exact ⟨tr_wfF f _ h1, tr_wfV x _ h2⟩
  obtain ⟨K, hK⟩ := (vsizes_ev f x hw1 hw2).rounds
  obtain ⟨⟨k, s, lo, hi, st⟩, P⟩ := f
  obtain ⟨⟨n, b⟩, l⟩ := x
  obtain ⟨A, c, rfl, _, _, _, _, _, _, _, h1⟩ := hv.parts
  obtain ⟨A1, c1, A2, c2, rfl, _, _, hbl, hb, _, _, h2⟩ := hu.parts
  obtain ⟨_, g1, g2⟩ := h1.c
  obtain ⟨_, g3, g4⟩ := br_c hb hbl
  obtain ⟨_, g5, g6⟩ := h2.c
  have := QP.passepartoutlaw05_ValueSizes.calls K k s lo hi st A c (P.map ofF) n (fun k => k < w.heap.size) A1 c1 (bI b) (fun k => k < w.heap.size) A2 c2 (l.map ofV) _ w g2 g1 (Kd.V_mk g3 (Kd.C_F (Kd.heap_int .u8) g4)) (Kd.V_mk g5 (Kd.C_F QP.k46_heap g6)) hK
  simp only [List.length_map, bI_len] at this
  exact this
end Go.Proofs.Ytfcghajnnllmhaa

namespace Go.Proofs.Ytfcghajnnllmhaa
open Go.ChangeShapes Go.WideShapes Go.ChangeAt Go.RowKit Go.Deep

section
variable {H : Type} {enc : TypeId × Value → H} {P : Program} {w : World} {spare : Nat → Bool} {held : Bool}

theorem cells_ir {t e : TypeId} {k : IntKind} {v : Value} {fuel : Nat} {x : DataW H × List MemPlace} (ht : P.underlying t = some (.slice e)) (he : P.underlying e = some (.int k)) (hC : P.cellsOf e = 1)
    (hf : DataW.trod enc P w 0 spare held fuel t [v] = some x) :
    ∃ l : List Int, IR k w (· < w.heap.size) v l ∧ (∀ n ∈ l, (Lit.int k n).wf = true) ∧ lenD x.1 = l.length ∧ l.length ≤ maxLen := by
  rcases open_ints ht he hC hf with ⟨hcs, hx⟩ | ⟨x, l, c, zs, hcs, _, hl, hm, hz, hx, hcell, hwz⟩
  · simp only [List.cons.injEq, and_true] at hcs
    subst hcs hx
    exact ⟨[], ⟨none, 0, rfl, Nat.le_refl _, Rd.none_⟩, fun n hn => by simp at hn, rfl, Nat.zero_le _⟩
  · simp only [List.cons.injEq, and_true] at hcs
    subst hcs hx
    have hlz : l ≤ zs.length := by rw [hz]; split <;> omega
    have hlt : (zs.take l).length = l := by simp; omega
    refine ⟨zs.take l, ⟨some x, c, ?_, ?_, ?_, fun hn => ?_⟩, fun n hn => hwz n (List.mem_of_mem_take hn), ?_, by rw [hlt]; omega⟩
    · rw [hlt]
    · rw [hlt]; exact hl
    · simp [ic]
    · have h0 := hcell 0 (by rw [hlt] at hn; omega)
      have hsp : x.spot = none := by simpa [Addr.add] using World.cell?_spot h0
      have hb := cell_lt h0
      rw [block_add] at hb
      refine ⟨x, rfl, hsp, hb, fun j u hu => ?_⟩
      simp only [ic, List.getElem?_map, List.getElem?_take] at hu
      split at hu
      · rename_i hj
        have hj' : j < zs.length := by omega
        rw [List.getElem?_eq_getElem hj'] at hu
        simp at hu
        subst hu
        have h1 := hcell j hj'
        rw [h1]
        simp [List.getElem?_eq_getElem hj']
      · simp at hu
    · simp [lenD, lits]

theorem cells_br {t e : TypeId} {v : Value} {fuel : Nat} {x : DataW H × List MemPlace} (ht : P.underlying t = some (.slice e)) (he : P.underlying e = some (.int .u8)) (hC : P.cellsOf e = 1)
    (hf : DataW.trod enc P w 0 spare held fuel t [v] = some x) :
    ∃ l : List UInt8, BR w (· < w.heap.size) v l ∧ lenD x.1 = l.length ∧ l.length ≤ maxLen := by
  obtain ⟨l, ⟨A, c, rfl, hc, hr⟩, hw, hd, hm⟩ := cells_ir ht he hC hf
  obtain ⟨m, hme, hl⟩ := bytes_of hw
  refine ⟨m, ⟨A, c, by rw [hl], by omega, ?_⟩, by omega, by omega⟩
  rw [← hme, hl]
  exact hr
end
end Go.Proofs.Ytfcghajnnllmhaa

namespace Go.Proofs.Ytfcghajnnllmhaa
open Go.Joins Go.ChangeShapes Go.WideShapes Go.ChangeAt Go.RowKit Go.Deep

theorem value_type : TreeType Try.prog 46 44 (match Try.prog.underlying 46 with | some (.struct fs) => fs | _ => #[]) 2 where
  ht := by rw [Try.underlying46]
  hone := by rw [Try.underlying46]; kernel_rfl
  hC := by kernel_rfl
  hn := by rw [Try.underlying46]; rfl
  hlast := by rw [Try.underlying46]; rfl
  hts := Try.underlying44
  hB := by rw [show Try.prog.bytesOf 46 = 56 from by kernel_rfl]; omega
section
variable {H : Type} {enc : TypeId × Value → H} {w : World} {sp : Nat → Bool} {held : Bool} {r : Reach} {b0 : Nat}
theorem weights_lenD {P : Program} {t e : TypeId} {d : DataW H} (ht : P.underlying t = some (.slice e)) (h : (d.weights P t).all (· ≤ reachBytes) = true) : lenD d * P.bytesOf e ≤ 140737488351232 := by
  cases d with
  | slice es rest => exact weights_len ht h
  | _ => simp [lenD]
theorem value_head : HeadOpen enc Try.prog w sp held (match Try.prog.underlying 46 with | some (.struct fs) => fs | _ => #[]) 2 VHd := by
  intro vs ds hl hf
  obtain ⟨f0, v0, d0, ps0, fuel0, hf0, hv0, _, ht0, _⟩ := hf 0 (by omega)
  obtain ⟨f1, v1, d1, ps1, fuel1, hf1, hv1, _, ht1, hw1⟩ := hf 1 (by omega)
  have e0 : f0.type = 42 := by
    rw [Try.underlying46] at hf0
    simp at hf0
    rw [← hf0]
  have e1 : f1.type = 43 := by
    rw [Try.underlying46] at hf1
    simp at hf1
    rw [← hf1]
  rw [e0] at ht0
  rw [e1] at ht1 hw1
  obtain ⟨k0, x0, _, hk0⟩ := DataW.trod_int Try.underlying42 ht0
  simp only [List.cons.injEq, and_true] at x0
  obtain ⟨b, hb, hb2, _⟩ := cells_br Try.underlying43 Try.underlying5 (by kernel_rfl) ht1
  have hlen := weights_lenD Try.underlying43 hw1
  rw [show Try.prog.bytesOf 5 = 1 from by kernel_rfl, Nat.mul_one] at hlen
  obtain ⟨q0, q1⟩ := bounds_u64 hk0
  refine ⟨⟨k0, b⟩, v1, ?_, ⟨q0, by show k0 < _; omega⟩, hb, by show b.length ≤ _; simp only at hb2; omega⟩
  rcases vs with _ | ⟨y0, _ | ⟨y1, _ | ⟨y2, vs⟩⟩⟩ <;> simp_all
theorem open_value {v : Value} {d : DataW H} {ps : List MemPlace} {ts : List TypeId} {ds : List (DataW H)} (hv : Value.okWide Try.prog w r b0 46 v) (h : DataW.Trod enc Try.prog w 0 sp held 46 v d ps)
    (_hsz : (DataW.weightsEach Try.prog ts ds).all (· ≤ reachBytes) = true) {j : Nat} (_ht : ts[j]? = some 46) (_hd : ds[j]? = some d) : ∃ x : Vt, VtR w (· < w.heap.size) v x := by
  obtain ⟨cs, rfl⟩ := okWide_struct_ Try.underlying46 hv
  obtain ⟨fuel, hf⟩ := h
  obtain ⟨x, hx⟩ := (open_tree_ value_type value_head fuel).1 _ _ _ hf (sized_at _hsz _ht _hd)
  have h1 := (VtR.of_tr hx).1
  rw [show (Value.agg cs).cells.toList.toArray = cs from by simp [Value.cells]] at h1
  exact ⟨x, h1⟩
end
end Go.Proofs.Ytfcghajnnllmhaa

namespace Go.Proofs.Ytfcghajnnllmhaa.valueSizes
open Go.ChangeShapes Go.WideShapes Go.ChangeAt Go.RowKit
set_option linter.unusedVariables false

theorem own : ownKnob Try.prog.godebug = none := by kernel_rfl
theorem laidOut : laidOutB Try.prog = true := by kernel_rfl

set_option maxRecDepth 100000 in
theorem lifted (os : Os) (started : os.Started) (H : Type) (enc : TypeId × Value → H) :
    ReturnsInHanded {} Try.checked os 8 .any (Rows.valueSizesSpec.pre6 enc Try.prog Try.f8 Rows.valueSizesRow.domain false) (Rows.valueSizesSpec.post enc Try.prog Try.f8 false true false false) := by
  refine returnsInHanded_of_change_sized (C := Try.checked) own started (by kernel_rfl) Try.func8
    (ChangeSpec.witness6 (enc := enc) (C := Try.checked) false ⟨#[], #[.agg #[.int .i64 0, .int .i64 0, .int .i64 0, .int .i64 0, .int .i64 0, .slice none 0 0], .agg #[.int .u64 0, .slice none 0 0, .slice none 0 0]], []⟩ 8 (by kernel_rfl) (by kernel_rfl) (by kernel_rfl) (by kernel_rfl)) ?_
  intro W base args ds gs before hval0 hW hcnd hsz0 _
  have hval : ∀ (j : Nat) t v, Try.f8.params[j]? = some t → args[j]? = some v → Value.okWide Try.prog W .any base t v := hval0
  have hW' := hW
  obtain ⟨p, q, hA0, hV, rfl, hfz, hnd⟩ := hW
  have hA : DataW.TrodAll enc Try.prog W 0 (fun _ => true) true Try.f8.params.toList args.toList ds p := hA0
  obtain ⟨rfl, rfl⟩ := trodVars_none hV
  have hsz : (DataW.weightsEach Try.prog (Try.f8.params.toList ++ []) (ds ++ [])).all (· ≤ reachBytes) = true := hsz0
  rw [List.append_nil, List.append_nil] at hsz
  rw [Try.params8] at hA hval hsz
  obtain ⟨v0, vs0, d0, ds0, p0, q0, hargs, rfl, rfl, h0, r0⟩ := trodAll_cons hA
  obtain ⟨v1, vs1, d1, ds1, p1, q1, rfl, rfl, rfl, h1, r1⟩ := trodAll_cons r0
  obtain ⟨rfl, rfl, rfl⟩ := trodAll_nil r1
  obtain rfl : args = #[v0, v1] := by cases args; simp_all
  have k0 := h0
  have lt0 : ∀ x ∈ p0, x.block < W.heap.size := by obtain ⟨m, hm⟩ := k0; exact DataW.trod_lt m _ _ _ hm
  have k1 := h1
  have lt1 : ∀ x ∈ p1, x.block < W.heap.size := by obtain ⟨m, hm⟩ := k1; exact DataW.trod_lt m _ _ _ hm
  obtain ⟨l0, b0⟩ := open_form (hval 0 27 v0 rfl rfl) h0 (_hsz := hsz) (j := 0) rfl rfl
  obtain ⟨l1, b1⟩ := open_value (hval 1 46 v1 rfl rfl) h1 (_hsz := hsz) (j := 1) rfl rfl
  clear hA0 hval0 hsz0
  refine (vsizes_walk W v0 l0 b0 v1 l1 b1).mono fun e W' ⟨he, bel⟩ => ?_
  subst he
  exact ⟨_, rfl, _, _, _, [], _, [], hW', trodAll_mk1 (shut_bool Try.underlying4 _), (trodAll_cons_mk (Below.trod laidOut (by kernel_rfl) (of_decide_eq_true (by kernel_rfl)) k0 bel lt0) (trodAll_cons_mk (Below.trod laidOut (by kernel_rfl) (of_decide_eq_true (by kernel_rfl)) k1 bel lt1) trodAll_mk0)), rfl, bel.frame _, fun h => by cases h⟩

theorem over : Rows.valueSizesRow.holds Try.pinned (OpenSpec.ofChange Rows.valueSizesSpec) :=
  OpenClaim.holds_of_wide 8 Try.f8 rfl rfl rfl rfl rfl rfl rfl ⟨rfl, rfl, rfl, rfl, rfl⟩ rfl rfl rfl rfl rfl (by kernel_rfl) Try.func8 (by kernel_rfl)
    (of_decide_eq_true (by kernel_rfl)) (by unfold Func.isWrapper; first | (rw [if_pos (by decide +kernel)]; kernel_rfl) | (rw [if_neg (by decide +kernel)]; exact ⟨rfl, rfl⟩))
    (fun os started H enc _ => lifted os started H enc)

theorem proved : Rows.ValueSizesSaid := over
#print axioms proved
end Go.Proofs.Ytfcghajnnllmhaa.valueSizes
