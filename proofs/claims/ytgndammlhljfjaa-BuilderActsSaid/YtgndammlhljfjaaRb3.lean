/-
  The document's builder: Bytes.
-/
import Derived.Test.YtgndammlhljfjaaRb2
import Derived.Deep.RegionHeld3
import Derived.Deep.RegionLaw
namespace Go.Proofs.Ytgndammlhljfjaa
open Go.RowKit

theorem Own.form1 {w : World} {ok : Nat → Prop} {e size n : Nat} {A : Option Addr} {c : Nat} {xs : List Value} (h : Own w ok e size (.slice A n c) n xs) (hn : 0 < n) : ∃ g, A = some ⟨g, 0, none⟩ ∧ ok g ∧ g < w.heap.size := by
  obtain ⟨g, cap, hv, _, hlt⟩ := h.1.form hn
  have hA : A = some ⟨g, 0, none⟩ := by injection hv
  exact ⟨g, hA, h.2 g (by rw [hA]; rfl), hlt⟩
theorem Own.set1 {w : World} {ok : Nat → Prop} {e g n c : Nat} {xs : List Value} (h : Own w ok e 1 (.slice (some ⟨g, 0, none⟩) n c) n xs) (k : Nat) (u : Value) : Own (w.setCell ⟨g, k, none⟩ u) ok e 1 (.slice (some ⟨g, 0, none⟩) n c) n (xs.set k u) := by
  obtain ⟨⟨h1, h2⟩, h3⟩ := h
  refine ⟨⟨by rw [List.length_set]; exact h1, ?_⟩, h3⟩
  rcases h2 with ⟨h2, _⟩ | ⟨g', cap, cur, h2, hb, hh, hn, hc, hs, ht⟩
  · cases h2
  · injection h2 with hA _ hc'
    injection hA with hA
    injection hA with hA
    subst hA hc'
    refine .inr ⟨g, c, cur.setIfInBounds k u, rfl, hb, ?_, hn, hc, by simpa using hs, ?_⟩
    · simp [World.setCell, Array.getElem?_modify, hh]
    · rw [Array.toList_setIfInBounds, List.take_set, ht]

/-- append of bytes to bytes of the call's own, in a region that draws. -/
theorem step_app_bytes {w : World} {ops : Array Oper} {o : Oper} {a : Act} {K : Act → World → Prop} {Q : Exit → Act → World → Prop} {E : Prop} (hgd : o.guard = none) (s x : Operand)
    (ho : o.op = .call { callee := .builtin .append, args := #[s, x], argTypes := #[22, 22] })
    (B : Nat) (A : Option Addr) (n c : Nat) (l : List UInt8) (hs : a.eval s = .slice A n c) (hown : Own w (B ≤ ·) 5 1 (.slice A n c) n (bc l))
    (ok : Nat → Prop) (Ax : Option Addr) (m cx : Nat) (lx : List UInt8) (hx : a.eval x = .slice Ax m cx) (hm : lx.length = m) (hr : BR w ok (.slice Ax m cx) lx)
    (k : Nat) (hk : n + m = k) (hk2 : k ≤ 140737488355328) (hB : B ≤ w.heap.size)
    (h : ∀ A' c' w', Own w' (B ≤ ·) 5 1 (.slice A' k c') k (bc (l ++ lx)) → Kp (B ≤ ·) w w' → K (a.put o.dst (.slice A' k c')) w') :
    if Region.wanted o (yielded ops a.tmps) = true then Oper.wp Try.prog o a w K Q else E := by
  obtain ⟨i0, hi0, hz0, hz1, hz2⟩ := info_parts u8_info3
  obtain ⟨Ax', cx', e, hcx, hrd⟩ := hr
  injection e with e1 e2 e3
  subst e1 e3
  rw [hm] at hrd
  refine step_append_any w hgd s x _ ho 0 5 i0 _ 1 1 Try.underlying22 hi0 hz0 hz1 hz2 rfl (by omega) (.slice A n c) n (bc l) hs hown.1 ok Ax m cx (bc lx) hx hrd (bc_one _) (by simp only [maxLen]; omega) (by omega) (Nat.zero_le _) ?_
  intro v' w' h1 h2 h3
  rw [hk, ← bc_append] at h1
  have hk' : Kp (B ≤ ·) w w' := (Kp.refl _ _).grown h2 (fun j hj => .inl (hown.2 j hj))
  have ho' : Own w' (B ≤ ·) 5 1 v' k (bc (l ++ lx)) := ⟨h1, fun j hj => by
    rcases h3 with e | e
    · exact hown.2 j (e ▸ hj)
    · rw [e] at hj
      injection hj with hj
      omega⟩
  obtain ⟨A', c', e, _⟩ := ho'.shape
  subst e
  exact h A' c' w' ho' hk'

def RBStep (ok : Nat → Prop) (h most : Nat) (parts : List (List UInt8)) (sizes : List Nat) (r : Int) (w : World) (e : Ending) (w' : World) : Prop :=
  e = .returned (.int .i64 r) ∧ RB w' (fun i => ok i ∨ w.heap.size ≤ i) h most parts sizes ∧ Kp ok w w'

/-- The last part turned. -/
theorem rb_last {w w2 : World} {ok : Nat → Prop} {h most g cp : Nat} {qs : List (List UInt8)} {L L' : List UInt8} {sizes : List Nat} {vs v' : Value} {pvs : List Value} (h0 : ok h)
    (h1 : Blk w h 72 #[.int .i64 most, .slice (some ⟨g, 0, none⟩) (qs.length + 1) cp, vs]) (h2 : pvs.length = (qs ++ [L]).length) (h3 : Own w ok 22 1 (.slice (some ⟨g, 0, none⟩) (qs.length + 1) cp) (qs.length + 1) pvs) (h4 : Own w ok 3 1 vs sizes.length (nc sizes))
    (h5 : ∀ i (hi : i < (qs ++ [L]).length) (hi' : i < pvs.length), BR w (RBo ok h (.slice (some ⟨g, 0, none⟩) (qs.length + 1) cp) vs) pvs[i] (qs ++ [L])[i])
    (hk : Kp (w.heap.size ≤ ·) w w2) (hv : BR w2 (w.heap.size ≤ ·) v' L') :
    RBStep ok h most (qs ++ [L']) sizes 0 w (.returned (.int .i64 0)) (w2.setCell ⟨g, qs.length, none⟩ v') := by
  have hg : ok g ∧ g < w.heap.size := by
    obtain ⟨g', e, a, b⟩ := h3.form1 (by omega)
    simp only [Option.some.injEq, Addr.mk.injEq, and_true] at e
    subst e
    exact ⟨a, b⟩
  have hgh : g ≠ h := fun e => by have := h3.block h1 (by decide); simp [Value.ownBlock, e] at this
  have hgs : vs.ownBlock ≠ some g := h4.apart h3 (by decide) rfl
  have hh := h1.lt
  have hs : Kp (fun i => i = g) w2 (w2.setCell ⟨g, qs.length, none⟩ v') := (Kp.refl (fun i => i = g) w2).setCell (p := ⟨g, qs.length, none⟩) (.inl rfl) v'
  have hkF : Kp (fun _ => False) w w2 := hk.mono (fun i hi h => by omega)
  have hkO : Kp ok w w2 := hk.mono (fun i hi h => by omega)
  refine ⟨rfl, ⟨.inl h0, .slice (some ⟨g, 0, none⟩) (qs.length + 1) cp, vs, pvs.set qs.length v', (h1.kp hkF (fun h => h)).far (fun e => hgh e.symm) v', ?_, ?_, ?_, ?_⟩, hkO.then_ hs (fun i hi => .inl (hi ▸ hg.1))⟩
  · simp at h2 ⊢
    exact h2
  · rw [show (qs ++ [L']).length = qs.length + 1 by simp]
    exact ((h3.kp hkF (fun _ _ h => h)).set1 qs.length v').mono (fun i _ h => .inl h)
  · have h4' : Own w (fun i => vs.ownBlock = some i) 3 1 vs sizes.length (nc sizes) := ⟨h4.1, fun k hk => hk⟩
    have h6 := (h4'.kp hkF (fun _ _ h => h)).kp hs (fun i hi e => hgs (e ▸ hi))
    exact ⟨h6.1, fun k hk => .inl (h4.2 k hk)⟩
  · intro i hi hi'
    simp only [List.length_append, List.length_singleton] at hi h2
    by_cases hlt : i < qs.length
    · have hq := h5 i (by simp; omega) (by omega)
      rw [List.getElem_append_left hlt] at hq ⊢
      rw [List.getElem_set_ne (by omega)]
      have hq2 := (hq.kp hkF (fun _ _ h => h)).kp hs (fun j hj e => hj.2.2.1 (by rw [e]; rfl))
      exact hq2.mono (fun j hj => ⟨.inl hj.1, hj.2⟩)
    · obtain rfl : i = qs.length := by omega
      rw [List.getElem_set_self, List.getElem_append_right (Nat.le_refl _)]
      simp only [Nat.sub_self, List.getElem_cons_zero]
      refine (hv.kp hs (fun j hj e => by omega)).mono (fun j hj => ⟨.inr hj, by omega, ?_, fun e => by have := h4.lt j e; omega⟩)
      intro e
      have : g = j := by simpa [Value.ownBlock] using e
      omega

set_option maxRecDepth 100000 in
set_option maxHeartbeats 3200000 in
theorem rbb_ok (ok okx : Nat → Prop) (h most : Nat) (qs : List (List UInt8)) (L x : List UInt8) (sizes : List Nat) (vx : Value) (w : World) (hb : RB w ok h most (qs ++ [L]) sizes) (hx : BR w okx vx x) (hm : most ≤ 1073741824) (hl : sumP (qs ++ [L]) + sizes.sum + x.length ≤ most) (hpl : qs.length ≤ 1073741824) (hsl : sizes.length ≤ 1073741824) :
    Calls Try.prog 46 #[.pointer (some ⟨h, 0, none⟩), vx] w (RBStep ok h most (qs ++ [L ++ x]) sizes 0 w) := by
  have hlen := Lib.hid (rblen ok h most (qs ++ [L]) sizes w hb (by omega) (by simp; omega) (by omega))
  obtain ⟨h0, vp, vs, pvs, h1, h2, h3, h4, h5⟩ := hb
  have hql : (qs ++ [L]).length = qs.length + 1 := by simp
  rw [hql] at h3
  obtain ⟨Ap, cp, rfl, hcp⟩ := h3.shape
  obtain ⟨As, cs, rfl, hcs⟩ := h4.shape
  obtain ⟨g, rfl, hg, hgl⟩ := h3.form1 (by omega)
  obtain ⟨pv, hpv⟩ : ∃ pv, pvs[qs.length]? = some pv := ⟨_, List.getElem?_eq_getElem (by omega)⟩
  have hpvs := h5 qs.length (by simp) (by omega)
  have hpv' := hpv
  rw [List.getElem?_eq_getElem (by omega), Option.some.injEq] at hpv'
  rw [hpv', List.getElem_append_right (Nat.le_refl _)] at hpvs
  simp only [Nat.sub_self, List.getElem_cons_zero] at hpvs
  obtain ⟨Av, cv, rfl, hcv, hrv⟩ := id hpvs
  obtain ⟨Ax, cx, rfl, hcx, hrx⟩ := id hx
  have hc0 : w.cell? ⟨h, 0, none⟩ = some (.int .i64 most) := h1.cell 0
  have hc1 : w.cell? ⟨h, 1, none⟩ = some (.slice (some ⟨g, 0, none⟩) (qs.length + 1) cp) := h1.cell 1
  have hcg : w.cell? ⟨g, qs.length, none⟩ = some (.slice Av L.length cv) := by
    obtain ⟨ad, e, _, _, hc⟩ := h3.rd.2 (by omega)
    simp only [Option.some.injEq] at e
    subst e
    have := hc qs.length _ hpv
    have e : (⟨g, 0, none⟩ : Addr).add qs.length = ⟨g, qs.length, none⟩ := by
      unfold Addr.add
      split
      · next h0 => rw [h0]
      · simp
    rwa [e] at this
  have hfg : ∀ (W : World), Kp (w.heap.size ≤ ·) w W → W.frozen? ⟨g, qs.length, none⟩ = false := by
    intro W hk
    rcases h3.1.2 with ⟨h2, _⟩ | ⟨g', cap, cur, h2, _, hh, _⟩
    · cases h2
    · injection h2 with hA
      injection hA with hA
      injection hA with hA
      subst hA
      have := (hk.block g hgl (by omega)).trans hh
      simp [World.frozen?, this]
  have HDONE := Lib.hid (fun (w2 : World) (v' : Value) (hk : Kp (w.heap.size ≤ ·) w w2) (hv : BR w2 (w.heap.size ≤ ·) v' (L ++ x)) => rb_last (L := L) h0 h1 h2 h3 h4 h5 hk hv)
  have hnew : Own ((w.alloc (.cells #[] 5)).drew) (w.heap.size ≤ ·) 5 1 (.slice (some ⟨w.heap.size, 0, none⟩) 0 0) 0 (bc []) := (Own.lit w [] #[] 0 w.heap.size rfl rfl (Nat.le_refl _) (by simp [maxLen]))
  have hk1 : Kp (fun _ => False) w ((w.alloc (.cells #[] 5)).drew) := ((Kp.refl _ _).alloc _).drew
  have HN := Lib.hid hnew
  have HPV := Lib.hid (hpvs.kp hk1 (fun _ _ h => h))
  have HX := Lib.hid (fun W (hk : Kp (fun _ => False) w W) => hx.kp hk (fun _ _ h => h))
  have hT : ((sumP (qs ++ [L]) + sizes.sum : Nat) : Int) + (x.length : Int) ≤ (most : Int) := by omega
  have hT2 : sumP (qs ++ [L]) + sizes.sum ≤ most := by omega
  have hLx : L.length + x.length ≤ most := by simp [sumP] at hl; omega
  generalize sumP (qs ++ [L]) + sizes.sum = T at hT hlen hT2
  have hidx : ((qs.length + 1 : Nat) : Int) - 1 = (qs.length : Int) := by omega
  have hi0 : (0 : Int) ≤ (qs.length : Int) := by omega
  have hi1 : (qs.length : Int) < (qs.length : Int) + 1 := by omega
  have hhl := h1.lt
  have hgh : h ≠ g := fun e => by have := h3.block h1 (by decide); simp [Value.ownBlock, e] at this
  have HK1 := Lib.hid hk1
  have KS := Lib.hid (fun W (hk : Kp (fun _ => False) w W) => And.intro (hk.cell hc1 (fun h => h)) (hk.cell hcg (fun h => h)))
  have HFG := Lib.hid hfg
  have hle : decide ((most : Int) - (T : Int) < (x.length : Int)) = false := by simp; omega
  clear h1 h2 h3 h4 h5 hpv hpv' hnew hk1 hfg hpvs hx hrv hrx hidx hcs hl hql hT
  go_enter Try.func46, Try.ntmps46
  go_wp2_with (go_at_call 37; ((with_reducible refine hlen.out.mono ?_); rintro e w' ⟨rfl, rfl⟩))
  go_region_law
    (first
      | ((refine step_app_bytes rfl (.tmp 29) (.tmp 36) rfl w.heap.size (some ⟨w.heap.size, 0, none⟩) 0 0 [] (by simp [Act.eval]) HN.out _ Av L.length cv L (by simp [Act.eval]) rfl HPV.out L.length (by omega) (by omega) (by simp) ?_; intro A1 c1 W1 o1 q1; have K1 := Lib.hid (HK1.out.then_ q1 (fun i hi => .inr hi)); obtain ⟨hs1, hs2⟩ := KS.out W1 K1.out; have O1 := Lib.hid o1; clear o1 q1))
      | ((refine step_app_bytes rfl (.tmp 37) (.tmp 38) rfl w.heap.size A1 L.length c1 ([] ++ L) (by simp [Act.eval]) O1.out _ Ax x.length cx x (by simp [Act.eval]) rfl (HX.out W1 K1.out) (L.length + x.length) rfl (by omega) K1.out.size ?_; intro A2 c2 W2 o2 q2; have K2 := Lib.hid (K1.out.then_ q2 (fun i hi => .inr hi)); obtain ⟨hs3, hs4⟩ := KS.out W2 K2.out; have hs5 := fun v => ((Kp.refl (fun i => i = g) W2).setCell (p := ⟨g, qs.length, none⟩) (.inl rfl) v).cell hs3 hgh; have hf2 := HFG.out W2 (K2.out.mono (fun _ _ h => h.elim)); have O2 := Lib.hid o2; clear o2 q2)))
  all_goals
    go_wp2_with fail
    go_ret
    exact HDONE.out _ _ (K2.out.mono (fun _ _ h => h.elim)) (O2.out.br (by simp))
end Go.Proofs.Ytgndammlhljfjaa
