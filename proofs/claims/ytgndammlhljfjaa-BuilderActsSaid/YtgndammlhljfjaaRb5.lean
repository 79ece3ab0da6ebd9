/-
  The document's builder: Close, Number.
-/
import Derived.Test.YtgndammlhljfjaaRb4
namespace Go.Proofs.Ytgndammlhljfjaa
open Go.RowKit

theorem bne_of_lt {a b : Nat} (h : a < b) : ((a : Int) != (b : Int)) = true := by simp; omega

theorem ob_same (A : Option Addr) (n k c : Nat) : (Value.slice A k c).ownBlock = (Value.slice A n c).ownBlock := by
  cases A <;> rfl

/-- A size less. -/
theorem rb_popS {w : World} {ok : Nat → Prop} {h most n c k : Nat} {A : Option Addr} {parts : List (List UInt8)} {sizes : List Nat} {vp : Value} {pvs : List Value} (h0 : ok h)
    (h1 : Blk w h 72 #[.int .i64 most, vp, .slice A n c]) (h2 : pvs.length = parts.length) (h3 : Own w ok 22 1 vp parts.length pvs) (h4 : Own w ok 3 1 (.slice A n c) n (nc sizes))
    (h5 : ∀ i (hi : i < parts.length) (hi' : i < pvs.length), BR w (RBo ok h vp (.slice A n c)) pvs[i] parts[i]) (hk : k ≤ n) (hl : (sizes.take k).length = k) :
    RB (w.setCell ⟨h, 2, none⟩ (.slice A k c)) ok h most parts (sizes.take k) ∧ Kp ok w (w.setCell ⟨h, 2, none⟩ (.slice A k c)) := by
  have hs : Kp (fun i => i = h) w (w.setCell ⟨h, 2, none⟩ (.slice A k c)) := (Kp.refl (fun i => i = h) w).setCell (p := ⟨h, 2, none⟩) (.inl rfl) _
  have hhp := h3.block h1 (by decide)
  have hhs := h4.block h1 (by decide)
  refine ⟨⟨h0, vp, .slice A k c, pvs, h1.set_ 2 _, h2, ?_, ?_, fun i hi hi' => ?_⟩, hs.mono (fun i _ hi => hi ▸ h0)⟩
  · have h' : Own w (fun i => vp.ownBlock = some i) 22 1 vp parts.length pvs := ⟨h3.1, fun k hk => hk⟩
    have h6 := h'.kp hs (fun i hi e => hhp (e ▸ hi))
    exact ⟨h6.1, fun k hk => h3.2 k hk⟩
  · have h4' := h4.take hk
    rw [Nat.mul_one, show (nc sizes).take k = nc (sizes.take k) by simp [nc, ic_take]] at h4'
    have h' : Own w (fun i => (Value.slice A k c).ownBlock = some i) 3 1 (.slice A k c) k (nc (sizes.take k)) := ⟨h4'.1, fun k hk => hk⟩
    have h6 := h'.kp hs (fun i hi e => hhs (e ▸ (ob_same A n k c).symm.trans hi))
    rw [hl]
    exact ⟨h6.1, fun k hk => h4'.2 k hk⟩
  · exact ((h5 i hi hi').kp hs (fun j hj e => hj.2.1 e)).mono (fun j hj => by rw [RBo, ob_same A n k c]; exact hj)

/-- A part less. -/
theorem rb_popP {w : World} {ok : Nat → Prop} {h most n c k : Nat} {A : Option Addr} {parts : List (List UInt8)} {sizes : List Nat} {vs : Value} {pvs : List Value} (h0 : ok h)
    (h1 : Blk w h 72 #[.int .i64 most, .slice A n c, vs]) (h2 : pvs.length = parts.length) (h3 : Own w ok 22 1 (.slice A n c) n pvs) (h4 : Own w ok 3 1 vs sizes.length (nc sizes))
    (h5 : ∀ i (hi : i < parts.length) (hi' : i < pvs.length), BR w (RBo ok h (.slice A n c) vs) pvs[i] parts[i]) (hk : k ≤ n) (hl : (parts.take k).length = k) :
    RB (w.setCell ⟨h, 1, none⟩ (.slice A k c)) ok h most (parts.take k) sizes ∧ Kp ok w (w.setCell ⟨h, 1, none⟩ (.slice A k c)) := by
  have hs : Kp (fun i => i = h) w (w.setCell ⟨h, 1, none⟩ (.slice A k c)) := (Kp.refl (fun i => i = h) w).setCell (p := ⟨h, 1, none⟩) (.inl rfl) _
  have hhp := h3.block h1 (by decide)
  have hhs := h4.block h1 (by decide)
  refine ⟨⟨h0, .slice A k c, vs, pvs.take k, h1.set_ 1 _, by rw [List.length_take, h2, ← List.length_take], ?_, ?_, fun i hi hi' => ?_⟩, hs.mono (fun i _ hi => hi ▸ h0)⟩
  · have h4' := h3.take hk
    rw [Nat.mul_one] at h4'
    have h' : Own w (fun i => (Value.slice A k c).ownBlock = some i) 22 1 (.slice A k c) k (pvs.take k) := ⟨h4'.1, fun k hk => hk⟩
    have h6 := h'.kp hs (fun i hi e => hhp (e ▸ (ob_same A n k c).symm.trans hi))
    rw [hl]
    exact ⟨h6.1, fun k hk => h4'.2 k hk⟩
  · have h' : Own w (fun i => vs.ownBlock = some i) 3 1 vs sizes.length (nc sizes) := ⟨h4.1, fun k hk => hk⟩
    have h6 := h'.kp hs (fun i hi e => hhs (e ▸ hi))
    exact ⟨h6.1, fun k hk => h4.2 k hk⟩
  · rw [List.length_take] at hi hi'
    rw [List.getElem_take, List.getElem_take]
    exact ((h5 i (by omega) (by omega)).kp hs (fun j hj e => hj.2.1 e)).mono (fun j hj => by rw [RBo, ob_same A n k c]; exact hj)

theorem rbclose_none (ok : Nat → Prop) (h most : Nat) (parts : List (List UInt8)) (w : World) (hb : RB w ok h most parts []) :
    Calls Try.prog 48 #[.pointer (some ⟨h, 0, none⟩)] w fun e w' => e = .returned (.int .i64 17) ∧ w = w' := by
  obtain ⟨j0, vp, vs, pvs, j1, j2, j3, j4, j5⟩ := hb
  obtain ⟨As, cs, rfl, hcs⟩ := j4.shape
  have hc2 : w.cell? ⟨h, 2, none⟩ = some (.slice As 0 cs) := j1.cell 2
  go_enter Try.func48, Try.ntmps48
  go_wp2_with fail
  go_ret
  exact ⟨rfl, rfl⟩

theorem row_cell {w : World} {ok : Nat → Prop} {g n : Nat} {xs : List Value} (h : Rd w ok 1 (some ⟨g, 0, none⟩) n xs) {k : Nat} {u : Value} (hk : xs[k]? = some u) : w.cell? ⟨g, k, none⟩ = some u := by
  have hl : k < xs.length := (List.getElem?_eq_some_iff.1 hk).1
  obtain ⟨ad, e, _, _, hc⟩ := h.2 (by have := h.1; omega)
  simp only [Option.some.injEq] at e
  subst e
  have := hc k _ hk
  have e : (⟨g, 0, none⟩ : Addr).add k = ⟨g, k, none⟩ := by
    unfold Addr.add
    split
    · next h0 => rw [h0]
    · simp
  rwa [e] at this

theorem kp_of_same {w w' : World} (h : w = w') (S : Nat → Prop) : Kp S w w' := h ▸ Kp.refl _ _

/-- What Close reads of the state. -/
theorem rb_reads {w : World} {ok : Nat → Prop} {h most : Nat} {qs : List (List UInt8)} {P C : List UInt8} {ss : List Nat} {s : Nat} (hq : qs.length = ss.length) (hb : RB w ok h most (qs ++ [P, C]) (ss ++ [s])) :
    ∃ gp gs cp cs Ac cc, w.cell? ⟨h, 1, none⟩ = some (.slice (some ⟨gp, 0, none⟩) (ss.length + 2) cp) ∧ w.cell? ⟨h, 2, none⟩ = some (.slice (some ⟨gs, 0, none⟩) (ss.length + 1) cs) ∧ ss.length + 2 ≤ cp ∧ ss.length + 1 ≤ cs ∧
      w.cell? ⟨gp, ss.length + 1, none⟩ = some (.slice Ac C.length cc) ∧ w.cell? ⟨gs, ss.length, none⟩ = some (.int .i64 s) ∧ C.length ≤ cc ∧ BR w (fun j => ok j ∧ j ≠ h) (.slice Ac C.length cc) C ∧ w.frozen? ⟨h, 2, none⟩ = false ∧
      (RB (w.setCell ⟨h, 2, none⟩ (.slice (some ⟨gs, 0, none⟩) ss.length cs)) ok h most (qs ++ [P, C]) ss ∧ Kp ok w (w.setCell ⟨h, 2, none⟩ (.slice (some ⟨gs, 0, none⟩) ss.length cs))) := by
  obtain ⟨j0, vp, vs, pvs, j1, j2, j3, j4, j5⟩ := hb
  have hql : (qs ++ [P, C]).length = ss.length + 2 := by simp [hq]
  have hsl : (ss ++ [s]).length = ss.length + 1 := by simp
  rw [hql] at j2 j3
  rw [hsl] at j4
  obtain ⟨Ap, cp, rfl, hcp⟩ := j3.shape
  obtain ⟨As, cs, rfl, hcs⟩ := j4.shape
  obtain ⟨gp, rfl, _, _⟩ := j3.form1 (by omega)
  obtain ⟨gs, rfl, _, _⟩ := j4.form1 (by omega)
  have hbc := j5 (ss.length + 1) (by omega) (by omega)
  have hgc : pvs[ss.length + 1]? = some pvs[ss.length + 1] := List.getElem?_eq_getElem (by omega)
  have hC : (qs ++ [P, C])[ss.length + 1] = C := by
    rw [List.getElem_append_right (by omega)]
    simp [hq]
  rw [hC] at hbc
  obtain ⟨Ac, cc, hvc, hcc, _⟩ := id hbc
  rw [hvc] at hgc hbc
  have hsn : (nc (ss ++ [s]))[ss.length]? = some (.int .i64 s) := by simp [nc, ic]
  have hpop := rb_popS (k := ss.length) j0 j1 (by rw [j2, hql]) (by rw [hql]; exact j3) j4 j5 (by omega) (by simp)
  rw [List.take_append_of_le_length (Nat.le_refl _), List.take_of_length_le (Nat.le_refl _)] at hpop
  exact ⟨gp, gs, cp, cs, Ac, cc, j1.cell 1, j1.cell 2, hcp, hcs, row_cell j3.rd hgc, row_cell j4.rd hsn, hcc, hbc.mono (fun j hj => ⟨hj.1, hj.2.1⟩), j1.frozen 2, hpop⟩
/-- .. and of its parts. -/
theorem rb_reads2 {w : World} {ok : Nat → Prop} {h most : Nat} {qs : List (List UInt8)} {P C : List UInt8} {ss : List Nat} (hb : RB w ok h most (qs ++ [P, C]) ss) :
    ∃ gp cp, w.cell? ⟨h, 1, none⟩ = some (.slice (some ⟨gp, 0, none⟩) (qs.length + 2) cp) ∧ qs.length + 2 ≤ cp ∧ w.frozen? ⟨h, 1, none⟩ = false ∧
      (RB (w.setCell ⟨h, 1, none⟩ (.slice (some ⟨gp, 0, none⟩) (qs.length + 1) cp)) ok h most (qs ++ [P]) ss ∧ Kp ok w (w.setCell ⟨h, 1, none⟩ (.slice (some ⟨gp, 0, none⟩) (qs.length + 1) cp))) := by
  obtain ⟨j0, vp, vs, pvs, j1, j2, j3, j4, j5⟩ := hb
  have hql : (qs ++ [P, C]).length = qs.length + 2 := by simp
  rw [hql] at j2 j3
  obtain ⟨Ap, cp, rfl, hcp⟩ := j3.shape
  obtain ⟨gp, rfl, _, _⟩ := j3.form1 (by omega)
  have hpop := rb_popP (k := qs.length + 1) j0 j1 (by rw [j2, hql]) j3 j4 j5 (by omega) (by simp)
  have e : (qs ++ [P, C]).take (qs.length + 1) = qs ++ [P] := by
    rw [show qs ++ [P, C] = (qs ++ [P]) ++ [C] by simp, List.take_append_of_le_length (by simp), List.take_of_length_le (by simp)]
  rw [e] at hpop
  exact ⟨gp, cp, j1.cell 1, hcp, j1.frozen 1, hpop⟩
end Go.Proofs.Ytgndammlhljfjaa
