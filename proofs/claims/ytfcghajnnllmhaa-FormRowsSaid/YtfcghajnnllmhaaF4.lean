/-
  layout.Open.
-/
import Derived.Test.YtfcghajnnllmhaaF3
import Derived.Deep.LoopGhost
namespace Go.Proofs.Ytfcghajnnllmhaa
open Go.RowKit

mutual
/-- Have bytes of it no end of their own? -/
def openR : Fm → Bool
  | .mk a l => if a.k = 3 then openL l else decide (a.k = 4)
def openL : List Fm → Bool
  | [] => false
  | f :: t => match t with
    | [] => openR f
    | _ :: _ => openL t
end
theorem openR_mk (a : FH) (l : List Fm) : openR (.mk a l) = if a.k = 3 then openL l else decide (a.k = 4) := by rw [openR]
theorem openL_last (l : List Fm) (n : Nat) (h : l.length = n + 1) : openL l = openR (l[n]'(by omega)) := by
  induction l generalizing n with
  | nil => simp at h
  | cons f t ih =>
    cases t with
    | nil =>
      obtain rfl : n = 0 := by simpa using h
      rw [openL]
      rfl
    | cons g u =>
      rw [openL]
      obtain ⟨m, rfl⟩ : ∃ m, n = m + 1 := ⟨n - 1, by simp at h; omega⟩
      rw [ih m (by simpa using h)]
      rfl
theorem sizeOf_kid {a : FH} {l : List Fm} {f : Fm} (h : f ∈ l) : SizeOf.sizeOf f < SizeOf.sizeOf (RT.mk a l) := by
  have := List.sizeOf_lt_of_mem h
  rw [RT.mk.sizeOf_spec]
  omega

/-! ### Six cells stored. -/
theorem Blk.put6 {w : World} {B : Nat} {t : TypeId} {a0 a1 a2 a3 a4 a5 : Value} (h : Blk w B t #[a0, a1, a2, a3, a4, a5]) (b0 b1 b2 b3 b4 b5 : Value) :
    Blk ((((((w.setCell ⟨B, 0, none⟩ b0).setCell ⟨B, 1, none⟩ b1).setCell ⟨B, 2, none⟩ b2).setCell ⟨B, 3, none⟩ b3).setCell ⟨B, 4, none⟩ b4).setCell ⟨B, 5, none⟩ b5) B t #[b0, b1, b2, b3, b4, b5] :=
  (((((h.set_ 0 b0).set_ 1 b1).set_ 2 b2).set_ 3 b3).set_ 4 b4).set_ 5 b5
theorem Kp.put6 {S : Nat → Prop} {a w : World} {B : Nat} (h : Kp S a w) (hp : S B ∨ a.heap.size ≤ B) (b0 b1 b2 b3 b4 b5 : Value) :
    Kp S a ((((((w.setCell ⟨B, 0, none⟩ b0).setCell ⟨B, 1, none⟩ b1).setCell ⟨B, 2, none⟩ b2).setCell ⟨B, 3, none⟩ b3).setCell ⟨B, 4, none⟩ b4).setCell ⟨B, 5, none⟩ b5) :=
  (((((h.setCell (p := ⟨B, 0, none⟩) hp b0).setCell (p := ⟨B, 1, none⟩) hp b1).setCell (p := ⟨B, 2, none⟩) hp b2).setCell (p := ⟨B, 3, none⟩) hp b3).setCell (p := ⟨B, 4, none⟩) hp b4).setCell (p := ⟨B, 5, none⟩) hp b5

set_option maxRecDepth 100000 in
set_option maxHeartbeats 3200000 in
theorem open_any (ok : Nat → Prop) (v : Value) (f : Fm) (w : World) (hlt : ∀ i, ok i → i < w.heap.size) (hv : FmR w ok v f) :
    Calls Try.prog 23 #[v] w fun e w' => e = .returned (.bool (openR f)) ∧ Kp (fun _ => False) w w' := by
  obtain ⟨r, hr⟩ : ∃ r, openR f = r := ⟨_, rfl⟩
  rw [hr]
  have HR := Lib.hid hr
  clear hr
  obtain ⟨⟨k, s, lo, hi, st⟩, l⟩ := f
  obtain ⟨A, c, rfl, h1, h2, _, _, _, _, _, hfs⟩ := hv.parts
  have HB := Lib.hid (Blk.new w 27 #[.int .i64 k, .int .i64 s, .int .i64 lo, .int .i64 hi, .int .i64 st, .slice A l.length c])
  have hka : Kp (fun _ => False) w (w.alloc (.cells #[.int .i64 k, .int .i64 s, .int .i64 lo, .int .i64 hi, .int .i64 st, .slice A l.length c] 27)) := (Kp.refl _ _).alloc _
  have HK := Lib.hid hka
  have HFS := Lib.hid (hfs.kp hka (fun _ _ h => h))
  obtain ⟨B, hB⟩ : ∃ B, w.heap.size = B := ⟨_, rfl⟩
  have HLT := Lib.hid (show ∀ i, ok i → ¬ i = B from fun i hi => by have := hlt i hi; omega)
  have HBW := Lib.hid (show w.heap.size ≤ B by omega)
  clear hv hfs hka hlt
  go_enter Try.func23, Try.ntmps23
  go_wp2_with fail
  obtain ⟨W1, hW1⟩ : ∃ W1, w.alloc (.cells #[.int .i64 k, .int .i64 s, .int .i64 lo, .int .i64 hi, .int .i64 st, .slice A l.length c] 27) = W1 := ⟨_, rfl⟩
  rw [hW1] at HB HK HFS ⊢
  rw [hB] at HB
  clear hW1 hB
  go_loopg [] (SizeOf.sizeOf (RT.mk (FH.mk k s lo hi st) l)) (fun g wr => ∃ (cur : Fm) (A' : Option Addr) (c' : Nat), g = SizeOf.sizeOf cur ∧ Blk wr B 27 #[.int .i64 cur.a.k, .int .i64 cur.a.s, .int .i64 cur.a.lo, .int .i64 cur.a.hi, .int .i64 cur.a.st, .slice A' cur.l.length c'] ∧ FsR wr ok (.slice A' cur.l.length c') cur.l ∧ openR cur = r ∧ Kp (fun _ => False) w wr)
  case atStart => exact ⟨_, A, c, rfl, HB.out, HFS.out, HR.out, HK.out⟩
  case round =>
    obtain ⟨cur, A', c', rfl, hb, hf, ho, hkr⟩ := hrel
    obtain ⟨⟨k', s', lo', hi', st'⟩, l'⟩ := cur
    simp only [RT.a, RT.l] at hb hf
    rw [openR_mk] at ho
    have t0 := hb.cell 0
    have t1 := hb.cell 1
    have t2 := hb.cell 2
    have t3 := hb.cell 3
    have t4 := hb.cell 4
    have t5 := hb.cell 5
    have z0 := hb.frozen 0
    have z1 := hb.frozen 1
    have z2 := hb.frozen 2
    have z3 := hb.frozen 3
    have z4 := hb.frozen 4
    have z5 := hb.frozen 5
    simp at t0 t1 t2 t3 t4 t5
    have HKR := Lib.hid hkr
    have HBB := Lib.hid hb
    clear hkr hb
    by_cases k3 : k' = 3
    · rw [if_pos k3] at ho
      have n3 : (k' == 3) = true := by simpa using k3
      by_cases h0 : l'.length = 0
      · have hl0 : l' = [] := List.eq_nil_of_length_eq_zero h0
        subst hl0
        have hr1 : r = false := by rw [← ho, openL]
        subst hr1
        have n4 : (k' == 4) = false := by simp; omega
        clear ho h0 hf k3
        go_wp2_with fail
        go_ret
        exact ⟨rfl, HKR.out⟩
      · obtain ⟨n, hn⟩ : ∃ n, l'.length = n + 1 := ⟨l'.length - 1, by omega⟩
        rw [openL_last l' n hn] at ho
        obtain ⟨b, off, A2, c2, rfl, hb2, hf2, q0, q1, q2, q3, q4, q5⟩ := hf.at_ (i := n) (by omega)
        have hmem : l'[n]'(by omega) ∈ l' := List.getElem_mem _
        have hsz := Lib.hid (sizeOf_kid (a := FH.mk k' s' lo' hi' st') hmem)
        obtain ⟨f2, hf2e⟩ : ∃ f2, l'[n]'(by omega) = f2 := ⟨_, rfl⟩
        rw [hf2e] at ho hf2 q0 q1 q2 q3 q4 q5 hsz
        have HO := Lib.hid ho
        have hFs2 : FsR wr ok (.slice A2 f2.l.length c2) f2.l := by
          obtain ⟨sv, e, _, h⟩ := hf2
          simp only [Value.agg.injEq, Array.mk.injEq, List.cons.injEq, and_true, true_and] at e
          rw [e]
          exact h
        have HF2 := Lib.hid hFs2
        have hlen : l'.length ≤ 140737488355328 := by obtain ⟨_, _, _, _, h, _⟩ := hf; exact h
        obtain ⟨m, hm⟩ : ∃ m, l'.length = m := ⟨_, rfl⟩
        have g1 : decide ((0 : Int) < (m : Int)) = true := by simp; omega
        have g2 : (0 : Int) < (m : Int) := by omega
        have hmn : (m : Int) - 1 = (n : Int) := by omega
        have hnm : n < m := by omega
        rw [hm] at t5 HBB hlen
        clear ho hmem hf2e hFs2 hf hf2 h0 hn k3 hm
        go_wp2_with fail
        go_roundg (SizeOf.sizeOf f2)
        case measure => exact hsz.out
        case rel =>
          exact ⟨f2, A2, c2, rfl, HBB.out.put6 _ _ _ _ _ _, HF2.out.kp ((Kp.refl (fun j => j = B) wr).put6 (B := B) (.inl rfl) _ _ _ _ _ _) (fun i hi => HLT.out i hi), HO.out, HKR.out.put6 (B := B) (.inr HBW.out) _ _ _ _ _ _⟩
    · rw [if_neg k3] at ho
      have n3 : (k' == 3) = false := by simpa using k3
      have n4 : (k' == 4) = r := by rw [← ho]; rfl
      clear ho hf k3
      go_wp2_with fail
      go_ret
      exact ⟨rfl, HKR.out⟩
end Go.Proofs.Ytfcghajnnllmhaa
