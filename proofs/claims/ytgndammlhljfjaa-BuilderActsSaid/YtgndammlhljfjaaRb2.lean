/-
  The document's builder: its state; New, Len.
-/
import Derived.Test.YtgndammlhljfjaaRb1
namespace Go.Proofs.Ytgndammlhljfjaa
open Go.RowKit

def nc (l : List Nat) : List Value := ic .i64 (l.map fun n : Nat => (n : Int))
theorem nc_length (l : List Nat) : (nc l).length = l.length := by simp [nc, ic]
def RBo (ok : Nat → Prop) (h : Nat) (vp vs : Value) (j : Nat) : Prop := ok j ∧ j ≠ h ∧ vp.ownBlock ≠ some j ∧ vs.ownBlock ≠ some j
def RB (w : World) (ok : Nat → Prop) (h most : Nat) (parts : List (List UInt8)) (sizes : List Nat) : Prop :=
  ok h ∧ ∃ (vp vs : Value) (pvs : List Value), Blk w h 72 #[.int .i64 most, vp, vs] ∧ pvs.length = parts.length ∧ Own w ok 22 1 vp parts.length pvs ∧ Own w ok 3 1 vs sizes.length (nc sizes) ∧
    ∀ i (hi : i < parts.length) (hi' : i < pvs.length), BR w (RBo ok h vp vs) pvs[i] parts[i]

section
variable {w w' : World} {ok ok' S : Nat → Prop} {h most : Nat} {parts : List (List UInt8)} {sizes : List Nat}
theorem RB.kp (hb : RB w ok h most parts sizes) (hk : Kp S w w') (hd : ∀ i, ok i → ¬ S i) : RB w' ok h most parts sizes := by
  obtain ⟨h0, vp, vs, pvs, h1, h2, h3, h4, h5⟩ := hb
  exact ⟨h0, vp, vs, pvs, h1.kp hk (hd h h0), h2, h3.kp hk hd, h4.kp hk hd, fun i hi hi' => (h5 i hi hi').kp hk (fun j hj => hd j hj.1)⟩
theorem BR.ltok {w : World} {ok : Nat → Prop} {v : Value} {l : List UInt8} (h : BR w ok v l) : BR w (fun i => ok i ∧ i < w.heap.size) v l := by
  obtain ⟨A, c, e, hc, h1, h2⟩ := h
  refine ⟨A, c, e, hc, h1, fun hn => ?_⟩
  obtain ⟨ad, hA, hsp, hok, hcell⟩ := h2 hn
  have hlt : 0 < (bc l).length := by rw [bc_length]; exact hn
  have h0 := cell_lt (hcell 0 _ (List.getElem?_eq_getElem hlt))
  rw [block_add] at h0
  exact ⟨ad, hA, hsp, ⟨hok, h0⟩, hcell⟩
theorem RB.mono (hb : RB w ok h most parts sizes) (hd : ∀ i, i < w.heap.size → ok i → ok' i) : RB w ok' h most parts sizes := by
  obtain ⟨h0, vp, vs, pvs, h1, h2, h3, h4, h5⟩ := hb
  exact ⟨hd h h1.lt h0, vp, vs, pvs, h1, h2, h3.mono hd, h4.mono hd, fun i hi hi' => (h5 i hi hi').ltok.mono (fun j hj => ⟨hd j hj.2 hj.1.1, hj.1.2⟩)⟩
theorem RB.lt (hb : RB w ok h most parts sizes) : h < w.heap.size := by
  obtain ⟨h0, vp, vs, pvs, h1, h2, h3, h4, h5⟩ := hb
  exact h1.lt
end

theorem rbnew (most : Nat) (w : World) : Calls Try.prog 34 #[.int .i64 most] w fun e w' => ∃ h, e = .returned (.pointer (some ⟨h, 0, none⟩)) ∧ w.heap.size ≤ h ∧ RB w' (w.heap.size ≤ ·) h most [[]] [] ∧ Kp (fun _ => False) w w' := by
  have hk1 : Kp (fun _ => False) w (w.alloc (.cells #[.slice none 0 0] 22)) := (Kp.refl _ _).alloc _
  have hk2 := hk1.alloc (.cells #[.int .i64 most, .slice (some ⟨w.heap.size, 0, none⟩) 1 1, .slice none 0 0] 72)
  have hB := Blk.new (w.alloc (.cells #[.slice none 0 0] 22)) 72 #[.int .i64 most, .slice (some ⟨w.heap.size, 0, none⟩) 1 1, .slice none 0 0]
  have hP : Own ((w.alloc (.cells #[.slice none 0 0] 22)).alloc (.cells #[.int .i64 most, .slice (some ⟨w.heap.size, 0, none⟩) 1 1, .slice none 0 0] 72)) (w.heap.size ≤ ·) 22 1 (.slice (some ⟨w.heap.size, 0, none⟩) 1 1) 1 [.slice none 0 0] := by
    have h : Own (w.alloc (.cells #[.slice none 0 0] 22)) (w.heap.size ≤ ·) 22 1 (.slice (some ⟨w.heap.size, 0, none⟩) 1 1) 1 [.slice none 0 0] :=
      ⟨⟨rfl, .inr ⟨w.heap.size, 1, _, rfl, Nat.zero_le _, heap_alloc_new w _, Nat.le_refl _, by simp [maxLen], rfl, rfl⟩⟩, fun k hk => by
        have : w.heap.size = k := by simpa [Value.ownBlock] using hk
        omega⟩
    exact h.kp (S := fun _ => False) ((Kp.refl _ _).alloc _) (fun _ _ h => h)
  rw [World.size_alloc] at hB
  have hR : RB ((w.alloc (.cells #[.slice none 0 0] 22)).alloc (.cells #[.int .i64 most, .slice (some ⟨w.heap.size, 0, none⟩) 1 1, .slice none 0 0] 72)) (w.heap.size ≤ ·) (w.heap.size + 1) most [[]] [] :=
    ⟨by omega, _, _, _, hB, rfl, hP, Own.nil, fun i hi hi' => by
      have : i = 0 := by simp at hi; omega
      subst this
      exact BR.nil⟩
  have HR := Lib.hid hR
  have HK := Lib.hid hk2
  clear hk1 hk2 hB hP hR
  go_enter Try.func34, Try.ntmps34
  go_wp2_with fail
  go_ret
  exact ⟨_, rfl, by omega, HR.out, HK.out⟩

def sumP (parts : List (List UInt8)) : Nat := (parts.map List.length).sum
theorem sumP_take {parts : List (List UInt8)} {k : Nat} (h : k < parts.length) : sumP (parts.take (k + 1)) = sumP (parts.take k) + parts[k].length := by
  rw [sumP, List.take_succ_eq_append_getElem h, List.map_append, List.sum_append]
  rfl
theorem sumP_le (parts : List (List UInt8)) (k : Nat) : sumP (parts.take k) ≤ sumP parts := by
  have h : sumP parts = sumP (parts.take k) + sumP (parts.drop k) := by
    rw [sumP, sumP, sumP, ← List.sum_append, ← List.map_append, List.take_append_drop]
  omega
theorem sum_take' {l : List Nat} {k : Nat} (h : k < l.length) : (l.take (k + 1)).sum = (l.take k).sum + l[k] := by
  rw [List.take_succ_eq_append_getElem h, List.sum_append]
  rfl
theorem sum_le' (l : List Nat) (k : Nat) : (l.take k).sum ≤ l.sum := by
  have h : l.sum = (l.take k).sum + (l.drop k).sum := by rw [← List.sum_append, List.take_append_drop]
  omega

set_option maxRecDepth 100000 in
set_option maxHeartbeats 1600000 in
theorem rblen (ok : Nat → Prop) (h most : Nat) (parts : List (List UInt8)) (sizes : List Nat) (w : World) (hb : RB w ok h most parts sizes) (hl : sumP parts + sizes.sum ≤ 140737488351232) (hpl : parts.length ≤ 140737488351232) (hsl : sizes.length ≤ 140737488351232) :
    Calls Try.prog 37 #[.pointer (some ⟨h, 0, none⟩)] w fun e w' => e = .returned (.int .i64 ((sumP parts + sizes.sum : Nat) : Int)) ∧ w = w' := by
  obtain ⟨h0, vp, vs, pvs, h1, h2, h3, h4, h5⟩ := hb
  obtain ⟨Ap, cp, rfl, hcp⟩ := h3.shape
  obtain ⟨As, cs, rfl, hcs⟩ := h4.shape
  have hc1 : w.cell? ⟨h, 1, none⟩ = some (.slice Ap parts.length cp) := h1.cell 1
  have hc2 : w.cell? ⟨h, 2, none⟩ = some (.slice As sizes.length cs) := h1.cell 2
  have hrp := h3.rd
  have hrs := h4.rd
  have H5 := Lib.hid h5
  clear h1 h3 h4 h5
  go_enter Try.func37, Try.ntmps37
  go_wp2_with fail
  go_loop [3, 4] (fun n i => ∃ k : Nat, k ≤ parts.length ∧ i = .int .i64 k ∧ n = .int .i64 ((sumP (parts.take k) : Nat) : Int)) (fun _ i => parts.length - (intOf i).toNat)
  case atStart => exact ⟨0, Nat.zero_le _, rfl, rfl⟩
  case round =>
    obtain ⟨k, hk, rfl, rfl⟩ := hrel
    by_cases hlt : k < parts.length
    · obtain ⟨b, off, u, rfl, hb, hu, hcell⟩ := hrp.at_ hlt
      obtain ⟨A, c, hv, hc, hr⟩ := H5.out k hlt (by omega)
      rw [List.getElem?_eq_getElem (by omega), Option.some.injEq] at hu
      rw [hv] at hu
      subst hu
      have hs := sumP_take hlt
      have hs2 := sumP_le parts (k + 1)
      have HS := Lib.hid hs
      have hb1 : ((sumP (parts.take k) : Nat) : Int) + (parts[k].length : Int) ≤ 140737488351232 := by omega
      generalize sumP (parts.take k) = S at HS hb1
      clear hs hs2 hv
      go_wp2_with fail
      go_round
      case rel => exact ⟨k + 1, by omega, by go_num, by rw [HS.out]; go_num⟩
      case measure => simp [intOf]; omega
    · obtain rfl : k = parts.length := by omega
      rw [List.take_of_length_le (Nat.le_refl _)]
      generalize hS : sumP parts = S at hl
      have HS := Lib.hid hS
      clear hS
      go_wp2_with fail
      go_loop [3, 5] (fun n i => ∃ k : Nat, k ≤ sizes.length ∧ i = .int .i64 k ∧ n = .int .i64 ((S + (sizes.take k).sum : Nat) : Int)) (fun _ i => sizes.length - (intOf i).toNat)
      case atStart => exact ⟨0, Nat.zero_le _, rfl, by simp⟩
      case round =>
        obtain ⟨k, hk, rfl, rfl⟩ := hrel
        by_cases hlt : k < sizes.length
        · obtain ⟨b, off, rfl, hb, hcell⟩ := Rd.int (l := sizes.map fun n : Nat => (n : Int)) (i := k) (by simpa [nc] using hrs) (by simpa using hlt)
          rw [List.getElem_map] at hcell
          have hs := sum_take' hlt
          have hs2 := sum_le' sizes (k + 1)
          have HS2 := Lib.hid hs
          have hb1 : ((S + (sizes.take k).sum : Nat) : Int) + (sizes[k] : Int) ≤ 140737488351232 := by omega
          generalize hT : (sizes.take k).sum = T at HS2 hb1
          clear hs hs2 hT
          go_wp2_with fail
          go_round
          case rel => exact ⟨k + 1, by omega, by go_num, by rw [HS2.out]; go_num⟩
          case measure => simp [intOf]; omega
        · obtain rfl : k = sizes.length := by omega
          rw [List.take_of_length_le (Nat.le_refl _)]
          go_wp2_with fail
          go_ret
          exact ⟨by rw [HS.out]; rfl, rfl⟩
end Go.Proofs.Ytgndammlhljfjaa
