/-
  The law FormRows: what it answers.
-/
import Derived.Test.YtfcghajnnllmhaaPuF2
import Derived.Test.YtfcghajnnllmhaaOpF
import Derived.Test.YtfcghajnnllmhaaQPx12
namespace Go.Proofs.Ytfcghajnnllmhaa
open Go.RowKit YtfcghajnnllmhaaW.PrintWords YtfcghajnnllmhaaW.PrintMore

theorem mn_nat (a b : Nat) : mn (a : Int) (b : Int) = ((min a b : Nat) : Int) := by
  unfold mn
  split <;> omega
theorem fr_mk (L : List Fm) (hw : ∀ x ∈ L, wfF x = true) (hl : L.length ≤ 140737488355328) : wfF (.mk ⟨3, 0, 0, 0, 0⟩ L) = true := by
  refine (wfF_mk _ _).2 ⟨?_, hl, hw⟩
  constructor <;> unfold i64B <;> simp
theorem alive_f : QP.passepartoutlaw04_alive.f = some true := rfl
theorem spanL_take (sel : FH → Int) (L : List Fm) (j : Nat) (h : j < L.length) : spanL sel 0 (L.take (j + 1)) = wrap64 (spanL sel 0 (L.take j) + spanR sel L[j]) := by
  rw [List.take_succ_eq_append_getElem h, spanL_snoc]
set_option maxHeartbeats 1600000 in
theorem frows_ev (l : List Fm) (hw : ∀ x ∈ l, wfF x = true) (hl : l.length ≤ 140737488355328) : Ev (fun k => QP.passepartoutlaw04_FormRows.f k (l.map ofF)) true := by
  simp only [QP.passepartoutlaw04_FormRows.f]
  rw [List.length_map, show (32 : Int) = ((32 : Nat) : Int) from rfl, mn_nat]
  refine Ev.ip (by omega) (Ev.ip (by omega) ?_)
  rw [Int.toNat_natCast, ← List.map_take]
  simp only [Option.bind_some, alive_f, if_true]
  have hwL : ∀ x ∈ l.take (min l.length 32), wfF x = true := fun x hx => hw x (List.mem_of_mem_take hx)
  have hnL : (l.take (min l.length 32)).length ≤ 32 := by rw [List.length_take]; omega
  generalize l.take (min l.length 32) = L at hwL hnL
  clear hw hl l
  have hR := fr_mk L hwL (by omega)
  obtain ⟨ROW, hROW⟩ : ∃ R : Fm, R = .mk ⟨3, 0, 0, 0, 0⟩ L := ⟨_, rfl⟩
  have hg := great_ev ROW (by rw [hROW]; exact hR)
  rw [hROW] at hg
  refine Ev.bind hg ?_
  apply Ev.step
  · intro k
    simp only [QP.passepartoutlaw04_FormRows.j0]
    rfl
  by_cases hgt : 500 < cntR 500 (.mk ⟨3, 0, 0, 0, 0⟩ L)
  · exact Ev.ip (by simpa using hgt) (Ev.is rfl)
  refine Ev.in_ (by simpa using hgt) ?_
  rw [List.length_map]
  have h2j : ∀ (j : Nat) (lo hi : Int) (f : Fm), Ev (fun k => QP.passepartoutlaw04_FormRows.j2 k (L.map ofF) lo hi (L.map ofF) (L.length : Int) (j : Int) true f.a.k f.a.s f.a.lo f.a.hi f.a.st (f.l.map ofF)) true := by
    intro j lo hi f
    apply Ev.step
    · intro k
      simp only [QP.passepartoutlaw04_FormRows.j2]
      rfl
    exact Ev.ip (by simp) (Ev.is (by simp [alive_f]))
  have key : ∀ (d j : Nat), L.length - j = d → j ≤ L.length → (∀ i (h : i < L.length), i < j → checkR L[i] = 0 ∧ depR 9 L[i] ≤ 6 ∧ (openR L[i] = true → i + 1 = L.length)) →
      Ev (fun k => QP.passepartoutlaw04_FormRows.l0 k (L.map ofF) (spanL FH.lo 0 (L.take j)) (spanL FH.hi 0 (L.take j)) (L.map ofF) (L.length : Int) (j : Int)) true := by
    intro d
    induction d with
    | zero =>
      intro j hd hj hall
      obtain rfl : j = L.length := by omega
      have hall' : ∀ x ∈ L, checkR x = 0 ∧ depR 9 x ≤ 6 := by
        intro x hx
        obtain ⟨i, hi, rfl⟩ := List.mem_iff_getElem.1 hx
        exact ⟨(hall i hi hi).1, (hall i hi hi).2.1⟩
      apply Ev.step
      · intro k
        simp only [QP.passepartoutlaw04_FormRows.l0]
        rfl
      refine Ev.in_ (by omega) ?_
      rw [List.take_of_length_le (Nat.le_refl _)]
      refine Ev.cb (a := (3, 0, 0, 0, 0, L.map ofF)) (by rw [QP.layout_Row.f, QP.api_Form_51.f, if_pos (by rw [List.length_map]; omega)]; rfl) ?_
      simp only []
      -- the row is right
      have hd7 : ∀ n, 6 ≤ n → n ≤ 9 → L.any (deepB n) = false := by
        intro n h1 h2
        rw [List.any_eq_false]
        intro x hx
        rw [dep_deep x n 9 h2]
        have := (hall' x hx).2
        simp
        omega
      have hchk : checkR (.mk ⟨3, 0, 0, 0, 0⟩ L) = 0 := by
        rw [checkR_mk]
        have e1 : ownN 3 0 0 0 0 L.length = 0 := by
          unfold ownN
          simp
          omega
        have e2 : ∀ t : List Fm, (∀ x ∈ t, x ∈ L) → checkL t = 0 := by
          intro t
          induction t with
          | nil => intro _; rw [checkL]
          | cons f t ih => intro h; rw [checkL, (hall' f (h f (by simp))).1]; simpa using ih (fun x hx => h x (by simp [hx]))
        have e3 : ∀ (t : List Fm) (i : Nat), i + t.length = L.length → (∀ q (h : q < t.length), openR t[q] = true → i + q + 1 = L.length) → badF 3 L.length i t = false := by
          intro t
          induction t with
          | nil => intro i _ _; rw [badF]
          | cons f t ih =>
            intro i hi hq
            rw [badF, ih (i + 1) (by simp at hi; omega) (fun q h ho => by have := hq (q + 1) (by simp; omega) (by simpa using ho); omega), badI]
            cases ho : openR f
            · simp
            · have := hq 0 (by simp) (by simpa using ho)
              simp
              omega
        have e4 := e3 L 0 (by omega) (fun q h ho => by have := (hall q h h).2.2 ho; omega)
        simp only [e1, e2 L (fun x hx => hx), e4]
        simp
      have hdp : deepB 8 (.mk ⟨3, 0, 0, 0, 0⟩ L) = false := hd7 7 (by omega) (by omega)
      have hlo : leastR (.mk ⟨3, 0, 0, 0, 0⟩ L) = spanL FH.lo 0 L := by rw [leastR, spanR_mk]; simp
      have hhi : mostR (.mk ⟨3, 0, 0, 0, 0⟩ L) = spanL FH.hi 0 L := by rw [mostR, spanR_mk]; simp
      have hnn := (span_bd FH.lo (.inl rfl) (.mk ⟨3, 0, 0, 0, 0⟩ L) 500 (by omega) (by omega) hchk).1
      rw [show spanR FH.lo (.mk ⟨3, 0, 0, 0, 0⟩ L) = spanL FH.lo 0 L from hlo] at hnn
      have hop : openR (.mk ⟨3, 0, 0, 0, 0⟩ L) = openL L := by rw [openR_mk]; simp
      refine Ev.cb (lay_check (.mk ⟨3, 0, 0, 0, 0⟩ L) hR) ?_
      rw [hdp, hchk]
      refine Ev.ip rfl (Ev.cb (lay_least (.mk ⟨3, 0, 0, 0, 0⟩ L) hR) ?_)
      refine Ev.ip hlo (Ev.cb (lay_most (.mk ⟨3, 0, 0, 0, 0⟩ L) hR) ?_)
      refine Ev.ip hhi (Ev.cb (lay_open (.mk ⟨3, 0, 0, 0, 0⟩ L) hR) ?_)
      have h3 : Ev (fun k => QP.passepartoutlaw04_FormRows.j3 k (spanL FH.lo 0 L) false 3 0 0 0 0 (L.map ofF)) true := by
        apply Ev.step
        · intro k
          simp only [QP.passepartoutlaw04_FormRows.j3]
          rfl
        refine Ev.in_ (by simp) ?_
        refine Ev.cb (a := (2, 3, 0, 9, 1, [ofF (.mk ⟨3, 0, 0, 0, 0⟩ L)])) (by rw [QP.layout_List.f, ofF_mk]) ?_
        simp only []
        have hwl : wfF (.mk ⟨2, 3, 0, 9, 1⟩ [.mk ⟨3, 0, 0, 0, 0⟩ L]) = true := by
          refine (wfF_mk _ _).2 ⟨?_, by simp, fun x hx => by rw [List.mem_singleton] at hx; rw [hx]; exact hR⟩
          constructor <;> unfold i64B <;> simp
        have hlc := lay_check (.mk ⟨2, 3, 0, 9, 1⟩ [.mk ⟨3, 0, 0, 0, 0⟩ L]) hwl
        have hd2 : deepB 8 (.mk ⟨2, 3, 0, 9, 1⟩ [.mk ⟨3, 0, 0, 0, 0⟩ L]) = false := by
          show [RT.mk ⟨3, 0, 0, 0, 0⟩ L].any (deepB 7) = false
          have : deepB 7 (.mk ⟨3, 0, 0, 0, 0⟩ L) = false := hd7 6 (by omega) (by omega)
          simp [this]
        have hc2 : checkR (.mk ⟨2, 3, 0, 9, 1⟩ [.mk ⟨3, 0, 0, 0, 0⟩ L]) = if openL L = true ∨ spanL FH.lo 0 L = 0 then 15 else 0 := by
          rw [checkR_mk]
          have e1 : ownN 2 3 0 9 1 [RT.mk (⟨3, 0, 0, 0, 0⟩ : FH) L].length = 0 := by rfl
          have e2 : checkL [.mk ⟨3, 0, 0, 0, 0⟩ L] = 0 := by rw [checkL, hchk, checkL]; rfl
          have e3 : badF 2 [RT.mk (⟨3, 0, 0, 0, 0⟩ : FH) L].length 0 [.mk ⟨3, 0, 0, 0, 0⟩ L] = (openL L || decide (spanL FH.lo 0 L = 0)) := by rw [badF, badF, badI, hop, hlo]; simp
          simp only [e1, e2, e3]
          simp
        rw [hd2, hc2, if_neg (by simp)] at hlc
        by_cases hz : openL L = true ∨ spanL FH.lo 0 L = 0
        · rw [if_pos hz] at hlc
          refine Ev.cb hlc ?_
          by_cases hpos : 0 < spanL FH.lo 0 L
          · have ho : openL L = true := by
              rcases hz with h | h
              · exact h
              · omega
            refine Ev.ip hpos (Ev.cb (lay_open (.mk ⟨3, 0, 0, 0, 0⟩ L) hR) ?_)
            rw [hop, ho]
            exact Ev.is (by simp)
          · exact Ev.in_ hpos (Ev.is (by simp))
        · rw [if_neg hz] at hlc
          refine Ev.cb hlc ?_
          have hpos : 0 < spanL FH.lo 0 L := by
            have : spanL FH.lo 0 L ≠ 0 := fun h => hz (.inr h)
            omega
          have ho : openL L = false := by simpa using fun h => hz (.inl h)
          refine Ev.ip hpos (Ev.cb (lay_open (.mk ⟨3, 0, 0, 0, 0⟩ L) hR) ?_)
          rw [hop, ho]
          exact Ev.is (by simp)
      rw [List.length_map, hop]
      by_cases hL0 : L.length = 0
      · obtain rfl : L = [] := List.eq_nil_of_length_eq_zero hL0
        refine Ev.in_ (by simp) ?_
        simpa [openL] using h3
      · obtain ⟨n, hn⟩ : ∃ n, L.length = n + 1 := ⟨L.length - 1, by omega⟩
        refine Ev.ip (by omega) ?_
        rw [w64 (by omega) (by omega), show (L.length : Int) - 1 = (n : Int) by omega]
        refine Ev.ip (by omega) (Ev.ip (by omega) ?_)
        simp only [rd_ofF L n (by omega), of_f0, of_f1, of_f2, of_f3, of_f4, of_f5]
        refine Ev.cb (lay_open (L[n]'(by omega)) (hwL _ (List.getElem_mem _))) ?_
        rw [openL_last L n hn]
        simpa using h3
    | succ d ihd =>
      intro j hd hj hall
      have hlt : j < L.length := by omega
      have hwj := hwL _ (List.getElem_mem hlt)
      apply Ev.step
      · intro k
        simp only [QP.passepartoutlaw04_FormRows.l0, rd_ofF L j hlt, of_f0, of_f1, of_f2, of_f3, of_f4, of_f5]
        rfl
      refine Ev.ip (by omega) (Ev.ip (by omega) (Ev.ip (by rw [List.length_map]; omega) ?_))
      refine Ev.bind (Check_ev L[j] hwj) ?_
      by_cases hc : (if deepB 8 L[j] = true then (14 : Int) else checkR L[j]) = 0
      rotate_left
      · exact Ev.in_ hc (h2j j _ _ L[j])
      refine Ev.ip hc (Ev.bind (dep_ev L[j] 9 (by omega) hwj) ?_)
      by_cases h6 : 6 < depR 9 L[j]
      · exact Ev.ip (by omega) (h2j j _ _ L[j])
      refine Ev.in_ (by omega) (Ev.cb (lay_open L[j] hwj) ?_)
      have hchk : checkR L[j] = 0 := by
        split at hc
        · omega
        · exact hc
      have hnext : (openR L[j] = true → j + 1 = L.length) → Ev (fun k => QP.passepartoutlaw04_FormRows.j2 k (L.map ofF) (spanL FH.lo 0 (L.take j)) (spanL FH.hi 0 (L.take j)) (L.map ofF) (L.length : Int) (j : Int) false L[j].a.k L[j].a.s L[j].a.lo L[j].a.hi L[j].a.st (L[j].l.map ofF)) true := by
        intro ho
        apply Ev.step
        · intro k
          simp only [QP.passepartoutlaw04_FormRows.j2]
          rfl
        refine Ev.in_ (by simp) (Ev.cb (lay_least L[j] hwj) (Ev.cb (lay_most L[j] hwj) ?_))
        rw [w64 (x := (j : Int) + 1) (by omega) (by omega), show (j : Int) + 1 = ((j + 1 : Nat) : Int) by omega]
        have h1 := spanL_take FH.lo L j hlt
        have h2 := spanL_take FH.hi L j hlt
        rw [show wrap64 (spanL FH.lo 0 (L.take j) + leastR L[j]) = spanL FH.lo 0 (L.take (j + 1)) from h1.symm, show wrap64 (spanL FH.hi 0 (L.take j) + mostR L[j]) = spanL FH.hi 0 (L.take (j + 1)) from h2.symm]
        refine ihd (j + 1) (by omega) (by omega) (fun i h hi => ?_)
        by_cases hij : i < j
        · exact hall i h hij
        · obtain rfl : i = j := by omega
          exact ⟨hchk, by omega, ho⟩
      by_cases ho : openR L[j] = true
      · rw [ho]
        refine Ev.ip rfl ?_
        rw [w64 (x := (j : Int) + 1) (by omega) (by omega), List.length_map]
        by_cases hj1 : j + 1 < L.length
        · rw [show decide ((j : Int) + 1 < (L.length : Int)) = true from decide_eq_true (by omega)]
          exact h2j j _ _ L[j]
        · rw [show decide ((j : Int) + 1 < (L.length : Int)) = false from decide_eq_false (by omega)]
          exact hnext (fun _ => by omega)
      · refine Ev.in_ ho (hnext (fun h => absurd h ho))
  have h0 := key L.length 0 (by omega) (by omega) (fun i h hi => by omega)
  rw [List.take_zero, spanL, spanL] at h0
  exact h0

theorem frows_walk (w : World) (v : Value) (l : List Fm) (hv : FsR w (· < w.heap.size) v l) : Calls Try.prog 4 #[v] w fun e w' => e = .returned (.bool true) ∧ Below w.heap.size w w' := by
  obtain ⟨A, c, rfl, _, _, _⟩ := id hv
  obtain ⟨h1, h2, h3⟩ := hv.c
  obtain ⟨k, hk⟩ := (frows_ev l hv.wf.2 hv.wf.1).rounds
  rw [h1]
  exact QP.passepartoutlaw04_FormRows.calls k A c (l.map ofF) true w h3 h2 hk
end Go.Proofs.Ytfcghajnnllmhaa
