/-
  Rows of forms: appended, cloned; layout.Row.
-/
import Derived.Test.YtfcghajnnllmhaaF6
import Derived.Test.YtfcghajnnllmhaaTreeFlat
namespace Go.Proofs.Ytfcghajnnllmhaa
open Go.RowKit

theorem FHd_one {w : World} {ok : Nat → Prop} {a : FH} {hd : List Value} (h : FHd w ok a hd) : ∀ u ∈ hd, u.oneCell' = true := by
  obtain ⟨rfl, _⟩ := h
  intro u hu
  simp only [List.mem_cons, List.not_mem_nil, or_false] at hu
  rcases hu with rfl | rfl | rfl | rfl | rfl <;> rfl
theorem form_info : (Try.prog.info? 27).map (fun i => (i.zero, i.size, i.bytes)) = some (some (.agg #[.int .i64 0, .int .i64 0, .int .i64 0, .int .i64 0, .int .i64 0, .slice none 0 0]), 6, 64) := by kernel_rfl

theorem FHd_lt : HeadLt FHd := ⟨fun h => h⟩
theorem FsR.lt_ {w : World} {ok : Nat → Prop} {v : Value} {l : List Fm} (h : FsR w ok v l) : FsR w (fun i => ok i ∧ i < w.heap.size) v l := by
  obtain ⟨A, c, e, h1, h2, h3⟩ := h
  exact ⟨A, c, e, h1, h2, h3.lt_ FHd_lt⟩
theorem FmR.lt_ {w : World} {ok : Nat → Prop} {v : Value} {f : Fm} (h : FmR w ok v f) : FmR w (fun i => ok i ∧ i < w.heap.size) v f := by
  obtain ⟨sv, e, h1, h2⟩ := h
  exact ⟨sv, e, h1, h2.lt_⟩

/-- Forms in a slice, of blocks that there are. -/
def FsW (w : World) (v : Value) (l : List Fm) : Prop := FsR w (· < w.heap.size) v l
theorem FsW.kp {w w' : World} {v : Value} {l : List Fm} (h : FsW w v l) (hk : Kp (fun _ => False) w w') : FsW w' v l :=
  (FsR.kp h hk (fun _ _ h => h)).mono (fun _ hi => Nat.lt_of_lt_of_le hi hk.size)

/-- append of forms to forms of the call's own. -/
theorem app_forms {w : World} {ops : Array Oper} {rest : List Oper} {o : Oper} {a : Act} {Q : Exit → Act → World → Prop} (hgd : o.guard = none) (s x : Operand)
    (ho : o.op = .call { callee := .builtin .append, args := #[s, x], argTypes := #[25, 25] })
    (B : Nat) (A : Option Addr) (n c : Nat) (xs : List Value) (hs : a.eval s = .slice A n c) (hown : Own w (B ≤ ·) 27 6 (.slice A n c) n xs)
    (ok : Nat → Prop) (Ax : Option Addr) (m cx : Nat) (xx : List Value) (hx : a.eval x = .slice Ax m cx) (hr : Rd w ok 6 Ax m xx) (h1 : ∀ u ∈ xx, u.oneCell' = true)
    (hk2 : n + m ≤ 2199023255552) (hB : B ≤ w.heap.size)
    (h : ∀ A' c' w', Own w' (B ≤ ·) 27 6 (.slice A' (n + m) c') (n + m) (xs ++ xx) → Kp (B ≤ ·) w w' → wpList Try.prog ops Q rest (a.put o.dst (.slice A' (n + m) c')) w') : wpList Try.prog ops Q (o :: rest) a w := by
  obtain ⟨i0, hi0, hz0, hz1, hz2⟩ := info_parts form_info
  refine wpList_append_any w hgd s x _ ho 0 27 i0 _ 6 64 Try.underlying25 hi0 hz0 hz1 hz2 rfl (by omega) (.slice A n c) n xs hs hown.1 ok Ax m cx xx hx hr h1 (by simp only [maxLen]; omega) (by omega) (Nat.zero_le _) ?_
  intro v' w' h1 h2 h3
  have hk' : Kp (B ≤ ·) w w' := (Kp.refl _ _).grown h2 (fun j hj => .inl (hown.2 j hj))
  have ho' : Own w' (B ≤ ·) 27 6 v' (n + m) (xs ++ xx) := ⟨h1, fun j hj => by
    rcases h3 with e | e
    · exact hown.2 j (e ▸ hj)
    · rw [e] at hj
      injection hj with hj
      omega⟩
  obtain ⟨A', c', e, _⟩ := ho'.shape
  subst e
  exact h A' c' w' ho' hk'

set_option maxRecDepth 100000 in
theorem fclone_any (ok : Nat → Prop) (v : Value) (l : List Fm) (w : World) (hv : FsR w ok v l) (hl : l.length ≤ 2199023255552) :
    Calls Try.prog 51 #[v] w fun e w' => ∃ A c, e = .returned (.slice A l.length c) ∧ FsR w' (fun i => ok i ∨ w.heap.size ≤ i) (.slice A l.length c) l ∧ Kp (fun _ => False) w w' := by
  obtain ⟨A, c, rfl, hc, hc2, ht⟩ := id hv
  cases A with
  | none =>
    have h0 : l = [] := by
      rcases l with _ | ⟨a, l⟩
      · rfl
      · obtain ⟨b, off, e, _⟩ := ht (by simp)
        cases e
    subst h0
    have HN := fun W c => Lib.run_eql_slice_nil (P := Try.prog) W 25 27 none 0 c 0 0 Try.underlying25
    clear ht hv
    go_enter Try.func51, Try.ntmps51
    go_wp2_with fail
    go_ret
    exact ⟨none, 0, rfl, FsR.nil, Kp.refl _ _⟩
  | some ad =>
    have HN := fun W => Lib.run_eql_slice_nil (P := Try.prog) W 25 27 (some ad) l.length c 0 0 Try.underlying25
    obtain ⟨xs, hr, h1, hmv⟩ := TL.flat FHd_kp FHd_one ht
    have ka : Kp (fun _ => False) w (w.alloc (.cells #[] 27)) := (Kp.refl _ _).alloc _
    have HR := Lib.hid (hr.kp ka (fun _ _ h => h))
    have H1 := Lib.hid h1
    have HM := Lib.hid hmv
    have HO := Lib.hid (Own.lit_ w 27 6 [] #[] 0 w.heap.size rfl rfl (Nat.le_refl _) (by decide))
    have hz := ka.size
    clear hr h1 hmv ht hv
    go_enter Try.func51, Try.ntmps51
    go_wp2_with (at_builtin; refine app_forms rfl (.tmp 5) (.tmp 6) rfl w.heap.size _ 0 _ [] rfl HO.out _ (some ad) l.length c xs rfl HR.out H1.out (by omega) hz ?_; intro A2 c2 W2 o2 q2; have O2 := Lib.hid o2; have K2 := Lib.hid (ka.then_ q2 (fun i hi => .inr hi)); clear o2 q2; rw [Nat.zero_add] at *)
    go_ret
    obtain ⟨A', c', e, hcc⟩ := O2.out.shape
    injection e with e1 e2 e3
    subst e1 e3
    have hlt := O2.out.lt
    refine ⟨A2, c2, rfl, ⟨A2, c2, rfl, hcc, hc2, HM.out (fun _ => False) _ W2 A2 K2.out (fun _ _ h => h) (fun i hi => .inl hi) ?_⟩, K2.out⟩
    have hrd := O2.out.rd
    rw [List.nil_append] at hrd
    refine ⟨hrd.1, fun h0 => ?_⟩
    obtain ⟨ad', e', hsp, hb', hcell⟩ := hrd.2 h0
    exact ⟨ad', e', hsp, .inr hb', hcell⟩

set_option maxRecDepth 100000 in
theorem row_any (v : Value) (l : List Fm) (w : World) (hv : FsW w v l) (hl : l.length ≤ 2199023255552) :
    Calls Try.prog 26 #[v] w fun e w' => ∃ A c, e = .returned (.agg #[.int .i64 3, .int .i64 0, .int .i64 0, .int .i64 0, .int .i64 0, .slice A l.length c]) ∧ FmW w' (.agg #[.int .i64 3, .int .i64 0, .int .i64 0, .int .i64 0, .int .i64 0, .slice A l.length c]) (.mk ⟨3, 0, 0, 0, 0⟩ l) ∧ Kp (fun _ => False) w w' := by
  have HK := Lib.hid (show ∀ o, Kp (fun _ => False) w (w.alloc o) from fun o => (Kp.refl _ _).alloc o)
  have HC := Lib.hid (fun o => fclone_any (· < w.heap.size) v l (w.alloc o) (FsR.kp hv ((Kp.refl (fun _ => False) w).alloc o) (fun _ _ h => h)) hl)
  have HB := Lib.hid (Blk.new w 27 #[.int .i64 0, .int .i64 0, .int .i64 0, .int .i64 0, .int .i64 0, .slice none 0 0])
  have hb3 : i64B 3 := by unfold i64B; omega
  clear hv
  go_enter Try.func26, Try.ntmps26
  go_wp2_with fail
  refine (HC.out _).mono ?_
  rintro e w1 ⟨A, c, rfl, hs1, hk1⟩
  have hb1 := HB.out.kp hk1 (fun h => h)
  have e0 := hb1.cell 0
  have e1 := hb1.cell 1
  have e2 := hb1.cell 2
  have e3 := hb1.cell 3
  have e4 := hb1.cell 4
  have e5 := hb1.cell 5
  simp at e0 e1 e2 e3 e4 e5
  have z0 := hb1.frozen 0
  have z1 := hb1.frozen 1
  have z2 := hb1.frozen 2
  have z3 := hb1.frozen 3
  have z4 := hb1.frozen 4
  have z5 := hb1.frozen 5
  have HK1 := Lib.hid ((HK.out _).then_ hk1 (fun _ h => h.elim))
  have HS1 := Lib.hid hs1
  have HB1 := Lib.hid hb1
  have hlt := hb1.lt
  clear hk1 hs1 hb1
  go_wp2_with fail
  have hk9 : Kp (· = w.heap.size) w1 ((((((w1.setCell ⟨w.heap.size, 0, none⟩ (.int .i64 3)).setCell ⟨w.heap.size, 1, none⟩ (.int .i64 0)).setCell ⟨w.heap.size, 2, none⟩ (.int .i64 0)).setCell ⟨w.heap.size, 3, none⟩ (.int .i64 0)).setCell ⟨w.heap.size, 4, none⟩ (.int .i64 0)).setCell ⟨w.heap.size, 5, none⟩ (.slice A l.length c)) :=
    (((((((Kp.refl (fun x => x = w.heap.size) w1).at_ w.heap.size (.inl rfl) _ _).at_ _ (.inl rfl) _ _).at_ _ (.inl rfl) _ _).at_ _ (.inl rfl) _ _).at_ _ (.inl rfl) _ _).at_ _ (.inl rfl) _ _)
  have hkw := HK1.out.then_ hk9 (fun i hi => .inr (by omega))
  have hs9 := HS1.out.kp hk9 (fun i hi he => by rw [World.size_alloc] at hi; omega)
  refine bodyPost_ret (v := .agg #[.int .i64 3, .int .i64 0, .int .i64 0, .int .i64 0, .int .i64 0, .slice A l.length c]) (by simp [results, Try.results26, go_sem, e0, e1, e2, e3, e4, e5]) rfl ⟨A, c, rfl, ⟨_, rfl, ⟨hb3, b0, b0, b0, b0⟩, hs9.lt_.mono (fun i hi => hi.2)⟩, hkw⟩
end Go.Proofs.Ytfcghajnnllmhaa
