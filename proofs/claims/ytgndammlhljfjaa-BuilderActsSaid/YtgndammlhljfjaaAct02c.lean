/-
  An act done on a builder: what it answers, and what it leaves.
-/
import Derived.Test.YtgndammlhljfjaaAct02b
namespace Go.Proofs.Ytgndammlhljfjaa
open Go.RowKit

/-- Bytes more. -/
def addB (most : Nat) (bs : List UInt8) (ps : List (Nat × Nat)) (x : List UInt8) : List UInt8 × List (Nat × Nat) × Int :=
  if most < bs.length + x.length then (bs, ps, 5) else (bs ++ x, ps, 0)
/-- What an act does: the bytes, the open parts, the answer. -/
def stepB (most : Nat) (bs : List UInt8) (ps : List (Nat × Nat)) (a : AV) : List UInt8 × List (Nat × Nat) × Int :=
  if a.k = 0 then
    if szB a.s = false then (bs, ps, 2) else if 256 ^ a.s.toNat ≤ a.x then (bs, ps, 3) else if most < bs.length + a.s.toNat then (bs, ps, 5) else (bs ++ beB a.s.toNat a.x, ps, 0)
  else if a.k = 1 then addB most bs ps a.b
  else if a.k = 2 then
    if a.s < 1 ∨ 3 < a.s then (bs, ps, 2) else if most < bs.length + a.s.toNat then (bs, ps, 5)
    else (bs ++ List.replicate a.s.toNat 0, ps ++ [(bs.length + a.s.toNat, a.s.toNat)], 0)
  else if a.k = 3 then
    match ps.getLast? with
    | none => (bs, ps, 17)
    | some (f, s) => if 256 ^ s ≤ bs.length - f then (bs, ps, 5) else (bs.take (f - s) ++ (beB s (bs.length - f) ++ bs.drop f), ps.dropLast, 0)
  else if a.k = 4 then addB most bs ps (fiveL a.n)
  else (bs, ps, 0)
def PsOk (bs : List UInt8) (ps : List (Nat × Nat)) : Prop := ∀ p ∈ ps, 1 ≤ p.2 ∧ p.2 ≤ 3 ∧ p.2 ≤ p.1 ∧ p.1 ≤ bs.length

def DoP (ok : Nat → Prop) (g most : Nat) (st : List UInt8 × List (Nat × Nat) × Int) (w : World) (e : Ending) (w' : World) : Prop :=
  e = .returned (.int .i64 st.2.2) ∧ Bld w' (fun i => ok i ∨ w.heap.size ≤ i) g st.1 most st.2.1 ∧ Kp ok w w'

section
variable {ok : Nat → Prop} {g most : Nat} {bs : List UInt8} {ps : List (Nat × Nat)} {w w1 w' : World} {e : Ending} {r : Int}
theorem BSame.do_ (h : BSame ok g bs most ps r w1 e w') (hk : Kp (fun _ => False) w w1) : DoP ok g most (bs, ps, r) w e w' :=
  ⟨h.1, h.2.1.mono (fun _ _ h => .inl h), (hk.then_ h.2.2 (fun _ h => h.elim)).mono (fun _ _ h => h.elim)⟩
theorem BStep.do_ (h : BStep ok g bs most ps w1 e w') (hk : Kp (fun _ => False) w w1) : DoP ok g most (bs, ps, 0) w e w' :=
  ⟨h.1, h.2.1.mono (fun _ _ h => h.imp id (Nat.le_trans hk.size)), (hk.mono (fun _ _ h => h.elim)).then_ h.2.2 (fun _ h => .inl h)⟩
theorem Bld.do_ (h : Bld w ok g bs most ps) (hk : Kp (fun _ => False) w w1) : DoP ok g most (bs, ps, r) w (.returned (.int .i64 r)) w1 :=
  ⟨rfl, (h.kp_new hk).mono (fun _ _ h => .inl h), hk.mono (fun _ _ h => h.elim)⟩
end

theorem bytes_add (ok okx : Nat → Prop) (g : Nat) (bs x : List UInt8) (most : Nat) (ps : List (Nat × Nat)) (vx : Value) (w w0 : World) (hb : Bld w ok g bs most ps) (hx : BR w okx vx x) (hk : Kp (fun _ => False) w0 w) :
    Calls Try.prog 28 #[.pointer (some ⟨g, 0, none⟩), vx] w (DoP ok g most (addB most bs ps x) w0) := by
  by_cases h : most < bs.length + x.length
  · rw [addB, if_pos h]
    exact (bbytes_full ok okx g bs x most ps vx w hb hx h).mono fun _ _ h => h.do_ hk
  · rw [addB, if_neg h]
    exact (bbytes_ok ok okx g bs x most ps vx w hb hx (by omega)).mono fun _ _ h => h.do_ hk

theorem number_add (ok : Nat → Prop) (g : Nat) (bs : List UInt8) (most : Nat) (ps : List (Nat × Nat)) (n : Int) (x : Nat) (hx : x < 18446744073709551616) (w w0 : World) (hb : Bld w ok g bs most ps) (hk : Kp (fun _ => False) w0 w) (v : Value) (b : List UInt8) (m : Int) :
    Calls Try.prog 29 #[.pointer (some ⟨g, 0, none⟩), .int .i64 n, .int .u64 x] w (DoP ok g most (stepB most bs ps ⟨0, n, m, x, v, b⟩) w0) := by
  have hd : ∀ r : Int, ∀ w1, w = w1 → DoP ok g most (bs, ps, r) w0 (.returned (.int .i64 r)) w1 := by
    rintro r w1 rfl
    exact ⟨rfl, hb.mono (fun _ _ h => .inl h), hk.mono (fun _ _ h => h.elim)⟩
  cases hs : szB n
  · rw [stepB, if_pos rfl, if_pos hs]
    exact (bnumber_size g n x w hs).mono fun e w1 ⟨h1, h2⟩ => by subst h1; exact hd 2 w1 h2
  · have hn := szB_true hs
    obtain ⟨N, rfl⟩ := Int.eq_ofNat_of_zero_le (show 0 ≤ n by omega)
    rw [stepB, if_pos rfl, if_neg (by simp [hs])]
    simp only [Int.toNat_natCast]
    by_cases h1 : 256 ^ N ≤ x
    · rw [if_pos h1]
      exact (bnumber_range g N x hx w hs (by simpa using h1)).mono fun e w1 ⟨h1, h2⟩ => by subst h1; exact hd 3 w1 h2
    · rw [if_neg h1]
      by_cases h2 : most < bs.length + N
      · rw [if_pos h2]
        exact (bnumber_full ok g bs most ps N x hx w hb hs (by omega) h2).mono fun _ _ h => h.do_ hk
      · rw [if_neg h2]
        exact (bnumber_ok ok g bs most ps N x hx w hb hs (by omega) (by omega)).mono fun _ _ h => h.do_ hk

theorem open_add (ok : Nat → Prop) (g : Nat) (bs : List UInt8) (most : Nat) (ps : List (Nat × Nat)) (n : Int) (x : Nat) (w w0 : World) (hb : Bld w ok g bs most ps) (hps : ps.length ≤ 1073741824) (hk : Kp (fun _ => False) w0 w) (v : Value) (b : List UInt8) (m : Int) :
    Calls Try.prog 30 #[.pointer (some ⟨g, 0, none⟩), .int .i64 n] w (DoP ok g most (stepB most bs ps ⟨2, n, m, x, v, b⟩) w0) := by
  have hd : ∀ r : Int, ∀ w1, w = w1 → DoP ok g most (bs, ps, r) w0 (.returned (.int .i64 r)) w1 := by
    rintro r w1 rfl
    exact ⟨rfl, hb.mono (fun _ _ h => .inl h), hk.mono (fun _ _ h => h.elim)⟩
  rw [stepB, if_neg (by simp), if_neg (by simp), if_pos rfl]
  by_cases hn : n < 1 ∨ 3 < n
  · rw [if_pos hn]
    exact (bopen_size g n hn w).mono fun e w1 ⟨h1, h2⟩ => by subst h1; exact hd 2 w1 h2
  · rw [if_neg hn]
    obtain ⟨N, rfl⟩ := Int.eq_ofNat_of_zero_le (show 0 ≤ n by omega)
    simp only [Int.toNat_natCast]
    by_cases h2 : most < bs.length + N
    · rw [if_pos h2]
      exact (bopen_full ok g bs most ps N (by omega) (by omega) w hb h2).mono fun _ _ h => h.do_ hk
    · rw [if_neg h2]
      exact (bopen_ok ok g bs most ps N (by omega) (by omega) w hb (by omega) hps).mono fun _ _ h => h.do_ hk

theorem close_add (ok : Nat → Prop) (g : Nat) (bs : List UInt8) (most : Nat) (ps : List (Nat × Nat)) (n : Int) (x : Nat) (w w0 : World) (hb : Bld w ok g bs most ps) (hp : PsOk bs ps) (hps : ps.length ≤ 1073741824) (hk : Kp (fun _ => False) w0 w) (v : Value) (b : List UInt8) (m : Int) :
    Calls Try.prog 39 #[.pointer (some ⟨g, 0, none⟩)] w (DoP ok g most (stepB most bs ps ⟨3, n, m, x, v, b⟩) w0) := by
  rw [stepB, if_neg (by simp), if_neg (by simp), if_neg (by simp), if_pos rfl]
  rcases List.eq_nil_or_concat ps with rfl | ⟨qs, ⟨f, s⟩, rfl⟩
  · simp only [List.getLast?_nil]
    exact (bclose_none ok g bs most w hb).mono fun e w1 ⟨h1, h2⟩ => by subst h1 h2; exact ⟨rfl, hb.mono (fun _ _ h => .inl h), hk.mono (fun _ _ h => h.elim)⟩
  · rw [List.concat_eq_append] at hb hp hps ⊢
    simp only [List.getLast?_concat, List.dropLast_concat]
    obtain ⟨h1, h3, hsf, hf⟩ := hp (f, s) (by simp)
    simp only at h1 h3 hsf hf
    simp at hps
    by_cases hbig : 256 ^ s ≤ bs.length - f
    · rw [if_pos hbig]
      exact (bclose_long ok g bs most qs f s h1 h3 w hb hf hbig (by omega)).mono fun _ _ h => h.do_ hk
    · rw [if_neg hbig]
      exact (bclose_ok ok g bs most qs f s h1 h3 w hb hsf hf (by omega) (by omega)).mono fun _ _ h => h.do_ hk

set_option maxRecDepth 100000 in
set_option maxHeartbeats 1600000 in
theorem do_any (ok okx : Nat → Prop) (g : Nat) (bs : List UInt8) (most : Nat) (ps : List (Nat × Nat)) (a : AV) (w : World) (hb : Bld w ok g bs most ps) (hp : PsOk bs ps) (hps : ps.length ≤ 1073741824) (ha : a.Ok w okx) :
    Calls Try.prog 35 #[.pointer (some ⟨g, 0, none⟩), .agg #[.int .i64 a.k, .int .i64 a.s, .int .i64 a.n, .int .u64 a.x, a.v]] w (DoP ok g most (stepB most bs ps a) w) := by
  obtain ⟨k, s, n, x, v, b⟩ := a
  obtain ⟨hv, hx, hn⟩ := ha
  simp only at hv hx hn
  simp only
  obtain ⟨A, c, rfl, hlc, hr⟩ := id hv
  have hk : Kp (fun _ => False) w (w.alloc (.cells #[.int .i64 k, .int .i64 s, .int .i64 n, .int .u64 x, .slice A b.length c] 67)) := (Kp.refl _ _).alloc _
  have hv1 := hv.kp hk (fun _ _ h => h)
  have hb1 := hb.kp_new hk
  by_cases h0 : k = 0
  · subst h0
    have hC := number_add ok g bs most ps s x hx _ w hb1 hk (.slice A b.length c) b n
    generalize stepB most bs ps _ = st at hC ⊢
    have HC := Lib.hid hC
    clear hC
    go_enter Try.func35, Try.ntmps35
    go_wp2_with fail
    refine HC.out.mono ?_
    rintro e w1 ⟨rfl, h1, h2⟩
    have H1 := Lib.hid h1
    clear h1
    go_wp2_with fail
    go_ret
    exact ⟨rfl, H1.out, h2⟩
  by_cases h1 : k = 1
  · subst h1
    have e : stepB most bs ps ⟨1, s, n, x, .slice A b.length c, b⟩ = addB most bs ps b := rfl
    rw [e]
    clear e h0
    have hC := bytes_add ok okx g bs b most ps _ _ w hb1 hv1 hk
    generalize addB most bs ps _ = st at hC ⊢
    have HC := Lib.hid hC
    clear hC
    go_enter Try.func35, Try.ntmps35
    go_wp2_with fail
    refine HC.out.mono ?_
    rintro e w1 ⟨rfl, h1, h2⟩
    have H1 := Lib.hid h1
    clear h1
    go_wp2_with fail
    go_ret
    exact ⟨rfl, H1.out, h2⟩
  by_cases h2 : k = 2
  · subst h2
    clear h0 h1
    have hC := open_add ok g bs most ps s x _ w hb1 hps hk (.slice A b.length c) b n
    generalize stepB most bs ps _ = st at hC ⊢
    have HC := Lib.hid hC
    clear hC
    go_enter Try.func35, Try.ntmps35
    go_wp2_with fail
    refine HC.out.mono ?_
    rintro e w1 ⟨rfl, h1, h2⟩
    have H1 := Lib.hid h1
    clear h1
    go_wp2_with fail
    go_ret
    exact ⟨rfl, H1.out, h2⟩
  by_cases h3 : k = 3
  · subst h3
    clear h0 h1 h2
    have hC := close_add ok g bs most ps s x _ w hb1 hp hps hk (.slice A b.length c) b n
    generalize stepB most bs ps _ = st at hC ⊢
    have HC := Lib.hid hC
    clear hC
    go_enter Try.func35, Try.ntmps35
    go_wp2_with fail
    refine HC.out.mono ?_
    rintro e w1 ⟨rfl, h1, h2⟩
    have H1 := Lib.hid h1
    clear h1
    go_wp2_with fail
    go_ret
    exact ⟨rfl, H1.out, h2⟩
  by_cases h4 : k = 4
  · subst h4
    have e : stepB most bs ps ⟨4, s, n, x, .slice A b.length c, b⟩ = addB most bs ps (fiveL n) := rfl
    rw [e]
    clear e h0 h1 h2 h3
    have hC := fun (W : World) (vx : Value) (okv : Nat → Prop) (h1 : Bld W ok g bs most ps) (h2 : BR W okv vx (fiveL n)) (h3 : Kp (fun _ => False) w W) => bytes_add ok okv g bs (fiveL n) most ps vx W w h1 h2 h3
    generalize addB most bs ps _ = st at hC ⊢
    have HC := Lib.hid hC
    clear hC
    go_enter Try.func35, Try.ntmps35
    go_wp2_with fail
    refine (fives_any n hn _).mono ?_
    rintro e w1 ⟨A1, c1, rfl, hb2, hk2⟩
    have hk3 := hk.then_ hk2 (fun _ h => h.elim)
    have hb3 := hb1.kp_new hk2
    go_wp2_with fail
    refine (HC.out _ _ _ hb3 hb2 hk3).mono ?_
    rintro e w1 ⟨rfl, h1, h2⟩
    have H1 := Lib.hid h1
    clear h1
    go_wp2_with fail
    go_ret
    exact ⟨rfl, H1.out, h2⟩
  · have e : stepB most bs ps ⟨k, s, n, x, .slice A b.length c, b⟩ = (bs, ps, 0) := by
      rw [stepB, if_neg h0, if_neg h1, if_neg h2, if_neg h3, if_neg h4]
    rw [e]
    have hD := Lib.hid (hb.do_ (r := 0) hk)
    have g0 : (k == 0) = false := by simpa using h0
    have g1 : (k == 1) = false := by simpa using h1
    have g2 : (k == 2) = false := by simpa using h2
    have g3 : (k == 3) = false := by simpa using h3
    have g4 : (k == 4) = false := by simpa using h4
    clear e h0 h1 h2 h3 h4
    go_enter Try.func35, Try.ntmps35
    go_wp2_with fail
    go_ret
    exact hD.out
end Go.Proofs.Ytgndammlhljfjaa
