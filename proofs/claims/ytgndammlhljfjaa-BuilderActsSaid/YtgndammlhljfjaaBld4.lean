/-
  The builder: a part's end.
-/
import Derived.Test.YtgndammlhljfjaaBld
import Derived.Test.YtgndammlhljfjaaBld2
import Derived.StillTailTactics
import Derived.Laws.CopyOwn
namespace Go.Proofs.Ytgndammlhljfjaa
open Go.RowKit

theorem bclose_nil (w : World) : Calls Try.prog 39 #[.pointer none] w fun e w' => e = .returned (.int .i64 1) ∧ w = w' := by
  go_enter Try.func39, Try.ntmps39
  go_wp2_with fail
  go_ret
  exact ⟨rfl, rfl⟩

theorem bclose_none (ok : Nat → Prop) (g : Nat) (bs : List UInt8) (most : Nat) (w : World) (hb : Bld w ok g bs most []) :
    Calls Try.prog 39 #[.pointer (some ⟨g, 0, none⟩)] w fun e w' => e = .returned (.int .i64 17) ∧ w = w' := by
  obtain ⟨j0, j1, j2, vb, vo, j3, j4, j5⟩ := hb
  obtain ⟨Ao, co, rfl, hco⟩ := j4.shape
  have hc2 : w.cell? ⟨g, 2, none⟩ = some (.slice Ao 0 co) := j5.cell 2
  go_enter Try.func39, Try.ntmps39
  go_wp2_with fail
  go_ret
  exact ⟨rfl, rfl⟩

set_option maxHeartbeats 1600000 in
theorem bclose_long (ok : Nat → Prop) (g : Nat) (bs : List UInt8) (most : Nat) (qs : List (Nat × Nat)) (f s : Nat) (h1 : 1 ≤ s) (h3 : s ≤ 3) (w : World) (hb : Bld w ok g bs most (qs ++ [(f, s)])) (hf : f ≤ bs.length) (hbig : 256 ^ s ≤ bs.length - f) (hqs : qs.length ≤ 1073741824) :
    Calls Try.prog 39 #[.pointer (some ⟨g, 0, none⟩)] w (BSame ok g bs most (qs ++ [(f, s)]) 5 w) := by
  have hs : s = 1 ∨ s = 2 ∨ s = 3 := by omega
  have hP : ∀ w', Kp (fun _ => False) w w' → BSame ok g bs most (qs ++ [(f, s)]) 5 w (.returned (.int .i64 5)) w' := fun w' hk => ⟨rfl, hb.kp hk (fun _ _ h => h), hk⟩
  obtain ⟨j0, j1, j2, vb, vo, j3, j4, j5⟩ := hb
  obtain ⟨Ab, cb, rfl, hcb⟩ := j3.shape
  obtain ⟨Ao, co, rfl, hco⟩ := j4.shape
  obtain ⟨b, off, rfl, hbo, hcell⟩ := (show Rd w ok 2 Ao (qs ++ [(f, s)]).length ((qs ++ [(f, s)]).flatMap fun p => [.int .i64 p.1, .int .i64 p.2]) from j4.rd).row (fun _ => rfl) (k := qs.length) (by simp)
  have hc0 : w.cell? ⟨g, 0, none⟩ = some (.slice Ab bs.length cb) := j5.cell 0
  have hc2 : w.cell? ⟨g, 2, none⟩ = some (.slice (some ⟨b, off, none⟩) (qs ++ [(f, s)]).length co) := j5.cell 2
  have hp0 : w.cell? ⟨b, off + qs.length * 2, none⟩ = some (.int .i64 f) := by simpa using hcell 0 _ rfl
  have hp1 : w.cell? ⟨b, off + qs.length * 2 + 1, none⟩ = some (.int .i64 s) := by simpa using hcell 1 _ rfl
  rw [List.length_append, List.length_singleton] at hc2
  have HP := Lib.hid hP
  have hgl := j5.lt
  have hw1 : ∀ x : Int, Kp (fun _ => False) w (w.alloc (.cells #[.int .i64 f, .int .i64 x] 87)) := fun x => (Kp.refl _ _).alloc _
  have e0 : ∀ o, (w.alloc o).cell? ⟨g, 0, none⟩ = some (.slice Ab bs.length cb) := fun o => (j5.alloc o).cell 0
  have e1 : ∀ o, (w.alloc o).cell? ⟨g, 2, none⟩ = some (.slice (some ⟨b, off, none⟩) (qs.length + 1) co) := fun o => ((j5.alloc o).cell 2).trans ((j5.cell 2).symm.trans hc2)
  clear hP hcell h1 h3
  rcases hs with rfl | rfl | rfl
  all_goals simp at hbig
  all_goals
    go_enter Try.func39, Try.ntmps39
    go_wp2_with fail
    go_quiet (fail)
    go_wp2_with fail
    go_ret
    exact HP.out _ ((hw1 _).drewN _)

/-- copy over a stretch of a row that is known whole. -/
theorem wpList_copy_row {P : Program} {w : World} {ops : Array Oper} {rest : List Oper} {o : Oper} {a : Act} {Q : Exit → Act → World → Prop} (hgd : o.guard = none) (d s : Operand) (dT sT : TypeId)
    (ho : o.op = .call { callee := .builtin .copy, args := #[d, s], argTypes := #[dT, sT] }) (elem : TypeId) (hu : P.underlying dT = some (.slice elem)) (hsz : (P.info? elem).map (·.size) = some 1)
    (g off n dCap sCap : Nat) (ad : Addr) (hd : a.eval d = .slice (some ⟨g, off, none⟩) n dCap) (hs : a.eval s = .slice (some ad) n sCap)
    (cur : Array Value) (t : TypeId) (hg : w.heap[g]? = some (.cells cur t (0, 0))) (cs : List Value) (hn : cs.length = n) {ok : Nat → Prop} (hsrc : Rd w ok 1 (some ad) n cs) (hfit : off + n ≤ cur.size) (h1 : ∀ v ∈ cs, v.oneCell' = true)
    (h : ∀ w', w.grownBy w' (some g) → w'.heap[g]? = some (.cells (cur.toList.take off ++ (cs ++ cur.toList.drop (off + n))).toArray t (0, 0)) → wpList P ops Q rest (a.put o.dst (goInt n)) w') : wpList P ops Q (o :: rest) a w := by
  subst hn
  have hsrc' : ∀ j v, cs[j]? = some v → w.cell? (ad.add j) = some v := by
    intro j v hj
    obtain ⟨ad', e, _, _, hc⟩ := hsrc.2 (by have := (List.getElem?_eq_some_iff.1 hj).1; omega)
    injection e with e
    subst e
    exact hc j v hj
  refine wpList_copy_own hgd d s dT sT ho elem hu hsz g off cs.length dCap ad cs.length sCap hd hs cur t hg cs (by simp) hsrc' hfit h1 (h _ ⟨rfl, rfl, rfl, by simp [World.setRow], fun k hk hne => setRow_other w g k _ (fun e => hne (by rw [e]))⟩ ?_)
  exact setRow_heap w g _ _ t _ hg

theorem take_mid {l : List UInt8} {cur : List Value} {f s n : Nat} (hs : s ≤ f) (hf : f ≤ l.length) (x : List UInt8) (hx : x.length = s) (hc : cur.take l.length = bc l) (hn : n = l.length) :
    (cur.take (f - s) ++ (bc x ++ cur.drop (f - s + s))).take n = bc (l.take (f - s) ++ (x ++ l.drop f)) := by
  subst hn
  have hl : l.length ≤ cur.length := by have := congrArg List.length hc; rw [List.length_take, bc_length] at this; omega
  have h1 : (cur.take (f - s)) = bc (l.take (f - s)) := by
    rw [← bc_take, ← hc, List.take_take, Nat.min_eq_left (by omega)]
  have h2 : (cur.drop (f - s + s)).take (l.length - f) = bc (l.drop f) := by
    rw [show f - s + s = f from by omega, ← bc_drop, ← hc, List.drop_take]
  have h3 : (bc (l.take (f - s))).length = f - s := by rw [bc_length]; simp; omega
  rw [h1, bc_append, bc_append, ← h2]
  rw [List.take_append, h3, List.take_of_length_le (by rw [h3]; omega)]
  congr 1
  rw [List.take_append, bc_length, hx, List.take_of_length_le (by rw [bc_length]; omega)]
  congr 2
  omega

theorem bclose_done {ok : Nat → Prop} {g most f s cb co b' : Nat} {bs : List UInt8} {qs : List (Nat × Nat)} {w w0 w2 w3 : World} {cur : Array Value} {x : List UInt8} {Ao : Option Addr} (hs : s ≤ f) (hf : f ≤ bs.length) (hx : x.length = s)
    (h0 : ok g) (hlen : bs.length ≤ most) (h2 : most ≤ 1073741824) (hcb : bs.length ≤ cb) (hcm : cb ≤ maxLen) (hcz : cur.size = cb)
    (hb : ok b') (hcur : cur.toList.take bs.length = bc bs) (h3 : w.heap[b']? = some (.cells cur 5 (0, 0))) (h4 : Own w ok 87 2 (.slice Ao (qs.length + 1) co) (qs.length + 1) (pc (qs ++ [(f, s)]))) (h5 : Blk w g 82 #[.slice (some ⟨b', 0, none⟩) bs.length cb, .int .i64 most, .slice Ao (qs.length + 1) co])
    (hw0 : Kp (fun _ => False) w w0) (hgrow : w0.grownBy w2 (some b')) (hrow : w2.heap[b']? = some (.cells (cur.toList.take (f - s) ++ (bc x ++ cur.toList.drop (f - s + s))).toArray 5 (0, 0))) (hk3 : Kp (fun _ => False) w2 w3) :
    BStep ok g (bs.take (f - s) ++ (x ++ bs.drop f)) most qs w (.returned (.int .i64 0)) (w3.setCell ⟨g, 2, none⟩ (.slice Ao qs.length co)) := by
  have hk2 : Kp (fun i => i = b') w w2 := (hw0.mono (fun _ _ h => h.elim)).then_ ((Kp.refl (fun i => i = b') w0).grown hgrow (fun k hk => .inl (by injection hk with hk; exact hk.symm))) (fun i hi => .inl hi)
  have hbg : b' ≠ g := Blk.ne_ (t := 5) h3 h5 (by decide)
  have hob : (Value.slice Ao (qs.length + 1) co).ownBlock ≠ some b' := h4.block (t := 5) (g := b') h3 (by decide)
  have hlx : (bs.take (f - s) ++ (x ++ bs.drop f)).length = bs.length := by simp [hx]; omega
  have hpl : (pc (qs ++ [(f, s)])).take (qs.length * 2) = pc qs := by
    have : (pc qs).length = qs.length * 2 := by
      clear h4 h5 hob
      induction qs with
      | nil => rfl
      | cons a q ih => simp only [pc, List.flatMap_cons, List.length_append, List.length_cons] at ih ⊢; simp at ih ⊢; omega
    rw [← this]
    simp [pc]
  have hrow3 := (hk3.block b' (by have := Blk.lt (w := w2) (t := 5) hrow; exact this) (fun h => h)).trans hrow
  have hkS : Kp (fun i => i = g) w3 (w3.setCell ⟨g, 2, none⟩ (.slice Ao qs.length co)) := (Kp.refl (fun i => i = g) w3).setCell (p := ⟨g, 2, none⟩) (.inl rfl) _
  refine ⟨rfl, ⟨.inl h0, by rw [hlx]; exact hlen, h2, .slice (some ⟨b', 0, none⟩) bs.length cb, .slice Ao qs.length co, ?_, ?_, ?_⟩, ?_⟩
  · refine (Own.kp (ok := fun i => i = b') ⟨⟨by rw [bc_length, hlx, Nat.mul_one], .inr ⟨b', cb, _, by rw [hlx], Nat.zero_le _, hrow3, by rw [hlx]; exact hcb, hcm, ?_, ?_⟩⟩, fun k hk => ?_⟩ hkS (fun i hi h => hbg (hi.symm.trans h))).mono (fun i _ hi => .inl (hi ▸ hb))
    · have : cur.toList.length = cb := by simpa using hcz
      simp [bc_length, hx]
      omega
    · rw [Nat.mul_one, hlx]
      exact take_mid hs hf x hx hcur rfl
    · simpa [Value.ownBlock] using hk.symm
  · have h6 : Own w (fun i => ok i ∧ i ≠ g ∧ i ≠ b') 87 2 (.slice Ao (qs.length + 1) co) (qs.length + 1) (pc (qs ++ [(f, s)])) := by
      refine ⟨h4.1, fun k hk => ⟨h4.2 k hk, fun e => h4.block h5 (by decide) (e ▸ hk), fun e => hob (e ▸ hk)⟩⟩
    have h7 := (((h6.kp hk2 (fun i hi => hi.2.2)).kp hk3 (fun _ _ h => h)).kp hkS (fun i hi => hi.2.1)).mono (ok' := fun i => ok i ∨ w.heap.size ≤ i) (fun i _ hi => .inl hi.1)
    have h8 := h7.take (k := qs.length) (by omega)
    rw [hpl] at h8
    exact h8
  · rw [show (bs.take (f - s) ++ (x ++ bs.drop f)).length = bs.length from hlx] at *
    exact ((h5.kp hk2 (fun h => hbg h.symm)).kp hk3 (fun h => h)).set_ 2 _
  · exact ((hk2.mono (fun i _ hi => (hi ▸ hb : ok i))).then_ hk3 (fun _ h => h.elim)).then_ hkS (fun i hi => .inl (hi ▸ h0))

set_option maxHeartbeats 1600000 in
theorem bclose_ok (ok : Nat → Prop) (g : Nat) (bs : List UInt8) (most : Nat) (qs : List (Nat × Nat)) (f s : Nat) (h1 : 1 ≤ s) (h3 : s ≤ 3) (w : World) (hb : Bld w ok g bs most (qs ++ [(f, s)])) (hsf : s ≤ f) (hf : f ≤ bs.length) (hfit : bs.length - f < 256 ^ s) (hqs : qs.length ≤ 1073741824) :
    Calls Try.prog 39 #[.pointer (some ⟨g, 0, none⟩)] w (BStep ok g (bs.take (f - s) ++ (beB s (bs.length - f) ++ bs.drop f)) most qs w) := by
  have hs : s = 1 ∨ s = 2 ∨ s = 3 := by omega
  obtain ⟨j0, j1, j2, vb, vo, j3, j4, j5⟩ := hb
  obtain ⟨Ao, co, rfl, hco⟩ := j4.shape
  obtain ⟨⟨_, hrow⟩, hobk⟩ := id j3
  rcases hrow with ⟨rfl, hz⟩ | ⟨b', cb, cur, rfl, _, hh, hcb, hcm, hcz, htk⟩
  · omega
  rw [Nat.mul_one] at hcz htk
  rw [List.length_append, List.length_singleton] at j4
  obtain ⟨b, off, rfl, hbo, hcell⟩ := (show Rd w ok 2 Ao (qs ++ [(f, s)]).length ((qs ++ [(f, s)]).flatMap fun p => [.int .i64 p.1, .int .i64 p.2]) from by rw [List.length_append, List.length_singleton]; exact j4.rd).row (fun _ => rfl) (k := qs.length) (by simp)
  have hc0 : w.cell? ⟨g, 0, none⟩ = some (.slice (some ⟨b', 0, none⟩) bs.length cb) := j5.cell 0
  have hc2 : w.cell? ⟨g, 2, none⟩ = some (.slice (some ⟨b, off, none⟩) (qs.length + 1) co) := by have := j5.cell 2; rw [List.length_append, List.length_singleton] at this; exact this
  have hp0 : w.cell? ⟨b, off + qs.length * 2, none⟩ = some (.int .i64 f) := by simpa using hcell 0 _ rfl
  have hp1 : w.cell? ⟨b, off + qs.length * 2 + 1, none⟩ = some (.int .i64 s) := by simpa using hcell 1 _ rfl
  have hgl := j5.lt
  have e0 : ∀ o, (w.alloc o).cell? ⟨g, 0, none⟩ = some (.slice (some ⟨b', 0, none⟩) bs.length cb) := fun o => (j5.alloc o).cell 0
  have e1 : ∀ o, (w.alloc o).cell? ⟨g, 2, none⟩ = some (.slice (some ⟨b, off, none⟩) (qs.length + 1) co) := fun o => ((j5.alloc o).cell 2).trans ((j5.cell 2).symm.trans hc2)
  obtain ⟨y0, y1, y2, y3, y4, y5, y6, y7, hy⟩ : ∃ y0 y1 y2 y3 y4 y5 y6 y7 : Int, c8 ((bs.length - f : Nat) : Int) = #[.int .u8 y0, .int .u8 y1, .int .u8 y2, .int .u8 y3, .int .u8 y4, .int .u8 y5, .int .u8 y6, .int .u8 y7] := ⟨_, _, _, _, _, _, _, _, rfl⟩
  have hlay : ∀ w : World, Calls Try.prog 43 #[.int .u64 ((bs.length : Int) - f)] w fun e w' => e = .returned (.agg #[.int .u8 y0, .int .u8 y1, .int .u8 y2, .int .u8 y3, .int .u8 y4, .int .u8 y5, .int .u8 y6, .int .u8 y7]) ∧ Kp (fun _ => False) w w' := by
    intro w
    have := lay_any ((bs.length - f : Nat) : Int) (by omega) (by omega) w
    rw [hy] at this
    rwa [show (((bs.length - f : Nat) : Int)) = (bs.length : Int) - f from by omega] at this
  have hq : ∀ w1 : World, s ≤ 8 → Rd (w1.alloc (.cells #[.int .u8 y0, .int .u8 y1, .int .u8 y2, .int .u8 y3, .int .u8 y4, .int .u8 y5, .int .u8 y6, .int .u8 y7] 83)) (· = w1.heap.size) 1 (some ⟨w1.heap.size, 8 - s, none⟩) s (bc (beB s (bs.length - f))) := by
    intro w1 hn8
    have h1 := BR.blk_drop (k := 8 - s) (n := s) (l := beB 8 (bs.length - f)) (Blk.new w1 83 (bc (beB 8 (bs.length - f))).toArray) (by rw [beB_length]; omega)
    rw [show beB 8 (bs.length - f) = beB (8 - s + s) (bs.length - f) from by congr 1; omega, beB_drop, ← show beB 8 (bs.length - f) = beB (8 - s + s) (bs.length - f) from by congr 1; omega, ← c8_eq _ (by omega), hy] at h1
    obtain ⟨A, c, e, _, hr⟩ := h1
    rw [beB_length] at e hr
    injection e with e
    rw [← e] at hr
    exact hr
  have hfac : ∀ (q : Nat) (w1 : World), Kp (fun _ => False) ((w.alloc (.cells #[.int .i64 f, .int .i64 s] 87)).drewN q) w1 →
      (fun W : World => Kp (fun _ => False) w W ∧ W.cell? ⟨g, 0, none⟩ = some (.slice (some ⟨b', 0, none⟩) bs.length cb) ∧ W.cell? ⟨w.heap.size, 0, none⟩ = some (.int .i64 f) ∧ W.cell? ⟨w.heap.size, 1, none⟩ = some (.int .i64 s) ∧
        W.cell? ⟨g, 2, none⟩ = some (.slice (some ⟨b, off, none⟩) (qs.length + 1) co) ∧ W.frozen? ⟨g, 2, none⟩ = false)
        (w1.alloc (.cells #[.int .u8 y0, .int .u8 y1, .int .u8 y2, .int .u8 y3, .int .u8 y4, .int .u8 y5, .int .u8 y6, .int .u8 y7] 83)) := by
    intro q w1 hk1
    have hz2 : Kp (fun _ => False) w (w1.alloc (.cells #[.int .u8 y0, .int .u8 y1, .int .u8 y2, .int .u8 y3, .int .u8 y4, .int .u8 y5, .int .u8 y6, .int .u8 y7] 83)) :=
      ((((Kp.refl (fun _ => False) w).alloc _).drewN q).then_ hk1 (fun _ h => h.elim)).alloc _
    have hB := (((Blk.new w 87 #[.int .i64 f, .int .i64 s]).drewN q).kp hk1 (fun h => h)).alloc (.cells #[.int .u8 y0, .int .u8 y1, .int .u8 y2, .int .u8 y3, .int .u8 y4, .int .u8 y5, .int .u8 y6, .int .u8 y7] 83)
    have hG := j5.kp hz2 (fun h => h)
    exact ⟨hz2, hG.cell 0, hB.cell 0, hB.cell 1, by rw [hG.cell 2]; simp, hG.frozen 2⟩
  have hbg : (some b' : Option Nat) ≠ some g := fun e => by injection e with e; exact Blk.ne_ (t := 5) hh j5 (by decide) e
  have hco' : qs.length ≤ co := by simp at hco; omega
  have HFAC := Lib.hid hfac
  clear hfac
  have HQ := Lib.hid hq
  have HL := Lib.hid hlay
  have HH := Lib.hid hh
  have HT := Lib.hid htk
  clear hlay hq hy hcell h1 h3 hh htk
  rcases hs with rfl | rfl | rfl
  · simp at hfit
    go_enter Try.func39, Try.ntmps39
    go_wp2_with fail
    go_quiet (fail)
    go_wp2_with (go_at_call 43; ((with_reducible refine (HL.out _).mono ?_); rintro e w1 ⟨rfl, hk1⟩))
    obtain ⟨hz2, hd0, hd1, hd2, hd3, hf2⟩ := HFAC.out _ _ hk1
    have hsrc := HQ.out w1 (by omega)
    generalize hW : w1.alloc (.cells #[.int .u8 y0, .int .u8 y1, .int .u8 y2, .int .u8 y3, .int .u8 y4, .int .u8 y5, .int .u8 y6, .int .u8 y7] 83) = W at hz2 hd0 hd1 hd2 hd3 hf2 hsrc
    have hwl : w.heap.size ≤ w1.heap.size := by have := hk1.size; simp at this; omega
    clear hW
    have hw1 : IntKind.i64.wrap ((f : Int) - 1) = ((f - 1 : Nat) : Int) := by rw [IntKind.wrap_i64]; omega
    have hw2 : f ≤ cb := by omega
    have hw3 : ¬ cb = f - 1 := by omega
    have hw4 : ((f - 1 : Nat) : Int) ≤ f := by omega
    have hw5 : f - (f - 1) = 1 := by omega
    have hw6 : f - 1 ≤ f := by omega
    have hw7 : IntKind.i64.wrap 7 = 7 := by rw [IntKind.wrap_i64]; omega
    have hsrc' := hsrc.kp ((Kp.refl (fun _ => False) W).drew) (fun _ _ h => h)
    have hzd := hz2.drew
    have hrow := (hzd.block b' (Blk.lt (w := w) (t := 5) HH.out) (fun h => h)).trans HH.out
    have HR := Lib.hid hrow
    clear hrow
    have hd3D : W.drew.cell? ⟨g, 2, none⟩ = some (.slice (some ⟨b, off, none⟩) (qs.length + 1) co) := hd3
    have hf2D : W.drew.frozen? ⟨g, 2, none⟩ = false := hf2
    go_still_tail 16, (by kernel_rfl)
    change wpList _ _ _ _ _ W.drew
    generalize W.drew = WD at *
    go_wp2_with (refine wpList_copy_row rfl (.tmp 52) (.tmp 56) _ _ rfl 5 Try.underlying22 (by kernel_rfl) b' (f - 1) 1 _ _ ⟨w1.heap.size, 8 - 1, none⟩ rfl rfl cur 5 HR.out (bc (beB 1 (bs.length - f))) (by rw [bc_length, beB_length]) hsrc' (by omega) (bc_one _) ?_; intro w2 hgrow hrow2; have hR2 := Lib.hid hrow2; clear hrow2; have hd3' := grown_cell hgrow (p := ⟨g, 2, none⟩) hd3D hbg; have hf2' := grown_frozen hgrow (p := ⟨g, 2, none⟩) hd3D hf2D hbg)
    go_ret
    exact bclose_done (by omega) hf (beB_length _ _) j0 j1 j2 hcb hcm hcz (hobk b' rfl) HT.out HH.out j4 (by simpa using j5) hzd hgrow hR2.out (Kp.refl _ _)
  · simp at hfit
    go_enter Try.func39, Try.ntmps39
    go_wp2_with fail
    go_quiet (fail)
    go_wp2_with (go_at_call 43; ((with_reducible refine (HL.out _).mono ?_); rintro e w1 ⟨rfl, hk1⟩))
    obtain ⟨hz2, hd0, hd1, hd2, hd3, hf2⟩ := HFAC.out _ _ hk1
    have hsrc := HQ.out w1 (by omega)
    generalize hW : w1.alloc (.cells #[.int .u8 y0, .int .u8 y1, .int .u8 y2, .int .u8 y3, .int .u8 y4, .int .u8 y5, .int .u8 y6, .int .u8 y7] 83) = W at hz2 hd0 hd1 hd2 hd3 hf2 hsrc
    have hwl : w.heap.size ≤ w1.heap.size := by have := hk1.size; simp at this; omega
    clear hW
    have hw1 : IntKind.i64.wrap ((f : Int) - 2) = ((f - 2 : Nat) : Int) := by rw [IntKind.wrap_i64]; omega
    have hw2 : f ≤ cb := by omega
    have hw3 : ¬ cb = f - 2 := by omega
    have hw4 : ((f - 2 : Nat) : Int) ≤ f := by omega
    have hw5 : f - (f - 2) = 2 := by omega
    have hw6 : f - 2 ≤ f := by omega
    have hw7 : IntKind.i64.wrap 6 = 6 := by rw [IntKind.wrap_i64]; omega
    have hsrc' := hsrc.kp ((Kp.refl (fun _ => False) W).drew) (fun _ _ h => h)
    have hzd := hz2.drew
    have hrow := (hzd.block b' (Blk.lt (w := w) (t := 5) HH.out) (fun h => h)).trans HH.out
    have HR := Lib.hid hrow
    clear hrow
    have hd3D : W.drew.cell? ⟨g, 2, none⟩ = some (.slice (some ⟨b, off, none⟩) (qs.length + 1) co) := hd3
    have hf2D : W.drew.frozen? ⟨g, 2, none⟩ = false := hf2
    go_still_tail 16, (by kernel_rfl)
    change wpList _ _ _ _ _ W.drew
    generalize W.drew = WD at *
    go_wp2_with (refine wpList_copy_row rfl (.tmp 52) (.tmp 56) _ _ rfl 5 Try.underlying22 (by kernel_rfl) b' (f - 2) 2 _ _ ⟨w1.heap.size, 8 - 2, none⟩ rfl rfl cur 5 HR.out (bc (beB 2 (bs.length - f))) (by rw [bc_length, beB_length]) hsrc' (by omega) (bc_one _) ?_; intro w2 hgrow hrow2; have hR2 := Lib.hid hrow2; clear hrow2; have hd3' := grown_cell hgrow (p := ⟨g, 2, none⟩) hd3D hbg; have hf2' := grown_frozen hgrow (p := ⟨g, 2, none⟩) hd3D hf2D hbg)
    go_ret
    exact bclose_done (by omega) hf (beB_length _ _) j0 j1 j2 hcb hcm hcz (hobk b' rfl) HT.out HH.out j4 (by simpa using j5) hzd hgrow hR2.out (Kp.refl _ _)
  · simp at hfit
    go_enter Try.func39, Try.ntmps39
    go_wp2_with fail
    go_quiet (fail)
    go_wp2_with (go_at_call 43; ((with_reducible refine (HL.out _).mono ?_); rintro e w1 ⟨rfl, hk1⟩))
    obtain ⟨hz2, hd0, hd1, hd2, hd3, hf2⟩ := HFAC.out _ _ hk1
    have hsrc := HQ.out w1 (by omega)
    generalize hW : w1.alloc (.cells #[.int .u8 y0, .int .u8 y1, .int .u8 y2, .int .u8 y3, .int .u8 y4, .int .u8 y5, .int .u8 y6, .int .u8 y7] 83) = W at hz2 hd0 hd1 hd2 hd3 hf2 hsrc
    have hwl : w.heap.size ≤ w1.heap.size := by have := hk1.size; simp at this; omega
    clear hW
    have hw1 : IntKind.i64.wrap ((f : Int) - 3) = ((f - 3 : Nat) : Int) := by rw [IntKind.wrap_i64]; omega
    have hw2 : f ≤ cb := by omega
    have hw3 : ¬ cb = f - 3 := by omega
    have hw4 : ((f - 3 : Nat) : Int) ≤ f := by omega
    have hw5 : f - (f - 3) = 3 := by omega
    have hw6 : f - 3 ≤ f := by omega
    have hw7 : IntKind.i64.wrap 5 = 5 := by rw [IntKind.wrap_i64]; omega
    have hsrc' := hsrc.kp ((Kp.refl (fun _ => False) W).drew) (fun _ _ h => h)
    have hzd := hz2.drew
    have hrow := (hzd.block b' (Blk.lt (w := w) (t := 5) HH.out) (fun h => h)).trans HH.out
    have HR := Lib.hid hrow
    clear hrow
    have hd3D : W.drew.cell? ⟨g, 2, none⟩ = some (.slice (some ⟨b, off, none⟩) (qs.length + 1) co) := hd3
    have hf2D : W.drew.frozen? ⟨g, 2, none⟩ = false := hf2
    go_still_tail 16, (by kernel_rfl)
    change wpList _ _ _ _ _ W.drew
    generalize W.drew = WD at *
    go_wp2_with (refine wpList_copy_row rfl (.tmp 52) (.tmp 56) _ _ rfl 5 Try.underlying22 (by kernel_rfl) b' (f - 3) 3 _ _ ⟨w1.heap.size, 8 - 3, none⟩ rfl rfl cur 5 HR.out (bc (beB 3 (bs.length - f))) (by rw [bc_length, beB_length]) hsrc' (by omega) (bc_one _) ?_; intro w2 hgrow hrow2; have hR2 := Lib.hid hrow2; clear hrow2; have hd3' := grown_cell hgrow (p := ⟨g, 2, none⟩) hd3D hbg; have hf2' := grown_frozen hgrow (p := ⟨g, 2, none⟩) hd3D hf2D hbg)
    go_ret
    exact bclose_done (by omega) hf (beB_length _ _) j0 j1 j2 hcb hcm hcz (hobk b' rfl) HT.out HH.out j4 (by simpa using j5) hzd hgrow hR2.out (Kp.refl _ _)

end Go.Proofs.Ytgndammlhljfjaa
