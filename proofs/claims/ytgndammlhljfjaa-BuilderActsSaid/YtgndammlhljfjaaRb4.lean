/-
  The document's builder: Bytes that are too many, Open, Number.
-/
import Derived.Test.YtgndammlhljfjaaRb3
import Derived.Deep.CutRange
namespace Go.Proofs.Ytgndammlhljfjaa
open Go.RowKit

set_option maxRecDepth 100000 in
set_option maxHeartbeats 1600000 in
theorem rbb_full (ok okx : Nat → Prop) (h most : Nat) (parts : List (List UInt8)) (x : List UInt8) (sizes : List Nat) (vx : Value) (w : World) (hb : RB w ok h most parts sizes) (hx : BR w okx vx x) (hm : most ≤ 1073741824) (hT : sumP parts + sizes.sum ≤ most) (hl : most < sumP parts + sizes.sum + x.length) (hpl : parts.length ≤ 1073741824) (hsl : sizes.length ≤ 1073741824) :
    Calls Try.prog 46 #[.pointer (some ⟨h, 0, none⟩), vx] w fun e w' => e = .returned (.int .i64 5) ∧ w = w' := by
  have hlen := Lib.hid (rblen ok h most parts sizes w hb (by omega) (by omega) (by omega))
  obtain ⟨h0, vp, vs, pvs, h1, h2, h3, h4, h5⟩ := hb
  obtain ⟨Ax, cx, rfl, hcx, hrx⟩ := hx
  have hc0 : w.cell? ⟨h, 0, none⟩ = some (.int .i64 most) := h1.cell 0
  generalize sumP parts + sizes.sum = T at hT hl hlen
  have hle : decide ((most : Int) - (T : Int) < (x.length : Int)) = true := by simp; omega
  clear h1 h2 h3 h4 h5 hrx
  go_enter Try.func46, Try.ntmps46
  go_wp2_with (go_at_call 37; ((with_reducible refine hlen.out.mono ?_); rintro e w' ⟨rfl, rfl⟩))
  go_ret
  exact ⟨rfl, rfl⟩

theorem sl_info : (Try.prog.info? 22).map (fun i => (i.zero, i.size, i.bytes)) = some (some (.slice none 0 0), 1, 24) := by kernel_rfl
theorem int_info : (Try.prog.info? 3).map (fun i => (i.zero, i.size, i.bytes)) = some (some (.int .i64 0), 1, 8) := by kernel_rfl

/-- append of one element to a row of the call's own; which block turned. -/
theorem app_row1 {w : World} {ops : Array Oper} {rest : List Oper} {o : Oper} {ac : Go.Act} {Q : Exit → Go.Act → World → Prop} (hgd : o.guard = none) (s x : Operand) (t e : TypeId) (z : Value) (bytes : Nat)
    (ho : o.op = .call { callee := .builtin .append, args := #[s, x], argTypes := #[t, t] }) (hu : Try.prog.underlying t = some (.slice e)) (hinf : (Try.prog.info? e).map (fun i => (i.zero, i.size, i.bytes)) = some (some z, 1, bytes)) (hz1 : z.cells.size = 1) (hby : bytes ≤ 1000)
    (ok : Nat → Prop) (A : Option Addr) (n c : Nat) (xs : List Value) (hs : ac.eval s = .slice A n c) (hown : Own w ok e 1 (.slice A n c) n xs)
    (okx : Nat → Prop) (G : Addr) (u : Value) (hone : u.oneCell' = true) (hx : ac.eval x = .slice (some G) 1 1) (hr : Rd w okx 1 (some G) 1 [u]) (k : Nat) (hk : n + 1 = k) (hk2 : k ≤ 100000000000)
    (h : ∀ A' c' w', Own w' (fun i => ok i ∨ w.heap.size ≤ i) e 1 (.slice A' k c') k (xs ++ [u]) → Kp (fun i => (Value.slice A n c).ownBlock = some i) w w' → ((Value.slice A' k c').ownBlock = (Value.slice A n c).ownBlock ∨ (Value.slice A' k c').ownBlock = some w.heap.size) → wpList Try.prog ops Q rest (ac.put o.dst (.slice A' k c')) w') : wpList Try.prog ops Q (o :: rest) ac w := by
  obtain ⟨i0, hi0, hz0, hz2, hz3⟩ := info_parts hinf
  have hb2 : (n + 1) * bytes ≤ 140737488355328 := by
    have := Nat.mul_le_mul (show n + 1 ≤ 100000000000 by omega) hby
    omega
  refine wpList_append_any w hgd s x t ho 0 e i0 z 1 bytes hu hi0 hz0 hz2 hz3 hz1 (by omega) (.slice A n c) n xs hs hown.1 okx (some G) 1 1 [u] hx hr (by simpa using hone) (by simp only [maxLen]; omega) hb2 (Nat.zero_le _) ?_
  intro v' w' h1 h2 h3
  rw [hk] at h1
  have hk' : Kp (fun i => (Value.slice A n c).ownBlock = some i) w w' := (Kp.refl _ _).grown h2 (fun j hj => .inl hj)
  have ho' : Own w' (fun i => ok i ∨ w.heap.size ≤ i) e 1 v' k (xs ++ [u]) := ⟨h1, fun j hj => by
    rcases h3 with e | e
    · exact .inl (hown.2 j (e ▸ hj))
    · rw [e] at hj
      injection hj with hj
      exact .inr (by omega)⟩
  obtain ⟨A', c', e, _⟩ := ho'.shape
  subst e
  exact h A' c' w' ho' hk' h3

/-- A part more. -/
theorem rb_pushP {w w1 w2 : World} {ok : Nat → Prop} {h most n c c' : Nat} {A A' : Option Addr} {parts : List (List UInt8)} {sizes : List Nat} {vs : Value} {pvs : List Value} (h0 : ok h)
    (h1 : Blk w h 72 #[.int .i64 most, .slice A n c, vs]) (h2 : pvs.length = parts.length) (h3 : Own w ok 22 1 (.slice A n c) parts.length pvs) (h4 : Own w ok 3 1 vs sizes.length (nc sizes))
    (h5 : ∀ i (hi : i < parts.length) (hi' : i < pvs.length), BR w (RBo ok h (.slice A n c) vs) pvs[i] parts[i])
    (hk : Kp (fun _ => False) w w1) (o : Own w2 (fun i => ok i ∨ w1.heap.size ≤ i) 22 1 (.slice A' (n + 1) c') (n + 1) (pvs ++ [.slice none 0 0])) (q : Kp (fun i => (Value.slice A n c).ownBlock = some i) w1 w2)
    (hn : parts.length = n) (hat : (Value.slice A' (n + 1) c').ownBlock = (Value.slice A n c).ownBlock ∨ (Value.slice A' (n + 1) c').ownBlock = some w1.heap.size) :
    RB (w2.setCell ⟨h, 1, none⟩ (.slice A' (n + 1) c')) (fun i => ok i ∨ w.heap.size ≤ i) h most (parts ++ [[]]) sizes ∧ Kp ok w (w2.setCell ⟨h, 1, none⟩ (.slice A' (n + 1) c')) := by
  have hs : Kp (fun i => i = h) w2 (w2.setCell ⟨h, 1, none⟩ (.slice A' (n + 1) c')) := (Kp.refl (fun i => i = h) w2).setCell (p := ⟨h, 1, none⟩) (.inl rfl) _
  have hhl := h1.lt
  have hz := hk.size
  have hhp := h3.block h1 (by decide)
  have hhs := h4.block h1 (by decide)
  have hg1 := h1.kp hk (fun h => h)
  have hg2 := hg1.kp q (fun e => hhp e)
  have hA' : (Value.slice A' (n + 1) c').ownBlock ≠ some h := by
    rcases hat with e | e
    · rw [e]; exact hhp
    · rw [e]; intro e; injection e with e; omega
  refine ⟨⟨.inl h0, .slice A' (n + 1) c', vs, pvs ++ [.slice none 0 0], hg2.set_ 1 _, by simp [h2], ?_, ?_, fun i hi hi' => ?_⟩, ((hk.mono (fun _ _ h => h.elim)).then_ q (fun i hi => .inl (h3.2 i hi))).then_ hs (fun i hi => .inl (hi ▸ h0))⟩
  · rw [show (parts ++ [([] : List UInt8)]).length = n + 1 by simp [hn]]
    have o' : Own w2 (fun i => (ok i ∨ w1.heap.size ≤ i) ∧ i ≠ h) 22 1 (.slice A' (n + 1) c') (n + 1) (pvs ++ [.slice none 0 0]) := ⟨o.1, fun k hk => ⟨o.2 k hk, fun e => hA' (e ▸ hk)⟩⟩
    exact (o'.kp hs (fun i hi e => hi.2 e)).mono (fun i _ hi => hi.1.imp id (fun h => by omega))
  · have h4' : Own w (fun i => vs.ownBlock = some i) 3 1 vs sizes.length (nc sizes) := ⟨h4.1, fun k hk => hk⟩
    have h6 := ((h4'.kp hk (fun _ _ h => h)).kp q (fun i hi e => h3.apart h4 (by decide) hi e)).kp hs (fun i hi e => hhs (e ▸ hi))
    exact ⟨h6.1, fun k hk => .inl (h4.2 k hk)⟩
  · simp only [List.length_append, List.length_singleton] at hi hi'
    by_cases hlt : i < parts.length
    · have hq := (h5 i hlt (by omega)).ltok
      rw [List.getElem_append_left hlt, List.getElem_append_left (by omega)]
      refine (((hq.kp hk (fun _ _ h => h)).kp q (fun j hj e => hj.1.2.2.1 e)).kp hs (fun j hj e => hj.1.2.1 e)).mono (fun j hj => ⟨.inl hj.1.1, hj.1.2.1, ?_, hj.1.2.2.2⟩)
      rcases hat with e | e
      · rw [e]; exact hj.1.2.2.1
      · rw [e]; intro e; injection e with e; have := hj.2; omega
    · obtain rfl : i = parts.length := by omega
      rw [List.getElem_append_right (Nat.le_refl _), List.getElem_append_right (by omega)]
      simp only [Nat.sub_self, List.getElem_cons_zero, h2]
      exact BR.nil

/-- A size more. -/
theorem rb_pushS {w w1 w2 : World} {ok : Nat → Prop} {h most n c c' x : Nat} {A A' : Option Addr} {parts : List (List UInt8)} {sizes : List Nat} {vp : Value} {pvs : List Value} (h0 : ok h)
    (h1 : Blk w h 72 #[.int .i64 most, vp, .slice A n c]) (h2 : pvs.length = parts.length) (h3 : Own w ok 22 1 vp parts.length pvs) (h4 : Own w ok 3 1 (.slice A n c) sizes.length (nc sizes))
    (h5 : ∀ i (hi : i < parts.length) (hi' : i < pvs.length), BR w (RBo ok h vp (.slice A n c)) pvs[i] parts[i])
    (hk : Kp (fun _ => False) w w1) (o : Own w2 (fun i => ok i ∨ w1.heap.size ≤ i) 3 1 (.slice A' (n + 1) c') (n + 1) (nc sizes ++ [.int .i64 x])) (q : Kp (fun i => (Value.slice A n c).ownBlock = some i) w1 w2)
    (hn : sizes.length = n) (hat : (Value.slice A' (n + 1) c').ownBlock = (Value.slice A n c).ownBlock ∨ (Value.slice A' (n + 1) c').ownBlock = some w1.heap.size) :
    RB (w2.setCell ⟨h, 2, none⟩ (.slice A' (n + 1) c')) (fun i => ok i ∨ w.heap.size ≤ i) h most parts (sizes ++ [x]) ∧ Kp ok w (w2.setCell ⟨h, 2, none⟩ (.slice A' (n + 1) c')) := by
  have hs : Kp (fun i => i = h) w2 (w2.setCell ⟨h, 2, none⟩ (.slice A' (n + 1) c')) := (Kp.refl (fun i => i = h) w2).setCell (p := ⟨h, 2, none⟩) (.inl rfl) _
  have hhl := h1.lt
  have hz := hk.size
  have hhp := h3.block h1 (by decide)
  have hhs := h4.block h1 (by decide)
  have hg1 := h1.kp hk (fun h => h)
  have hg2 := hg1.kp q (fun e => hhs e)
  have hA' : (Value.slice A' (n + 1) c').ownBlock ≠ some h := by
    rcases hat with e | e
    · rw [e]; exact hhs
    · rw [e]; intro e; injection e with e; omega
  refine ⟨⟨.inl h0, vp, .slice A' (n + 1) c', pvs, hg2.set_ 2 _, h2, ?_, ?_, fun i hi hi' => ?_⟩, ((hk.mono (fun _ _ h => h.elim)).then_ q (fun i hi => .inl (h4.2 i hi))).then_ hs (fun i hi => .inl (hi ▸ h0))⟩
  · have h4' : Own w (fun i => vp.ownBlock = some i) 22 1 vp parts.length pvs := ⟨h3.1, fun k hk => hk⟩
    have h6 := ((h4'.kp hk (fun _ _ h => h)).kp q (fun i hi e => h4.apart h3 (by decide) hi e)).kp hs (fun i hi e => hhp (e ▸ hi))
    exact ⟨h6.1, fun k hk => .inl (h3.2 k hk)⟩
  · rw [show (sizes ++ [x]).length = n + 1 by simp [hn], show nc (sizes ++ [x]) = nc sizes ++ [.int .i64 x] by simp [nc, ic]]
    have o' : Own w2 (fun i => (ok i ∨ w1.heap.size ≤ i) ∧ i ≠ h) 3 1 (.slice A' (n + 1) c') (n + 1) (nc sizes ++ [.int .i64 x]) := ⟨o.1, fun k hk => ⟨o.2 k hk, fun e => hA' (e ▸ hk)⟩⟩
    exact (o'.kp hs (fun i hi e => hi.2 e)).mono (fun i _ hi => hi.1.imp id (fun h => by omega))
  · have hq := (h5 i hi hi').ltok
    refine (((hq.kp hk (fun _ _ h => h)).kp q (fun j hj e => hj.1.2.2.2 e)).kp hs (fun j hj e => hj.1.2.1 e)).mono (fun j hj => ⟨.inl hj.1.1, hj.1.2.1, hj.1.2.2.1, ?_⟩)
    rcases hat with e | e
    · rw [e]; exact hj.1.2.2.2
    · rw [e]; intro e; injection e with e; have := hj.2; omega

theorem rd_one (w : World) (t : TypeId) (u : Value) : Rd (w.alloc (.cells #[u] t)) (· = w.heap.size) 1 (some ⟨w.heap.size, 0, none⟩) 1 [u] := by
  refine ⟨rfl, fun _ => ⟨_, rfl, rfl, rfl, fun j v hv => ?_⟩⟩
  have h1 := (Blk.new w t #[u]).cell j
  have e : (⟨w.heap.size, 0, none⟩ : Addr).add j = ⟨w.heap.size, j, none⟩ := by
    unfold Addr.add
    split
    · next h0 => subst h0; rfl
    · simp
  rw [e, h1]
  simpa using hv

theorem rbopen_size (h : Nat) (n : Int) (w : World) (hn : n < 1 ∨ 3 < n) : Calls Try.prog 47 #[.pointer (some ⟨h, 0, none⟩), .int .i64 n] w fun e w' => e = .returned (.int .i64 2) ∧ w = w' := by
  rcases hn with hn | hn
  all_goals
    go_enter Try.func47, Try.ntmps47
    go_wp2_with fail
    go_ret
    exact ⟨rfl, rfl⟩

set_option maxRecDepth 100000 in
set_option maxHeartbeats 1600000 in
theorem rbopen_full (ok : Nat → Prop) (h most : Nat) (parts : List (List UInt8)) (sizes : List Nat) (n : Nat) (h1 : 1 ≤ n) (h3 : n ≤ 3) (w : World) (hb : RB w ok h most parts sizes) (hm : most ≤ 1073741824) (hT : sumP parts + sizes.sum ≤ most) (hl : most < sumP parts + sizes.sum + n) (hpl : parts.length ≤ 1073741824) (hsl : sizes.length ≤ 1073741824) :
    Calls Try.prog 47 #[.pointer (some ⟨h, 0, none⟩), .int .i64 n] w fun e w' => e = .returned (.int .i64 5) ∧ w = w' := by
  have hlen := Lib.hid (rblen ok h most parts sizes w hb (by omega) (by omega) (by omega))
  obtain ⟨h0, vp, vs, pvs, h1', h2, h3', h4, h5⟩ := hb
  have hc0 : w.cell? ⟨h, 0, none⟩ = some (.int .i64 most) := h1'.cell 0
  generalize sumP parts + sizes.sum = T at hT hl hlen
  have hle : decide ((most : Int) - (T : Int) < (n : Int)) = true := by simp; omega
  clear h1' h2 h3' h4 h5
  go_enter Try.func47, Try.ntmps47
  go_wp2_with (go_at_call 37; ((with_reducible refine hlen.out.mono ?_); rintro e w' ⟨rfl, rfl⟩))
  go_ret
  exact ⟨rfl, rfl⟩

set_option maxRecDepth 100000 in
set_option maxHeartbeats 3200000 in
theorem rbopen_ok (ok : Nat → Prop) (h most : Nat) (parts : List (List UInt8)) (sizes : List Nat) (n : Nat) (h1 : 1 ≤ n) (h3 : n ≤ 3) (w : World) (hb : RB w ok h most parts sizes) (hm : most ≤ 1073741824) (hl : sumP parts + sizes.sum + n ≤ most) (hpl : parts.length ≤ 1073741824) (hsl : sizes.length ≤ 1073741824) :
    Calls Try.prog 47 #[.pointer (some ⟨h, 0, none⟩), .int .i64 n] w (RBStep ok h most (parts ++ [[]]) (sizes ++ [n]) 0 w) := by
  have hlen := Lib.hid (rblen ok h most parts sizes w hb (by omega) (by omega) (by omega))
  obtain ⟨j0, vp, vs, pvs, j1, j2, j3, j4, j5⟩ := hb
  obtain ⟨Ap, cp, rfl, hcp⟩ := j3.shape
  have hc0 : w.cell? ⟨h, 0, none⟩ = some (.int .i64 most) := j1.cell 0
  have hc1 : w.cell? ⟨h, 1, none⟩ = some (.slice Ap parts.length cp) := j1.cell 1
  have hkA : Kp (fun _ => False) w (w.alloc (.cells #[.slice none 0 0] 22)) := (Kp.refl _ _).alloc _
  have HOWN := Lib.hid (j3.kp hkA (fun _ _ h => h))
  have HRD := Lib.hid (rd_one w 22 (.slice none 0 0))
  have hhl := j1.lt
  have hhp := j3.block j1 (by decide)
  have J1 := Lib.hid (j1.kp hkA (fun h => h))
  have HPUSH := Lib.hid (fun A' c' w2 o q hat => rb_pushP (A' := A') (c' := c') (w2 := w2) j0 j1 j2 j3 j4 j5 hkA o q rfl hat)
  generalize sumP parts + sizes.sum = T at hl hlen
  have hle : decide ((most : Int) - (T : Int) < (n : Int)) = false := by simp; omega
  have hn1 : decide ((n : Int) < 1) = false := by simp; omega
  have hn3 : decide ((3 : Int) < (n : Int)) = false := by simp; omega
  clear j1 j2 j3 j4 j5 hkA h1 h3
  go_enter Try.func47, Try.ntmps47
  go_upto_region 7 with (first
    | (go_at_call 37; ((with_reducible refine hlen.out.mono ?_); rintro e w' ⟨rfl, rfl⟩))
    | (at_builtin; refine app_row1 rfl (.tmp 26) (.tmp 27) 70 22 _ 24 rfl Try.underlying70 sl_info rfl (by omega) ok Ap parts.length cp pvs rfl HOWN.out _ _ (.slice none 0 0) rfl rfl HRD.out (parts.length + 1) rfl (by omega) ?_; intro A2 c2 W2 o2 q2 hat2; obtain ⟨hr2, hk2⟩ := HPUSH.out A2 c2 W2 o2 q2 hat2; have HR2 := Lib.hid hr2; have hb2 := J1.out.kp q2 (fun e => hhp e); have hd1 : W2.cell? ⟨h, 1, none⟩ = some (.slice Ap parts.length cp) := hb2.cell 1; have hf1 := hb2.frozen 1; clear o2 q2 hat2 hr2 hb2))
  have hr := HR2.out
  generalize W2.setCell ⟨h, 1, none⟩ (.slice A2 (parts.length + 1) c2) = W3 at hr hk2 ⊢
  clear HR2 HPUSH HOWN HRD J1 hd1 hf1 hc0 hc1 hhp
  obtain ⟨j0', vp', vs', pvs', j1, j2, j3, j4, j5⟩ := hr
  obtain ⟨As, cs, rfl, hcs⟩ := j4.shape
  have hc2 : W3.cell? ⟨h, 2, none⟩ = some (.slice As sizes.length cs) := j1.cell 2
  have hkA : Kp (fun _ => False) W3 (W3.alloc (.cells #[.int .i64 n] 3)) := (Kp.refl _ _).alloc _
  have HOWN := Lib.hid (j4.kp hkA (fun _ _ h => h))
  have HRD := Lib.hid (rd_one W3 3 (.int .i64 n))
  have hhl3 := j1.lt
  have hhp := j4.block j1 (by decide)
  have J1 := Lib.hid (j1.kp hkA (fun h => h))
  have HPUSH := Lib.hid (fun A' c' w2 o q hat => rb_pushS (x := n) (A' := A') (c' := c') (w2 := w2) j0' j1 j2 j3 j4 j5 hkA o q rfl hat)
  have hz3 := hk2.size
  clear j1 j2 j3 j4 j5 hkA
  go_wp2_with (at_builtin; refine app_row1 rfl (.tmp 35) (.tmp 37) 50 3 _ 8 rfl Try.underlying50 int_info rfl (by omega) _ As sizes.length cs (nc sizes) rfl HOWN.out _ _ (.int .i64 n) rfl rfl HRD.out (sizes.length + 1) rfl (by omega) ?_; intro A4 c4 W4 o4 q4 hat4; obtain ⟨hr4, hk4⟩ := HPUSH.out A4 c4 W4 o4 q4 hat4; have HR4 := Lib.hid hr4; have hb4 := J1.out.kp q4 (fun e => hhp e); have hd2 : W4.cell? ⟨h, 2, none⟩ = some (.slice As sizes.length cs) := hb4.cell 2; have hf2 := hb4.frozen 2; clear o4 q4 hat4 hr4 hb4)
  go_ret
  exact ⟨rfl, HR4.out.mono (fun i _ hi => hi.elim (fun hi => hi.elim .inl .inr) (fun hi => .inr (by omega))), (hk2.then_ hk4 (fun i hi => hi))⟩
end Go.Proofs.Ytgndammlhljfjaa
