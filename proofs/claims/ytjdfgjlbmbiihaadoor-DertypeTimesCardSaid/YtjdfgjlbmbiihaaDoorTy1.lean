/-
  Rows of uint64; slices.Grow, slices.Concat at []uint64; append of zeros onto nil.
-/
import Derived.Test.YtjdfgjlbmbiihaaDoorProg
import Derived.Test.YtjdfgjlbmbiihaaDoorLib
import Derived.Test.YtjdfgjlbmbiihaaDoorNum
import Derived.IntWalk
namespace Go.Proofs.YtjdfgjlbmbiihaaDoor
open Go.RowKit

/-- Numbers, as cells. -/
def uc (l : List Nat) : List Value := l.map fun n : Nat => Value.int .u64 (n : Int)
theorem uc_length (l : List Nat) : (uc l).length = l.length := by simp [uc]
theorem uc_append (l m : List Nat) : uc (l ++ m) = uc l ++ uc m := by simp [uc]
theorem uc_take (l : List Nat) (k : Nat) : (uc l).take k = uc (l.take k) := by simp [uc]
theorem uc_drop (l : List Nat) (k : Nat) : (uc l).drop k = uc (l.drop k) := by simp [uc]
theorem uc_one (l : List Nat) : ∀ u ∈ uc l, u.oneCell' = true := by
  intro u hu
  obtain ⟨b, _, rfl⟩ := List.mem_map.1 hu
  rfl
/-- A slice value that reads as these numbers. -/
def UR (w : World) (ok : Nat → Prop) (v : Value) (l : List Nat) : Prop := ∃ A c, v = .slice A l.length c ∧ l.length ≤ c ∧ Rd w ok 1 A l.length (uc l)
section
variable {w w' : World} {ok ok' S : Nat → Prop} {v : Value} {l : List Nat}
theorem UR.kp (h : UR w ok v l) (hk : Kp S w w') (hd : ∀ i, ok i → ¬ S i) : UR w' ok v l := by
  obtain ⟨A, c, e, hc, hr⟩ := h
  exact ⟨A, c, e, hc, hr.kp hk hd⟩
theorem UR.mono (h : UR w ok v l) (hd : ∀ i, ok i → ok' i) : UR w ok' v l := by
  obtain ⟨A, c, e, hc, hr⟩ := h
  exact ⟨A, c, e, hc, hr.mono hd⟩
theorem Rd.unum {A : Option Addr} {k : Nat} (h : Rd w ok 1 A l.length (uc l)) (hk : k < l.length) :
    ∃ b off, A = some ⟨b, off, none⟩ ∧ ok b ∧ w.cell? ⟨b, off + k, none⟩ = some (.int .u64 ((l[k]'hk : Nat) : Int)) := by
  obtain ⟨b, off, u, hA, hb, hu, hc⟩ := h.at_ hk
  refine ⟨b, off, hA, hb, ?_⟩
  rw [hc]
  simp [uc, hk] at hu
  rw [← hu]
theorem Own.ur {A : Option Addr} {n c : Nat} (h : Own w ok 65 1 (.slice A n c) n (uc l)) (hn : l.length = n) : UR w ok (.slice A n c) l := by
  obtain ⟨A', c', e, hc⟩ := h.shape
  injection e with e1 e2 e3
  subst e1 e3 hn
  exact ⟨A, c, rfl, hc, h.rd⟩
end

theorem u64_info : (Tryd.prog.info? 65).map (fun i => (i.zero, i.size, i.bytes)) = some (some (.int .u64 0), 1, 8) := by kernel_rfl

/-- append of numbers to numbers of the call's own. -/
theorem app_u64 {w : World} {ops : Array Oper} {rest : List Oper} {o : Oper} {a : Act} {Q : Exit → Act → World → Prop} (hgd : o.guard = none) (s x : Operand)
    (ho : o.op = .call { callee := .builtin .append, args := #[s, x], argTypes := #[47, 47] })
    (B : Nat) (A : Option Addr) (n c : Nat) (l : List Nat) (hs : a.eval s = .slice A n c) (hown : Own w (B ≤ ·) 65 1 (.slice A n c) n (uc l))
    (ok : Nat → Prop) (Ax : Option Addr) (m cx : Nat) (lx : List Nat) (hx : a.eval x = .slice Ax m cx) (hm : lx.length = m) (hr : UR w ok (.slice Ax m cx) lx)
    (k : Nat) (hk : n + m = k) (hk2 : k ≤ 17592186044416) (hB : B ≤ w.heap.size)
    (h : ∀ A' c' w', Own w' (B ≤ ·) 65 1 (.slice A' k c') k (uc (l ++ lx)) → Kp (B ≤ ·) w w' → wpList Tryd.prog ops Q rest (a.put o.dst (.slice A' k c')) w') : wpList Tryd.prog ops Q (o :: rest) a w := by
  obtain ⟨i0, hi0, hz0, hz1, hz2⟩ := info_parts u64_info
  obtain ⟨Ax', cx', e, hcx, hrd⟩ := hr
  injection e with e1 e2 e3
  subst e1 e3
  rw [hm] at hrd
  refine wpList_append_any w hgd s x _ ho 0 65 i0 _ 1 8 Tryd.underlying47 hi0 hz0 hz1 hz2 rfl (by omega) (.slice A n c) n (uc l) hs hown.1 ok Ax m cx (uc lx) hx hrd (uc_one _) (by simp only [maxLen]; omega) (by omega) (Nat.zero_le _) ?_
  intro v' w' h1 h2 h3
  rw [hk, ← uc_append] at h1
  have hk' : Kp (B ≤ ·) w w' := (Kp.refl _ _).grown h2 (fun j hj => .inl (hown.2 j hj))
  have ho' : Own w' (B ≤ ·) 65 1 v' k (uc (l ++ lx)) := ⟨h1, fun j hj => by
    rcases h3 with e | e
    · exact hown.2 j (e ▸ hj)
    · rw [e] at hj
      injection hj with hj
      omega⟩
  obtain ⟨A', c', e, _⟩ := ho'.shape
  subst e
  exact h A' c' w' ho' hk'

/-- Numbers that were laid just now. -/
theorem UR.lit (w : World) (t : TypeId) (l : List Nat) (cs : Array Value) (n : Nat) (hn : l.length = n) (hcs : cs = (uc l).toArray) : UR (w.alloc (.cells cs t)) (· = w.heap.size) (.slice (some ⟨w.heap.size, 0, none⟩) n n) l := by
  subst hn hcs
  refine ⟨_, _, rfl, Nat.le_refl _, by rw [uc_length]; omega, fun _ => ⟨_, rfl, rfl, rfl, fun j u hu => ?_⟩⟩
  have h := (Blk.new w t (uc l).toArray).cell j
  have e : (⟨w.heap.size, 0, none⟩ : Addr).add j = ⟨w.heap.size, j, none⟩ := by
    unfold Addr.add
    split
    · next h0 => subst h0; rfl
    · simp
  rw [e, h]
  simpa using hu
theorem Own.ulit (w : World) (l : List Nat) (cs : Array Value) (n B : Nat) (hn : l.length = n) (hcs : cs = (uc l).toArray) (hB : B ≤ w.heap.size) (hm : n ≤ maxLen) :
    Own (w.alloc (.cells cs 65)) (B ≤ ·) 65 1 (.slice (some ⟨w.heap.size, 0, none⟩) n n) n (uc l) := by
  subst hn hcs
  refine ⟨⟨by rw [uc_length]; omega, .inr ⟨w.heap.size, l.length, _, rfl, Nat.zero_le _, heap_alloc_new w _, Nat.le_refl _, hm, by simp [uc_length], ?_⟩⟩, fun k hk => ?_⟩
  · rw [Nat.mul_one]
    exact List.take_of_length_le (by rw [uc_length]; omega)
  · have : w.heap.size = k := by simpa [Value.ownBlock] using hk
    omega

/-! ### append(nil, make([]T, n)...) -/
set_option maxRecDepth 100000 in
theorem run_append_make_nil {P : Program} (w : World) (t ti ty e : TypeId) (i : TypeInfo) (z : Value) (ht : P.underlying t = some (.slice e)) (hti : P.underlying ti = some (.int .i64)) (hi : P.info? e = some i) (hz : i.zero = some z)
    (n : Nat) (h0 : 0 < n) (hs : 0 < i.size) (h63 : (n : Int) ≤ 9223372036854775807) (h48 : n * i.bytes ≤ 281474976710656) :
    (Builtin.append_ #[t, ti] ty #[.slice none 0 0, .int .i64 (n : Int)]).run P w =
      .ok (.slice (some ⟨w.heap.size, 0, none⟩) n (grownCap w n 0 e)) (w.drew.alloc (.cells (Builtin.zeroCells z.cells n ++ Builtin.zeroCells z.cells (grownCap w n 0 e - n)) e)) := by
  have hn : n ≠ 0 := by omega
  have hw : IntKind.i64.wrap (n : Int) = (n : Int) := by
    exact IntWalk.i64_in _ (by omega)
  have hneg : ¬ ((n : Int) < 0) := by omega
  have hb : ¬ (281474976710656 < (n : Int) * (i.bytes : Int)) := by
    have h := Int.ofNat_le.2 h48
    rw [Int.natCast_mul] at h
    exact Int.not_lt.2 h
  have h63' : ¬ (9223372036854775807 < (n : Int)) := by omega
  have h48' : ¬ (281474976710656 < Builtin.nextslicecap n 0 * i.bytes) := by rw [nextslicecap_zero h0]; omega
  simp [Builtin.append_, run_underlying ht, run_underlying hti, sizeOf, typeInfo, zeroValue, hi, hz, Builtin.lenOf, hn, h63', h48', Question.forced, run_firstCells_none, newRow, grownCap, asInt, asIntOf, hw, hneg, hb]
  intro h
  have := Nat.mul_pos h0 hs
  omega
end Go.Proofs.YtjdfgjlbmbiihaaDoor
