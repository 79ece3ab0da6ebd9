/-
  Bytes of the call's own: laid as a literal, appended to.
-/
import Derived.Test.YtjdfgjlbmbiihaaDoorProg
import Derived.Test.YtjdfgjlbmbiihaaDoorLib
namespace Go.Proofs.YtjdfgjlbmbiihaaDoor
open Go.RowKit

theorem u8_info3 : (Tryd.prog.info? 5).map (fun i => (i.zero, i.size, i.bytes)) = some (some (.int .u8 0), 1, 1) := by kernel_rfl

theorem Own.lit (w : World) (l : List UInt8) (cs : Array Value) (n B : Nat) (hn : l.length = n) (hcs : cs = (bc l).toArray) (hB : B ≤ w.heap.size) (hm : n ≤ maxLen) :
    Own (w.alloc (.cells cs 5)) (B ≤ ·) 5 1 (.slice (some ⟨w.heap.size, 0, none⟩) n n) n (bc l) := by
  subst hn hcs
  refine ⟨⟨by rw [bc_length]; omega, .inr ⟨w.heap.size, l.length, _, rfl, Nat.zero_le _, heap_alloc_new w _, Nat.le_refl _, hm, by simp [bc_length], ?_⟩⟩, fun k hk => ?_⟩
  · rw [Nat.mul_one]
    exact List.take_of_length_le (by rw [bc_length]; omega)
  · have : w.heap.size = k := by simpa [Value.ownBlock] using hk
    omega

/-- append of bytes to bytes of the call's own. -/
theorem app_bytes {w : World} {ops : Array Oper} {rest : List Oper} {o : Oper} {a : Act} {Q : Exit → Act → World → Prop} (hgd : o.guard = none) (s x : Operand)
    (ho : o.op = .call { callee := .builtin .append, args := #[s, x], argTypes := #[22, 22] })
    (B : Nat) (A : Option Addr) (n c : Nat) (l : List UInt8) (hs : a.eval s = .slice A n c) (_hn : l.length = n) (hown : Own w (B ≤ ·) 5 1 (.slice A n c) n (bc l))
    (ok : Nat → Prop) (Ax : Option Addr) (m cx : Nat) (lx : List UInt8) (hx : a.eval x = .slice Ax m cx) (hm : lx.length = m) (hr : BR w ok (.slice Ax m cx) lx)
    (k : Nat) (hk : n + m = k) (hk2 : k ≤ 140737488355328) (hB : B ≤ w.heap.size)
    (h : ∀ A' c' w', Own w' (B ≤ ·) 5 1 (.slice A' k c') k (bc (l ++ lx)) → Kp (B ≤ ·) w w' → wpList Tryd.prog ops Q rest (a.put o.dst (.slice A' k c')) w') : wpList Tryd.prog ops Q (o :: rest) a w := by
  obtain ⟨i0, hi0, hz0, hz1, hz2⟩ := info_parts u8_info3
  obtain ⟨Ax', cx', e, hcx, hrd⟩ := hr
  injection e with e1 e2 e3
  subst e1 e3
  rw [hm] at hrd
  refine wpList_append_any w hgd s x _ ho 0 5 i0 _ 1 1 Tryd.underlying22 hi0 hz0 hz1 hz2 rfl (by omega) (.slice A n c) n (bc l) hs hown.1 ok Ax m cx (bc lx) hx hrd (bc_one _) (by simp only [maxLen]; omega) (by omega) (Nat.zero_le _) ?_
  intro v' w' h1 h2 h3
  rw [hk, ← bc_append] at h1
  have hk' : Kp (B ≤ ·) w w' := (Kp.refl _ _).grown h2 (fun j hj => .inl (hown.2 j hj))
  have ho' : Own w' (B ≤ ·) 5 1 v' k (bc (l ++ lx)) := ⟨h1, fun j hj => by
    rcases h3 with e | e
    · exact hown.2 j (e ▸ hj)
    · rw [e] at hj
      injection hj with hj
      omega⟩
  obtain ⟨A', c', e, _⟩ := ho'.shape
  subst e
  exact h A' c' w' ho' hk'

theorem Own.br {w : World} {ok : Nat → Prop} {A : Option Addr} {n c : Nat} {l : List UInt8} (h : Own w ok 5 1 (.slice A n c) n (bc l)) (hn : l.length = n) : BR w ok (.slice A n c) l := by
  obtain ⟨A', c', e, hc⟩ := h.shape
  injection e with e1 e2 e3
  subst e1 e3 hn
  exact ⟨A, c, rfl, hc, h.rd⟩

/-- A call's own turns leave what was there. -/
theorem Kp.base {w w1 w2 : World} (h : Kp (fun _ => False) w w1) (k : Kp (w.heap.size ≤ ·) w1 w2) : Kp (fun _ => False) w w2 := h.then_ k (fun _ hi => .inr hi)
end Go.Proofs.YtjdfgjlbmbiihaaDoor
