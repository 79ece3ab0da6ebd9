/-
  slices.Grow, slices.Concat at []uint64 of two; 'same'; which bytes may be an identifier's.
-/
import Derived.Test.YtjdfgjlbmbiihaaDoorTy1
namespace Go.Proofs.YtjdfgjlbmbiihaaDoor
open Go.RowKit

theorem wpList_append_make_nil {w : World} {ops : Array Oper} {rest : List Oper} {o : Oper} {a : Act} {Q : Exit → Act → World → Prop} (hgd : o.guard = none) (s x : Operand)
    (ho : o.op = .call { callee := .builtin .append, args := #[s, x], argTypes := #[47, 3] }) (hs : a.eval s = .slice none 0 0) (n : Nat) (hx : a.eval x = .int .i64 n) (h0 : 0 < n) (hn : n ≤ 17592186044416)
    (h : ∀ A c w', Own w' (w.heap.size ≤ ·) 65 1 (.slice A 0 c) 0 (uc []) → n ≤ c → Kp (fun _ => False) w w' → wpList Tryd.prog ops Q rest (a.put o.dst (.slice A n c)) w') : wpList Tryd.prog ops Q (o :: rest) a w := by
  obtain ⟨i0, hi0, hz0, hz1, hz2⟩ := info_parts u64_info
  have hrun := run_append_make_nil (P := Tryd.prog) w 47 3 o.type 65 i0 (.int .u64 0) Tryd.underlying47 Tryd.underlying3 hi0 hz0 n h0 (by omega) (by omega) (by rw [hz2]; omega)
  have hge := grownCap_ge w n 0 65
  have hle := grownCap_le_maxLen w n 0 65 (by simp only [maxLen]; omega)
  have hk : Kp (fun _ => False) w (w.drew.alloc (.cells (Builtin.zeroCells (Value.int .u64 0).cells n ++ Builtin.zeroCells (Value.int .u64 0).cells (grownCap w n 0 65 - n)) 65)) := ((Kp.refl _ _).drew).alloc _
  have hown : Own (w.drew.alloc (.cells (Builtin.zeroCells (Value.int .u64 0).cells n ++ Builtin.zeroCells (Value.int .u64 0).cells (grownCap w n 0 65 - n)) 65)) (w.heap.size ≤ ·) 65 1 (.slice (some ⟨w.heap.size, 0, none⟩) 0 (grownCap w n 0 65)) 0 (uc []) := by
    refine ⟨⟨rfl, .inr ⟨w.heap.size, _, _, rfl, Nat.zero_le _, heap_alloc_new w.drew _, Nat.zero_le _, hle, ?_, by simp [uc]⟩⟩, fun k hk => by
      have : w.heap.size = k := by simpa [Value.ownBlock] using hk
      omega⟩
    simp only [Array.size_append, size_zeroCells, Value.cells]
    simp
    omega
  refine wpList_plain hgd fun K hK => ?_
  unfold Oper.wp execOp
  simp only [ho, resolve, invoke, builtin, Sem.run_bind, Sem.run_pure, Result.andThen_ok, List.map_toArray, List.map_cons, List.map_nil, hs, hx, hrun]
  exact hK _ _ (h _ _ _ hown hge hk)

set_option maxRecDepth 100000 in
theorem grow_nil (n : Nat) (h0 : 0 < n) (hn : n ≤ 17592186044416) (w : World) : Calls Tryd.prog 49 #[.slice none 0 0, .int .i64 n] w fun e w' => ∃ A c, e = .returned (.slice A 0 c) ∧ Own w' (w.heap.size ≤ ·) 65 1 (.slice A 0 c) 0 (uc []) ∧ Kp (fun _ => False) w w' := by
  have h1 : decide ((n : Int) < 0) = false := by simp
  have h2 : decide ((0 : Int) < (n : Int)) = true := by simp; omega
  go_enter Tryd.func49, Tryd.ntmps49
  go_wp2_with (at_builtin; refine wpList_append_make_nil rfl (.tmp 20) (.tmp 21) rfl rfl n rfl h0 hn ?_; intro A c W o hc q; have O := Lib.hid o; have Q := Lib.hid q; clear o q)
  go_ret
  exact ⟨A, c, rfl, O.out, Q.out⟩

set_option maxRecDepth 100000 in
set_option maxHeartbeats 1600000 in
theorem concat2 (ok : Nat → Prop) (G : Nat) (v1 v2 : Value) (a b : List Nat) (w : World) (hG0 : w.cell? ⟨G, 0, none⟩ = some v1) (hG1 : w.cell? ⟨G, 1, none⟩ = some v2) (ha : UR w ok v1 a) (hb : UR w ok v2 b) (h0 : 0 < a.length) (hn : a.length + b.length ≤ 17592186044416) :
    Calls Tryd.prog 37 #[.slice (some ⟨G, 0, none⟩) 2 2] w fun e w' => ∃ A c, e = .returned (.slice A (a.length + b.length) c) ∧ UR w' (w.heap.size ≤ ·) (.slice A (a.length + b.length) c) (a ++ b) ∧ Kp (fun _ => False) w w' := by
  obtain ⟨Aa, ca, rfl, hca, hra⟩ := id ha
  obtain ⟨Ab, cb, rfl, hcb, hrb⟩ := id hb
  have HA := Lib.hid ha
  have HB := Lib.hid hb
  have hnn : ((a.length : Int) + (b.length : Int)) ≤ 17592186044416 := by omega
  have hp : decide ((a.length : Int) + (b.length : Int) < 0) = false := by simp; omega
  have hq : decide ((a.length : Int) < 0) = false := by simp
  clear ha hb hra hrb
  have HGR := Lib.hid (fun W => grow_nil (a.length + b.length) (by omega) (by omega) W)
  have HG0 := Lib.hid hG0
  have HG1 := Lib.hid hG1
  go_enter Tryd.func37, Tryd.ntmps37
  go_wp2_with fail
  refine wp_loop_rounds 3 ?_
  rw [rounds_succ]
  go_wp2_with fail
  rw [rounds_succ]
  go_wp2_with fail
  rw [rounds_succ]
  go_wp2_with fail
  rw [show (a.length : Int) + (b.length : Int) = ((a.length + b.length : Nat) : Int) from by omega]
  refine (HGR.out _).mono ?_
  rintro e w1 ⟨A1, c1, rfl, o1, k1⟩
  have O1 := Lib.hid o1
  have hd0 := k1.cell HG0.out (fun h => h)
  have hd1 := k1.cell HG1.out (fun h => h)
  have HA1 := Lib.hid (HA.out.kp k1 (fun _ _ h => h))
  have hz1 := k1.size
  clear o1 hG0 hG1
  go_wp2_with fail
  refine wp_loop_rounds 3 ?_
  rw [rounds_succ]
  go_wp2_with (at_builtin; refine app_u64 rfl (.tmp 31) (.tmp 32) rfl w.heap.size A1 0 c1 [] rfl O1.out _ Aa a.length ca a rfl rfl HA1.out a.length (by omega) (by omega) hz1 ?_; intro A2 c2 W2 o2 q2; have O2 := Lib.hid o2; have K2 := Lib.hid (k1.then_ q2 (fun i hi => .inr hi)); clear o2 q2)
  have hd2 := K2.out.cell HG1.out (fun h => h)
  have HB2 := Lib.hid (HB.out.kp K2.out (fun _ _ h => h))
  have hz2 := K2.out.size
  rw [rounds_succ]
  go_wp2_with (at_builtin; refine app_u64 rfl (.tmp 31) (.tmp 32) rfl w.heap.size A2 a.length c2 ([] ++ a) rfl O2.out _ Ab b.length cb b rfl rfl HB2.out (a.length + b.length) rfl (by omega) hz2 ?_; intro A3 c3 W3 o3 q3; have O3 := Lib.hid o3; have K3 := Lib.hid (K2.out.then_ q3 (fun i hi => .inr hi)); clear o3 q3)
  rw [rounds_succ]
  go_wp2_with fail
  go_ret
  refine ⟨A3, c3, rfl, ?_, K3.out⟩
  have h := O3.out.ur (l := [] ++ a ++ b) (by simp)
  rwa [show [] ++ a ++ b = a ++ b from by simp] at h
end Go.Proofs.YtjdfgjlbmbiihaaDoor
