/-
  DertagReads: the walk.
-/
import Derived.Test.YtjdfgjlbmbiihaaDoorL09
import Derived.Test.YtjdfgjlbmbiihaaDoorDrr
namespace Go.Proofs.YtjdfgjlbmbiihaaDoor
open Go.RowKit

set_option maxRecDepth 100000 in
set_option maxHeartbeats 1600000 in
theorem dtreads_walk (w : World) (ht : Tab w) (v : Value) (l : List UInt8) (hv : BR w (· < w.heap.size) v l) (hl : l.length ≤ 140737488351232) :
    Calls Tryd.prog 3 #[v] w fun e w' => e = .returned (.bool true) ∧ Below w.heap.size w w' := by
  obtain ⟨c, t, m, n, k, er, hq⟩ : ∃ c t m n k er, rd l = ((c, t, m, n), k, er) := ⟨_, _, _, _, _, _, rfl⟩
  have R := Lib.hid (rdV_of hq)
  clear hq
  obtain ⟨A, cp, rfl, hlc, hr⟩ := id hv
  go_enter Tryd.func3, Tryd.ntmps3
  go_wp2_with fail
  refine (read_any _ _ _ l hv ht hl).mono ?_
  rw [R.out]
  rintro e w1 ⟨rfl, hk1⟩
  have k1 := hk1.alloc (.cells #[.int .i64 c, .int .i64 t, .bool m, .int .i64 n] 24)
  have b1 := Blk.new w1 24 #[.int .i64 c, .int .i64 t, .bool m, .int .i64 n]
  go_wp2_with fail
  generalize hW1 : w1.alloc (.cells #[.int .i64 c, .int .i64 t, .bool m, .int .i64 n] 24) = W1 at k1 b1 ⊢
  refine (rread_any W1 _ _ l (hv.kp k1 (fun _ _ h => h)) hl).mono ?_
  rw [R.out]
  rintro e w2 ⟨rfl, hk2⟩
  have k2 := (k1.then_ hk2 (fun _ h => h.elim)).alloc (.cells #[.int .i64 c, .int .i64 t, .bool m, .int .i64 n] 28)
  have b2 := (b1.kp hk2 (fun h => h)).alloc (.cells #[.int .i64 c, .int .i64 t, .bool m, .int .i64 n] 28)
  have b3 := Blk.new w2 28 #[.int .i64 c, .int .i64 t, .bool m, .int .i64 n]
  go_wp2_with fail
  generalize hW2 : w2.alloc (.cells #[.int .i64 c, .int .i64 t, .bool m, .int .i64 n] 28) = W2 at k2 b2 b3 ⊢
  refine (alive09 W2 (ht.kp k2)).mono ?_
  rintro e w3 ⟨rfl, hk3⟩
  obtain ⟨c0, c1, c2, c3⟩ := (b2.kp hk3 (fun h => h)).cells4
  obtain ⟨d0, d1, d2, d3⟩ := (b3.kp hk3 (fun h => h)).cells4
  have K3 := Lib.hid (k2.then_ hk3 (fun _ h => h.elim))
  go_wp2_with fail
  go_ret
  exact ⟨by simp, K3.out.below⟩
end Go.Proofs.YtjdfgjlbmbiihaaDoor
