/-
  DertypeChecks: the walk.
-/
import Derived.Test.YtjdfgjlbmbiihaaDoorTy23
import Derived.Test.YtjdfgjlbmbiihaaDoorTy6
import Derived.Test.YtjdfgjlbmbiihaaDoorOpen
namespace Go.Proofs.YtjdfgjlbmbiihaaDoor
open Go.RowKit

set_option maxRecDepth 100000 in
set_option maxHeartbeats 3200000 in
theorem dchecks_walk (w : World) (tab : Tab10 w) (tag : Int) (ht : (Lit.int .i64 tag).wf = true) (v : Value) (l : List UInt8) (hv : BR w (· < w.heap.size) v l) (hl : l.length ≤ 140737488351232) :
    Calls Tryd.prog 10 #[.int .i64 tag, v] w fun e w' => e = .returned (.bool true) ∧ Below w.heap.size w w' := by
  have HC := Lib.hid (fun W hk => check_any tag ht _ v l W (hv.kp (S := fun _ => False) (w := w) (w' := W) hk (fun _ _ h => h)) (by omega) (tab.kp hk))
  have HR := Lib.hid (fun W hk => rcheck_any tag _ v l W (hv.kp (S := fun _ => False) (w := w) (w' := W) hk (fun _ _ h => h)) (by omega))
  generalize checkR tag l = r at HC HR
  clear hv tab ht hl
  go_enter Tryd.func10, Tryd.ntmps10
  go_wp2_with fail
  refine (alive10 w).mono ?_
  rintro e w1 ⟨rfl, hk1⟩
  go_wp2_with fail
  refine (HC.out _ hk1).mono ?_
  rintro e w2 ⟨rfl, hk2⟩
  have hk12 := hk1.then_ hk2 (fun _ h => h.elim)
  go_wp2_with fail
  refine (HR.out _ hk12).mono ?_
  rintro e w3 ⟨rfl, hk3⟩
  go_wp2_with fail
  go_ret
  exact ⟨by simp, (hk12.then_ hk3 (fun _ h => h.elim)).below⟩
end Go.Proofs.YtjdfgjlbmbiihaaDoor
