/-
  A head that came in (dertag.Head, by value).
-/
import Derived.Test.YtjdfgjlbmbiihaaDoorProg
import Derived.Test.YtjdfgjlbmbiihaaDoorOpen
import Derived.Lib.SmallJoins
namespace Go.Proofs.YtjdfgjlbmbiihaaDoor
open Go.Joins Go.ChangeShapes Go.WideShapes Go.ChangeAt Go.RowKit Go.Deep

def headV (x : Int × Int × Bool × Int) : Value := .agg #[.int .i64 x.1, .int .i64 x.2.1, .bool x.2.2.1, .int .i64 x.2.2.2]
section
variable {H : Type} {enc : TypeId × Value → H} {w : World} {sp : Nat → Bool} {held : Bool} {r : Reach} {b0 : Nat}
set_option maxRecDepth 100000 in
theorem open_head09 {v : Value} {d : DataW H} {ps : List MemPlace} {ts : List TypeId} {ds : List (DataW H)} (hv : Value.okWide Tryd.prog w r b0 24 v) (h : DataW.Trod enc Tryd.prog w 0 sp held 24 v d ps)
    (_hsz : (DataW.weightsEach Tryd.prog ts ds).all (· ≤ reachBytes) = true) {j : Nat} (_ht : ts[j]? = some 24) (_hd : ds[j]? = some d) : ∃ x : Int × Int × Bool × Int, v = headV x := by
  obtain ⟨v0, v1, v2, v3, y0, y1, y2, y3, n, rfl, _, _, t0, t1, t2, t3⟩ := open_agg4 Tryd.underlying24 (by kernel_rfl) (by kernel_rfl) hv h
  obtain ⟨k0, e0, _, _⟩ := DataW.trod_int Tryd.underlying3 t0
  obtain ⟨k1, e1, _, _⟩ := DataW.trod_int Tryd.underlying3 t1
  obtain ⟨k2, e2, _⟩ := DataW.trod_bool Tryd.underlying4 t2
  obtain ⟨k3, e3, _, _⟩ := DataW.trod_int Tryd.underlying3 t3
  simp only [List.cons.injEq, and_true] at e0 e1 e2 e3
  subst e0 e1 e2 e3
  exact ⟨(k0, k1, k2, k3), rfl⟩
end
end Go.Proofs.YtjdfgjlbmbiihaaDoor
