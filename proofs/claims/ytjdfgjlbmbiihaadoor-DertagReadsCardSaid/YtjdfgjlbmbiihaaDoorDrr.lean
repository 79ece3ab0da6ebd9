/-
  The document's Read of layer 9 (part 5).
-/
import Derived.Test.YtjdfgjlbmbiihaaDoorDrr1
import Derived.Test.YtjdfgjlbmbiihaaDoorDrr2
import Derived.Test.YtjdfgjlbmbiihaaDoorDrr3
import Derived.Test.YtjdfgjlbmbiihaaDoorDrr4
namespace Go.Proofs.YtjdfgjlbmbiihaaDoor
open Go.RowKit

theorem rread_any (w : World) (ok : Nat → Prop) (v : Value) (l : List UInt8) (hv : BR w ok v l) (hl : l.length ≤ 140737488351232) :
    Calls Tryd.prog 15 #[v] w fun e w' => e = .returned (rdV l) ∧ Kp (fun _ => False) w w' := by
  match l, hv, hl with
  | [], hv, hl => exact rread_nil w ok v hv
  | [b], hv, hl =>
    cases htop : topB b
    · exact rread_bad w ok b [] v hv hl htop
    · exact rread_one w ok b v hv hl htop
  | b :: c :: u, hv, hl =>
    cases htop : topB b
    · exact rread_bad w ok b (c :: u) v hv hl htop
    rcases Nat.lt_or_ge c.toNat 128 with h | h
    · exact rread_small w ok b c u h v hv hl htop
    rcases Nat.lt_or_ge 131 c.toNat with h' | h'
    · exact rread_132 w ok b c u h' v hv hl htop
    have h4 : c.toNat = 128 ∨ c.toNat = 129 ∨ c.toNat = 130 ∨ c.toNat = 131 := by omega
    rcases h4 with h4 | h4 | h4 | h4
    · exact rread_128 w ok b c u h4 v hv hl htop
    · match u, hv, hl with
      | [], hv, hl => exact rread_short1 w ok b c _ h4 (by simp) v hv hl htop
      | p2 :: r, hv, hl =>
        by_cases hq : be [p2] < 128 ∨ be [p2] / 256 ^ 0 = 0
        · exact rread_low1 w ok b c p2 r h4 hq v hv hl htop
        · exact rread_ok1 w ok b c p2 r h4 (by omega) v hv hl htop
    · match u, hv, hl with
      | [], hv, hl => exact rread_short2 w ok b c _ h4 (by simp) v hv hl htop
      | [p2], hv, hl => exact rread_short2 w ok b c _ h4 (by simp) v hv hl htop
      | p2 :: p3 :: r, hv, hl =>
        by_cases hq : be [p2, p3] < 128 ∨ be [p2, p3] / 256 ^ 1 = 0
        · exact rread_low2 w ok b c p2 p3 r h4 hq v hv hl htop
        · exact rread_ok2 w ok b c p2 p3 r h4 (by omega) v hv hl htop
    · match u, hv, hl with
      | [], hv, hl => exact rread_short3 w ok b c _ h4 (by simp) v hv hl htop
      | [p2], hv, hl => exact rread_short3 w ok b c _ h4 (by simp) v hv hl htop
      | [p2, p3], hv, hl => exact rread_short3 w ok b c _ h4 (by simp) v hv hl htop
      | p2 :: p3 :: p4 :: r, hv, hl =>
        by_cases hq : be [p2, p3, p4] < 128 ∨ be [p2, p3, p4] / 256 ^ 2 = 0
        · exact rread_low3 w ok b c p2 p3 p4 r h4 hq v hv hl htop
        · exact rread_ok3 w ok b c p2 p3 p4 r h4 (by omega) v hv hl htop

end Go.Proofs.YtjdfgjlbmbiihaaDoor
