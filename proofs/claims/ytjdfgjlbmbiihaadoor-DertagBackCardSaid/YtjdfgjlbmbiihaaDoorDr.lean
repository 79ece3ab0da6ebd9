/-
  dertag.Read: what it answers, of any bytes (part 4).
-/
import Derived.Test.YtjdfgjlbmbiihaaDoorDr1
import Derived.Test.YtjdfgjlbmbiihaaDoorDr2
import Derived.Test.YtjdfgjlbmbiihaaDoorDr3
namespace Go.Proofs.YtjdfgjlbmbiihaaDoor
open Go.RowKit

theorem read_anyB (w : World) (ok : Nat → Prop) (v : Value) (l : List UInt8) (hv : BR w ok v l) (htab : Tab w) (hl : l.length ≤ 140737488355328) :
    Calls Tryd.prog 14 #[v] w fun e w' => e = .returned (rdV l) ∧ Kp (fun _ => False) w w' := by
  match l, hv, hl with
  | [], hv, hl => exact read_nil w ok v hv
  | [b], hv, hl =>
    cases htop : topB b
    · exact read_bad w ok b [] v hv htab hl htop
    · exact read_one w ok b v hv htab hl htop
  | b :: c :: u, hv, hl =>
    cases htop : topB b
    · exact read_bad w ok b (c :: u) v hv htab hl htop
    rcases Nat.lt_or_ge c.toNat 128 with h | h
    · exact read_small w ok b c u h v hv htab hl htop
    rcases Nat.lt_or_ge 131 c.toNat with h' | h'
    · exact read_132 w ok b c u h' v hv htab hl htop
    have h4 : c.toNat = 128 ∨ c.toNat = 129 ∨ c.toNat = 130 ∨ c.toNat = 131 := by omega
    rcases h4 with h4 | h4 | h4 | h4
    · exact read_128 w ok b c u h4 v hv htab hl htop
    · match u, hv, hl with
      | [], hv, hl => exact read_short1 w ok b c _ h4 (by simp) v hv htab hl htop
      | p2 :: r, hv, hl =>
        by_cases hq : be [p2] < 128 ∨ be [p2] / 256 ^ 0 = 0
        · exact read_low1 w ok b c p2 r h4 hq v hv htab hl htop
        · exact read_ok1 w ok b c p2 r h4 (by omega) v hv htab hl htop
    · match u, hv, hl with
      | [], hv, hl => exact read_short2 w ok b c _ h4 (by simp) v hv htab hl htop
      | [p2], hv, hl => exact read_short2 w ok b c _ h4 (by simp) v hv htab hl htop
      | p2 :: p3 :: r, hv, hl =>
        by_cases hq : be [p2, p3] < 128 ∨ be [p2, p3] / 256 ^ 1 = 0
        · exact read_low2 w ok b c p2 p3 r h4 hq v hv htab hl htop
        · exact read_ok2 w ok b c p2 p3 r h4 (by omega) v hv htab hl htop
    · match u, hv, hl with
      | [], hv, hl => exact read_short3 w ok b c _ h4 (by simp) v hv htab hl htop
      | [p2], hv, hl => exact read_short3 w ok b c _ h4 (by simp) v hv htab hl htop
      | [p2, p3], hv, hl => exact read_short3 w ok b c _ h4 (by simp) v hv htab hl htop
      | p2 :: p3 :: p4 :: r, hv, hl =>
        by_cases hq : be [p2, p3, p4] < 128 ∨ be [p2, p3, p4] / 256 ^ 2 = 0
        · exact read_low3 w ok b c p2 p3 p4 r h4 hq v hv htab hl htop
        · exact read_ok3 w ok b c p2 p3 p4 r h4 (by omega) v hv htab hl htop

theorem read_any (w : World) (ok : Nat → Prop) (v : Value) (l : List UInt8) (hv : BR w ok v l) (htab : Tab w) (hl : l.length ≤ 140737488351232) :
    Calls Tryd.prog 14 #[v] w fun e w' => e = .returned (rdV l) ∧ Kp (fun _ => False) w w' := read_anyB w ok v l hv htab (by omega)

end Go.Proofs.YtjdfgjlbmbiihaaDoor
