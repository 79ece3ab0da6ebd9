/-
  dertype.Time (part 1): where there is none for its tag, its length, its end.
-/
import Derived.Test.YtjdfgjlbmbiihaaDoorTy13
namespace Go.Proofs.YtjdfgjlbmbiihaaDoor
open Go.RowKit

/-- What Time tells. -/
abbrev resT : Option T6 → T6 × Int
  | some t => (t, 0)
  | none => (T6.zero, 13)
def timeV (tag : Int) (l : List UInt8) : T6 × Int := if tag = 23 ∨ tag = 24 then resT (timeR tag l) else (T6.zero, 2)

def zero6 : Array Value := #[.int .i64 0, .int .i64 0, .int .i64 0, .int .i64 0, .int .i64 0, .int .i64 0]

set_option maxRecDepth 100000 in
theorem time_arg (tag : Int) (h1 : tag ≠ 23) (h2 : tag ≠ 24) (v : Value) (w : World) :
    Calls Tryd.prog 29 #[.int .i64 tag, v] w fun e w' => e = .returned (.tuple #[T6.zero.v, .int .i64 2]) ∧ Kp (fun _ => False) w w' := by
  have e1 : (tag != 23) = true := by simpa using h1
  have e2 : (tag != 24) = true := by simpa using h2
  clear h1 h2
  have hk : Kp (fun _ => False) w (w.alloc (.cells #[.int .i64 0, .int .i64 0, .int .i64 0, .int .i64 0, .int .i64 0, .int .i64 0] 56)) := (Kp.refl _ _).alloc _
  go_enter Tryd.func29, Tryd.ntmps29
  go_wp2_with fail
  refine bodyPost_ret (v := .tuple #[T6.zero.v, .int .i64 2]) (by simp [results, Tryd.results29, go_sem, T6.v, T6.zero]) rfl ⟨rfl, hk⟩

set_option maxRecDepth 100000 in
theorem time_13 (ok : Nat → Prop) (v : Value) (l : List UInt8) (w : World) (hv : BR w ok v l) (h13 : l.length ≠ 13) :
    Calls Tryd.prog 29 #[.int .i64 23, v] w fun e w' => e = .returned (.tuple #[T6.zero.v, .int .i64 13]) ∧ Kp (fun _ => False) w w' := by
  have hk : Kp (fun _ => False) w (w.alloc (.cells #[.int .i64 0, .int .i64 0, .int .i64 0, .int .i64 0, .int .i64 0, .int .i64 0] 56)) := (Kp.refl _ _).alloc _
  have hcv := run_str (P := Tryd.prog) (src := 22) (dst := 9) (e := 5) Tryd.underlying22 Tryd.underlying5 Tryd.underlying9 (hv.kp hk (fun _ _ h => h))
  have hs : (str l).size = l.length := str_size l
  generalize str l = S at hcv hs
  have h1 : ((S.size : Int) == 13) = false := by simp; omega
  have h2 : S.size ≠ 13 := by omega
  clear hv hs h13
  go_enter Tryd.func29, Tryd.ntmps29
  go_wp2_with fail
  refine bodyPost_ret (v := .tuple #[T6.zero.v, .int .i64 13]) (by simp [results, Tryd.results29, go_sem, T6.v, T6.zero]) rfl ⟨rfl, hk⟩

set_option maxRecDepth 100000 in
theorem time_15 (ok : Nat → Prop) (v : Value) (l : List UInt8) (w : World) (hv : BR w ok v l) (h15 : l.length ≠ 15) :
    Calls Tryd.prog 29 #[.int .i64 24, v] w fun e w' => e = .returned (.tuple #[T6.zero.v, .int .i64 13]) ∧ Kp (fun _ => False) w w' := by
  have hk : Kp (fun _ => False) w (w.alloc (.cells #[.int .i64 0, .int .i64 0, .int .i64 0, .int .i64 0, .int .i64 0, .int .i64 0] 56)) := (Kp.refl _ _).alloc _
  have hcv := run_str (P := Tryd.prog) (src := 22) (dst := 9) (e := 5) Tryd.underlying22 Tryd.underlying5 Tryd.underlying9 (hv.kp hk (fun _ _ h => h))
  have hs : (str l).size = l.length := str_size l
  generalize str l = S at hcv hs
  have h1 : ((S.size : Int) == 15) = false := by simp; omega
  have h2 : ((S.size : Int) != 15) = true := by simp; omega
  have h3 : S.size ≠ 15 := by omega
  clear hv hs h15
  go_enter Tryd.func29, Tryd.ntmps29
  go_wp2_with fail
  refine bodyPost_ret (v := .tuple #[T6.zero.v, .int .i64 13]) (by simp [results, Tryd.results29, go_sem, T6.v, T6.zero]) rfl ⟨rfl, hk⟩
end Go.Proofs.YtjdfgjlbmbiihaaDoor
