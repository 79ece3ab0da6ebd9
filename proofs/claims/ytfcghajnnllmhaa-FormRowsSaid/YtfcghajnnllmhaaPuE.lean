/-
  Answers from some number of rounds on: by cases, by calls, by rounds.
-/
import Derived.Test.YtfcghajnnllmhaaWWords
namespace Go.Proofs.Ytfcghajnnllmhaa
open Go.RowKit YtfcghajnnllmhaaW.PrintWords

set_option linter.unusedVariables false
theorem Ev.ip {α : Type} {c : Prop} [Decidable c] {a b : Nat → Option α} {r : α} (h : c) (k : Ev a r) : Ev (fun n => if c then a n else b n) r := Ev.congr (fun n => if_pos h) k
theorem Ev.in_ {α : Type} {c : Prop} [Decidable c] {a b : Nat → Option α} {r : α} (h : ¬ c) (k : Ev b r) : Ev (fun n => if c then a n else b n) r := Ev.congr (fun n => if_neg h) k
theorem Ev.is {α : Type} {x : Option α} {r : α} (h : x = some r) : Ev (fun _ => x) r := ⟨0, fun _ _ => h⟩
theorem Ev.eq_ {α : Type} {g : Nat → Option α} {r r' : α} (k : Ev g r) (h : r = r') : Ev g r' := h ▸ k
/-- A call that counts no rounds. -/
theorem Ev.cb {α β : Type} {x : Option α} {f : Nat → α → Option β} {a : α} {r : β} (h : x = some a) (k : Ev (fun n => f n a) r) : Ev (fun n => x.bind (f n)) r := Ev.bind (Ev.is h) k
/-- Either way. -/
theorem Ev.sp {α : Type} {c : Prop} [Decidable c] {a b : Nat → Option α} {r : α} (h1 : c → Ev a r) (h2 : ¬ c → Ev b r) : Ev (fun n => if c then a n else b n) r := by
  by_cases h : c
  · exact Ev.ip h (h1 h)
  · exact Ev.in_ h (h2 h)
theorem w64 {x : Int} (h1 : -9223372036854775808 ≤ x) (h2 : x < 9223372036854775808) : wrap64 x = x := by unfold wrap64; omega
end Go.Proofs.Ytfcghajnnllmhaa
