/-
  The builder: its bytes, and how many; the document's example.
-/
import Derived.Test.YtgndammlhljfjaaBld2
import Derived.Test.YtgndammlhljfjaaBld3
import Derived.Test.YtgndammlhljfjaaBld4
namespace Go.Proofs.Ytgndammlhljfjaa
open Go.RowKit

theorem blen_nil (w : World) : Calls Try.prog 32 #[.pointer none] w fun e w' => e = .returned (.int .i64 0) ∧ w = w' := by
  go_enter Try.func32, Try.ntmps32
  go_wp2_with fail
  go_ret
  exact ⟨rfl, rfl⟩
theorem bdeep_nil (w : World) : Calls Try.prog 38 #[.pointer none] w fun e w' => e = .returned (.int .i64 0) ∧ w = w' := by
  go_enter Try.func38, Try.ntmps38
  go_wp2_with fail
  go_ret
  exact ⟨rfl, rfl⟩
theorem bdone_nil (w : World) : Calls Try.prog 31 #[.pointer none] w fun e w' => e = .returned (.tuple #[.slice none 0 0, .int .i64 1]) ∧ w = w' := by
  go_enter Try.func31, Try.ntmps31
  go_wp2_with fail
  go_ret2
  exact ⟨rfl, rfl⟩

section
variable (ok : Nat → Prop) (g : Nat) (bs : List UInt8) (most : Nat) (ps : List (Nat × Nat)) (w : World) (hb : Bld w ok g bs most ps)
include hb
theorem blen_any : Calls Try.prog 32 #[.pointer (some ⟨g, 0, none⟩)] w fun e w' => e = .returned (.int .i64 bs.length) ∧ w = w' := by
  obtain ⟨j0, j1, j2, vb, vo, j3, j4, j5⟩ := hb
  obtain ⟨Ab, cb, rfl, hcb⟩ := j3.shape
  have hc0 : w.cell? ⟨g, 0, none⟩ = some (.slice Ab bs.length cb) := j5.cell 0
  go_enter Try.func32, Try.ntmps32
  go_wp2_with fail
  go_ret
  exact ⟨rfl, rfl⟩
theorem bdeep_any : Calls Try.prog 38 #[.pointer (some ⟨g, 0, none⟩)] w fun e w' => e = .returned (.int .i64 ps.length) ∧ w = w' := by
  obtain ⟨j0, j1, j2, vb, vo, j3, j4, j5⟩ := hb
  obtain ⟨Ao, co, rfl, hco⟩ := j4.shape
  have hc2 : w.cell? ⟨g, 2, none⟩ = some (.slice Ao ps.length co) := j5.cell 2
  go_enter Try.func38, Try.ntmps38
  go_wp2_with fail
  go_ret
  exact ⟨rfl, rfl⟩
theorem bdone_open (hp : ps ≠ []) : Calls Try.prog 31 #[.pointer (some ⟨g, 0, none⟩)] w fun e w' => e = .returned (.tuple #[.slice none 0 0, .int .i64 17]) ∧ w = w' := by
  obtain ⟨j0, j1, j2, vb, vo, j3, j4, j5⟩ := hb
  obtain ⟨Ao, co, rfl, hco⟩ := j4.shape
  have hc2 : w.cell? ⟨g, 2, none⟩ = some (.slice Ao ps.length co) := j5.cell 2
  have hpl : 0 < ps.length := List.length_pos_iff.2 hp
  clear hp
  go_enter Try.func31, Try.ntmps31
  go_wp2_with fail
  go_ret2
  exact ⟨rfl, rfl⟩
end

theorem bdone_any (ok : Nat → Prop) (g : Nat) (bs : List UInt8) (most : Nat) (w : World) (hb : Bld w ok g bs most []) :
    Calls Try.prog 31 #[.pointer (some ⟨g, 0, none⟩)] w fun e w' => ∃ A c, e = .returned (.tuple #[.slice A bs.length c, .int .i64 0]) ∧ bs.length ≤ c ∧ BR w' (fun i => w.heap.size ≤ i) (.slice A bs.length c) bs ∧ Bld w' ok g bs most [] ∧ Kp (fun _ => False) w w' := by
  obtain ⟨j0, j1, j2, vb, vo, j3, j4, j5⟩ := id hb
  obtain ⟨Ao, co, rfl, hco⟩ := j4.shape
  obtain ⟨Ab, cb, rfl, hcb⟩ := j3.shape
  have hr := j3.rd
  have hc0 : w.cell? ⟨g, 0, none⟩ = some (.slice Ab bs.length cb) := j5.cell 0
  have hc2 : w.cell? ⟨g, 2, none⟩ = some (.slice Ao 0 co) := j5.cell 2
  obtain ⟨i0, hi0, hz0, hz1, hz2⟩ := info_parts u8_info'
  have hP : ∀ v2 w2, w2.ownsRow 0 5 1 v2 (0 + bs.length) ([] ++ bc bs) → w.grownBy w2 none → (v2.ownBlock = none ∨ v2.ownBlock = some w.heap.size) →
      ∃ A c, (Ending.returned (.tuple #[v2, .int .i64 0])) = .returned (.tuple #[.slice A bs.length c, .int .i64 0]) ∧ bs.length ≤ c ∧ BR w2 (fun i => w.heap.size ≤ i) (.slice A bs.length c) bs ∧ Bld w2 ok g bs most [] ∧ Kp (fun _ => False) w w2 := by
    intro v2 w2 hown hgrow hat
    have hk : Kp (fun _ => False) w w2 := (Kp.refl _ _).grown hgrow (fun k hk => by cases hk)
    rw [Nat.zero_add, List.nil_append] at hown
    have hO : Own w2 (fun i => w.heap.size ≤ i) 5 1 v2 bs.length (bc bs) := ⟨hown, fun k hk => by rcases hat with e | e <;> rw [e] at hk <;> cases hk; exact Nat.le_refl _⟩
    obtain ⟨A, c, rfl, hc⟩ := hO.shape
    exact ⟨A, c, rfl, hc, BR.of_own' hO hc, hb.kp hk (fun _ _ h => h), hk⟩
  have HP := Lib.hid hP
  clear hP
  go_enter Try.func31, Try.ntmps31
  go_wp2_with (at_builtin; refine wpList_append_any w rfl (.const (.slice none 0 0)) (.tmp 17) _ rfl 0 5 i0 _ 1 1 Try.underlying22 hi0 hz0 hz1 hz2 rfl (by omega) (.slice none 0 0) 0 [] rfl ⟨by simp, .inl ⟨rfl, rfl⟩⟩ ok Ab bs.length cb (bc bs) rfl hr (bc_one _) (by simp only [maxLen]; omega) (by omega) (Nat.zero_le _) ?_; intro v2 w2 hown hgrow hat)
  go_ret2
  exact HP.out _ _ hown hgrow hat

end Go.Proofs.Ytgndammlhljfjaa
