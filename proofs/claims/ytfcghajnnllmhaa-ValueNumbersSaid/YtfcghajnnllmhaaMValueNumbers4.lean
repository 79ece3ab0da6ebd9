/-
  Texts for the law ValueNumbers: part 4.
-/
import Derived.Deep.RegionHeld3
import Derived.Deep.RegionWith
import Derived.Laws.BitsAllLaws
import Derived.Laws.Bits64
import Derived.RowKit
import Derived.Test.YtfcghajnnllmhaaProg
import Derived.Deep.QuietTactic
import Derived.BigQuiet
import Derived.Laws.LoneSync
import Derived.Test.YtfcghajnnllmhaaRows
import Derived.LaidHandle
import Derived.LaidMore
import Derived.Deep.LoopGhost
import Derived.Lib.SliceRun
import Derived.Lib.Hide
import Derived.Deep.CutRange
import Derived.Test.YtfcghajnnllmhaaMValueNumbers1
import Derived.Test.YtfcghajnnllmhaaMValueNumbers2
import Derived.Test.YtfcghajnnllmhaaMValueNumbers3

set_option linter.unusedVariables false
set_option linter.unusedSimpArgs false
namespace Go.Proofs.Ytfcghajnnllmhaa
open Go.RowKit

def numsV (ns : List Int) : List Vt := ns.map fun n => .mk ⟨n,[]⟩ []
def numsC (ns : List Int) : List Value := ns.flatMap fun n => [.int .u64 n,.slice none 0 0,.slice none 0 0]
/-- Numbers, laid as a slice of values. -/
theorem VsR.nums {W : World} {g : Nat} {ns : List Int} (hu : ∀ n ∈ ns,u64B n) (hl : ns.length ≤ 140737488355328) (hb : Blk W g 46 (numsC ns).toArray) : VsR W (· = g) (.slice (some ⟨g,0,none⟩) ns.length ns.length) (numsV ns) := by
 refine ⟨some ⟨g,0,none⟩,ns.length,by simp [numsV],by simp [numsV],by simpa [numsV] using hl,fun h0 => ⟨g,0,rfl,rfl,?_⟩⟩
 refine TRs.of (fun i hi => ?_)
 have hi' : i < ns.length := by simpa [numsV] using hi
 refine ⟨[.int .u64 ns[i],.slice none 0 0,.slice none 0 0],?_,fun j u hu' => ?_⟩
 ·have e : (numsV ns)[i] = .mk ⟨ns[i],[]⟩ [] := by simp [numsV]
  rw [e]
  exact (TR_def _ _ _ _ _ _).2 ⟨[.int .u64 ns[i],.slice none 0 0],none,0,rfl,rfl,⟨_,rfl,hu _ (List.getElem_mem hi'),BR.nil,by show 0 ≤ _;omega⟩,Nat.le_refl _,by show 0 ≤ _;omega,fun h => by simp [RT.l] at h⟩
 ·rw [Nat.zero_add,hb.cell]
  have hj : j < 3 := by
   have := (List.getElem?_eq_some_iff.1 hu').1
   simpa using this
  have key : ∀ (ns : List Int) (i : Nat) (hi : i < ns.length),(numsC ns)[i * 3 + j]? = ([.int .u64 (ns[i]'hi),.slice none 0 0,.slice none 0 0] : List Value)[j]? := by
   intro ns
   induction ns with
   | nil => intro i hi;simp at hi
   | cons n t ih =>
    intro i hi
    rw [numsC,List.flatMap_cons]
    cases i with
    | zero =>
     rw [List.getElem?_append_left (by simp;omega)]
     simp
    | succ i =>
     rw [List.getElem?_append_right (by simp;omega)]
     have := ih i (by simpa using hi)
     rw [numsC] at this
     simp only [List.length_cons,List.length_nil,List.getElem_cons_succ]
     rw [← this]
     congr 1
     omega
  have := key ns i hi'
  rw [hu'] at this
  simpa using this

def F5a : Fm := .mk ⟨2,1,2,4,2⟩ [.mk ⟨0,1,0,0,0⟩ []]
theorem fits5a : sizeR F5a (.mk ⟨0,[]⟩ (numsV [5,6])) = (3,0) := by kernel_rfl
theorem fits5b : sizeR F5a (.mk ⟨0,[]⟩ (numsV [5,6,7])) = (0,5) := by kernel_rfl
theorem fits5c : sizeR F5a (.mk ⟨0,[]⟩ (numsV [5,256])) = (0,3) := by kernel_rfl

set_option maxRecDepth 100000 in
set_option maxHeartbeats 3200000 in
theorem alive05 (w : World) : Calls Try.prog 30 #[] w fun e w' => e = .returned (.bool true) ∧ Kp (fun _ => False) w w' := by
 have u5 : ∀ n : Int,0 ≤ n → n ≤ 1000 → u64B n := fun n h0 h1 => by unfold u64B;omega
 have bb : ∀ n : Int,0 ≤ n → n ≤ 100000 → i64B n := fun n h0 h1 => by unfold i64B;omega
 have HN := Lib.hid (fun x W => vnum_any x W)
 have HL := Lib.hid (fun (ns : List Int) (hu : ∀ n ∈ ns,u64B n) (hl : ns.length ≤ 1000) W g (hb : Blk W g 46 (numsC ns).toArray) => vlist_any (· = g) _ (numsV ns) W (fun i hi => hi ▸ hb.lt) (VsR.nums hu (by omega) hb) (by simp [numsV];omega))
 have hn2 : ∀ n ∈ ([5,6] : List Int),u64B n := by intro n hn;simp at hn;rcases hn with rfl | rfl <;> exact u5 _ (by omega) (by omega)
 have hn3 : ∀ n ∈ ([5,6,7] : List Int),u64B n := by intro n hn;simp at hn;rcases hn with rfl | rfl | rfl <;> exact u5 _ (by omega) (by omega)
 have hn4 : ∀ n ∈ ([5,256] : List Int),u64B n := by intro n hn;simp at hn;rcases hn with rfl | rfl <;> exact u5 _ (by omega) (by omega)
 have HL2 := Lib.hid (fun W g hb => HL.out [5,6] hn2 (by simp) W g hb)
 have HL3 := Lib.hid (fun W g hb => HL.out [5,6,7] hn3 (by simp) W g hb)
 have HL4 := Lib.hid (fun W g hb => HL.out [5,256] hn4 (by simp) W g hb)
 clear hn2 hn3 hn4 HL
 have hka0 : ∀ o1 o2,Kp (fun _ => False) w ((w.alloc o1).alloc o2) := fun o1 o2 => ((Kp.refl _ _).alloc o1).alloc o2
 have HKA := Lib.hid hka0
 have h1 : FmR w (· < w.heap.size) (.agg #[.int .i64 0,.int .i64 1,.int .i64 0,.int .i64 0,.int .i64 0,.slice none 0 0]) (.mk ⟨0,1,0,0,0⟩ []) := FmW.flat w 0 1 0 0 0 (bb 0 (by omega) (by omega)) (bb 1 (by omega) (by omega)) (bb 0 (by omega) (by omega)) (bb 0 (by omega) (by omega)) (bb 0 (by omega) (by omega))
 have hform : ∀ o2,FmR ((w.alloc (.cells #[.int .i64 0,.int .i64 1,.int .i64 0,.int .i64 0,.int .i64 0,.slice none 0 0] 27)).alloc o2) (fun i => i < w.heap.size ∨ w.heap.size ≤ i) (.agg #[.int .i64 2,.int .i64 1,.int .i64 2,.int .i64 4,.int .i64 2,.slice (some ⟨w.heap.size,0,none⟩) 1 1]) F5a := fun o2 =>
  ⟨_,rfl,⟨bb 2 (by omega) (by omega),bb 1 (by omega) (by omega),bb 2 (by omega) (by omega),bb 4 (by omega) (by omega),bb 2 (by omega) (by omega)⟩,FsR.one_ (f := .mk ⟨0,1,0,0,0⟩ []) h1 (hka0 _ _) (fun _ _ h => h) (Nat.le_refl _) ((Blk.new w 27 _).alloc o2)⟩
 have HFM := Lib.hid hform
 have HBF := Lib.hid (Blk.new (w.alloc (.cells #[.int .i64 0,.int .i64 1,.int .i64 0,.int .i64 0,.int .i64 0,.slice none 0 0] 27)) 27 #[.int .i64 2,.int .i64 1,.int .i64 2,.int .i64 4,.int .i64 2,.slice (some ⟨w.heap.size,0,none⟩) 1 1])
 clear hka0 hform u5 bb h1
 go_enter Try.func30,Try.ntmps30
 go_upto_region 2 with fail
 obtain ⟨W0,hW0⟩ : ∃ W0,(w.alloc (.cells #[.int .i64 0,.int .i64 1,.int .i64 0,.int .i64 0,.int .i64 0,.slice none 0 0] 27)).alloc (.cells #[.int .i64 2,.int .i64 1,.int .i64 2,.int .i64 4,.int .i64 2,.slice (some ⟨w.heap.size,0,none⟩) 1 1] 27) = W0 := ⟨_,rfl⟩
 have hk0 := HKA.out (.cells #[.int .i64 0,.int .i64 1,.int .i64 0,.int .i64 0,.int .i64 0,.slice none 0 0] 27) (.cells #[.int .i64 2,.int .i64 1,.int .i64 2,.int .i64 4,.int .i64 2,.slice (some ⟨w.heap.size,0,none⟩) 1 1] 27)
 have hf0 := HFM.out (.cells #[.int .i64 2,.int .i64 1,.int .i64 2,.int .i64 4,.int .i64 2,.slice (some ⟨w.heap.size,0,none⟩) 1 1] 27)
 have hb0 := HBF.out
 rw [World.size_alloc] at hb0
 rw [hW0] at hk0 hf0 hb0 ⊢
 obtain ⟨gi,hgi⟩ : ∃ gi,w.heap.size = gi := ⟨_,rfl⟩
 obtain ⟨g1,hg1⟩ : ∃ g1,gi + 1 = g1 := ⟨_,rfl⟩
 rw [hgi] at hf0 hb0 ⊢
 rw [hg1] at hb0 ⊢
 have HK0 := Lib.hid hk0
 have HF0 := Lib.hid hf0
 have HB0 := Lib.hid hb0
 clear hW0 hk0 hf0 hb0 hgi hg1 HFM HBF HKA
 go_wp2_with fail
 refine (HN.out _ _).mono ?_
 rintro e w1 ⟨rfl,hk1⟩
 have HK1 := Lib.hid hk1
 clear hk1
 go_wp2_with fail
 refine (HN.out _ _).mono ?_
 rintro e w2 ⟨rfl,hk2⟩
 have HK2 := Lib.hid (HK1.out.then_ hk2 (fun _ h => h.elim))
 clear hk2
 have HB2 := Lib.hid (Blk.new w2 46 #[.int .u64 5,.slice none 0 0,.slice none 0 0,.int .u64 6,.slice none 0 0,.slice none 0 0])
 have HK2a := Lib.hid (HK2.out.alloc (.cells #[.int .u64 5,.slice none 0 0,.slice none 0 0,.int .u64 6,.slice none 0 0,.slice none 0 0] 46))
 go_wp2_with fail
 refine (HL2.out _ _ HB2.out).mono ?_
 rintro e w3 ⟨A,c,rfl,hv3,hk3⟩
 simp only [show (numsV [5,6]).length = 2 from rfl] at hv3 ⊢
 have hk30 := HK2a.out.then_ hk3 (fun _ h => h.elim)
 have hka := hk30.alloc (.cells #[.int .u64 0,.slice none 0 0,.slice A 2 c] 46)
 have HB3 := Lib.hid (Blk.new w3 46 #[.int .u64 0,.slice none 0 0,.slice A 2 c])
 have HK3 := Lib.hid hka
 have HV3 := Lib.hid (hv3.kp ((Kp.refl (fun _ => False) w3).alloc (.cells #[.int .u64 0,.slice none 0 0,.slice A 2 c] 46)) (fun _ _ h => h))
 clear hv3 hk3 hk30 hka
 go_upto_region 3 with fail
 obtain ⟨W1,hW1⟩ : ∃ W1,w3.alloc (.cells #[.int .u64 0,.slice none 0 0,.slice A 2 c] 46) = W1 := ⟨_,rfl⟩
 have hk3 := HK3.out
 have hv3 := HV3.out
 have hb3 := HB3.out
 rw [hW1] at hk3 hv3 hb3 ⊢
 obtain ⟨g2,hg2⟩ : ∃ g2,w3.heap.size = g2 := ⟨_,rfl⟩
 rw [hg2] at hb3 ⊢
 have HCE := Lib.hid (show ∀ w',Kp (fun _ => False) W1 w' → ((w').cell? ⟨g1,0,none⟩ = some (.int .i64 2) ∧ (w').cell? ⟨g1,1,none⟩ = some (.int .i64 1) ∧ (w').cell? ⟨g1,2,none⟩ = some (.int .i64 2) ∧ (w').cell? ⟨g1,3,none⟩ = some (.int .i64 4) ∧ (w').cell? ⟨g1,4,none⟩ = some (.int .i64 2) ∧ (w').cell? ⟨g1,5,none⟩ = some (.slice (some ⟨gi,0,none⟩) 1 1) ∧ (w').cell? ⟨g2,0,none⟩ = some (.int .u64 0) ∧ (w').cell? ⟨g2,1,none⟩ = some (.slice none 0 0) ∧ (w').cell? ⟨g2,2,none⟩ = some (.slice A 2 c)) from fun w' hk => by
  have hb := (HB0.out.kp hk3 (fun h => h)).kp hk (fun h => h)
  have hc := hb3.kp hk (fun h => h)
  exact ⟨hb.cell 0,hb.cell 1,hb.cell 2,hb.cell 3,hb.cell 4,hb.cell 5,hc.cell 0,hc.cell 1,hc.cell 2⟩)
 have HFC := Lib.hid (show ∀ (x : Vt) (r : Int × Int),sizeR F5a x = r → ∀ u W,Kp (fun _ => False) W1 W → (∃ ok,VtR W ok u x) → Calls Try.prog 33 #[.agg #[.int .i64 2,.int .i64 1,.int .i64 2,.int .i64 4,.int .i64 2,.slice (some ⟨gi,0,none⟩) 1 1],u] W fun e w' => e = .returned (.int .i64 r.2) ∧ Kp (fun _ => False) W w' from fun x r hr u W hk ⟨ok,hu⟩ => hr ▸ vfits_any _ ok F5a x _ u W ((HF0.out.kp hk3 (fun _ _ h => h)).kp hk (fun _ _ h => h)) hu)
 have HSC := Lib.hid (show ∀ u W,Kp (fun _ => False) W1 W → (∃ ok,VtR W ok u (.mk ⟨0,[]⟩ (numsV [5,6]))) → Calls Try.prog 32 #[.agg #[.int .i64 2,.int .i64 1,.int .i64 2,.int .i64 4,.int .i64 2,.slice (some ⟨gi,0,none⟩) 1 1],u] W fun e w' => e = .returned (.int .i64 3) ∧ Kp (fun _ => False) W w' from fun u W hk ⟨ok,hu⟩ => by
  have := vsize_any _ ok F5a _ _ u W ((HF0.out.kp hk3 (fun _ _ h => h)).kp hk (fun _ _ h => h)) hu
  rw [fits5a] at this
  exact this)
 have HVA := Lib.hid (show ∀ W,Kp (fun _ => False) W1 W → VtR W (fun i => i = w2.heap.size ∨ (w2.alloc (.cells #[.int .u64 5,.slice none 0 0,.slice none 0 0,.int .u64 6,.slice none 0 0,.slice none 0 0] 46)).heap.size ≤ i) (.agg #[.int .u64 0,.slice none 0 0,.slice A 2 c]) (.mk ⟨0,[]⟩ (numsV [5,6])) from fun W hk => hv3.kp hk (fun _ _ h => h))
 have HKW := Lib.hid hk3
 have HKR := Lib.hid (Kp.refl (fun _ => False) W1)
 have HFA := Lib.hid (HFC.out _ _ fits5a)
 have HFB := Lib.hid (HFC.out _ _ fits5b)
 have HFD := Lib.hid (HFC.out _ _ fits5c)
 clear hW1 hk3 hv3 hb3 hg2 HFC HK1 HK2 HK2a HK3 HV3 HB3 HB2 HF0 HB0 HL2
 go_region_held3 (fun w' => ((w').cell? ⟨g1,0,none⟩ = some (.int .i64 2) ∧ (w').cell? ⟨g1,1,none⟩ = some (.int .i64 1) ∧ (w').cell? ⟨g1,2,none⟩ = some (.int .i64 2) ∧ (w').cell? ⟨g1,3,none⟩ = some (.int .i64 4) ∧ (w').cell? ⟨g1,4,none⟩ = some (.int .i64 2) ∧ (w').cell? ⟨g1,5,none⟩ = some (.slice (some ⟨gi,0,none⟩) 1 1) ∧ (w').cell? ⟨g2,0,none⟩ = some (.int .u64 0) ∧ (w').cell? ⟨g2,1,none⟩ = some (.slice none 0 0) ∧ (w').cell? ⟨g2,2,none⟩ = some (.slice A 2 c))) (first | exact HCE.out _ HKR.out | exact HCE.out _ HKR.out.drew | exact HCE.out _ (HKR.out.alloc _) | exact HCE.out _ (HKR.out.drew.alloc _)) (first
  | (go_at_call_of 33 (Value.slice A 2 c);refine (HFA.out _ _ ?_ ?_).mono ?_;exact (by first | exact HKR.out | exact HKR.out.drew | exact HKR.out.alloc _ | exact (HKR.out.drew).alloc _ | exact (HKR.out.alloc _).drew);exact ⟨_,HVA.out _ (by first | exact HKR.out | exact HKR.out.drew | exact HKR.out.alloc _ | exact (HKR.out.drew).alloc _ | exact (HKR.out.alloc _).drew)⟩;rintro e w5 ⟨rfl,hk5⟩;have hq := Kp.then_ (a := W1) (S := fun _ => False) (by first | exact HKR.out | exact HKR.out.drew | exact HKR.out.alloc _ | exact (HKR.out.drew).alloc _ | exact (HKR.out.alloc _).drew) hk5 (fun _ h => h.elim);clear HKR;have HKR := Lib.hid hq;clear hq;clear hk5)
  | (go_at_call 32;refine (HSC.out _ _ ?_ ?_).mono ?_;exact (by first | exact HKR.out | exact HKR.out.drew | exact HKR.out.alloc _ | exact (HKR.out.drew).alloc _ | exact (HKR.out.alloc _).drew);exact ⟨_,HVA.out _ (by first | exact HKR.out | exact HKR.out.drew | exact HKR.out.alloc _ | exact (HKR.out.drew).alloc _ | exact (HKR.out.alloc _).drew)⟩;rintro e w5 ⟨rfl,hk5⟩;have hq := Kp.then_ (a := W1) (S := fun _ => False) (by first | exact HKR.out | exact HKR.out.drew | exact HKR.out.alloc _ | exact (HKR.out.drew).alloc _ | exact (HKR.out.alloc _).drew) hk5 (fun _ h => h.elim);clear HKR;have HKR := Lib.hid hq;clear hq;clear hk5)
  | (go_at_call 38;refine (HN.out _ _).mono ?_;rintro e w5 ⟨rfl,hk5⟩;have hq := Kp.then_ (a := W1) (S := fun _ => False) (by first | exact HKR.out | exact HKR.out.drew | exact HKR.out.alloc _ | exact (HKR.out.drew).alloc _ | exact (HKR.out.alloc _).drew) hk5 (fun _ h => h.elim);clear HKR;have HKR := Lib.hid hq;clear hq;clear hk5)
  | (go_at_call_of 36 (3 : Nat);refine (HL3.out _ _ ?_).mono ?_;(first | exact Blk.new _ _ _ | exact (Blk.new _ _ _).drew);rintro e w5 ⟨A5,c5,rfl,hv5,hk5⟩;have HV5 := Lib.hid hv5;clear hv5;have hq := Kp.then_ (a := W1) (S := fun _ => False) (by first | exact HKR.out | exact HKR.out.drew | exact HKR.out.alloc _ | exact (HKR.out.drew).alloc _ | exact (HKR.out.alloc _).drew) hk5 (fun _ h => h.elim);clear HKR;have HKR := Lib.hid hq;clear hq;clear hk5)
  | (go_at_call_of 36 (2 : Nat);refine (HL4.out _ _ ?_).mono ?_;(first | exact Blk.new _ _ _ | exact (Blk.new _ _ _).drew);rintro e w5 ⟨A6,c6,rfl,hv5,hk5⟩;have HV6 := Lib.hid hv5;clear hv5;have hq := Kp.then_ (a := W1) (S := fun _ => False) (by first | exact HKR.out | exact HKR.out.drew | exact HKR.out.alloc _ | exact (HKR.out.drew).alloc _ | exact (HKR.out.alloc _).drew) hk5 (fun _ h => h.elim);clear HKR;have HKR := Lib.hid hq;clear hq;clear hk5)
  | (go_at_call_of 33 A5;refine (HFB.out _ _ ?_ ?_).mono ?_;exact (by first | exact HKR.out | exact HKR.out.drew | exact HKR.out.alloc _ | exact (HKR.out.drew).alloc _ | exact (HKR.out.alloc _).drew);(first | exact ⟨_,HV5.out⟩ | exact ⟨_,HV5.out.kp (Kp.refl (fun _ => False) _).drew (fun _ _ h => h)⟩);rintro e w5 ⟨rfl,hk5⟩;have hq := Kp.then_ (a := W1) (S := fun _ => False) (by first | exact HKR.out | exact HKR.out.drew | exact HKR.out.alloc _ | exact (HKR.out.drew).alloc _ | exact (HKR.out.alloc _).drew) hk5 (fun _ h => h.elim);clear HKR;have HKR := Lib.hid hq;clear hq;clear hk5)
  | (go_at_call_of 33 A6;refine (HFD.out _ _ ?_ ?_).mono ?_;exact (by first | exact HKR.out | exact HKR.out.drew | exact HKR.out.alloc _ | exact (HKR.out.drew).alloc _ | exact (HKR.out.alloc _).drew);(first | exact ⟨_,HV6.out⟩ | exact ⟨_,HV6.out.kp (Kp.refl (fun _ => False) _).drew (fun _ _ h => h)⟩);rintro e w5 ⟨rfl,hk5⟩;have hq := Kp.then_ (a := W1) (S := fun _ => False) (by first | exact HKR.out | exact HKR.out.drew | exact HKR.out.alloc _ | exact (HKR.out.drew).alloc _ | exact (HKR.out.alloc _).drew) hk5 (fun _ h => h.elim);clear HKR;have HKR := Lib.hid hq;clear hq;clear hk5))
 go_wp2_with fail
 go_ret
 exact ⟨rfl,HK0.out.then_ (HKW.out.then_ HKR.out (fun _ h => h.elim)) (fun _ h => h.elim)⟩
end Go.Proofs.Ytfcghajnnllmhaa

namespace Go.Proofs.Ytfcghajnnllmhaa
open Go.RowKit
set_option maxRecDepth 100000

theorem tr_form {W : World} {ok : Nat → Prop} (a : FH) (ha : a.ok) (P : List Fm) (A : Option Addr) (n c : Nat) (hn : n = P.length) (hc : n ≤ c) (hP : n ≤ 140737488355328) (ht : TL FHd 6 W ok P A) : TR FHd 6 W ok (.mk a P) [.int .i64 a.k,.int .i64 a.s,.int .i64 a.lo,.int .i64 a.hi,.int .i64 a.st,.slice A n c] := by
 subst hn
 exact (TR_def _ _ _ _ _ _).2 ⟨[.int .i64 a.k,.int .i64 a.s,.int .i64 a.lo,.int .i64 a.hi,.int .i64 a.st],A,c,rfl,rfl,⟨rfl,ha⟩,hc,hP,ht⟩
theorem tr_value {W : World} {ok : Nat → Prop} (x : Int) (hx : u64B x) (P : List Vt) (A : Option Addr) (n c : Nat) (hn : n = P.length) (hc : n ≤ c) (hP : n ≤ 140737488355328) (ht : TL VHd 3 W ok P A) : TR VHd 3 W ok (.mk ⟨x,[]⟩ P) [.int .u64 x,.slice none 0 0,.slice A n c] := by
 subst hn
 exact (TR_def _ _ _ _ _ _).2 ⟨[.int .u64 x,.slice none 0 0],A,c,rfl,rfl,⟨_,rfl,hx,BR.nil,Nat.zero_le _⟩,hc,hP,ht⟩
theorem tl_none {α : Type} {H : Head α} {m : Nat} {W : World} {ok : Nat → Prop} {A : Option Addr} : TL H m W ok [] A := fun h => absurd h (Nat.lt_irrefl 0)
/-- One, two things in a block. -/
theorem tl_one {α : Type} {H : Head α} {W : World} {ok : Nat → Prop} {g m : Nat} {t : TypeId} {cs : Array Value} (hb : Blk W g t cs) (hok : ok g) (x : RT α) (l : List Value) (hx : TR H m W ok x l) (he : cs.toList = l) : TL H m W ok [x] (some ⟨g,0,none⟩) := by
 refine fun _ => ⟨g,0,rfl,hok,?_⟩
 rw [TRs,TRs]
 refine ⟨⟨_,hx,fun j u hu => ?_⟩,trivial⟩
 rw [hb.cell,Nat.zero_add,← Array.getElem?_toList,he]
 exact hu
theorem i64_small (i : Int) (h1 : -100 ≤ i) (h2 : i ≤ 1000) : i64B i := by unfold i64B;omega
theorem u64_small (i : Int) (h1 : 0 ≤ i) (h2 : i ≤ 1000) : u64B i := by unfold u64B;omega
theorem fh_small (k s lo hi st : Int) (h : ∀ i ∈ [k,s,lo,hi,st], -100 ≤ i ∧ i ≤ 1000) : FH.ok ⟨k,s,lo,hi,st⟩ := by
 have : ∀ i ∈ [k,s,lo,hi,st],i64B i := fun i hi => i64_small i (h i hi).1 (h i hi).2
 exact ⟨this _ (by simp),this _ (by simp),this _ (by simp),this _ (by simp),this _ (by simp)⟩
end Go.Proofs.Ytfcghajnnllmhaa

namespace Go.Proofs.Ytfcghajnnllmhaa.QP
open Go.RowKit Go.Proofs.YtfcghajnnllmhaaW.PrintWords Go.Proofs.YtfcghajnnllmhaaW.PrintLast Go.Proofs.YtfcghajnnllmhaaW.PrintMore
attribute [local go_sem] max2_int min2_int max_two min_two max_three min_three max_four min_four   -- for this text's walks alone
set_option linter.unusedVariables false
set_option linter.unusedSimpArgs false

/-! ### passepartoutref04_Most: function 35 -/
mutual
def passepartoutref04_Most.j0 : Nat → Int → Bool → Int → Int → Int → Int → Int → List (S27) → Option (Int)
 | 0,_,_,_,_,_,_,_,_ => none
 | k + 1,x6,x11,x284000,x284001,x284002,x284003,x284004,x284005 => if x11 = true then (some (wrap64 (x284001 + x284003))) else (if x6 = 4 then (some x284003) else (if x6 = 5 then (some x284002) else (passepartoutref04_Most.l0 k 0 0 x284000 x284001 x284002 x284003 x284004 x284005)))
def passepartoutref04_Most.l0 : Nat → Int → Int → Int → Int → Int → Int → Int → List (S27) → Option (Int)
 | 0,_,_,_,_,_,_,_,_ => none
 | k + 1,x3,x4,x284000,x284001,x284002,x284003,x284004,x284005 => if x4 < (x284005.length : Int) then (if 0 ≤ x4 then ((passepartoutref04_Most.f k ((rd_T27 x284005 x4).f0) ((rd_T27 x284005 x4).f1) ((rd_T27 x284005 x4).f2) ((rd_T27 x284005 x4).f3) ((rd_T27 x284005 x4).f4) ((rd_T27 x284005 x4).f5)).bind fun t285 => (passepartoutref04_Most.l0 k (wrap64 (x3 + t285)) (wrap64 (x4 + 1)) x284000 x284001 x284002 x284003 x284004 x284005)) else (none)) else (some x3)
def passepartoutref04_Most.f : Nat → Int → Int → Int → Int → Int → List (S27) → Option (Int)
 | 0,_,_,_,_,_,_ => none
 | k + 1,a0_0,a0_1,a0_2,a0_3,a0_4,l0_5 => if a0_0 = 0 then (some a0_1) else (if a0_0 = 1 then (passepartoutref04_Most.j0 k a0_0 (a0_0 == 1) a0_0 a0_1 a0_2 a0_3 a0_4 l0_5) else (passepartoutref04_Most.j0 k a0_0 (a0_0 == 2) a0_0 a0_1 a0_2 a0_3 a0_4 l0_5))
end
theorem passepartoutref04_Most.mono_l : ∀ k,(∀ y0 y1 y2 y3 y4 y5,LeO (passepartoutref04_Most.f k y0 y1 y2 y3 y4 y5) (passepartoutref04_Most.f (k + 1) y0 y1 y2 y3 y4 y5)) ∧ (∀ y0 y1 y2 y3 y4 y5 y6 y7,LeO (passepartoutref04_Most.j0 k y0 y1 y2 y3 y4 y5 y6 y7) (passepartoutref04_Most.j0 (k + 1) y0 y1 y2 y3 y4 y5 y6 y7)) ∧ (∀ y0 y1 y2 y3 y4 y5 y6 y7,LeO (passepartoutref04_Most.l0 k y0 y1 y2 y3 y4 y5 y6 y7) (passepartoutref04_Most.l0 (k + 1) y0 y1 y2 y3 y4 y5 y6 y7))
 | 0 => ⟨fun _ _ _ _ _ _ r h => by simp [passepartoutref04_Most.f] at h,fun _ _ _ _ _ _ _ _ r h => by simp [passepartoutref04_Most.j0] at h,fun _ _ _ _ _ _ _ _ r h => by simp [passepartoutref04_Most.l0] at h⟩
 | k + 1 => by
  obtain ⟨ih0,ih1,ih2⟩ := passepartoutref04_Most.mono_l k
  refine ⟨?_,?_,?_⟩
  ·intro y0 y1 y2 y3 y4 y5
   unfold passepartoutref04_Most.f
   repeat' first
   | (with_reducible exact ih0 _ _ _ _ _ _)
   | (with_reducible exact ih1 _ _ _ _ _ _ _ _)
   | (with_reducible exact ih2 _ _ _ _ _ _ _ _)
   | (with_reducible exact LeO.refl _)
   | (with_reducible exact LeO.none _)
   | (with_reducible refine LeO.ite ?_ ?_)
   | (with_reducible refine LeO.bind ?_ (fun _ => ?_))
   | exact ih0 _ _ _ _ _ _
   | exact ih1 _ _ _ _ _ _ _ _
   | exact ih2 _ _ _ _ _ _ _ _
   | exact LeO.none _
   | refine LeO.ite ?_ ?_
   | refine LeO.bind ?_ (fun _ => ?_)
  ·intro y0 y1 y2 y3 y4 y5 y6 y7
   unfold passepartoutref04_Most.j0
   repeat' first
   | (with_reducible exact ih0 _ _ _ _ _ _)
   | (with_reducible exact ih1 _ _ _ _ _ _ _ _)
   | (with_reducible exact ih2 _ _ _ _ _ _ _ _)
   | (with_reducible exact LeO.refl _)
   | (with_reducible exact LeO.none _)
   | (with_reducible refine LeO.ite ?_ ?_)
   | (with_reducible refine LeO.bind ?_ (fun _ => ?_))
   | exact ih0 _ _ _ _ _ _
   | exact ih1 _ _ _ _ _ _ _ _
   | exact ih2 _ _ _ _ _ _ _ _
   | exact LeO.none _
   | refine LeO.ite ?_ ?_
   | refine LeO.bind ?_ (fun _ => ?_)
  ·intro y0 y1 y2 y3 y4 y5 y6 y7
   unfold passepartoutref04_Most.l0
   repeat' first
   | (with_reducible exact ih0 _ _ _ _ _ _)
   | (with_reducible exact ih1 _ _ _ _ _ _ _ _)
   | (with_reducible exact ih2 _ _ _ _ _ _ _ _)
   | (with_reducible exact LeO.refl _)
   | (with_reducible exact LeO.none _)
   | (with_reducible refine LeO.ite ?_ ?_)
   | (with_reducible refine LeO.bind ?_ (fun _ => ?_))
   | exact ih0 _ _ _ _ _ _
   | exact ih1 _ _ _ _ _ _ _ _
   | exact ih2 _ _ _ _ _ _ _ _
   | exact LeO.none _
   | refine LeO.ite ?_ ?_
   | refine LeO.bind ?_ (fun _ => ?_)
theorem passepartoutref04_Most.mono : ∀ a0 a1 a2 a3 a4 a5 k,LeO (passepartoutref04_Most.f k a0 a1 a2 a3 a4 a5) (passepartoutref04_Most.f (k + 1) a0 a1 a2 a3 a4 a5) := by
 intro a0 a1 a2 a3 a4 a5 k
 obtain ⟨ih0,ih1,ih2⟩ := passepartoutref04_Most.mono_l k
 exact ih0 a0 a1 a2 a3 a4 a5
set_option maxHeartbeats 8000000 in
set_option maxRecDepth 100000 in
theorem passepartoutref04_Most.calls (k : Nat) : ∀ (a0_0 : Int) (a0_1 : Int) (a0_2 : Int) (a0_3 : Int) (a0_4 : Int) (A0_5 : Option Addr) (c0_5 : Nat) (l0_5 : List (S27)) (r : Int) (w : World) (hr0_5 : Kd.C k27 w A0_5 l0_5.length l0_5) (hc0_5 : l0_5.length ≤ c0_5) (h : passepartoutref04_Most.f k a0_0 a0_1 a0_2 a0_3 a0_4 l0_5 = some r),
  Calls Try.prog 35 #[.agg #[.int .i64 a0_0,.int .i64 a0_1,.int .i64 a0_2,.int .i64 a0_3,.int .i64 a0_4,.slice A0_5 l0_5.length c0_5]] w fun e w' => e = .returned (.int .i64 r) ∧ Below w.heap.size w w' := by
 induction k using Nat.strongRecOn with
 | _ k ih =>
 intro a0_0 a0_1 a0_2 a0_3 a0_4 A0_5 c0_5 l0_5 r w hr0_5 hc0_5 h
 cases k with
 | zero => exact absurd h (by simp [passepartoutref04_Most.f])
 | succ k =>
 simp only [passepartoutref04_Most.f] at h
 have hu27 := Try.underlying27
 have HR0_5 := Aside0.mk hr0_5
 have HC0_5 := Aside0.mk hc0_5
 clear hr0_5 hc0_5
 have HB := Aside0.mk (Below.refl w.heap.size w)
 have H : (if a0_0 = 0 then (some a0_1) else (if a0_0 = 1 then (passepartoutref04_Most.j0 k a0_0 (a0_0 == 1) a0_0 a0_1 a0_2 a0_3 a0_4 l0_5) else (passepartoutref04_Most.j0 k a0_0 (a0_0 == 2) a0_0 a0_1 a0_2 a0_3 a0_4 l0_5))) = some r := h
 clear h
 by_cases c2 : a0_0 = 0
 ·rw [if_pos c2] at H
  have c2b0 : (a0_0 == 0) = true := beq_iff_eq.mpr c2
  have c2b1 : (a0_0 != 0) = false := bne_eq_false_iff_eq.mpr c2
  clear c2
  obtain rfl := Option.some.inj H
  go_enter Try.func35,Try.ntmps35
  go_wp2_with (first | ((with_reducible refine gate_dst (N := 1) rfl ?_);refine box_event ?hg (N := 1) ?hd (cs := #[.int .i64 a0_0,.int .i64 a0_1,.int .i64 a0_2,.int .i64 a0_3,.int .i64 a0_4,.slice A0_5 l0_5.length c0_5]) (t := 27) ?hr ?_;(case hd => rfl);(case hg => rfl);(case hr => first | (go_simp;done) | (go_simp;rfl));intro gb283 hg w3 hbox hb;have n0_ := Aside0.mk (below_step (by repeat (first | (with_reducible first | exact HB.out | apply below_alloc | apply pw_below_drewN | apply below_drew1) | exact HB.out)) hb);have n1_ := Aside0.mk (hbox);have n2_ := Aside0.mk ((by rw [hg];exact (below_size (by repeat (first | (with_reducible first | exact HB.out | apply below_alloc | apply pw_below_drewN | apply below_drew1) | exact HB.out))) : w.heap.size ≤ gb283));have n3_ := Aside0.mk ((by rw [hg];exact (below_size (by repeat (first | (with_reducible first | exact HB.out | apply below_alloc | apply pw_below_drewN | apply below_drew1) | exact HB.out))) : w.heap.size ≤ gb283));clear HB;have HB := n0_;have BK283 := n1_;have GW283 := n2_;have GE283 := n3_;clear n0_ n1_ n2_ n3_;clear hb hbox hg;have hcz4_0 : w3.cell? ⟨gb283,0,none⟩ = some (.int .i64 a0_0) := (blk_cell BK283.out 0).trans rfl;have hcz4_1 : w3.cell? ⟨gb283,1,none⟩ = some (.int .i64 a0_1) := (blk_cell BK283.out 1).trans rfl;have hcz4_2 : w3.cell? ⟨gb283,2,none⟩ = some (.int .i64 a0_2) := (blk_cell BK283.out 2).trans rfl;have hcz4_3 : w3.cell? ⟨gb283,3,none⟩ = some (.int .i64 a0_3) := (blk_cell BK283.out 3).trans rfl;have hcz4_4 : w3.cell? ⟨gb283,4,none⟩ = some (.int .i64 a0_4) := (blk_cell BK283.out 4).trans rfl;have hcz4_5 : w3.cell? ⟨gb283,5,none⟩ = some (.slice A0_5 l0_5.length c0_5) := (blk_cell BK283.out 5).trans rfl;have hfz4_0 := blk_frozen BK283.out 0;have hfz4_1 := blk_frozen BK283.out 1;have hfz4_2 := blk_frozen BK283.out 2;have hfz4_3 := blk_frozen BK283.out 3;have hfz4_4 := blk_frozen BK283.out 4;have hfz4_5 := blk_frozen BK283.out 5))
  go_ret
  exact ⟨by first | rfl | (simp [errW_none,errW_some] <;> rfl) | (simp [*,errW_none,errW_some] <;> rfl),by repeat (first | (with_reducible first | exact HB.out | apply below_alloc | apply pw_below_drewN | apply below_drew1 | refine below_set ?_ GE283.out) | exact HB.out)⟩
 ·rw [if_neg c2] at H
  have c2b0 : (a0_0 == 0) = false := beq_eq_false_iff_ne.mpr c2
  have c2b1 : (a0_0 != 0) = true := bne_iff_ne.mpr c2
  have HC5 := Aside0.mk H
  clear H
  go_enter Try.func35,Try.ntmps35
  go_upto_if 11 with (first | ((with_reducible refine gate_dst (N := 1) rfl ?_);refine box_event ?hg (N := 1) ?hd (cs := #[.int .i64 a0_0,.int .i64 a0_1,.int .i64 a0_2,.int .i64 a0_3,.int .i64 a0_4,.slice A0_5 l0_5.length c0_5]) (t := 27) ?hr ?_;(case hd => rfl);(case hg => rfl);(case hr => first | (go_simp;done) | (go_simp;rfl));intro gb283 hg w6 hbox hb;have n0_ := Aside0.mk (below_step (by repeat (first | (with_reducible first | exact HB.out | apply below_alloc | apply pw_below_drewN | apply below_drew1) | exact HB.out)) hb);have n1_ := Aside0.mk (hbox);have n2_ := Aside0.mk ((by rw [hg];exact (below_size (by repeat (first | (with_reducible first | exact HB.out | apply below_alloc | apply pw_below_drewN | apply below_drew1) | exact HB.out))) : w.heap.size ≤ gb283));have n3_ := Aside0.mk ((by rw [hg];exact (below_size (by repeat (first | (with_reducible first | exact HB.out | apply below_alloc | apply pw_below_drewN | apply below_drew1) | exact HB.out))) : w.heap.size ≤ gb283));clear HB;have HB := n0_;have BK283 := n1_;have GW283 := n2_;have GE283 := n3_;clear n0_ n1_ n2_ n3_;clear hb hbox hg;have hcz7_0 : w6.cell? ⟨gb283,0,none⟩ = some (.int .i64 a0_0) := (blk_cell BK283.out 0).trans rfl;have hcz7_1 : w6.cell? ⟨gb283,1,none⟩ = some (.int .i64 a0_1) := (blk_cell BK283.out 1).trans rfl;have hcz7_2 : w6.cell? ⟨gb283,2,none⟩ = some (.int .i64 a0_2) := (blk_cell BK283.out 2).trans rfl;have hcz7_3 : w6.cell? ⟨gb283,3,none⟩ = some (.int .i64 a0_3) := (blk_cell BK283.out 3).trans rfl;have hcz7_4 : w6.cell? ⟨gb283,4,none⟩ = some (.int .i64 a0_4) := (blk_cell BK283.out 4).trans rfl;have hcz7_5 : w6.cell? ⟨gb283,5,none⟩ = some (.slice A0_5 l0_5.length c0_5) := (blk_cell BK283.out 5).trans rfl;have hfz7_0 := blk_frozen BK283.out 0;have hfz7_1 := blk_frozen BK283.out 1;have hfz7_2 := blk_frozen BK283.out 2;have hfz7_3 := blk_frozen BK283.out 3;have hfz7_4 := blk_frozen BK283.out 4;have hfz7_5 := blk_frozen BK283.out 5))
  (try simp only [Act.put,List.setIfInBounds_toArray,List.set_cons_zero,List.set_cons_succ])
  go_cut [11] (fun v11 wc => ∃ (kq : Nat) (x11_4 : Bool),v11 = .bool x11_4 ∧ Aside0 (passepartoutref04_Most.j0 kq a0_0 x11_4 a0_0 a0_1 a0_2 a0_3 a0_4 l0_5 = some r) ∧ Aside0 (kq ≤ k) ∧ Aside0 (wc.heap[gb283]? = some (.cells #[.int .i64 a0_0,.int .i64 a0_1,.int .i64 a0_2,.int .i64 a0_3,.int .i64 a0_4,(.slice A0_5 l0_5.length c0_5)] 27 (0,0))) ∧ Aside0 (Below w.heap.size w wc))
  case first =>
   have H := HC5.out
   clear HC5
   by_cases c8 : a0_0 = 1
   ·rw [if_pos c8] at H
    have c8b0 : (a0_0 == 1) = true := beq_iff_eq.mpr c8
    have c8b1 : (a0_0 != 1) = false := bne_eq_false_iff_eq.mpr c8
    clear c8
    (first | rw [c8b0] | (simp only [i64_w,i32_w];rw [c8b0]) | skip)
    have H' := Aside0.mk H
    clear H
    go_wp2
    go_meet
    case rel => exact ⟨_,((a0_0 == 1)),(by first | rfl | (simp;done) | (simp [*];done)),H',⟨by first | omega | exact Nat.le_refl _⟩,⟨by (with_reducible repeat (first | refine blk_drewN ?_ _ | refine blk_drew ?_ | refine blk_alloc ?_ _));exact BK283.out⟩,⟨by repeat (first | (with_reducible first | exact HB.out | apply below_alloc | apply pw_below_drewN | apply below_drew1 | refine below_set ?_ GE283.out) | exact HB.out)⟩⟩
   ·rw [if_neg c8] at H
    have c8b0 : (a0_0 == 1) = false := beq_eq_false_iff_ne.mpr c8
    have c8b1 : (a0_0 != 1) = true := bne_iff_ne.mpr c8
    (first | rw [c8b0] | (simp only [i64_w,i32_w];rw [c8b0]) | skip)
    have H' := Aside0.mk H
    clear H
    go_wp2
    go_meet
    case rel => exact ⟨_,((a0_0 == 2)),(by first | rfl | (simp;done) | (simp [*];done)),H',⟨by first | omega | exact Nat.le_refl _⟩,⟨by (with_reducible repeat (first | refine blk_drewN ?_ _ | refine blk_drew ?_ | refine blk_alloc ?_ _));exact BK283.out⟩,⟨by repeat (first | (with_reducible first | exact HB.out | apply below_alloc | apply pw_below_drewN | apply below_drew1 | refine below_set ?_ GE283.out) | exact HB.out)⟩⟩
  case rest =>
   clear HC5
   try clear c2
   try clear c2b0
   try clear c2b1
   try clear p2
   try clear c3
   try clear c8
   try clear c8b0
   try clear c8b1
   try clear hcz4_0
   try clear hcz4_1
   try clear hcz4_2
   try clear hcz4_3
   try clear hcz4_4
   try clear hcz4_5
   try clear hcz7_0
   try clear hcz7_1
   try clear hcz7_2
   try clear hcz7_3
   try clear hcz7_4
   try clear hcz7_5
   try clear hfz4_0
   try clear hfz4_1
   try clear hfz4_2
   try clear hfz4_3
   try clear hfz4_4
   try clear hfz4_5
   try clear hfz7_0
   try clear hfz7_1
   try clear hfz7_2
   try clear hfz7_3
   try clear hfz7_4
   try clear hfz7_5
   obtain ⟨kq,x11_4,rfl,HA,HJ4,BK283,HB⟩ := hcut
   cases kq with
   | zero => exact absurd HA.out (by simp [passepartoutref04_Most.j0])
   | succ kj4 =>
    have H := HA.out
    clear HA
    simp only [passepartoutref04_Most.j0] at H
    by_cases c9 : x11_4 = true
    ·subst c9
     have H1 : (some (wrap64 (a0_1 + a0_3))) = some r := by rw [if_pos rfl] at H;exact H
     clear H
     have H := H1
     clear H1
     obtain rfl := Option.some.inj H
     have hcz10_0 : wc.cell? ⟨gb283,0,none⟩ = some (.int .i64 a0_0) := (blk_cell BK283.out 0).trans rfl
     have hcz10_1 : wc.cell? ⟨gb283,1,none⟩ = some (.int .i64 a0_1) := (blk_cell BK283.out 1).trans rfl
     have hcz10_2 : wc.cell? ⟨gb283,2,none⟩ = some (.int .i64 a0_2) := (blk_cell BK283.out 2).trans rfl
     have hcz10_3 : wc.cell? ⟨gb283,3,none⟩ = some (.int .i64 a0_3) := (blk_cell BK283.out 3).trans rfl
     have hcz10_4 : wc.cell? ⟨gb283,4,none⟩ = some (.int .i64 a0_4) := (blk_cell BK283.out 4).trans rfl
     have hcz10_5 : wc.cell? ⟨gb283,5,none⟩ = some (.slice A0_5 l0_5.length c0_5) := (blk_cell BK283.out 5).trans rfl
     have hfz10_0 := blk_frozen BK283.out 0
     have hfz10_1 := blk_frozen BK283.out 1
     have hfz10_2 := blk_frozen BK283.out 2
     have hfz10_3 := blk_frozen BK283.out 3
     have hfz10_4 := blk_frozen BK283.out 4
     have hfz10_5 := blk_frozen BK283.out 5
     go_wp2
     go_ret
     exact ⟨by first | rfl | (simp [errW_none,errW_some] <;> rfl) | (simp [*,errW_none,errW_some] <;> rfl),by repeat (first | (with_reducible first | exact HB.out | apply below_alloc | apply pw_below_drewN | apply below_drew1 | refine below_set ?_ GE283.out) | exact HB.out)⟩
    ·replace c9 := Bool.eq_false_iff.mpr c9
     subst c9
     have H1 : (if a0_0 = 4 then (some a0_3) else (if a0_0 = 5 then (some a0_2) else (passepartoutref04_Most.l0 kj4 0 0 a0_0 a0_1 a0_2 a0_3 a0_4 l0_5))) = some r := by rw [if_neg (show ¬ (false = true) by decide)] at H;exact H
     clear H
     have H := H1
     clear H1
     by_cases c11 : a0_0 = 4
     ·rw [if_pos c11] at H
      have c11b0 : (a0_0 == 4) = true := beq_iff_eq.mpr c11
      have c11b1 : (a0_0 != 4) = false := bne_eq_false_iff_eq.mpr c11
      clear c11
      obtain rfl := Option.some.inj H
      have hcz12_0 : wc.cell? ⟨gb283,0,none⟩ = some (.int .i64 a0_0) := (blk_cell BK283.out 0).trans rfl
      have hcz12_1 : wc.cell? ⟨gb283,1,none⟩ = some (.int .i64 a0_1) := (blk_cell BK283.out 1).trans rfl
      have hcz12_2 : wc.cell? ⟨gb283,2,none⟩ = some (.int .i64 a0_2) := (blk_cell BK283.out 2).trans rfl
      have hcz12_3 : wc.cell? ⟨gb283,3,none⟩ = some (.int .i64 a0_3) := (blk_cell BK283.out 3).trans rfl
      have hcz12_4 : wc.cell? ⟨gb283,4,none⟩ = some (.int .i64 a0_4) := (blk_cell BK283.out 4).trans rfl
      have hcz12_5 : wc.cell? ⟨gb283,5,none⟩ = some (.slice A0_5 l0_5.length c0_5) := (blk_cell BK283.out 5).trans rfl
      have hfz12_0 := blk_frozen BK283.out 0
      have hfz12_1 := blk_frozen BK283.out 1
      have hfz12_2 := blk_frozen BK283.out 2
      have hfz12_3 := blk_frozen BK283.out 3
      have hfz12_4 := blk_frozen BK283.out 4
      have hfz12_5 := blk_frozen BK283.out 5
      go_wp2
      go_ret
      exact ⟨by first | rfl | (simp [errW_none,errW_some] <;> rfl) | (simp [*,errW_none,errW_some] <;> rfl),by repeat (first | (with_reducible first | exact HB.out | apply below_alloc | apply pw_below_drewN | apply below_drew1 | refine below_set ?_ GE283.out) | exact HB.out)⟩
     ·rw [if_neg c11] at H
      have c11b0 : (a0_0 == 4) = false := beq_eq_false_iff_ne.mpr c11
      have c11b1 : (a0_0 != 4) = true := bne_iff_ne.mpr c11
      by_cases c13 : a0_0 = 5
      ·rw [if_pos c13] at H
       have c13b0 : (a0_0 == 5) = true := beq_iff_eq.mpr c13
       have c13b1 : (a0_0 != 5) = false := bne_eq_false_iff_eq.mpr c13
       clear c13
       obtain rfl := Option.some.inj H
       have hcz14_0 : wc.cell? ⟨gb283,0,none⟩ = some (.int .i64 a0_0) := (blk_cell BK283.out 0).trans rfl
       have hcz14_1 : wc.cell? ⟨gb283,1,none⟩ = some (.int .i64 a0_1) := (blk_cell BK283.out 1).trans rfl
       have hcz14_2 : wc.cell? ⟨gb283,2,none⟩ = some (.int .i64 a0_2) := (blk_cell BK283.out 2).trans rfl
       have hcz14_3 : wc.cell? ⟨gb283,3,none⟩ = some (.int .i64 a0_3) := (blk_cell BK283.out 3).trans rfl
       have hcz14_4 : wc.cell? ⟨gb283,4,none⟩ = some (.int .i64 a0_4) := (blk_cell BK283.out 4).trans rfl
       have hcz14_5 : wc.cell? ⟨gb283,5,none⟩ = some (.slice A0_5 l0_5.length c0_5) := (blk_cell BK283.out 5).trans rfl
       have hfz14_0 := blk_frozen BK283.out 0
       have hfz14_1 := blk_frozen BK283.out 1
       have hfz14_2 := blk_frozen BK283.out 2
       have hfz14_3 := blk_frozen BK283.out 3
       have hfz14_4 := blk_frozen BK283.out 4
       have hfz14_5 := blk_frozen BK283.out 5
       go_wp2
       go_ret
       exact ⟨by first | rfl | (simp [errW_none,errW_some] <;> rfl) | (simp [*,errW_none,errW_some] <;> rfl),by repeat (first | (with_reducible first | exact HB.out | apply below_alloc | apply pw_below_drewN | apply below_drew1 | refine below_set ?_ GE283.out) | exact HB.out)⟩
      ·rw [if_neg c13] at H
       have c13b0 : (a0_0 == 5) = false := beq_eq_false_iff_ne.mpr c13
       have c13b1 : (a0_0 != 5) = true := bne_iff_ne.mpr c13
       have H' := Aside0.mk H
       clear H
       go_wp2
       go_loopg [3,4] kj4 (fun kq v3 v4 w' => ∃ (x3_2 : Int) (x4_2 : Int),v3 = .int .i64 x3_2 ∧ v4 = .int .i64 x4_2 ∧ Aside0 (passepartoutref04_Most.l0 kq x3_2 x4_2 a0_0 a0_1 a0_2 a0_3 a0_4 l0_5 = some r) ∧ Aside0 (kq ≤ kj4) ∧ Aside0 (w'.heap[gb283]? = some (.cells #[.int .i64 a0_0,.int .i64 a0_1,.int .i64 a0_2,.int .i64 a0_3,.int .i64 a0_4,(.slice A0_5 l0_5.length c0_5)] 27 (0,0))) ∧ Aside0 (Below w.heap.size w w'))
       case atStart => exact ⟨(0),(0),(by first | rfl | (simp;done) | (simp [*];done)),(by first | rfl | (simp;done) | (simp [*];done)),H',⟨Nat.le_refl _⟩,⟨by (with_reducible repeat (first | refine blk_drewN ?_ _ | refine blk_drew ?_ | refine blk_alloc ?_ _));exact BK283.out⟩,⟨by repeat (first | (with_reducible first | exact HB.out | apply below_alloc | apply pw_below_drewN | apply below_drew1 | refine below_set ?_ GE283.out) | exact HB.out)⟩⟩
       case round =>
        clear H'
        try clear c1
        try clear c2
        try clear c2b0
        try clear c2b1
        try clear p2
        try clear c3
        try clear p6
        try clear c8
        try clear c8b0
        try clear c8b1
        try clear c9
        try clear c11
        try clear c11b0
        try clear c11b1
        try clear c13
        try clear c13b0
        try clear c13b1
        try clear hcz10_0
        try clear hcz10_1
        try clear hcz10_2
        try clear hcz10_3
        try clear hcz10_4
        try clear hcz10_5
        try clear hcz12_0
        try clear hcz12_1
        try clear hcz12_2
        try clear hcz12_3
        try clear hcz12_4
        try clear hcz12_5
        try clear hcz14_0
        try clear hcz14_1
        try clear hcz14_2
        try clear hcz14_3
        try clear hcz14_4
        try clear hcz14_5
        try clear hcz4_0
        try clear hcz4_1
        try clear hcz4_2
        try clear hcz4_3
        try clear hcz4_4
        try clear hcz4_5
        try clear hcz7_0
        try clear hcz7_1
        try clear hcz7_2
        try clear hcz7_3
        try clear hcz7_4
        try clear hcz7_5
        try clear hfz10_0
        try clear hfz10_1
        try clear hfz10_2
        try clear hfz10_3
        try clear hfz10_4
        try clear hfz10_5
        try clear hfz12_0
        try clear hfz12_1
        try clear hfz12_2
        try clear hfz12_3
        try clear hfz12_4
        try clear hfz12_5
        try clear hfz14_0
        try clear hfz14_1
        try clear hfz14_2
        try clear hfz14_3
        try clear hfz14_4
        try clear hfz14_5
        try clear hfz4_0
        try clear hfz4_1
        try clear hfz4_2
        try clear hfz4_3
        try clear hfz4_4
        try clear hfz4_5
        try clear hfz7_0
        try clear hfz7_1
        try clear hfz7_2
        try clear hfz7_3
        try clear hfz7_4
        try clear hfz7_5
        try clear p2
        obtain ⟨x3_2,x4_2,rfl,rfl,HA,HK2,BK283,HB⟩ := hrel
        cases gk with
        | zero => exact absurd HA.out (by simp [passepartoutref04_Most.l0])
        | succ k2 =>
         have H := HA.out
         clear HA
         simp only [passepartoutref04_Most.l0] at H
         by_cases c15 : x4_2 < (l0_5.length : Int)
         ·rw [if_pos c15] at H
          have c15b0 : decide (x4_2 < (l0_5.length : Int)) = true := decide_eq_true c15
          clear c15
          by_cases c16 : 0 ≤ x4_2
          ·rw [if_pos c16] at H
           have c16b0 : decide (0 ≤ x4_2) = true := decide_eq_true c16
           clear c16
           replace H := Option.bind_eq_some_iff.mp H
           obtain ⟨t285,A170,H⟩ := H
           replace H : (passepartoutref04_Most.l0 k2 (wrap64 (x3_2 + t285)) (wrap64 (x4_2 + 1)) a0_0 a0_1 a0_2 a0_3 a0_4 l0_5) = some r := H
           have A17 := Aside0.mk A170
           clear A170
           have H' := Aside0.mk H
           clear H
           have hcz18_0 : wr.cell? ⟨gb283,0,none⟩ = some (.int .i64 a0_0) := (blk_cell BK283.out 0).trans rfl
           have hcz18_1 : wr.cell? ⟨gb283,1,none⟩ = some (.int .i64 a0_1) := (blk_cell BK283.out 1).trans rfl
           have hcz18_2 : wr.cell? ⟨gb283,2,none⟩ = some (.int .i64 a0_2) := (blk_cell BK283.out 2).trans rfl
           have hcz18_3 : wr.cell? ⟨gb283,3,none⟩ = some (.int .i64 a0_3) := (blk_cell BK283.out 3).trans rfl
           have hcz18_4 : wr.cell? ⟨gb283,4,none⟩ = some (.int .i64 a0_4) := (blk_cell BK283.out 4).trans rfl
           have hcz18_5 : wr.cell? ⟨gb283,5,none⟩ = some (.slice A0_5 l0_5.length c0_5) := (blk_cell BK283.out 5).trans rfl
           have hfz18_0 := blk_frozen BK283.out 0
           have hfz18_1 := blk_frozen BK283.out 1
           have hfz18_2 := blk_frozen BK283.out 2
           have hfz18_3 := blk_frozen BK283.out 3
           have hfz18_4 := blk_frozen BK283.out 4
           have hfz18_5 := blk_frozen BK283.out 5
           have p284 : 0 ≤ (x4_2 : Int) := of_decide_eq_true (by first | (with_reducible assumption) | assumption)
           have q284 : x4_2 < (l0_5.length : Int) := of_decide_eq_true (by first | (with_reducible assumption) | assumption)
           obtain ⟨ad284,A284_5,c284_5,e284,hx284_0,hx284_1,hx284_2,hx284_3,hx284_4,hx284_5,hl284_5,hi284_5⟩ := at_T27 HR0_5.out x4_2 p284 q284
           cases e284
           replace hx284_0 := (HB.out.cell (World.block_lt_of_cell? w _ hx284_0)).trans hx284_0
           replace hx284_1 := (HB.out.cell (World.block_lt_of_cell? w _ hx284_1)).trans hx284_1
           replace hx284_2 := (HB.out.cell (World.block_lt_of_cell? w _ hx284_2)).trans hx284_2
           replace hx284_3 := (HB.out.cell (World.block_lt_of_cell? w _ hx284_3)).trans hx284_3
           replace hx284_4 := (HB.out.cell (World.block_lt_of_cell? w _ hx284_4)).trans hx284_4
           replace hx284_5 := (HB.out.cell (World.block_lt_of_cell? w _ hx284_5)).trans hx284_5
           have HR284_5 := Aside0.mk hi284_5
           have HC284_5 := Aside0.mk hl284_5
           clear hi284_5 hl284_5
           replace p284 := eq_true p284
           replace q284 := eq_true q284
           go_wp2_with (first | ((with_reducible refine gate_callee (f := 35) rfl ?_);refine goesL_ (some 40) rfl rfl Try.func35 (by kernel_rfl) rfl #[.agg #[.int .i64 ((rd_T27 l0_5 x4_2).f0),.int .i64 ((rd_T27 l0_5 x4_2).f1),.int .i64 ((rd_T27 l0_5 x4_2).f2),.int .i64 ((rd_T27 l0_5 x4_2).f3),.int .i64 ((rd_T27 l0_5 x4_2).f4),.slice A284_5 ((rd_T27 l0_5 x4_2).f5).length c284_5]] rfl (by (try simp only [List.map_toArray,List.map_cons,List.map_nil]);first | done | rfl | (simp only [List.length_drop,List.length_take];rfl)) ?_;(with_reducible refine (ih k2 (by have := HJ4.out;have := HK2.out;omega) ((rd_T27 l0_5 x4_2).f0) ((rd_T27 l0_5 x4_2).f1) ((rd_T27 l0_5 x4_2).f2) ((rd_T27 l0_5 x4_2).f3) ((rd_T27 l0_5 x4_2).f4) _ _ ((rd_T27 l0_5 x4_2).f5) t285 _ ?side1 ?side2 A17.out).mono ?_);(case side1 => repeat (first | exact (Kd.C_below HR284_5.out HB.out) | (with_reducible refine Kd.C_alloc ?_ _) | (with_reducible refine Kd.C_drewN ?_ _) | (with_reducible refine Kd.C_drew ?_)));(case side2 => exact HC284_5.out);rintro e w19 ⟨rfl,hb⟩;refine ⟨_,rfl,?_⟩;have n0_ := Aside0.mk (blk_below (g := gb283) (o := .cells #[.int .i64 a0_0,.int .i64 a0_1,.int .i64 a0_2,.int .i64 a0_3,.int .i64 a0_4,.slice (some ad284) l0_5.length c0_5] 27 (0,0)) (by (with_reducible repeat (first | refine blk_drewN ?_ _ | refine blk_drew ?_ | refine blk_alloc ?_ _));exact BK283.out) hb);have n1_ := Aside0.mk (below_step (by repeat (first | (with_reducible first | exact HB.out | apply below_alloc | apply pw_below_drewN | apply below_drew1 | refine below_set ?_ GE283.out) | exact HB.out)) hb);clear BK283;clear HB;have BK283 := n0_;have HB := n1_;clear n0_ n1_;(try clear hb);(try clear hb2);(try clear hk);(try clear hi)))
           go_roundg k2
           case measure => have := HJ4.out;have := HK2.out;omega
           case rel => exact ⟨(wrap64 (x3_2 + t285)),(wrap64 (x4_2 + 1)),(by first | rfl | (simp;done) | (simp [*];done)),(by first | rfl | (simp;done) | (simp [*];done)),H',⟨by have := HJ4.out;have := HK2.out;omega⟩,⟨by (with_reducible repeat (first | refine blk_drewN ?_ _ | refine blk_drew ?_ | refine blk_alloc ?_ _));exact BK283.out⟩,⟨by repeat (first | (with_reducible first | exact HB.out | apply below_alloc | apply pw_below_drewN | apply below_drew1 | refine below_set ?_ GE283.out) | exact HB.out)⟩⟩
          ·rw [if_neg c16] at H
           exact absurd H (by simp)
         ·rw [if_neg c15] at H
          have c15b0 : decide (x4_2 < (l0_5.length : Int)) = false := decide_eq_false c15
          clear c15
          obtain rfl := Option.some.inj H
          have hcz20_0 : wr.cell? ⟨gb283,0,none⟩ = some (.int .i64 a0_0) := (blk_cell BK283.out 0).trans rfl
          have hcz20_1 : wr.cell? ⟨gb283,1,none⟩ = some (.int .i64 a0_1) := (blk_cell BK283.out 1).trans rfl
          have hcz20_2 : wr.cell? ⟨gb283,2,none⟩ = some (.int .i64 a0_2) := (blk_cell BK283.out 2).trans rfl
          have hcz20_3 : wr.cell? ⟨gb283,3,none⟩ = some (.int .i64 a0_3) := (blk_cell BK283.out 3).trans rfl
          have hcz20_4 : wr.cell? ⟨gb283,4,none⟩ = some (.int .i64 a0_4) := (blk_cell BK283.out 4).trans rfl
          have hcz20_5 : wr.cell? ⟨gb283,5,none⟩ = some (.slice A0_5 l0_5.length c0_5) := (blk_cell BK283.out 5).trans rfl
          have hfz20_0 := blk_frozen BK283.out 0
          have hfz20_1 := blk_frozen BK283.out 1
          have hfz20_2 := blk_frozen BK283.out 2
          have hfz20_3 := blk_frozen BK283.out 3
          have hfz20_4 := blk_frozen BK283.out 4
          have hfz20_5 := blk_frozen BK283.out 5
          go_wp2
          go_ret
          exact ⟨by first | rfl | (simp [errW_none,errW_some] <;> rfl) | (simp [*,errW_none,errW_some] <;> rfl),by repeat (first | (with_reducible first | exact HB.out | apply below_alloc | apply pw_below_drewN | apply below_drew1 | refine below_set ?_ GE283.out) | exact HB.out)⟩

end Go.Proofs.Ytfcghajnnllmhaa.QP

namespace Go.Proofs.Ytfcghajnnllmhaa
open Go.RowKit YtfcghajnnllmhaaW.PrintWords

end Go.Proofs.Ytfcghajnnllmhaa

namespace Go.Proofs.Ytfcghajnnllmhaa
open Go.RowKit

mutual
/-- How many values there are in one; no more than so many (and one) are told. -/
def cntV : Nat → Vt → Nat
 | m,.mk _ l => cntVs m 1 l
def cntVs : Nat → Nat → List Vt → Nat
 | _,n,[] => n
 | m,n,x :: t => if n ≤ m then cntVs m (n + cntV (m - n) x) t else n
end
mutual
/-- How many bytes. -/
def bytV : Nat → Vt → Nat
 | m,.mk a l => bytVs m a.b.length l
def bytVs : Nat → Nat → List Vt → Nat
 | _,n,[] => n
 | m,n,x :: t => if n ≤ m then bytVs m (n + bytV (m - n) x) t else n
end
theorem sizeR_eq {f : Fm} {x : Vt} (hd : deepB 8 f = false) (hc : checkR f = 0) : sizeR f x = if (fitR f x).2 = 0 then ((fitR f x).1,0) else (0,(fitR f x).2) := by
 unfold sizeR
 rw [hd]
 simp [hc]
end Go.Proofs.Ytfcghajnnllmhaa

namespace Go.Proofs.Ytfcghajnnllmhaa.QP
open Go.RowKit Go.Proofs.YtfcghajnnllmhaaW.PrintWords Go.Proofs.YtfcghajnnllmhaaW.PrintLast Go.Proofs.YtfcghajnnllmhaaW.PrintMore
attribute [local go_sem] max2_int min2_int max_two min_two max_three min_three max_four min_four   -- for this text's walks alone
set_option linter.unusedVariables false
set_option linter.unusedSimpArgs false

/-! ### passepartoutref05_Count: function 42 -/
mutual
def passepartoutref05_Count.l0 : Nat → Int → Int → Int → Int → List Int → List (S46) → Option (Int)
 | 0,_,_,_,_,_,_ => none
 | k + 1,x1,x5,x6,x272000,x272001,x272002 => if x6 < (x272002.length : Int) then (if x5 ≤ x1 then (if 0 ≤ x6 then ((passepartoutref05_Count.f k ((rd_T46 x272002 x6).f0) ((rd_T46 x272002 x6).f1) ((rd_T46 x272002 x6).f2) (wrap64 (x1 - x5))).bind fun t273 => (passepartoutref05_Count.l0 k x1 (wrap64 (x5 + t273)) (wrap64 (x6 + 1)) x272000 x272001 x272002)) else (none)) else (some x5)) else (some x5)
def passepartoutref05_Count.f : Nat → Int → List Int → List (S46) → Int → Option (Int)
 | 0,_,_,_,_ => none
 | k + 1,a0_0,l0_1,l0_2,a1 => passepartoutref05_Count.l0 k a1 1 0 a0_0 l0_1 l0_2
end
theorem passepartoutref05_Count.mono_l : ∀ k,(∀ y0 y1 y2 y3,LeO (passepartoutref05_Count.f k y0 y1 y2 y3) (passepartoutref05_Count.f (k + 1) y0 y1 y2 y3)) ∧ (∀ y0 y1 y2 y3 y4 y5,LeO (passepartoutref05_Count.l0 k y0 y1 y2 y3 y4 y5) (passepartoutref05_Count.l0 (k + 1) y0 y1 y2 y3 y4 y5))
 | 0 => ⟨fun _ _ _ _ r h => by simp [passepartoutref05_Count.f] at h,fun _ _ _ _ _ _ r h => by simp [passepartoutref05_Count.l0] at h⟩
 | k + 1 => by
  obtain ⟨ih0,ih1⟩ := passepartoutref05_Count.mono_l k
  refine ⟨?_,?_⟩
  ·intro y0 y1 y2 y3
   unfold passepartoutref05_Count.f
   repeat' first
   | (with_reducible exact ih0 _ _ _ _)
   | (with_reducible exact ih1 _ _ _ _ _ _)
   | (with_reducible exact LeO.refl _)
   | (with_reducible exact LeO.none _)
   | (with_reducible refine LeO.ite ?_ ?_)
   | (with_reducible refine LeO.bind ?_ (fun _ => ?_))
   | exact ih0 _ _ _ _
   | exact ih1 _ _ _ _ _ _
   | exact LeO.none _
   | refine LeO.ite ?_ ?_
   | refine LeO.bind ?_ (fun _ => ?_)
  ·intro y0 y1 y2 y3 y4 y5
   unfold passepartoutref05_Count.l0
   repeat' first
   | (with_reducible exact ih0 _ _ _ _)
   | (with_reducible exact ih1 _ _ _ _ _ _)
   | (with_reducible exact LeO.refl _)
   | (with_reducible exact LeO.none _)
   | (with_reducible refine LeO.ite ?_ ?_)
   | (with_reducible refine LeO.bind ?_ (fun _ => ?_))
   | exact ih0 _ _ _ _
   | exact ih1 _ _ _ _ _ _
   | exact LeO.none _
   | refine LeO.ite ?_ ?_
   | refine LeO.bind ?_ (fun _ => ?_)
theorem passepartoutref05_Count.mono : ∀ a0 a1 a2 a3 k,LeO (passepartoutref05_Count.f k a0 a1 a2 a3) (passepartoutref05_Count.f (k + 1) a0 a1 a2 a3) := by
 intro a0 a1 a2 a3 k
 obtain ⟨ih0,ih1⟩ := passepartoutref05_Count.mono_l k
 exact ih0 a0 a1 a2 a3
set_option maxHeartbeats 8000000 in
set_option maxRecDepth 100000 in
theorem passepartoutref05_Count.calls (k : Nat) : ∀ (a0_0 : Int) (A0_1 : Option Addr) (c0_1 : Nat) (l0_1 : List Int) (A0_2 : Option Addr) (c0_2 : Nat) (l0_2 : List (S46)) (a1 : Int) (r : Int) (w : World) (hr0_1 : Kd.C (Kd.int .u8) w A0_1 l0_1.length l0_1) (hc0_1 : l0_1.length ≤ c0_1) (hr0_2 : Kd.C k46 w A0_2 l0_2.length l0_2) (hc0_2 : l0_2.length ≤ c0_2) (h : passepartoutref05_Count.f k a0_0 l0_1 l0_2 a1 = some r),
  Calls Try.prog 42 #[.agg #[.int .u64 a0_0,.slice A0_1 l0_1.length c0_1,.slice A0_2 l0_2.length c0_2],.int .i64 a1] w fun e w' => e = .returned (.int .i64 r) ∧ Below w.heap.size w w' := by
 induction k using Nat.strongRecOn with
 | _ k ih =>
 intro a0_0 A0_1 c0_1 l0_1 A0_2 c0_2 l0_2 a1 r w hr0_1 hc0_1 hr0_2 hc0_2 h
 cases k with
 | zero => exact absurd h (by simp [passepartoutref05_Count.f])
 | succ k =>
 simp only [passepartoutref05_Count.f] at h
 have hu46 := Try.underlying46
 have HR0_1 := Aside0.mk hr0_1
 have HC0_1 := Aside0.mk hc0_1
 clear hr0_1 hc0_1
 have HR0_2 := Aside0.mk hr0_2
 have HC0_2 := Aside0.mk hc0_2
 clear hr0_2 hc0_2
 have HB := Aside0.mk (Below.refl w.heap.size w)
 have H : (passepartoutref05_Count.l0 k a1 1 0 a0_0 l0_1 l0_2) = some r := h
 clear h
 have H' := Aside0.mk H
 clear H
 go_enter Try.func42,Try.ntmps42
 go_wp2_with (first | ((with_reducible refine gate_dst (N := 2) rfl ?_);refine box_event ?hg (N := 2) ?hd (cs := #[.int .u64 a0_0,.slice A0_1 l0_1.length c0_1,.slice A0_2 l0_2.length c0_2]) (t := 46) ?hr ?_;(case hd => rfl);(case hg => rfl);(case hr => first | (go_simp;done) | (go_simp;rfl));intro gb271 hg w3 hbox hb;have n0_ := Aside0.mk (below_step (by repeat (first | (with_reducible first | exact HB.out | apply below_alloc | apply pw_below_drewN | apply below_drew1) | exact HB.out)) hb);have n1_ := Aside0.mk (hbox);have n2_ := Aside0.mk ((by rw [hg];exact (below_size (by repeat (first | (with_reducible first | exact HB.out | apply below_alloc | apply pw_below_drewN | apply below_drew1) | exact HB.out))) : w.heap.size ≤ gb271));have n3_ := Aside0.mk ((by rw [hg];exact (below_size (by repeat (first | (with_reducible first | exact HB.out | apply below_alloc | apply pw_below_drewN | apply below_drew1) | exact HB.out))) : w.heap.size ≤ gb271));clear HB;have HB := n0_;have BK271 := n1_;have GW271 := n2_;have GE271 := n3_;clear n0_ n1_ n2_ n3_;clear hb hbox hg))
 go_loopg [5,6] k (fun kq v5 v6 w' => ∃ (x5_1 : Int) (x6_1 : Int),v5 = .int .i64 x5_1 ∧ v6 = .int .i64 x6_1 ∧ Aside0 (passepartoutref05_Count.l0 kq a1 x5_1 x6_1 a0_0 l0_1 l0_2 = some r) ∧ Aside0 (kq ≤ k) ∧ Aside0 (w'.heap[gb271]? = some (.cells #[.int .u64 a0_0,(.slice A0_1 l0_1.length c0_1),(.slice A0_2 l0_2.length c0_2)] 46 (0,0))) ∧ Aside0 (Below w.heap.size w w'))
 case atStart => exact ⟨(1),(0),(by first | rfl | (simp;done) | (simp [*];done)),(by first | rfl | (simp;done) | (simp [*];done)),H',⟨Nat.le_refl _⟩,⟨by (with_reducible repeat (first | refine blk_drewN ?_ _ | refine blk_drew ?_ | refine blk_alloc ?_ _));exact BK271.out⟩,⟨by repeat (first | (with_reducible first | exact HB.out | apply below_alloc | apply pw_below_drewN | apply below_drew1 | refine below_set ?_ GE271.out) | exact HB.out)⟩⟩
 case round =>
  clear H'
  try clear p2
  obtain ⟨x5_1,x6_1,rfl,rfl,HA,HK1,BK271,HB⟩ := hrel
  cases gk with
  | zero => exact absurd HA.out (by simp [passepartoutref05_Count.l0])
  | succ k1 =>
   have H := HA.out
   clear HA
   simp only [passepartoutref05_Count.l0] at H
   by_cases c4 : x6_1 < (l0_2.length : Int)
   ·rw [if_pos c4] at H
    have c4b0 : decide (x6_1 < (l0_2.length : Int)) = true := decide_eq_true c4
    clear c4
    by_cases c5 : x5_1 ≤ a1
    ·rw [if_pos c5] at H
     have c5b0 : decide (x5_1 ≤ a1) = true := decide_eq_true c5
     clear c5
     by_cases c6 : 0 ≤ x6_1
     ·rw [if_pos c6] at H
      have c6b0 : decide (0 ≤ x6_1) = true := decide_eq_true c6
      clear c6
      replace H := Option.bind_eq_some_iff.mp H
      obtain ⟨t273,A70,H⟩ := H
      replace H : (passepartoutref05_Count.l0 k1 a1 (wrap64 (x5_1 + t273)) (wrap64 (x6_1 + 1)) a0_0 l0_1 l0_2) = some r := H
      have A7 := Aside0.mk A70
      clear A70
      have H' := Aside0.mk H
      clear H
      have hcz8_0 : wr.cell? ⟨gb271,0,none⟩ = some (.int .u64 a0_0) := (blk_cell BK271.out 0).trans rfl
      have hcz8_1 : wr.cell? ⟨gb271,1,none⟩ = some (.slice A0_1 l0_1.length c0_1) := (blk_cell BK271.out 1).trans rfl
      have hcz8_2 : wr.cell? ⟨gb271,2,none⟩ = some (.slice A0_2 l0_2.length c0_2) := (blk_cell BK271.out 2).trans rfl
      have hfz8_0 := blk_frozen BK271.out 0
      have hfz8_1 := blk_frozen BK271.out 1
      have hfz8_2 := blk_frozen BK271.out 2
      have p272 : 0 ≤ (x6_1 : Int) := of_decide_eq_true (by first | (with_reducible assumption) | assumption)
      have q272 : x6_1 < (l0_2.length : Int) := of_decide_eq_true (by first | (with_reducible assumption) | assumption)
      obtain ⟨ad272,A272_1,c272_1,A272_2,c272_2,e272,hx272_0,hx272_1,hx272_2,hl272_1,hi272_1,hl272_2,hi272_2⟩ := at_T46 HR0_2.out x6_1 p272 q272
      cases e272
      replace hx272_0 := (HB.out.cell (World.block_lt_of_cell? w _ hx272_0)).trans hx272_0
      replace hx272_1 := (HB.out.cell (World.block_lt_of_cell? w _ hx272_1)).trans hx272_1
      replace hx272_2 := (HB.out.cell (World.block_lt_of_cell? w _ hx272_2)).trans hx272_2
      have HR272_1 := Aside0.mk hi272_1
      have HC272_1 := Aside0.mk hl272_1
      clear hi272_1 hl272_1
      have HR272_2 := Aside0.mk hi272_2
      have HC272_2 := Aside0.mk hl272_2
      clear hi272_2 hl272_2
      replace p272 := eq_true p272
      replace q272 := eq_true q272
      go_wp2_with (first | ((with_reducible refine gate_callee (f := 42) rfl ?_);refine goesL_ (some 28) rfl rfl Try.func42 (by kernel_rfl) rfl #[.agg #[.int .u64 ((rd_T46 l0_2 x6_1).f0),.slice A272_1 ((rd_T46 l0_2 x6_1).f1).length c272_1,.slice A272_2 ((rd_T46 l0_2 x6_1).f2).length c272_2],.int .i64 (wrap64 (a1 - x5_1))] rfl (by (try simp only [List.map_toArray,List.map_cons,List.map_nil]);first | done | rfl | (simp only [List.length_drop,List.length_take];rfl)) ?_;(with_reducible refine (ih k1 (by have := HK1.out;omega) ((rd_T46 l0_2 x6_1).f0) _ _ ((rd_T46 l0_2 x6_1).f1) _ _ ((rd_T46 l0_2 x6_1).f2) (wrap64 (a1 - x5_1)) t273 _ ?side1 ?side2 ?side3 ?side4 A7.out).mono ?_);(case side1 => repeat (first | exact (Kd.C_below HR272_1.out HB.out) | (with_reducible refine Kd.C_alloc ?_ _) | (with_reducible refine Kd.C_drewN ?_ _) | (with_reducible refine Kd.C_drew ?_)));(case side2 => exact HC272_1.out);(case side3 => repeat (first | exact (Kd.C_below HR272_2.out HB.out) | (with_reducible refine Kd.C_alloc ?_ _) | (with_reducible refine Kd.C_drewN ?_ _) | (with_reducible refine Kd.C_drew ?_)));(case side4 => exact HC272_2.out);rintro e w9 ⟨rfl,hb⟩;refine ⟨_,rfl,?_⟩;have n0_ := Aside0.mk (blk_below (g := gb271) (o := .cells #[.int .u64 a0_0,.slice A0_1 l0_1.length c0_1,.slice (some ad272) l0_2.length c0_2] 46 (0,0)) (by (with_reducible repeat (first | refine blk_drewN ?_ _ | refine blk_drew ?_ | refine blk_alloc ?_ _));exact BK271.out) hb);have n1_ := Aside0.mk (below_step (by repeat (first | (with_reducible first | exact HB.out | apply below_alloc | apply pw_below_drewN | apply below_drew1 | refine below_set ?_ GE271.out) | exact HB.out)) hb);clear BK271;clear HB;have BK271 := n0_;have HB := n1_;clear n0_ n1_;(try clear hb);(try clear hb2);(try clear hk);(try clear hi)))
      go_roundg k1
      case measure => have := HK1.out;omega
      case rel => exact ⟨(wrap64 (x5_1 + t273)),(wrap64 (x6_1 + 1)),(by first | rfl | (simp;done) | (simp [*];done)),(by first | rfl | (simp;done) | (simp [*];done)),H',⟨by have := HK1.out;omega⟩,⟨by (with_reducible repeat (first | refine blk_drewN ?_ _ | refine blk_drew ?_ | refine blk_alloc ?_ _));exact BK271.out⟩,⟨by repeat (first | (with_reducible first | exact HB.out | apply below_alloc | apply pw_below_drewN | apply below_drew1 | refine below_set ?_ GE271.out) | exact HB.out)⟩⟩
     ·rw [if_neg c6] at H
      exact absurd H (by simp)
    ·rw [if_neg c5] at H
     have c5b0 : decide (x5_1 ≤ a1) = false := decide_eq_false c5
     clear c5
     obtain rfl := Option.some.inj H
     have hcz10_0 : wr.cell? ⟨gb271,0,none⟩ = some (.int .u64 a0_0) := (blk_cell BK271.out 0).trans rfl
     have hcz10_1 : wr.cell? ⟨gb271,1,none⟩ = some (.slice A0_1 l0_1.length c0_1) := (blk_cell BK271.out 1).trans rfl
     have hcz10_2 : wr.cell? ⟨gb271,2,none⟩ = some (.slice A0_2 l0_2.length c0_2) := (blk_cell BK271.out 2).trans rfl
     have hfz10_0 := blk_frozen BK271.out 0
     have hfz10_1 := blk_frozen BK271.out 1
     have hfz10_2 := blk_frozen BK271.out 2
     go_wp2
     go_ret
     exact ⟨by first | rfl | (simp [errW_none,errW_some] <;> rfl) | (simp [*,errW_none,errW_some] <;> rfl),by repeat (first | (with_reducible first | exact HB.out | apply below_alloc | apply pw_below_drewN | apply below_drew1 | refine below_set ?_ GE271.out) | exact HB.out)⟩
   ·rw [if_neg c4] at H
    have c4b0 : decide (x6_1 < (l0_2.length : Int)) = false := decide_eq_false c4
    clear c4
    obtain rfl := Option.some.inj H
    have hcz11_0 : wr.cell? ⟨gb271,0,none⟩ = some (.int .u64 a0_0) := (blk_cell BK271.out 0).trans rfl
    have hcz11_1 : wr.cell? ⟨gb271,1,none⟩ = some (.slice A0_1 l0_1.length c0_1) := (blk_cell BK271.out 1).trans rfl
    have hcz11_2 : wr.cell? ⟨gb271,2,none⟩ = some (.slice A0_2 l0_2.length c0_2) := (blk_cell BK271.out 2).trans rfl
    have hfz11_0 := blk_frozen BK271.out 0
    have hfz11_1 := blk_frozen BK271.out 1
    have hfz11_2 := blk_frozen BK271.out 2
    go_wp2
    go_ret
    exact ⟨by first | rfl | (simp [errW_none,errW_some] <;> rfl) | (simp [*,errW_none,errW_some] <;> rfl),by repeat (first | (with_reducible first | exact HB.out | apply below_alloc | apply pw_below_drewN | apply below_drew1 | refine below_set ?_ GE271.out) | exact HB.out)⟩

end Go.Proofs.Ytfcghajnnllmhaa.QP

namespace Go.Proofs.Ytfcghajnnllmhaa.QP
open Go.RowKit Go.Proofs.YtfcghajnnllmhaaW.PrintWords Go.Proofs.YtfcghajnnllmhaaW.PrintLast Go.Proofs.YtfcghajnnllmhaaW.PrintMore
attribute [local go_sem] max2_int min2_int max_two min_two max_three min_three max_four min_four   -- for this text's walks alone
set_option linter.unusedVariables false
set_option linter.unusedSimpArgs false

/-! ### passepartoutref05_Bytes: function 55 -/
mutual
def passepartoutref05_Bytes.l0 : Nat → Int → Int → Int → Int → List Int → List (S46) → Option (Int)
 | 0,_,_,_,_,_,_ => none
 | k + 1,x1,x5,x6,x275000,x275001,x275002 => if x6 < (x275002.length : Int) then (if x5 ≤ x1 then (if 0 ≤ x6 then ((passepartoutref05_Bytes.f k ((rd_T46 x275002 x6).f0) ((rd_T46 x275002 x6).f1) ((rd_T46 x275002 x6).f2) (wrap64 (x1 - x5))).bind fun t276 => (passepartoutref05_Bytes.l0 k x1 (wrap64 (x5 + t276)) (wrap64 (x6 + 1)) x275000 x275001 x275002)) else (none)) else (some x5)) else (some x5)
def passepartoutref05_Bytes.f : Nat → Int → List Int → List (S46) → Int → Option (Int)
 | 0,_,_,_,_ => none
 | k + 1,a0_0,l0_1,l0_2,a1 => passepartoutref05_Bytes.l0 k a1 (l0_1.length : Int) 0 a0_0 l0_1 l0_2
end
theorem passepartoutref05_Bytes.mono_l : ∀ k,(∀ y0 y1 y2 y3,LeO (passepartoutref05_Bytes.f k y0 y1 y2 y3) (passepartoutref05_Bytes.f (k + 1) y0 y1 y2 y3)) ∧ (∀ y0 y1 y2 y3 y4 y5,LeO (passepartoutref05_Bytes.l0 k y0 y1 y2 y3 y4 y5) (passepartoutref05_Bytes.l0 (k + 1) y0 y1 y2 y3 y4 y5))
 | 0 => ⟨fun _ _ _ _ r h => by simp [passepartoutref05_Bytes.f] at h,fun _ _ _ _ _ _ r h => by simp [passepartoutref05_Bytes.l0] at h⟩
 | k + 1 => by
  obtain ⟨ih0,ih1⟩ := passepartoutref05_Bytes.mono_l k
  refine ⟨?_,?_⟩
  ·intro y0 y1 y2 y3
   unfold passepartoutref05_Bytes.f
   repeat' first
   | (with_reducible exact ih0 _ _ _ _)
   | (with_reducible exact ih1 _ _ _ _ _ _)
   | (with_reducible exact LeO.refl _)
   | (with_reducible exact LeO.none _)
   | (with_reducible refine LeO.ite ?_ ?_)
   | (with_reducible refine LeO.bind ?_ (fun _ => ?_))
   | exact ih0 _ _ _ _
   | exact ih1 _ _ _ _ _ _
   | exact LeO.none _
   | refine LeO.ite ?_ ?_
   | refine LeO.bind ?_ (fun _ => ?_)
  ·intro y0 y1 y2 y3 y4 y5
   unfold passepartoutref05_Bytes.l0
   repeat' first
   | (with_reducible exact ih0 _ _ _ _)
   | (with_reducible exact ih1 _ _ _ _ _ _)
   | (with_reducible exact LeO.refl _)
   | (with_reducible exact LeO.none _)
   | (with_reducible refine LeO.ite ?_ ?_)
   | (with_reducible refine LeO.bind ?_ (fun _ => ?_))
   | exact ih0 _ _ _ _
   | exact ih1 _ _ _ _ _ _
   | exact LeO.none _
   | refine LeO.ite ?_ ?_
   | refine LeO.bind ?_ (fun _ => ?_)
theorem passepartoutref05_Bytes.mono : ∀ a0 a1 a2 a3 k,LeO (passepartoutref05_Bytes.f k a0 a1 a2 a3) (passepartoutref05_Bytes.f (k + 1) a0 a1 a2 a3) := by
 intro a0 a1 a2 a3 k
 obtain ⟨ih0,ih1⟩ := passepartoutref05_Bytes.mono_l k
 exact ih0 a0 a1 a2 a3
set_option maxHeartbeats 8000000 in
set_option maxRecDepth 100000 in
theorem passepartoutref05_Bytes.calls (k : Nat) : ∀ (a0_0 : Int) (A0_1 : Option Addr) (c0_1 : Nat) (l0_1 : List Int) (A0_2 : Option Addr) (c0_2 : Nat) (l0_2 : List (S46)) (a1 : Int) (r : Int) (w : World) (hr0_1 : Kd.C (Kd.int .u8) w A0_1 l0_1.length l0_1) (hc0_1 : l0_1.length ≤ c0_1) (hr0_2 : Kd.C k46 w A0_2 l0_2.length l0_2) (hc0_2 : l0_2.length ≤ c0_2) (h : passepartoutref05_Bytes.f k a0_0 l0_1 l0_2 a1 = some r),
  Calls Try.prog 55 #[.agg #[.int .u64 a0_0,.slice A0_1 l0_1.length c0_1,.slice A0_2 l0_2.length c0_2],.int .i64 a1] w fun e w' => e = .returned (.int .i64 r) ∧ Below w.heap.size w w' := by
 induction k using Nat.strongRecOn with
 | _ k ih =>
 intro a0_0 A0_1 c0_1 l0_1 A0_2 c0_2 l0_2 a1 r w hr0_1 hc0_1 hr0_2 hc0_2 h
 cases k with
 | zero => exact absurd h (by simp [passepartoutref05_Bytes.f])
 | succ k =>
 simp only [passepartoutref05_Bytes.f] at h
 have hu46 := Try.underlying46
 have HR0_1 := Aside0.mk hr0_1
 have HC0_1 := Aside0.mk hc0_1
 clear hr0_1 hc0_1
 have HR0_2 := Aside0.mk hr0_2
 have HC0_2 := Aside0.mk hc0_2
 clear hr0_2 hc0_2
 have HB := Aside0.mk (Below.refl w.heap.size w)
 have H : (passepartoutref05_Bytes.l0 k a1 (l0_1.length : Int) 0 a0_0 l0_1 l0_2) = some r := h
 clear h
 have H' := Aside0.mk H
 clear H
 go_enter Try.func55,Try.ntmps55
 go_wp2_with (first | ((with_reducible refine gate_dst (N := 2) rfl ?_);refine box_event ?hg (N := 2) ?hd (cs := #[.int .u64 a0_0,.slice A0_1 l0_1.length c0_1,.slice A0_2 l0_2.length c0_2]) (t := 46) ?hr ?_;(case hd => rfl);(case hg => rfl);(case hr => first | (go_simp;done) | (go_simp;rfl));intro gb274 hg w3 hbox hb;have n0_ := Aside0.mk (below_step (by repeat (first | (with_reducible first | exact HB.out | apply below_alloc | apply pw_below_drewN | apply below_drew1) | exact HB.out)) hb);have n1_ := Aside0.mk (hbox);have n2_ := Aside0.mk ((by rw [hg];exact (below_size (by repeat (first | (with_reducible first | exact HB.out | apply below_alloc | apply pw_below_drewN | apply below_drew1) | exact HB.out))) : w.heap.size ≤ gb274));have n3_ := Aside0.mk ((by rw [hg];exact (below_size (by repeat (first | (with_reducible first | exact HB.out | apply below_alloc | apply pw_below_drewN | apply below_drew1) | exact HB.out))) : w.heap.size ≤ gb274));clear HB;have HB := n0_;have BK274 := n1_;have GW274 := n2_;have GE274 := n3_;clear n0_ n1_ n2_ n3_;clear hb hbox hg;have hcz4_0 : w3.cell? ⟨gb274,0,none⟩ = some (.int .u64 a0_0) := (blk_cell BK274.out 0).trans rfl;have hcz4_1 : w3.cell? ⟨gb274,1,none⟩ = some (.slice A0_1 l0_1.length c0_1) := (blk_cell BK274.out 1).trans rfl;have hcz4_2 : w3.cell? ⟨gb274,2,none⟩ = some (.slice A0_2 l0_2.length c0_2) := (blk_cell BK274.out 2).trans rfl;have hfz4_0 := blk_frozen BK274.out 0;have hfz4_1 := blk_frozen BK274.out 1;have hfz4_2 := blk_frozen BK274.out 2))
 go_loopg [5,6] k (fun kq v5 v6 w' => ∃ (x5_1 : Int) (x6_1 : Int),v5 = .int .i64 x5_1 ∧ v6 = .int .i64 x6_1 ∧ Aside0 (passepartoutref05_Bytes.l0 kq a1 x5_1 x6_1 a0_0 l0_1 l0_2 = some r) ∧ Aside0 (kq ≤ k) ∧ Aside0 (w'.heap[gb274]? = some (.cells #[.int .u64 a0_0,(.slice A0_1 l0_1.length c0_1),(.slice A0_2 l0_2.length c0_2)] 46 (0,0))) ∧ Aside0 (Below w.heap.size w w'))
 case atStart => exact ⟨((l0_1.length : Int)),(0),(by first | rfl | (simp;done) | (simp [*];done)),(by first | rfl | (simp;done) | (simp [*];done)),H',⟨Nat.le_refl _⟩,⟨by (with_reducible repeat (first | refine blk_drewN ?_ _ | refine blk_drew ?_ | refine blk_alloc ?_ _));exact BK274.out⟩,⟨by repeat (first | (with_reducible first | exact HB.out | apply below_alloc | apply pw_below_drewN | apply below_drew1 | refine below_set ?_ GE274.out) | exact HB.out)⟩⟩
 case round =>
  clear H'
  try clear p2
  try clear hcz4_0
  try clear hcz4_1
  try clear hcz4_2
  try clear hfz4_0
  try clear hfz4_1
  try clear hfz4_2
  obtain ⟨x5_1,x6_1,rfl,rfl,HA,HK1,BK274,HB⟩ := hrel
  cases gk with
  | zero => exact absurd HA.out (by simp [passepartoutref05_Bytes.l0])
  | succ k1 =>
   have H := HA.out
   clear HA
   simp only [passepartoutref05_Bytes.l0] at H
   by_cases c5 : x6_1 < (l0_2.length : Int)
   ·rw [if_pos c5] at H
    have c5b0 : decide (x6_1 < (l0_2.length : Int)) = true := decide_eq_true c5
    clear c5
    by_cases c6 : x5_1 ≤ a1
    ·rw [if_pos c6] at H
     have c6b0 : decide (x5_1 ≤ a1) = true := decide_eq_true c6
     clear c6
     by_cases c7 : 0 ≤ x6_1
     ·rw [if_pos c7] at H
      have c7b0 : decide (0 ≤ x6_1) = true := decide_eq_true c7
      clear c7
      replace H := Option.bind_eq_some_iff.mp H
      obtain ⟨t276,A80,H⟩ := H
      replace H : (passepartoutref05_Bytes.l0 k1 a1 (wrap64 (x5_1 + t276)) (wrap64 (x6_1 + 1)) a0_0 l0_1 l0_2) = some r := H
      have A8 := Aside0.mk A80
      clear A80
      have H' := Aside0.mk H
      clear H
      have hcz9_0 : wr.cell? ⟨gb274,0,none⟩ = some (.int .u64 a0_0) := (blk_cell BK274.out 0).trans rfl
      have hcz9_1 : wr.cell? ⟨gb274,1,none⟩ = some (.slice A0_1 l0_1.length c0_1) := (blk_cell BK274.out 1).trans rfl
      have hcz9_2 : wr.cell? ⟨gb274,2,none⟩ = some (.slice A0_2 l0_2.length c0_2) := (blk_cell BK274.out 2).trans rfl
      have hfz9_0 := blk_frozen BK274.out 0
      have hfz9_1 := blk_frozen BK274.out 1
      have hfz9_2 := blk_frozen BK274.out 2
      have p275 : 0 ≤ (x6_1 : Int) := of_decide_eq_true (by first | (with_reducible assumption) | assumption)
      have q275 : x6_1 < (l0_2.length : Int) := of_decide_eq_true (by first | (with_reducible assumption) | assumption)
      obtain ⟨ad275,A275_1,c275_1,A275_2,c275_2,e275,hx275_0,hx275_1,hx275_2,hl275_1,hi275_1,hl275_2,hi275_2⟩ := at_T46 HR0_2.out x6_1 p275 q275
      cases e275
      replace hx275_0 := (HB.out.cell (World.block_lt_of_cell? w _ hx275_0)).trans hx275_0
      replace hx275_1 := (HB.out.cell (World.block_lt_of_cell? w _ hx275_1)).trans hx275_1
      replace hx275_2 := (HB.out.cell (World.block_lt_of_cell? w _ hx275_2)).trans hx275_2
      have HR275_1 := Aside0.mk hi275_1
      have HC275_1 := Aside0.mk hl275_1
      clear hi275_1 hl275_1
      have HR275_2 := Aside0.mk hi275_2
      have HC275_2 := Aside0.mk hl275_2
      clear hi275_2 hl275_2
      replace p275 := eq_true p275
      replace q275 := eq_true q275
      go_wp2_with (first | ((with_reducible refine gate_callee (f := 55) rfl ?_);refine goesL_ (some 31) rfl rfl Try.func55 (by kernel_rfl) rfl #[.agg #[.int .u64 ((rd_T46 l0_2 x6_1).f0),.slice A275_1 ((rd_T46 l0_2 x6_1).f1).length c275_1,.slice A275_2 ((rd_T46 l0_2 x6_1).f2).length c275_2],.int .i64 (wrap64 (a1 - x5_1))] rfl (by (try simp only [List.map_toArray,List.map_cons,List.map_nil]);first | done | rfl | (simp only [List.length_drop,List.length_take];rfl)) ?_;(with_reducible refine (ih k1 (by have := HK1.out;omega) ((rd_T46 l0_2 x6_1).f0) _ _ ((rd_T46 l0_2 x6_1).f1) _ _ ((rd_T46 l0_2 x6_1).f2) (wrap64 (a1 - x5_1)) t276 _ ?side1 ?side2 ?side3 ?side4 A8.out).mono ?_);(case side1 => repeat (first | exact (Kd.C_below HR275_1.out HB.out) | (with_reducible refine Kd.C_alloc ?_ _) | (with_reducible refine Kd.C_drewN ?_ _) | (with_reducible refine Kd.C_drew ?_)));(case side2 => exact HC275_1.out);(case side3 => repeat (first | exact (Kd.C_below HR275_2.out HB.out) | (with_reducible refine Kd.C_alloc ?_ _) | (with_reducible refine Kd.C_drewN ?_ _) | (with_reducible refine Kd.C_drew ?_)));(case side4 => exact HC275_2.out);rintro e w10 ⟨rfl,hb⟩;refine ⟨_,rfl,?_⟩;have n0_ := Aside0.mk (blk_below (g := gb274) (o := .cells #[.int .u64 a0_0,.slice A0_1 l0_1.length c0_1,.slice (some ad275) l0_2.length c0_2] 46 (0,0)) (by (with_reducible repeat (first | refine blk_drewN ?_ _ | refine blk_drew ?_ | refine blk_alloc ?_ _));exact BK274.out) hb);have n1_ := Aside0.mk (below_step (by repeat (first | (with_reducible first | exact HB.out | apply below_alloc | apply pw_below_drewN | apply below_drew1 | refine below_set ?_ GE274.out) | exact HB.out)) hb);clear BK274;clear HB;have BK274 := n0_;have HB := n1_;clear n0_ n1_;(try clear hb);(try clear hb2);(try clear hk);(try clear hi)))
      go_roundg k1
      case measure => have := HK1.out;omega
      case rel => exact ⟨(wrap64 (x5_1 + t276)),(wrap64 (x6_1 + 1)),(by first | rfl | (simp;done) | (simp [*];done)),(by first | rfl | (simp;done) | (simp [*];done)),H',⟨by have := HK1.out;omega⟩,⟨by (with_reducible repeat (first | refine blk_drewN ?_ _ | refine blk_drew ?_ | refine blk_alloc ?_ _));exact BK274.out⟩,⟨by repeat (first | (with_reducible first | exact HB.out | apply below_alloc | apply pw_below_drewN | apply below_drew1 | refine below_set ?_ GE274.out) | exact HB.out)⟩⟩
     ·rw [if_neg c7] at H
      exact absurd H (by simp)
    ·rw [if_neg c6] at H
     have c6b0 : decide (x5_1 ≤ a1) = false := decide_eq_false c6
     clear c6
     obtain rfl := Option.some.inj H
     have hcz11_0 : wr.cell? ⟨gb274,0,none⟩ = some (.int .u64 a0_0) := (blk_cell BK274.out 0).trans rfl
     have hcz11_1 : wr.cell? ⟨gb274,1,none⟩ = some (.slice A0_1 l0_1.length c0_1) := (blk_cell BK274.out 1).trans rfl
     have hcz11_2 : wr.cell? ⟨gb274,2,none⟩ = some (.slice A0_2 l0_2.length c0_2) := (blk_cell BK274.out 2).trans rfl
     have hfz11_0 := blk_frozen BK274.out 0
     have hfz11_1 := blk_frozen BK274.out 1
     have hfz11_2 := blk_frozen BK274.out 2
     go_wp2
     go_ret
     exact ⟨by first | rfl | (simp [errW_none,errW_some] <;> rfl) | (simp [*,errW_none,errW_some] <;> rfl),by repeat (first | (with_reducible first | exact HB.out | apply below_alloc | apply pw_below_drewN | apply below_drew1 | refine below_set ?_ GE274.out) | exact HB.out)⟩
   ·rw [if_neg c5] at H
    have c5b0 : decide (x6_1 < (l0_2.length : Int)) = false := decide_eq_false c5
    clear c5
    obtain rfl := Option.some.inj H
    have hcz12_0 : wr.cell? ⟨gb274,0,none⟩ = some (.int .u64 a0_0) := (blk_cell BK274.out 0).trans rfl
    have hcz12_1 : wr.cell? ⟨gb274,1,none⟩ = some (.slice A0_1 l0_1.length c0_1) := (blk_cell BK274.out 1).trans rfl
    have hcz12_2 : wr.cell? ⟨gb274,2,none⟩ = some (.slice A0_2 l0_2.length c0_2) := (blk_cell BK274.out 2).trans rfl
    have hfz12_0 := blk_frozen BK274.out 0
    have hfz12_1 := blk_frozen BK274.out 1
    have hfz12_2 := blk_frozen BK274.out 2
    go_wp2
    go_ret
    exact ⟨by first | rfl | (simp [errW_none,errW_some] <;> rfl) | (simp [*,errW_none,errW_some] <;> rfl),by repeat (first | (with_reducible first | exact HB.out | apply below_alloc | apply pw_below_drewN | apply below_drew1 | refine below_set ?_ GE274.out) | exact HB.out)⟩

end Go.Proofs.Ytfcghajnnllmhaa.QP

namespace Go.Proofs.Ytfcghajnnllmhaa.QP
open Go.RowKit Go.Proofs.YtfcghajnnllmhaaW.PrintWords Go.Proofs.YtfcghajnnllmhaaW.PrintLast Go.Proofs.YtfcghajnnllmhaaW.PrintMore
attribute [local go_sem] max2_int min2_int max_two min_two max_three min_three max_four min_four   -- for this text's walks alone
set_option linter.unusedVariables false
set_option linter.unusedSimpArgs false

/-! ### passepartoutlaw05_Great: function 31 -/
def passepartoutlaw05_Great.l0 : Nat → List (S46) → Int → Int → Option (Int)
 | 0,_,_,_ => none
 | k + 1,x10,x11,x12 => if x12 < x11 then (if 0 ≤ x12 then (if x12 < (x10.length : Int) then ((passepartoutref05_Count.f k ((rd_T46 x10 x12).f0) ((rd_T46 x10 x12).f1) ((rd_T46 x10 x12).f2) 2000).bind fun t281 => (if t281 > 2000 then (some 1) else ((passepartoutref05_Bytes.f k ((rd_T46 x10 x12).f0) ((rd_T46 x10 x12).f1) ((rd_T46 x10 x12).f2) 20000).bind fun t282 => (if t282 > 20000 then (some 1) else (passepartoutlaw05_Great.l0 k x10 x11 (wrap64 (x12 + 1))))))) else (none)) else (none)) else (some 0)
def passepartoutlaw05_Great.f (k : Nat) (a0_0 : Int) (a0_1 : Int) (a0_2 : Int) (a0_3 : Int) (a0_4 : Int) (l0_5 : List (S27)) (l1 : List (S46)) : Option (Int) := (passepartoutref04_Count.f k a0_0 a0_1 a0_2 a0_3 a0_4 l0_5 500).bind fun t278 => (if t278 > 500 then (some 1) else (passepartoutlaw05_Great.l0 k l1 (l1.length : Int) 0))
theorem passepartoutlaw05_Great.mono_l : ∀ k,(∀ y0 y1 y2,LeO (passepartoutlaw05_Great.l0 k y0 y1 y2) (passepartoutlaw05_Great.l0 (k + 1) y0 y1 y2))
 | 0 => fun _ _ _ r h => by simp [passepartoutlaw05_Great.l0] at h
 | k + 1 => by
  have ih0 := passepartoutlaw05_Great.mono_l k
  ·intro y0 y1 y2
   unfold passepartoutlaw05_Great.l0
   repeat' first
   | (with_reducible exact ih0 _ _ _)
   | (with_reducible exact passepartoutref04_Count.mono _ _ _ _ _ _ _ _)
   | (with_reducible exact passepartoutref05_Bytes.mono _ _ _ _ _)
   | (with_reducible exact passepartoutref05_Count.mono _ _ _ _ _)
   | (with_reducible exact LeO.refl _)
   | (with_reducible exact LeO.none _)
   | (with_reducible refine LeO.ite ?_ ?_)
   | (with_reducible refine LeO.bind ?_ (fun _ => ?_))
   | exact ih0 _ _ _
   | exact passepartoutref04_Count.mono _ _ _ _ _ _ _ _
   | exact passepartoutref05_Bytes.mono _ _ _ _ _
   | exact passepartoutref05_Count.mono _ _ _ _ _
   | exact LeO.none _
   | refine LeO.ite ?_ ?_
   | refine LeO.bind ?_ (fun _ => ?_)
theorem passepartoutlaw05_Great.mono : ∀ a0 a1 a2 a3 a4 a5 a6 k,LeO (passepartoutlaw05_Great.f k a0 a1 a2 a3 a4 a5 a6) (passepartoutlaw05_Great.f (k + 1) a0 a1 a2 a3 a4 a5 a6) := by
 intro a0 a1 a2 a3 a4 a5 a6 k
 have ih0 := passepartoutlaw05_Great.mono_l k
 unfold passepartoutlaw05_Great.f
 repeat' first
   | (with_reducible exact ih0 _ _ _)
   | (with_reducible exact passepartoutref04_Count.mono _ _ _ _ _ _ _ _)
   | (with_reducible exact passepartoutref05_Bytes.mono _ _ _ _ _)
   | (with_reducible exact passepartoutref05_Count.mono _ _ _ _ _)
   | (with_reducible exact LeO.refl _)
   | (with_reducible exact LeO.none _)
   | (with_reducible refine LeO.ite ?_ ?_)
   | (with_reducible refine LeO.bind ?_ (fun _ => ?_))
   | exact ih0 _ _ _
   | exact passepartoutref04_Count.mono _ _ _ _ _ _ _ _
   | exact passepartoutref05_Bytes.mono _ _ _ _ _
   | exact passepartoutref05_Count.mono _ _ _ _ _
   | exact LeO.none _
   | refine LeO.ite ?_ ?_
   | refine LeO.bind ?_ (fun _ => ?_)
set_option maxHeartbeats 8000000 in
set_option maxRecDepth 100000 in
theorem passepartoutlaw05_Great.calls (k : Nat) (a0_0 : Int) (a0_1 : Int) (a0_2 : Int) (a0_3 : Int) (a0_4 : Int) (A0_5 : Option Addr) (c0_5 : Nat) (l0_5 : List (S27)) (A1 : Option Addr) (c1 : Nat) (l1 : List (S46)) (r : Int) (w : World) (hr0_5 : Kd.C k27 w A0_5 l0_5.length l0_5) (hc0_5 : l0_5.length ≤ c0_5) (hr1 : Kd.C k46 w A1 l1.length l1) (hc1 : l1.length ≤ c1) (h : passepartoutlaw05_Great.f k a0_0 a0_1 a0_2 a0_3 a0_4 l0_5 l1 = some r) :
  Calls Try.prog 31 #[.agg #[.int .i64 a0_0,.int .i64 a0_1,.int .i64 a0_2,.int .i64 a0_3,.int .i64 a0_4,.slice A0_5 l0_5.length c0_5],.slice A1 l1.length c1] w fun e w' => e = .returned (.int .i64 r) ∧ Below w.heap.size w w' := by
 have hu27 := Try.underlying27
 have hu46 := Try.underlying46
 have HR0_5 := Aside0.mk hr0_5
 have HC0_5 := Aside0.mk hc0_5
 clear hr0_5 hc0_5
 have HR1 := Aside0.mk hr1
 have HC1 := Aside0.mk hc1
 clear hr1 hc1
 have HB := Aside0.mk (Below.refl w.heap.size w)
 have H : ((passepartoutref04_Count.f k a0_0 a0_1 a0_2 a0_3 a0_4 l0_5 500).bind fun t278 => (if t278 > 500 then (some 1) else (passepartoutlaw05_Great.l0 k l1 (l1.length : Int) 0))) = some r := h
 clear h
 replace H := Option.bind_eq_some_iff.mp H
 obtain ⟨t278,A30,H⟩ := H
 replace H : (if t278 > 500 then (some 1) else (passepartoutlaw05_Great.l0 k l1 (l1.length : Int) 0)) = some r := H
 have A3 := Aside0.mk A30
 clear A30
 by_cases c4 : t278 > 500
 ·rw [if_pos c4] at H
  have c4b0 : decide (500 < t278) = true := decide_eq_true c4
  clear c4
  obtain rfl := Option.some.inj H
  go_enter Try.func31,Try.ntmps31
  go_wp2_with (first | ((with_reducible refine gate_dst (N := 2) rfl ?_);refine box_event ?hg (N := 2) ?hd (cs := #[.int .i64 a0_0,.int .i64 a0_1,.int .i64 a0_2,.int .i64 a0_3,.int .i64 a0_4,.slice A0_5 l0_5.length c0_5]) (t := 27) ?hr ?_;(case hd => rfl);(case hg => rfl);(case hr => first | (go_simp;done) | (go_simp;rfl));intro gb277 hg w5 hbox hb;have n0_ := Aside0.mk (below_step (by repeat (first | (with_reducible first | exact HB.out | apply below_alloc | apply pw_below_drewN | apply below_drew1) | exact HB.out)) hb);have n1_ := Aside0.mk (hbox);have n2_ := Aside0.mk ((by rw [hg];exact (below_size (by repeat (first | (with_reducible first | exact HB.out | apply below_alloc | apply pw_below_drewN | apply below_drew1) | exact HB.out))) : w.heap.size ≤ gb277));have n3_ := Aside0.mk ((by rw [hg];exact (below_size (by repeat (first | (with_reducible first | exact HB.out | apply below_alloc | apply pw_below_drewN | apply below_drew1) | exact HB.out))) : w.heap.size ≤ gb277));clear HB;have HB := n0_;have BK277 := n1_;have GW277 := n2_;have GE277 := n3_;clear n0_ n1_ n2_ n3_;clear hb hbox hg;have hcz6_0 : w5.cell? ⟨gb277,0,none⟩ = some (.int .i64 a0_0) := (blk_cell BK277.out 0).trans rfl;have hcz6_1 : w5.cell? ⟨gb277,1,none⟩ = some (.int .i64 a0_1) := (blk_cell BK277.out 1).trans rfl;have hcz6_2 : w5.cell? ⟨gb277,2,none⟩ = some (.int .i64 a0_2) := (blk_cell BK277.out 2).trans rfl;have hcz6_3 : w5.cell? ⟨gb277,3,none⟩ = some (.int .i64 a0_3) := (blk_cell BK277.out 3).trans rfl;have hcz6_4 : w5.cell? ⟨gb277,4,none⟩ = some (.int .i64 a0_4) := (blk_cell BK277.out 4).trans rfl;have hcz6_5 : w5.cell? ⟨gb277,5,none⟩ = some (.slice A0_5 l0_5.length c0_5) := (blk_cell BK277.out 5).trans rfl;have hfz6_0 := blk_frozen BK277.out 0;have hfz6_1 := blk_frozen BK277.out 1;have hfz6_2 := blk_frozen BK277.out 2;have hfz6_3 := blk_frozen BK277.out 3;have hfz6_4 := blk_frozen BK277.out 4;have hfz6_5 := blk_frozen BK277.out 5) | ((with_reducible refine gate_callee (f := 45) rfl ?_);refine goesL_ (some 8) rfl rfl Try.func45 (by kernel_rfl) rfl #[.agg #[.int .i64 a0_0,.int .i64 a0_1,.int .i64 a0_2,.int .i64 a0_3,.int .i64 a0_4,.slice A0_5 l0_5.length c0_5],.int .i64 500] rfl (by (try simp only [List.map_toArray,List.map_cons,List.map_nil]);first | done | rfl | (simp only [List.length_drop,List.length_take];rfl)) ?_;(with_reducible refine (passepartoutref04_Count.calls k a0_0 a0_1 a0_2 a0_3 a0_4 _ _ l0_5 500 t278 _ ?side1 ?side2 A3.out).mono ?_);(case side1 => repeat (first | exact (Kd.C_below HR0_5.out HB.out) | (with_reducible refine Kd.C_alloc ?_ _) | (with_reducible refine Kd.C_drewN ?_ _) | (with_reducible refine Kd.C_drew ?_)));(case side2 => exact HC0_5.out);rintro e w7 ⟨rfl,hb⟩;refine ⟨_,rfl,?_⟩;have n0_ := Aside0.mk (blk_below (g := gb277) (o := .cells #[.int .i64 a0_0,.int .i64 a0_1,.int .i64 a0_2,.int .i64 a0_3,.int .i64 a0_4,.slice A0_5 l0_5.length c0_5] 27 (0,0)) (by (with_reducible repeat (first | refine blk_drewN ?_ _ | refine blk_drew ?_ | refine blk_alloc ?_ _));exact BK277.out) hb);have n1_ := Aside0.mk (below_step (by repeat (first | (with_reducible first | exact HB.out | apply below_alloc | apply pw_below_drewN | apply below_drew1 | refine below_set ?_ GE277.out) | exact HB.out)) hb);clear BK277;clear HB;have BK277 := n0_;have HB := n1_;clear n0_ n1_;(try clear hb);(try clear hb2);(try clear hk);(try clear hi)))
  go_ret
  exact ⟨by first | rfl | (simp [errW_none,errW_some] <;> rfl) | (simp [*,errW_none,errW_some] <;> rfl),by repeat (first | (with_reducible first | exact HB.out | apply below_alloc | apply pw_below_drewN | apply below_drew1 | refine below_set ?_ GE277.out) | exact HB.out)⟩
 ·rw [if_neg c4] at H
  have c4b0 : decide (500 < t278) = false := decide_eq_false c4
  clear c4
  have H' := Aside0.mk H
  clear H
  go_enter Try.func31,Try.ntmps31
  go_wp2_with (first | ((with_reducible refine gate_dst (N := 2) rfl ?_);refine box_event ?hg (N := 2) ?hd (cs := #[.int .i64 a0_0,.int .i64 a0_1,.int .i64 a0_2,.int .i64 a0_3,.int .i64 a0_4,.slice A0_5 l0_5.length c0_5]) (t := 27) ?hr ?_;(case hd => rfl);(case hg => rfl);(case hr => first | (go_simp;done) | (go_simp;rfl));intro gb277 hg w8 hbox hb;have n0_ := Aside0.mk (below_step (by repeat (first | (with_reducible first | exact HB.out | apply below_alloc | apply pw_below_drewN | apply below_drew1) | exact HB.out)) hb);have n1_ := Aside0.mk (hbox);have n2_ := Aside0.mk ((by rw [hg];exact (below_size (by repeat (first | (with_reducible first | exact HB.out | apply below_alloc | apply pw_below_drewN | apply below_drew1) | exact HB.out))) : w.heap.size ≤ gb277));have n3_ := Aside0.mk ((by rw [hg];exact (below_size (by repeat (first | (with_reducible first | exact HB.out | apply below_alloc | apply pw_below_drewN | apply below_drew1) | exact HB.out))) : w.heap.size ≤ gb277));clear HB;have HB := n0_;have BK277 := n1_;have GW277 := n2_;have GE277 := n3_;clear n0_ n1_ n2_ n3_;clear hb hbox hg;have hcz9_0 : w8.cell? ⟨gb277,0,none⟩ = some (.int .i64 a0_0) := (blk_cell BK277.out 0).trans rfl;have hcz9_1 : w8.cell? ⟨gb277,1,none⟩ = some (.int .i64 a0_1) := (blk_cell BK277.out 1).trans rfl;have hcz9_2 : w8.cell? ⟨gb277,2,none⟩ = some (.int .i64 a0_2) := (blk_cell BK277.out 2).trans rfl;have hcz9_3 : w8.cell? ⟨gb277,3,none⟩ = some (.int .i64 a0_3) := (blk_cell BK277.out 3).trans rfl;have hcz9_4 : w8.cell? ⟨gb277,4,none⟩ = some (.int .i64 a0_4) := (blk_cell BK277.out 4).trans rfl;have hcz9_5 : w8.cell? ⟨gb277,5,none⟩ = some (.slice A0_5 l0_5.length c0_5) := (blk_cell BK277.out 5).trans rfl;have hfz9_0 := blk_frozen BK277.out 0;have hfz9_1 := blk_frozen BK277.out 1;have hfz9_2 := blk_frozen BK277.out 2;have hfz9_3 := blk_frozen BK277.out 3;have hfz9_4 := blk_frozen BK277.out 4;have hfz9_5 := blk_frozen BK277.out 5) | ((with_reducible refine gate_callee (f := 45) rfl ?_);refine goesL_ (some 8) rfl rfl Try.func45 (by kernel_rfl) rfl #[.agg #[.int .i64 a0_0,.int .i64 a0_1,.int .i64 a0_2,.int .i64 a0_3,.int .i64 a0_4,.slice A0_5 l0_5.length c0_5],.int .i64 500] rfl (by (try simp only [List.map_toArray,List.map_cons,List.map_nil]);first | done | rfl | (simp only [List.length_drop,List.length_take];rfl)) ?_;(with_reducible refine (passepartoutref04_Count.calls k a0_0 a0_1 a0_2 a0_3 a0_4 _ _ l0_5 500 t278 _ ?side1 ?side2 A3.out).mono ?_);(case side1 => repeat (first | exact (Kd.C_below HR0_5.out HB.out) | (with_reducible refine Kd.C_alloc ?_ _) | (with_reducible refine Kd.C_drewN ?_ _) | (with_reducible refine Kd.C_drew ?_)));(case side2 => exact HC0_5.out);rintro e w10 ⟨rfl,hb⟩;refine ⟨_,rfl,?_⟩;have n0_ := Aside0.mk (blk_below (g := gb277) (o := .cells #[.int .i64 a0_0,.int .i64 a0_1,.int .i64 a0_2,.int .i64 a0_3,.int .i64 a0_4,.slice A0_5 l0_5.length c0_5] 27 (0,0)) (by (with_reducible repeat (first | refine blk_drewN ?_ _ | refine blk_drew ?_ | refine blk_alloc ?_ _));exact BK277.out) hb);have n1_ := Aside0.mk (below_step (by repeat (first | (with_reducible first | exact HB.out | apply below_alloc | apply pw_below_drewN | apply below_drew1 | refine below_set ?_ GE277.out) | exact HB.out)) hb);clear BK277;clear HB;have BK277 := n0_;have HB := n1_;clear n0_ n1_;(try clear hb);(try clear hb2);(try clear hk);(try clear hi)))
  go_loopg [12] k (fun kq v12 w' => ∃ (x12_1 : Int),v12 = .int .i64 x12_1 ∧ Aside0 (passepartoutlaw05_Great.l0 kq l1 (l1.length : Int) x12_1 = some r) ∧ Aside0 (kq ≤ k) ∧ Aside0 (w'.heap[gb277]? = some (.cells #[.int .i64 a0_0,.int .i64 a0_1,.int .i64 a0_2,.int .i64 a0_3,.int .i64 a0_4,(.slice A0_5 l0_5.length c0_5)] 27 (0,0))) ∧ Aside0 (Below w.heap.size w w'))
  case atStart => exact ⟨(0),(by first | rfl | (simp;done) | (simp [*];done)),H',⟨Nat.le_refl _⟩,⟨by (with_reducible repeat (first | refine blk_drewN ?_ _ | refine blk_drew ?_ | refine blk_alloc ?_ _));exact BK277.out⟩,⟨by repeat (first | (with_reducible first | exact HB.out | apply below_alloc | apply pw_below_drewN | apply below_drew1 | refine below_set ?_ GE277.out) | exact HB.out)⟩⟩
  case round =>
   clear H'
   try clear c1
   try clear p2
   try clear c3
   try clear c4
   try clear c4b0
   try clear hcz6_0
   try clear hcz6_1
   try clear hcz6_2
   try clear hcz6_3
   try clear hcz6_4
   try clear hcz6_5
   try clear hcz9_0
   try clear hcz9_1
   try clear hcz9_2
   try clear hcz9_3
   try clear hcz9_4
   try clear hcz9_5
   try clear hfz6_0
   try clear hfz6_1
   try clear hfz6_2
   try clear hfz6_3
   try clear hfz6_4
   try clear hfz6_5
   try clear hfz9_0
   try clear hfz9_1
   try clear hfz9_2
   try clear hfz9_3
   try clear hfz9_4
   try clear hfz9_5
   obtain ⟨x12_1,rfl,HA,HK1,BK277,HB⟩ := hrel
   cases gk with
   | zero => exact absurd HA.out (by simp [passepartoutlaw05_Great.l0])
   | succ k1 =>
    have H := HA.out
    clear HA
    simp only [passepartoutlaw05_Great.l0] at H
    by_cases c11 : x12_1 < (l1.length : Int)
    ·rw [if_pos c11] at H
     have c11b0 : decide (x12_1 < (l1.length : Int)) = true := decide_eq_true c11
     clear c11
     by_cases c12 : 0 ≤ x12_1
     ·rw [if_pos c12] at H
      have c12b0 : decide (0 ≤ x12_1) = true := decide_eq_true c12
      clear c12
      by_cases c13 : x12_1 < (l1.length : Int)
      ·rw [if_pos c13] at H
       have c13b0 : decide (x12_1 < (l1.length : Int)) = true := decide_eq_true c13
       clear c13
       replace H := Option.bind_eq_some_iff.mp H
       obtain ⟨t281,A140,H⟩ := H
       replace H : (if t281 > 2000 then (some 1) else ((passepartoutref05_Bytes.f k1 ((rd_T46 l1 x12_1).f0) ((rd_T46 l1 x12_1).f1) ((rd_T46 l1 x12_1).f2) 20000).bind fun t282 => (if t282 > 20000 then (some 1) else (passepartoutlaw05_Great.l0 k1 l1 (l1.length : Int) (wrap64 (x12_1 + 1)))))) = some r := H
       have A14 := Aside0.mk A140
       clear A140
       by_cases c15 : t281 > 2000
       ·rw [if_pos c15] at H
        have c15b0 : decide (2000 < t281) = true := decide_eq_true c15
        clear c15
        obtain rfl := Option.some.inj H
        have p279 : 0 ≤ (x12_1 : Int) := of_decide_eq_true (by first | (with_reducible assumption) | assumption)
        have q279 : x12_1 < (l1.length : Int) := of_decide_eq_true (by first | (with_reducible assumption) | assumption)
        obtain ⟨ad279,A279_1,c279_1,A279_2,c279_2,e279,hx279_0,hx279_1,hx279_2,hl279_1,hi279_1,hl279_2,hi279_2⟩ := at_T46 HR1.out x12_1 p279 q279
        cases e279
        replace hx279_0 := (HB.out.cell (World.block_lt_of_cell? w _ hx279_0)).trans hx279_0
        replace hx279_1 := (HB.out.cell (World.block_lt_of_cell? w _ hx279_1)).trans hx279_1
        replace hx279_2 := (HB.out.cell (World.block_lt_of_cell? w _ hx279_2)).trans hx279_2
        have HR279_1 := Aside0.mk hi279_1
        have HC279_1 := Aside0.mk hl279_1
        clear hi279_1 hl279_1
        have HR279_2 := Aside0.mk hi279_2
        have HC279_2 := Aside0.mk hl279_2
        clear hi279_2 hl279_2
        replace p279 := eq_true p279
        replace q279 := eq_true q279
        go_wp2_with (first | ((with_reducible refine gate_dst (N := 6) rfl ?_);refine box_event ?hg (N := 6) ?hd (cs := #[.int .u64 0,.slice none 0 0,.slice none 0 0]) (t := 46) ?hr ?_;(case hd => rfl);(case hg => rfl);(case hr => first | (go_simp;done) | (go_simp;rfl));intro gb280 hg w16 hbox hb;have n0_ := Aside0.mk (blk_below (g := gb277) (o := .cells #[.int .i64 a0_0,.int .i64 a0_1,.int .i64 a0_2,.int .i64 a0_3,.int .i64 a0_4,.slice A0_5 l0_5.length c0_5] 27 (0,0)) (by (with_reducible repeat (first | refine blk_drewN ?_ _ | refine blk_drew ?_ | refine blk_alloc ?_ _));exact BK277.out) hb);have n1_ := Aside0.mk (below_step (by repeat (first | (with_reducible first | exact HB.out | apply below_alloc | apply pw_below_drewN | apply below_drew1 | refine below_set ?_ GE277.out) | exact HB.out)) hb);have n2_ := Aside0.mk (hbox);have n3_ := Aside0.mk ((by rw [hg];exact (below_size (by repeat (first | (with_reducible first | exact HB.out | apply below_alloc | apply pw_below_drewN | apply below_drew1 | refine below_set ?_ GE277.out) | exact HB.out))) : w.heap.size ≤ gb280));have n4_ := Aside0.mk ((by rw [hg];exact (below_size (by repeat (first | (with_reducible first | exact HB.out | apply below_alloc | apply pw_below_drewN | apply below_drew1 | refine below_set ?_ GE277.out) | exact HB.out))) : w.heap.size ≤ gb280));have n5_ := Aside0.mk ((by rw [hg];exact Nat.ne_of_lt (blk_lt (g := gb277) (o := .cells #[.int .i64 a0_0,.int .i64 a0_1,.int .i64 a0_2,.int .i64 a0_3,.int .i64 a0_4,.slice A0_5 l0_5.length c0_5] 27 (0,0)) (by (with_reducible repeat (first | refine blk_drewN ?_ _ | refine blk_drew ?_ | refine blk_alloc ?_ _));exact BK277.out)) : gb277 ≠ gb280));have n6_ := Aside0.mk ((by rw [hg];exact Nat.ne_of_gt (blk_lt (g := gb277) (o := .cells #[.int .i64 a0_0,.int .i64 a0_1,.int .i64 a0_2,.int .i64 a0_3,.int .i64 a0_4,.slice A0_5 l0_5.length c0_5] 27 (0,0)) (by (with_reducible repeat (first | refine blk_drewN ?_ _ | refine blk_drew ?_ | refine blk_alloc ?_ _));exact BK277.out)) : gb280 ≠ gb277));clear BK277;clear HB;have BK277 := n0_;have HB := n1_;have BK280 := n2_;have GW280 := n3_;have GE280 := n4_;have NB277_280 := n5_;have NB280_277 := n6_;clear n0_ n1_ n2_ n3_ n4_ n5_ n6_;clear hb hbox hg;have hnb17 := NB280_277.out;have hnc17 := NB277_280.out;have hcz18_0 : w16.cell? ⟨gb280,0,none⟩ = some (.int .u64 0) := (blk_cell BK280.out 0).trans rfl;have hcz18_1 : w16.cell? ⟨gb280,1,none⟩ = some (.slice none 0 0) := (blk_cell BK280.out 1).trans rfl;have hcz18_2 : w16.cell? ⟨gb280,2,none⟩ = some (.slice none 0 0) := (blk_cell BK280.out 2).trans rfl;have hfz18_0 := blk_frozen BK280.out 0;have hfz18_1 := blk_frozen BK280.out 1;have hfz18_2 := blk_frozen BK280.out 2) | ((with_reducible refine gate_callee (f := 42) rfl ?_);refine goesL_ (some 17) rfl rfl Try.func42 (by kernel_rfl) rfl #[.agg #[.int .u64 ((rd_T46 l1 x12_1).f0),.slice A279_1 ((rd_T46 l1 x12_1).f1).length c279_1,.slice A279_2 ((rd_T46 l1 x12_1).f2).length c279_2],.int .i64 2000] rfl (by (try simp only [List.map_toArray,List.map_cons,List.map_nil]);first | done | rfl | (simp only [List.length_drop,List.length_take];rfl)) ?_;(with_reducible refine (passepartoutref05_Count.calls k1 ((rd_T46 l1 x12_1).f0) _ _ ((rd_T46 l1 x12_1).f1) _ _ ((rd_T46 l1 x12_1).f2) 2000 t281 _ ?side1 ?side2 ?side3 ?side4 A14.out).mono ?_);(case side1 => exact Kd.C_below HR279_1.out (by repeat (first | (with_reducible first | exact HB.out | apply below_alloc | apply pw_below_drewN | apply below_drew1 | refine below_set ?_ GE277.out | refine below_set ?_ GE280.out) | exact HB.out)));(case side2 => exact HC279_1.out);(case side3 => exact Kd.C_below HR279_2.out (by repeat (first | (with_reducible first | exact HB.out | apply below_alloc | apply pw_below_drewN | apply below_drew1 | refine below_set ?_ GE277.out | refine below_set ?_ GE280.out) | exact HB.out)));(case side4 => exact HC279_2.out);rintro e w19 ⟨rfl,hb⟩;refine ⟨_,rfl,?_⟩;have n0_ := Aside0.mk (blk_below (g := gb277) (o := .cells #[.int .i64 a0_0,.int .i64 a0_1,.int .i64 a0_2,.int .i64 a0_3,.int .i64 a0_4,.slice A0_5 l0_5.length c0_5] 27 (0,0)) (by (with_reducible repeat (first | refine blk_drewN ?_ _ | refine blk_drew ?_ | refine blk_alloc ?_ _));refine blk_far ?_ NB277_280.out _;(with_reducible repeat (first | refine blk_drewN ?_ _ | refine blk_drew ?_ | refine blk_alloc ?_ _));refine blk_far ?_ NB277_280.out _;(with_reducible repeat (first | refine blk_drewN ?_ _ | refine blk_drew ?_ | refine blk_alloc ?_ _));refine blk_far ?_ NB277_280.out _;(with_reducible repeat (first | refine blk_drewN ?_ _ | refine blk_drew ?_ | refine blk_alloc ?_ _));exact BK277.out) hb);have n1_ := Aside0.mk (blk_below (g := gb280) (o := .cells #[.int .u64 ((rd_T46 l1 x12_1).f0),.slice A279_1 ((rd_T46 l1 x12_1).f1).length c279_1,.slice A279_2 ((rd_T46 l1 x12_1).f2).length c279_2] 46 (0,0)) (by (with_reducible repeat (first | refine blk_drewN ?_ _ | refine blk_drew ?_ | refine blk_alloc ?_ _));refine blk_put (cs := #[.int .u64 ((rd_T46 l1 x12_1).f0),.slice A279_1 ((rd_T46 l1 x12_1).f1).length c279_1,.slice none 0 0]) ?_ 2 _ rfl;(with_reducible repeat (first | refine blk_drewN ?_ _ | refine blk_drew ?_ | refine blk_alloc ?_ _));refine blk_put (cs := #[.int .u64 ((rd_T46 l1 x12_1).f0),.slice none 0 0,.slice none 0 0]) ?_ 1 _ rfl;(with_reducible repeat (first | refine blk_drewN ?_ _ | refine blk_drew ?_ | refine blk_alloc ?_ _));refine blk_put (cs := #[.int .u64 0,.slice none 0 0,.slice none 0 0]) ?_ 0 _ rfl;(with_reducible repeat (first | refine blk_drewN ?_ _ | refine blk_drew ?_ | refine blk_alloc ?_ _));exact BK280.out) hb);have n2_ := Aside0.mk (below_step (by repeat (first | (with_reducible first | exact HB.out | apply below_alloc | apply pw_below_drewN | apply below_drew1 | refine below_set ?_ GE277.out | refine below_set ?_ GE280.out) | exact HB.out)) hb);clear BK277;clear BK280;clear HB;have BK277 := n0_;have BK280 := n1_;have HB := n2_;clear n0_ n1_ n2_;(try clear hb);(try clear hb2);(try clear hk);(try clear hi)))
        go_ret
        exact ⟨by first | rfl | (simp [errW_none,errW_some] <;> rfl) | (simp [*,errW_none,errW_some] <;> rfl),by repeat (first | (with_reducible first | exact HB.out | apply below_alloc | apply pw_below_drewN | apply below_drew1 | refine below_set ?_ GE277.out | refine below_set ?_ GE280.out) | exact HB.out)⟩
       ·rw [if_neg c15] at H
        have c15b0 : decide (2000 < t281) = false := decide_eq_false c15
        clear c15
        replace H := Option.bind_eq_some_iff.mp H
        obtain ⟨t282,A200,H⟩ := H
        replace H : (if t282 > 20000 then (some 1) else (passepartoutlaw05_Great.l0 k1 l1 (l1.length : Int) (wrap64 (x12_1 + 1)))) = some r := H
        have A20 := Aside0.mk A200
        clear A200
        by_cases c21 : t282 > 20000
        ·rw [if_pos c21] at H
         have c21b0 : decide (20000 < t282) = true := decide_eq_true c21
         clear c21
         obtain rfl := Option.some.inj H
         have p279 : 0 ≤ (x12_1 : Int) := of_decide_eq_true (by first | (with_reducible assumption) | assumption)
         have q279 : x12_1 < (l1.length : Int) := of_decide_eq_true (by first | (with_reducible assumption) | assumption)
         obtain ⟨ad279,A279_1,c279_1,A279_2,c279_2,e279,hx279_0,hx279_1,hx279_2,hl279_1,hi279_1,hl279_2,hi279_2⟩ := at_T46 HR1.out x12_1 p279 q279
         cases e279
         replace hx279_0 := (HB.out.cell (World.block_lt_of_cell? w _ hx279_0)).trans hx279_0
         replace hx279_1 := (HB.out.cell (World.block_lt_of_cell? w _ hx279_1)).trans hx279_1
         replace hx279_2 := (HB.out.cell (World.block_lt_of_cell? w _ hx279_2)).trans hx279_2
         have HR279_1 := Aside0.mk hi279_1
         have HC279_1 := Aside0.mk hl279_1
         clear hi279_1 hl279_1
         have HR279_2 := Aside0.mk hi279_2
         have HC279_2 := Aside0.mk hl279_2
         clear hi279_2 hl279_2
         replace p279 := eq_true p279
         replace q279 := eq_true q279
         go_wp2_with (first | ((with_reducible refine gate_dst (N := 6) rfl ?_);refine box_event ?hg (N := 6) ?hd (cs := #[.int .u64 0,.slice none 0 0,.slice none 0 0]) (t := 46) ?hr ?_;(case hd => rfl);(case hg => rfl);(case hr => first | (go_simp;done) | (go_simp;rfl));intro gb280 hg w22 hbox hb;have n0_ := Aside0.mk (blk_below (g := gb277) (o := .cells #[.int .i64 a0_0,.int .i64 a0_1,.int .i64 a0_2,.int .i64 a0_3,.int .i64 a0_4,.slice A0_5 l0_5.length c0_5] 27 (0,0)) (by (with_reducible repeat (first | refine blk_drewN ?_ _ | refine blk_drew ?_ | refine blk_alloc ?_ _));exact BK277.out) hb);have n1_ := Aside0.mk (below_step (by repeat (first | (with_reducible first | exact HB.out | apply below_alloc | apply pw_below_drewN | apply below_drew1 | refine below_set ?_ GE277.out) | exact HB.out)) hb);have n2_ := Aside0.mk (hbox);have n3_ := Aside0.mk ((by rw [hg];exact (below_size (by repeat (first | (with_reducible first | exact HB.out | apply below_alloc | apply pw_below_drewN | apply below_drew1 | refine below_set ?_ GE277.out) | exact HB.out))) : w.heap.size ≤ gb280));have n4_ := Aside0.mk ((by rw [hg];exact (below_size (by repeat (first | (with_reducible first | exact HB.out | apply below_alloc | apply pw_below_drewN | apply below_drew1 | refine below_set ?_ GE277.out) | exact HB.out))) : w.heap.size ≤ gb280));have n5_ := Aside0.mk ((by rw [hg];exact Nat.ne_of_lt (blk_lt (g := gb277) (o := .cells #[.int .i64 a0_0,.int .i64 a0_1,.int .i64 a0_2,.int .i64 a0_3,.int .i64 a0_4,.slice A0_5 l0_5.length c0_5] 27 (0,0)) (by (with_reducible repeat (first | refine blk_drewN ?_ _ | refine blk_drew ?_ | refine blk_alloc ?_ _));exact BK277.out)) : gb277 ≠ gb280));have n6_ := Aside0.mk ((by rw [hg];exact Nat.ne_of_gt (blk_lt (g := gb277) (o := .cells #[.int .i64 a0_0,.int .i64 a0_1,.int .i64 a0_2,.int .i64 a0_3,.int .i64 a0_4,.slice A0_5 l0_5.length c0_5] 27 (0,0)) (by (with_reducible repeat (first | refine blk_drewN ?_ _ | refine blk_drew ?_ | refine blk_alloc ?_ _));exact BK277.out)) : gb280 ≠ gb277));clear BK277;clear HB;have BK277 := n0_;have HB := n1_;have BK280 := n2_;have GW280 := n3_;have GE280 := n4_;have NB277_280 := n5_;have NB280_277 := n6_;clear n0_ n1_ n2_ n3_ n4_ n5_ n6_;clear hb hbox hg;have hnb23 := NB280_277.out;have hnc23 := NB277_280.out;have hcz24_0 : w22.cell? ⟨gb280,0,none⟩ = some (.int .u64 0) := (blk_cell BK280.out 0).trans rfl;have hcz24_1 : w22.cell? ⟨gb280,1,none⟩ = some (.slice none 0 0) := (blk_cell BK280.out 1).trans rfl;have hcz24_2 : w22.cell? ⟨gb280,2,none⟩ = some (.slice none 0 0) := (blk_cell BK280.out 2).trans rfl;have hfz24_0 := blk_frozen BK280.out 0;have hfz24_1 := blk_frozen BK280.out 1;have hfz24_2 := blk_frozen BK280.out 2) | ((with_reducible refine gate_callee (f := 42) rfl ?_);refine goesL_ (some 17) rfl rfl Try.func42 (by kernel_rfl) rfl #[.agg #[.int .u64 ((rd_T46 l1 x12_1).f0),.slice A279_1 ((rd_T46 l1 x12_1).f1).length c279_1,.slice A279_2 ((rd_T46 l1 x12_1).f2).length c279_2],.int .i64 2000] rfl (by (try simp only [List.map_toArray,List.map_cons,List.map_nil]);first | done | rfl | (simp only [List.length_drop,List.length_take];rfl)) ?_;(with_reducible refine (passepartoutref05_Count.calls k1 ((rd_T46 l1 x12_1).f0) _ _ ((rd_T46 l1 x12_1).f1) _ _ ((rd_T46 l1 x12_1).f2) 2000 t281 _ ?side1 ?side2 ?side3 ?side4 A14.out).mono ?_);(case side1 => exact Kd.C_below HR279_1.out (by repeat (first | (with_reducible first | exact HB.out | apply below_alloc | apply pw_below_drewN | apply below_drew1 | refine below_set ?_ GE277.out | refine below_set ?_ GE280.out) | exact HB.out)));(case side2 => exact HC279_1.out);(case side3 => exact Kd.C_below HR279_2.out (by repeat (first | (with_reducible first | exact HB.out | apply below_alloc | apply pw_below_drewN | apply below_drew1 | refine below_set ?_ GE277.out | refine below_set ?_ GE280.out) | exact HB.out)));(case side4 => exact HC279_2.out);rintro e w25 ⟨rfl,hb⟩;refine ⟨_,rfl,?_⟩;have n0_ := Aside0.mk (blk_below (g := gb277) (o := .cells #[.int .i64 a0_0,.int .i64 a0_1,.int .i64 a0_2,.int .i64 a0_3,.int .i64 a0_4,.slice A0_5 l0_5.length c0_5] 27 (0,0)) (by (with_reducible repeat (first | refine blk_drewN ?_ _ | refine blk_drew ?_ | refine blk_alloc ?_ _));refine blk_far ?_ NB277_280.out _;(with_reducible repeat (first | refine blk_drewN ?_ _ | refine blk_drew ?_ | refine blk_alloc ?_ _));refine blk_far ?_ NB277_280.out _;(with_reducible repeat (first | refine blk_drewN ?_ _ | refine blk_drew ?_ | refine blk_alloc ?_ _));refine blk_far ?_ NB277_280.out _;(with_reducible repeat (first | refine blk_drewN ?_ _ | refine blk_drew ?_ | refine blk_alloc ?_ _));exact BK277.out) hb);have n1_ := Aside0.mk (blk_below (g := gb280) (o := .cells #[.int .u64 ((rd_T46 l1 x12_1).f0),.slice A279_1 ((rd_T46 l1 x12_1).f1).length c279_1,.slice A279_2 ((rd_T46 l1 x12_1).f2).length c279_2] 46 (0,0)) (by (with_reducible repeat (first | refine blk_drewN ?_ _ | refine blk_drew ?_ | refine blk_alloc ?_ _));refine blk_put (cs := #[.int .u64 ((rd_T46 l1 x12_1).f0),.slice A279_1 ((rd_T46 l1 x12_1).f1).length c279_1,.slice none 0 0]) ?_ 2 _ rfl;(with_reducible repeat (first | refine blk_drewN ?_ _ | refine blk_drew ?_ | refine blk_alloc ?_ _));refine blk_put (cs := #[.int .u64 ((rd_T46 l1 x12_1).f0),.slice none 0 0,.slice none 0 0]) ?_ 1 _ rfl;(with_reducible repeat (first | refine blk_drewN ?_ _ | refine blk_drew ?_ | refine blk_alloc ?_ _));refine blk_put (cs := #[.int .u64 0,.slice none 0 0,.slice none 0 0]) ?_ 0 _ rfl;(with_reducible repeat (first | refine blk_drewN ?_ _ | refine blk_drew ?_ | refine blk_alloc ?_ _));exact BK280.out) hb);have n2_ := Aside0.mk (below_step (by repeat (first | (with_reducible first | exact HB.out | apply below_alloc | apply pw_below_drewN | apply below_drew1 | refine below_set ?_ GE277.out | refine below_set ?_ GE280.out) | exact HB.out)) hb);clear BK277;clear BK280;clear HB;have BK277 := n0_;have BK280 := n1_;have HB := n2_;clear n0_ n1_ n2_;(try clear hb);(try clear hb2);(try clear hk);(try clear hi);have hcz26_0 : w25.cell? ⟨gb280,0,none⟩ = some (.int .u64 ((rd_T46 l1 x12_1).f0)) := (blk_cell BK280.out 0).trans rfl;have hcz26_1 : w25.cell? ⟨gb280,1,none⟩ = some (.slice A279_1 ((rd_T46 l1 x12_1).f1).length c279_1) := (blk_cell BK280.out 1).trans rfl;have hcz26_2 : w25.cell? ⟨gb280,2,none⟩ = some (.slice A279_2 ((rd_T46 l1 x12_1).f2).length c279_2) := (blk_cell BK280.out 2).trans rfl;have hfz26_0 := blk_frozen BK280.out 0;have hfz26_1 := blk_frozen BK280.out 1;have hfz26_2 := blk_frozen BK280.out 2) | (go_at_call 55;(with_reducible refine (passepartoutref05_Bytes.calls k1 ((rd_T46 l1 x12_1).f0) _ _ ((rd_T46 l1 x12_1).f1) _ _ ((rd_T46 l1 x12_1).f2) 20000 t282 _ ?side1 ?side2 ?side3 ?side4 A20.out).mono ?_);(case side1 => repeat (first | exact (Kd.C_below HR279_1.out HB.out) | (with_reducible refine Kd.C_alloc ?_ _) | (with_reducible refine Kd.C_drewN ?_ _) | (with_reducible refine Kd.C_drew ?_)));(case side2 => exact HC279_1.out);(case side3 => repeat (first | exact (Kd.C_below HR279_2.out HB.out) | (with_reducible refine Kd.C_alloc ?_ _) | (with_reducible refine Kd.C_drewN ?_ _) | (with_reducible refine Kd.C_drew ?_)));(case side4 => exact HC279_2.out);rintro e w27 ⟨rfl,hb⟩;have n0_ := Aside0.mk (blk_below (g := gb277) (o := .cells #[.int .i64 a0_0,.int .i64 a0_1,.int .i64 a0_2,.int .i64 a0_3,.int .i64 a0_4,.slice A0_5 l0_5.length c0_5] 27 (0,0)) (by (with_reducible repeat (first | refine blk_drewN ?_ _ | refine blk_drew ?_ | refine blk_alloc ?_ _));exact BK277.out) hb);have n1_ := Aside0.mk (blk_below (g := gb280) (o := .cells #[.int .u64 ((rd_T46 l1 x12_1).f0),.slice A279_1 ((rd_T46 l1 x12_1).f1).length c279_1,.slice A279_2 ((rd_T46 l1 x12_1).f2).length c279_2] 46 (0,0)) (by (with_reducible repeat (first | refine blk_drewN ?_ _ | refine blk_drew ?_ | refine blk_alloc ?_ _));exact BK280.out) hb);have n2_ := Aside0.mk (below_step (by repeat (first | (with_reducible first | exact HB.out | apply below_alloc | apply pw_below_drewN | apply below_drew1 | refine below_set ?_ GE277.out | refine below_set ?_ GE280.out) | exact HB.out)) hb);clear BK277;clear BK280;clear HB;have BK277 := n0_;have BK280 := n1_;have HB := n2_;clear n0_ n1_ n2_;(try clear hb);(try clear hb2);(try clear hk);(try clear hi)))
         go_ret
         exact ⟨by first | rfl | (simp [errW_none,errW_some] <;> rfl) | (simp [*,errW_none,errW_some] <;> rfl),by repeat (first | (with_reducible first | exact HB.out | apply below_alloc | apply pw_below_drewN | apply below_drew1 | refine below_set ?_ GE277.out | refine below_set ?_ GE280.out) | exact HB.out)⟩
        ·rw [if_neg c21] at H
         have c21b0 : decide (20000 < t282) = false := decide_eq_false c21
         clear c21
         have H' := Aside0.mk H
         clear H
         have p279 : 0 ≤ (x12_1 : Int) := of_decide_eq_true (by first | (with_reducible assumption) | assumption)
         have q279 : x12_1 < (l1.length : Int) := of_decide_eq_true (by first | (with_reducible assumption) | assumption)
         obtain ⟨ad279,A279_1,c279_1,A279_2,c279_2,e279,hx279_0,hx279_1,hx279_2,hl279_1,hi279_1,hl279_2,hi279_2⟩ := at_T46 HR1.out x12_1 p279 q279
         cases e279
         replace hx279_0 := (HB.out.cell (World.block_lt_of_cell? w _ hx279_0)).trans hx279_0
         replace hx279_1 := (HB.out.cell (World.block_lt_of_cell? w _ hx279_1)).trans hx279_1
         replace hx279_2 := (HB.out.cell (World.block_lt_of_cell? w _ hx279_2)).trans hx279_2
         have HR279_1 := Aside0.mk hi279_1
         have HC279_1 := Aside0.mk hl279_1
         clear hi279_1 hl279_1
         have HR279_2 := Aside0.mk hi279_2
         have HC279_2 := Aside0.mk hl279_2
         clear hi279_2 hl279_2
         replace p279 := eq_true p279
         replace q279 := eq_true q279
         go_wp2_with (first | ((with_reducible refine gate_dst (N := 6) rfl ?_);refine box_event ?hg (N := 6) ?hd (cs := #[.int .u64 0,.slice none 0 0,.slice none 0 0]) (t := 46) ?hr ?_;(case hd => rfl);(case hg => rfl);(case hr => first | (go_simp;done) | (go_simp;rfl));intro gb280 hg w28 hbox hb;have n0_ := Aside0.mk (blk_below (g := gb277) (o := .cells #[.int .i64 a0_0,.int .i64 a0_1,.int .i64 a0_2,.int .i64 a0_3,.int .i64 a0_4,.slice A0_5 l0_5.length c0_5] 27 (0,0)) (by (with_reducible repeat (first | refine blk_drewN ?_ _ | refine blk_drew ?_ | refine blk_alloc ?_ _));exact BK277.out) hb);have n1_ := Aside0.mk (below_step (by repeat (first | (with_reducible first | exact HB.out | apply below_alloc | apply pw_below_drewN | apply below_drew1 | refine below_set ?_ GE277.out) | exact HB.out)) hb);have n2_ := Aside0.mk (hbox);have n3_ := Aside0.mk ((by rw [hg];exact (below_size (by repeat (first | (with_reducible first | exact HB.out | apply below_alloc | apply pw_below_drewN | apply below_drew1 | refine below_set ?_ GE277.out) | exact HB.out))) : w.heap.size ≤ gb280));have n4_ := Aside0.mk ((by rw [hg];exact (below_size (by repeat (first | (with_reducible first | exact HB.out | apply below_alloc | apply pw_below_drewN | apply below_drew1 | refine below_set ?_ GE277.out) | exact HB.out))) : w.heap.size ≤ gb280));have n5_ := Aside0.mk ((by rw [hg];exact Nat.ne_of_lt (blk_lt (g := gb277) (o := .cells #[.int .i64 a0_0,.int .i64 a0_1,.int .i64 a0_2,.int .i64 a0_3,.int .i64 a0_4,.slice A0_5 l0_5.length c0_5] 27 (0,0)) (by (with_reducible repeat (first | refine blk_drewN ?_ _ | refine blk_drew ?_ | refine blk_alloc ?_ _));exact BK277.out)) : gb277 ≠ gb280));have n6_ := Aside0.mk ((by rw [hg];exact Nat.ne_of_gt (blk_lt (g := gb277) (o := .cells #[.int .i64 a0_0,.int .i64 a0_1,.int .i64 a0_2,.int .i64 a0_3,.int .i64 a0_4,.slice A0_5 l0_5.length c0_5] 27 (0,0)) (by (with_reducible repeat (first | refine blk_drewN ?_ _ | refine blk_drew ?_ | refine blk_alloc ?_ _));exact BK277.out)) : gb280 ≠ gb277));clear BK277;clear HB;have BK277 := n0_;have HB := n1_;have BK280 := n2_;have GW280 := n3_;have GE280 := n4_;have NB277_280 := n5_;have NB280_277 := n6_;clear n0_ n1_ n2_ n3_ n4_ n5_ n6_;clear hb hbox hg;have hnb29 := NB280_277.out;have hnc29 := NB277_280.out;have hcz30_0 : w28.cell? ⟨gb280,0,none⟩ = some (.int .u64 0) := (blk_cell BK280.out 0).trans rfl;have hcz30_1 : w28.cell? ⟨gb280,1,none⟩ = some (.slice none 0 0) := (blk_cell BK280.out 1).trans rfl;have hcz30_2 : w28.cell? ⟨gb280,2,none⟩ = some (.slice none 0 0) := (blk_cell BK280.out 2).trans rfl;have hfz30_0 := blk_frozen BK280.out 0;have hfz30_1 := blk_frozen BK280.out 1;have hfz30_2 := blk_frozen BK280.out 2) | ((with_reducible refine gate_callee (f := 42) rfl ?_);refine goesL_ (some 17) rfl rfl Try.func42 (by kernel_rfl) rfl #[.agg #[.int .u64 ((rd_T46 l1 x12_1).f0),.slice A279_1 ((rd_T46 l1 x12_1).f1).length c279_1,.slice A279_2 ((rd_T46 l1 x12_1).f2).length c279_2],.int .i64 2000] rfl (by (try simp only [List.map_toArray,List.map_cons,List.map_nil]);first | done | rfl | (simp only [List.length_drop,List.length_take];rfl)) ?_;(with_reducible refine (passepartoutref05_Count.calls k1 ((rd_T46 l1 x12_1).f0) _ _ ((rd_T46 l1 x12_1).f1) _ _ ((rd_T46 l1 x12_1).f2) 2000 t281 _ ?side1 ?side2 ?side3 ?side4 A14.out).mono ?_);(case side1 => exact Kd.C_below HR279_1.out (by repeat (first | (with_reducible first | exact HB.out | apply below_alloc | apply pw_below_drewN | apply below_drew1 | refine below_set ?_ GE277.out | refine below_set ?_ GE280.out) | exact HB.out)));(case side2 => exact HC279_1.out);(case side3 => exact Kd.C_below HR279_2.out (by repeat (first | (with_reducible first | exact HB.out | apply below_alloc | apply pw_below_drewN | apply below_drew1 | refine below_set ?_ GE277.out | refine below_set ?_ GE280.out) | exact HB.out)));(case side4 => exact HC279_2.out);rintro e w31 ⟨rfl,hb⟩;refine ⟨_,rfl,?_⟩;have n0_ := Aside0.mk (blk_below (g := gb277) (o := .cells #[.int .i64 a0_0,.int .i64 a0_1,.int .i64 a0_2,.int .i64 a0_3,.int .i64 a0_4,.slice A0_5 l0_5.length c0_5] 27 (0,0)) (by (with_reducible repeat (first | refine blk_drewN ?_ _ | refine blk_drew ?_ | refine blk_alloc ?_ _));refine blk_far ?_ NB277_280.out _;(with_reducible repeat (first | refine blk_drewN ?_ _ | refine blk_drew ?_ | refine blk_alloc ?_ _));refine blk_far ?_ NB277_280.out _;(with_reducible repeat (first | refine blk_drewN ?_ _ | refine blk_drew ?_ | refine blk_alloc ?_ _));refine blk_far ?_ NB277_280.out _;(with_reducible repeat (first | refine blk_drewN ?_ _ | refine blk_drew ?_ | refine blk_alloc ?_ _));exact BK277.out) hb);have n1_ := Aside0.mk (blk_below (g := gb280) (o := .cells #[.int .u64 ((rd_T46 l1 x12_1).f0),.slice A279_1 ((rd_T46 l1 x12_1).f1).length c279_1,.slice A279_2 ((rd_T46 l1 x12_1).f2).length c279_2] 46 (0,0)) (by (with_reducible repeat (first | refine blk_drewN ?_ _ | refine blk_drew ?_ | refine blk_alloc ?_ _));refine blk_put (cs := #[.int .u64 ((rd_T46 l1 x12_1).f0),.slice A279_1 ((rd_T46 l1 x12_1).f1).length c279_1,.slice none 0 0]) ?_ 2 _ rfl;(with_reducible repeat (first | refine blk_drewN ?_ _ | refine blk_drew ?_ | refine blk_alloc ?_ _));refine blk_put (cs := #[.int .u64 ((rd_T46 l1 x12_1).f0),.slice none 0 0,.slice none 0 0]) ?_ 1 _ rfl;(with_reducible repeat (first | refine blk_drewN ?_ _ | refine blk_drew ?_ | refine blk_alloc ?_ _));refine blk_put (cs := #[.int .u64 0,.slice none 0 0,.slice none 0 0]) ?_ 0 _ rfl;(with_reducible repeat (first | refine blk_drewN ?_ _ | refine blk_drew ?_ | refine blk_alloc ?_ _));exact BK280.out) hb);have n2_ := Aside0.mk (below_step (by repeat (first | (with_reducible first | exact HB.out | apply below_alloc | apply pw_below_drewN | apply below_drew1 | refine below_set ?_ GE277.out | refine below_set ?_ GE280.out) | exact HB.out)) hb);clear BK277;clear BK280;clear HB;have BK277 := n0_;have BK280 := n1_;have HB := n2_;clear n0_ n1_ n2_;(try clear hb);(try clear hb2);(try clear hk);(try clear hi);have hcz32_0 : w31.cell? ⟨gb280,0,none⟩ = some (.int .u64 ((rd_T46 l1 x12_1).f0)) := (blk_cell BK280.out 0).trans rfl;have hcz32_1 : w31.cell? ⟨gb280,1,none⟩ = some (.slice A279_1 ((rd_T46 l1 x12_1).f1).length c279_1) := (blk_cell BK280.out 1).trans rfl;have hcz32_2 : w31.cell? ⟨gb280,2,none⟩ = some (.slice A279_2 ((rd_T46 l1 x12_1).f2).length c279_2) := (blk_cell BK280.out 2).trans rfl;have hfz32_0 := blk_frozen BK280.out 0;have hfz32_1 := blk_frozen BK280.out 1;have hfz32_2 := blk_frozen BK280.out 2) | (go_at_call 55;(with_reducible refine (passepartoutref05_Bytes.calls k1 ((rd_T46 l1 x12_1).f0) _ _ ((rd_T46 l1 x12_1).f1) _ _ ((rd_T46 l1 x12_1).f2) 20000 t282 _ ?side1 ?side2 ?side3 ?side4 A20.out).mono ?_);(case side1 => repeat (first | exact (Kd.C_below HR279_1.out HB.out) | (with_reducible refine Kd.C_alloc ?_ _) | (with_reducible refine Kd.C_drewN ?_ _) | (with_reducible refine Kd.C_drew ?_)));(case side2 => exact HC279_1.out);(case side3 => repeat (first | exact (Kd.C_below HR279_2.out HB.out) | (with_reducible refine Kd.C_alloc ?_ _) | (with_reducible refine Kd.C_drewN ?_ _) | (with_reducible refine Kd.C_drew ?_)));(case side4 => exact HC279_2.out);rintro e w33 ⟨rfl,hb⟩;have n0_ := Aside0.mk (blk_below (g := gb277) (o := .cells #[.int .i64 a0_0,.int .i64 a0_1,.int .i64 a0_2,.int .i64 a0_3,.int .i64 a0_4,.slice A0_5 l0_5.length c0_5] 27 (0,0)) (by (with_reducible repeat (first | refine blk_drewN ?_ _ | refine blk_drew ?_ | refine blk_alloc ?_ _));exact BK277.out) hb);have n1_ := Aside0.mk (blk_below (g := gb280) (o := .cells #[.int .u64 ((rd_T46 l1 x12_1).f0),.slice A279_1 ((rd_T46 l1 x12_1).f1).length c279_1,.slice A279_2 ((rd_T46 l1 x12_1).f2).length c279_2] 46 (0,0)) (by (with_reducible repeat (first | refine blk_drewN ?_ _ | refine blk_drew ?_ | refine blk_alloc ?_ _));exact BK280.out) hb);have n2_ := Aside0.mk (below_step (by repeat (first | (with_reducible first | exact HB.out | apply below_alloc | apply pw_below_drewN | apply below_drew1 | refine below_set ?_ GE277.out | refine below_set ?_ GE280.out) | exact HB.out)) hb);clear BK277;clear BK280;clear HB;have BK277 := n0_;have BK280 := n1_;have HB := n2_;clear n0_ n1_ n2_;(try clear hb);(try clear hb2);(try clear hk);(try clear hi)))
         go_roundg k1
         case measure => have := HK1.out;omega
         case rel => exact ⟨(wrap64 (x12_1 + 1)),(by first | rfl | (simp;done) | (simp [*];done)),H',⟨by have := HK1.out;omega⟩,⟨by (with_reducible repeat (first | refine blk_drewN ?_ _ | refine blk_drew ?_ | refine blk_alloc ?_ _));exact BK277.out⟩,⟨by repeat (first | (with_reducible first | exact HB.out | apply below_alloc | apply pw_below_drewN | apply below_drew1 | refine below_set ?_ GE277.out | refine below_set ?_ GE280.out) | exact HB.out)⟩⟩
      ·rw [if_neg c13] at H
       exact absurd H (by simp)
     ·rw [if_neg c12] at H
      exact absurd H (by simp)
    ·rw [if_neg c11] at H
     have c11b0 : decide (x12_1 < (l1.length : Int)) = false := decide_eq_false c11
     clear c11
     obtain rfl := Option.some.inj H
     go_wp2
     go_ret
     exact ⟨by first | rfl | (simp [errW_none,errW_some] <;> rfl) | (simp [*,errW_none,errW_some] <;> rfl),by repeat (first | (with_reducible first | exact HB.out | apply below_alloc | apply pw_below_drewN | apply below_drew1 | refine below_set ?_ GE277.out) | exact HB.out)⟩

end Go.Proofs.Ytfcghajnnllmhaa.QP

namespace Go.Proofs.Ytfcghajnnllmhaa.QP
open Go.RowKit Go.Proofs.YtfcghajnnllmhaaW.PrintWords Go.Proofs.YtfcghajnnllmhaaW.PrintLast Go.Proofs.YtfcghajnnllmhaaW.PrintMore
attribute [local go_sem] max2_int min2_int max_two min_two max_three min_three max_four min_four   -- for this text's walks alone
set_option linter.unusedVariables false
set_option linter.unusedSimpArgs false

/-! ### passepartoutref05_Same: function 37 -/
mutual
def passepartoutref05_Same.j0 : Nat → Bool → Int → List Int → List (S46) → Int → List Int → List (S46) → Option (Bool)
 | 0,_,_,_,_,_,_,_ => none
 | k + 1,x29,x299000,x299001,x299002,x300000,x300001,x300002 => if x29 = true then (some false) else (passepartoutref05_Same.l0 k 0 x299000 x299001 x299002 x300000 x300001 x300002)
def passepartoutref05_Same.l0 : Nat → Int → Int → List Int → List (S46) → Int → List Int → List (S46) → Option (Bool)
 | 0,_,_,_,_,_,_,_ => none
 | k + 1,x5,x299000,x299001,x299002,x300000,x300001,x300002 => if x5 < (x299002.length : Int) then (if 0 ≤ x5 then (if x5 < (x300002.length : Int) then ((passepartoutref05_Same.f k ((rd_T46 x299002 x5).f0) ((rd_T46 x299002 x5).f1) ((rd_T46 x299002 x5).f2) ((rd_T46 x300002 x5).f0) ((rd_T46 x300002 x5).f1) ((rd_T46 x300002 x5).f2)).bind fun t302 => (if t302 = true then (passepartoutref05_Same.l0 k (wrap64 (x5 + 1)) x299000 x299001 x299002 x300000 x300001 x300002) else (some false))) else (none)) else (none)) else (some true)
def passepartoutref05_Same.f : Nat → Int → List Int → List (S46) → Int → List Int → List (S46) → Option (Bool)
 | 0,_,_,_,_,_,_ => none
 | k + 1,a0_0,l0_1,l0_2,a1_0,l1_1,l1_2 => if a0_0 = a1_0 then (if (strOfNums l0_1).toList = (strOfNums l1_1).toList then (passepartoutref05_Same.j0 k ((l0_2.length : Int) != (l1_2.length : Int)) a0_0 l0_1 l0_2 a1_0 l1_1 l1_2) else (passepartoutref05_Same.j0 k true a0_0 l0_1 l0_2 a1_0 l1_1 l1_2)) else (passepartoutref05_Same.j0 k true a0_0 l0_1 l0_2 a1_0 l1_1 l1_2)
end
theorem passepartoutref05_Same.mono_l : ∀ k,(∀ y0 y1 y2 y3 y4 y5,LeO (passepartoutref05_Same.f k y0 y1 y2 y3 y4 y5) (passepartoutref05_Same.f (k + 1) y0 y1 y2 y3 y4 y5)) ∧ (∀ y0 y1 y2 y3 y4 y5 y6,LeO (passepartoutref05_Same.j0 k y0 y1 y2 y3 y4 y5 y6) (passepartoutref05_Same.j0 (k + 1) y0 y1 y2 y3 y4 y5 y6)) ∧ (∀ y0 y1 y2 y3 y4 y5 y6,LeO (passepartoutref05_Same.l0 k y0 y1 y2 y3 y4 y5 y6) (passepartoutref05_Same.l0 (k + 1) y0 y1 y2 y3 y4 y5 y6))
 | 0 => ⟨fun _ _ _ _ _ _ r h => by simp [passepartoutref05_Same.f] at h,fun _ _ _ _ _ _ _ r h => by simp [passepartoutref05_Same.j0] at h,fun _ _ _ _ _ _ _ r h => by simp [passepartoutref05_Same.l0] at h⟩
 | k + 1 => by
  obtain ⟨ih0,ih1,ih2⟩ := passepartoutref05_Same.mono_l k
  refine ⟨?_,?_,?_⟩
  ·intro y0 y1 y2 y3 y4 y5
   unfold passepartoutref05_Same.f
   repeat' first
   | (with_reducible exact ih0 _ _ _ _ _ _)
   | (with_reducible exact ih1 _ _ _ _ _ _ _)
   | (with_reducible exact ih2 _ _ _ _ _ _ _)
   | (with_reducible exact LeO.refl _)
   | (with_reducible exact LeO.none _)
   | (with_reducible refine LeO.ite ?_ ?_)
   | (with_reducible refine LeO.bind ?_ (fun _ => ?_))
   | exact ih0 _ _ _ _ _ _
   | exact ih1 _ _ _ _ _ _ _
   | exact ih2 _ _ _ _ _ _ _
   | exact LeO.none _
   | refine LeO.ite ?_ ?_
   | refine LeO.bind ?_ (fun _ => ?_)
  ·intro y0 y1 y2 y3 y4 y5 y6
   unfold passepartoutref05_Same.j0
   repeat' first
   | (with_reducible exact ih0 _ _ _ _ _ _)
   | (with_reducible exact ih1 _ _ _ _ _ _ _)
   | (with_reducible exact ih2 _ _ _ _ _ _ _)
   | (with_reducible exact LeO.refl _)
   | (with_reducible exact LeO.none _)
   | (with_reducible refine LeO.ite ?_ ?_)
   | (with_reducible refine LeO.bind ?_ (fun _ => ?_))
   | exact ih0 _ _ _ _ _ _
   | exact ih1 _ _ _ _ _ _ _
   | exact ih2 _ _ _ _ _ _ _
   | exact LeO.none _
   | refine LeO.ite ?_ ?_
   | refine LeO.bind ?_ (fun _ => ?_)
  ·intro y0 y1 y2 y3 y4 y5 y6
   unfold passepartoutref05_Same.l0
   repeat' first
   | (with_reducible exact ih0 _ _ _ _ _ _)
   | (with_reducible exact ih1 _ _ _ _ _ _ _)
   | (with_reducible exact ih2 _ _ _ _ _ _ _)
   | (with_reducible exact LeO.refl _)
   | (with_reducible exact LeO.none _)
   | (with_reducible refine LeO.ite ?_ ?_)
   | (with_reducible refine LeO.bind ?_ (fun _ => ?_))
   | exact ih0 _ _ _ _ _ _
   | exact ih1 _ _ _ _ _ _ _
   | exact ih2 _ _ _ _ _ _ _
   | exact LeO.none _
   | refine LeO.ite ?_ ?_
   | refine LeO.bind ?_ (fun _ => ?_)
theorem passepartoutref05_Same.mono : ∀ a0 a1 a2 a3 a4 a5 k,LeO (passepartoutref05_Same.f k a0 a1 a2 a3 a4 a5) (passepartoutref05_Same.f (k + 1) a0 a1 a2 a3 a4 a5) := by
 intro a0 a1 a2 a3 a4 a5 k
 obtain ⟨ih0,ih1,ih2⟩ := passepartoutref05_Same.mono_l k
 exact ih0 a0 a1 a2 a3 a4 a5
def passepartoutref05_Same.T6 : Bool × List (List Nat × List Nat) := (true,[([],[]),([0],[0]),([],[]),([1,2],[1,2]),([3],[3]),([],[]),([5],[5]),([],[]),([6,7],[6,7]),([8],[8]),([4,9],[4,9]),([10,10,0,1,2,3,4,5,6,7,8,9,10],[10])])
def passepartoutref05_Same.B6 : List Nat := [0,1,0,7,15,0,32,0,224,480,1023,2047]
theorem passepartoutref05_Same.tab6 : rtab .any (opsOf Try.f37 6) = passepartoutref05_Same.T6 := by kernel_rfl
theorem passepartoutref05_Same.bits6 : waitsOk passepartoutref05_Same.T6.2 passepartoutref05_Same.B6 = true := by kernel_rfl
set_option maxHeartbeats 8000000 in
set_option maxRecDepth 100000 in
theorem passepartoutref05_Same.calls (k : Nat) : ∀ (a0_0 : Int) (A0_1 : Option Addr) (c0_1 : Nat) (l0_1 : List Int) (A0_2 : Option Addr) (c0_2 : Nat) (l0_2 : List (S46)) (a1_0 : Int) (A1_1 : Option Addr) (c1_1 : Nat) (l1_1 : List Int) (A1_2 : Option Addr) (c1_2 : Nat) (l1_2 : List (S46)) (r : Bool) (w : World) (hr0_1 : Kd.C (Kd.int .u8) w A0_1 l0_1.length l0_1) (hc0_1 : l0_1.length ≤ c0_1) (hr0_2 : Kd.C k46 w A0_2 l0_2.length l0_2) (hc0_2 : l0_2.length ≤ c0_2) (hr1_1 : Kd.C (Kd.int .u8) w A1_1 l1_1.length l1_1) (hc1_1 : l1_1.length ≤ c1_1) (hr1_2 : Kd.C k46 w A1_2 l1_2.length l1_2) (hc1_2 : l1_2.length ≤ c1_2) (h : passepartoutref05_Same.f k a0_0 l0_1 l0_2 a1_0 l1_1 l1_2 = some r),
  Calls Try.prog 37 #[.agg #[.int .u64 a0_0,.slice A0_1 l0_1.length c0_1,.slice A0_2 l0_2.length c0_2],.agg #[.int .u64 a1_0,.slice A1_1 l1_1.length c1_1,.slice A1_2 l1_2.length c1_2]] w fun e w' => e = .returned (.bool r) ∧ Below w.heap.size w w' := by
 induction k using Nat.strongRecOn with
 | _ k ih =>
 intro a0_0 A0_1 c0_1 l0_1 A0_2 c0_2 l0_2 a1_0 A1_1 c1_1 l1_1 A1_2 c1_2 l1_2 r w hr0_1 hc0_1 hr0_2 hc0_2 hr1_1 hc1_1 hr1_2 hc1_2 h
 cases k with
 | zero => exact absurd h (by simp [passepartoutref05_Same.f])
 | succ k =>
 simp only [passepartoutref05_Same.f] at h
 have hu46 := Try.underlying46
 have HR0_1 := Aside0.mk hr0_1
 have HC0_1 := Aside0.mk hc0_1
 clear hr0_1 hc0_1
 have HR0_2 := Aside0.mk hr0_2
 have HC0_2 := Aside0.mk hc0_2
 clear hr0_2 hc0_2
 have HR1_1 := Aside0.mk hr1_1
 have HC1_1 := Aside0.mk hc1_1
 clear hr1_1 hc1_1
 have HR1_2 := Aside0.mk hr1_2
 have HC1_2 := Aside0.mk hc1_2
 clear hr1_2 hc1_2
 have HB := Aside0.mk (Below.refl w.heap.size w)
 have H : (if a0_0 = a1_0 then (if (strOfNums l0_1).toList = (strOfNums l1_1).toList then (passepartoutref05_Same.j0 k ((l0_2.length : Int) != (l1_2.length : Int)) a0_0 l0_1 l0_2 a1_0 l1_1 l1_2) else (passepartoutref05_Same.j0 k true a0_0 l0_1 l0_2 a1_0 l1_1 l1_2)) else (passepartoutref05_Same.j0 k true a0_0 l0_1 l0_2 a1_0 l1_1 l1_2)) = some r := h
 clear h
 have HC3 := Aside0.mk H
 clear H
 go_enter Try.func37,Try.ntmps37
 go_upto_region 1 with (first | ((with_reducible refine gate_dst (N := 2) rfl ?_);(try (refine gate_guard (by rfl) ?_;dsimp only));refine box_event ?hg (N := 2) ?hd (cs := #[.int .u64 a0_0,.slice A0_1 l0_1.length c0_1,.slice A0_2 l0_2.length c0_2]) (t := 46) ?hr ?_;(case hd => rfl);(case hg => rfl);(case hr => first | (go_simp;done) | (go_simp;rfl));intro gb298 hg w4 hbox hb;have n0_ := Aside0.mk (below_step (by repeat (first | (with_reducible first | exact HB.out | apply below_alloc | apply pw_below_drewN | apply below_drew1) | exact HB.out)) hb);have n1_ := Aside0.mk (hbox);have n2_ := Aside0.mk ((by rw [hg];exact (below_size (by repeat (first | (with_reducible first | exact HB.out | apply below_alloc | apply pw_below_drewN | apply below_drew1) | exact HB.out))) : w.heap.size ≤ gb298));have n3_ := Aside0.mk ((by rw [hg];exact (below_size (by repeat (first | (with_reducible first | exact HB.out | apply below_alloc | apply pw_below_drewN | apply below_drew1) | exact HB.out))) : w.heap.size ≤ gb298));clear HB;have HB := n0_;have BK298 := n1_;have GW298 := n2_;have GE298 := n3_;clear n0_ n1_ n2_ n3_;clear hb hbox hg) | ((with_reducible refine gate_dst (N := 3) rfl ?_);(try (refine gate_guard (by rfl) ?_;dsimp only));refine box_event ?hg (N := 3) ?hd (cs := #[.int .u64 a1_0,.slice A1_1 l1_1.length c1_1,.slice A1_2 l1_2.length c1_2]) (t := 46) ?hr ?_;(case hd => rfl);(case hg => rfl);(case hr => first | (go_simp;done) | (go_simp;rfl));intro gb299 hg w5 hbox hb;have n0_ := Aside0.mk (blk_below (g := gb298) (o := .cells #[.int .u64 a0_0,.slice A0_1 l0_1.length c0_1,.slice A0_2 l0_2.length c0_2] 46 (0,0)) (by (with_reducible repeat (first | refine blk_drewN ?_ _ | refine blk_drew ?_ | refine blk_alloc ?_ _));exact BK298.out) hb);have n1_ := Aside0.mk (below_step (by repeat (first | (with_reducible first | exact HB.out | apply below_alloc | apply pw_below_drewN | apply below_drew1 | refine below_set ?_ GE298.out) | exact HB.out)) hb);have n2_ := Aside0.mk (hbox);have n3_ := Aside0.mk ((by rw [hg];exact (below_size (by repeat (first | (with_reducible first | exact HB.out | apply below_alloc | apply pw_below_drewN | apply below_drew1 | refine below_set ?_ GE298.out) | exact HB.out))) : w.heap.size ≤ gb299));have n4_ := Aside0.mk ((by rw [hg];exact (below_size (by repeat (first | (with_reducible first | exact HB.out | apply below_alloc | apply pw_below_drewN | apply below_drew1 | refine below_set ?_ GE298.out) | exact HB.out))) : w.heap.size ≤ gb299));have n5_ := Aside0.mk ((by rw [hg];exact Nat.ne_of_lt (blk_lt (g := gb298) (o := .cells #[.int .u64 a0_0,.slice A0_1 l0_1.length c0_1,.slice A0_2 l0_2.length c0_2] 46 (0,0)) (by (with_reducible repeat (first | refine blk_drewN ?_ _ | refine blk_drew ?_ | refine blk_alloc ?_ _));exact BK298.out)) : gb298 ≠ gb299));have n6_ := Aside0.mk ((by rw [hg];exact Nat.ne_of_gt (blk_lt (g := gb298) (o := .cells #[.int .u64 a0_0,.slice A0_1 l0_1.length c0_1,.slice A0_2 l0_2.length c0_2] 46 (0,0)) (by (with_reducible repeat (first | refine blk_drewN ?_ _ | refine blk_drew ?_ | refine blk_alloc ?_ _));exact BK298.out)) : gb299 ≠ gb298));clear BK298;clear HB;have BK298 := n0_;have HB := n1_;have BK299 := n2_;have GW299 := n3_;have GE299 := n4_;have NB298_299 := n5_;have NB299_298 := n6_;clear n0_ n1_ n2_ n3_ n4_ n5_ n6_;clear hb hbox hg))
 (try simp only [Act.put,List.setIfInBounds_toArray,List.set_cons_zero,List.set_cons_succ])
 go_cut [29] (fun v29 wc => ∃ (kq : Nat) (x29_2 : Bool),v29 = .bool x29_2 ∧ Aside0 (passepartoutref05_Same.j0 kq x29_2 a0_0 l0_1 l0_2 a1_0 l1_1 l1_2 = some r) ∧ Aside0 (kq ≤ k) ∧ Aside0 (wc.heap[gb298]? = some (.cells #[.int .u64 a0_0,(.slice A0_1 l0_1.length c0_1),(.slice A0_2 l0_2.length c0_2)] 46 (0,0))) ∧ Aside0 (wc.heap[gb299]? = some (.cells #[.int .u64 a1_0,(.slice A1_1 l1_1.length c1_1),(.slice A1_2 l1_2.length c1_2)] 46 (0,0))) ∧ Aside0 (Below w.heap.size w wc))
 case first =>
  have H := HC3.out
  clear HC3
  by_cases c6 : a0_0 = a1_0
  ·rw [if_pos c6] at H
   have c6b0 : (a0_0 == a1_0) = true := beq_iff_eq.mpr c6
   have c6b1 : (a0_0 != a1_0) = false := bne_eq_false_iff_eq.mpr c6
   clear c6
   (first | rw [c6b0] | (simp only [i64_w,i32_w];rw [c6b0]) | skip)
   by_cases c7 : (strOfNums l0_1).toList = (strOfNums l1_1).toList
   ·rw [if_pos c7] at H
    have c7b0 : ((strOfNums l0_1).toList == (strOfNums l1_1).toList) = true := beq_iff_eq.mpr c7
    have c7b1 : ((strOfNums l0_1).toList != (strOfNums l1_1).toList) = false := bne_eq_false_iff_eq.mpr c7
    clear c7
    have H' := Aside0.mk H
    clear H
    have hnb8 := NB298_299.out
    have hnc8 := NB299_298.out
    have hcz9_0 : w5.cell? ⟨gb298,0,none⟩ = some (.int .u64 a0_0) := (blk_cell BK298.out 0).trans rfl
    have hcz9_1 : w5.cell? ⟨gb298,1,none⟩ = some (.slice A0_1 l0_1.length c0_1) := (blk_cell BK298.out 1).trans rfl
    have hcz9_2 : w5.cell? ⟨gb298,2,none⟩ = some (.slice A0_2 l0_2.length c0_2) := (blk_cell BK298.out 2).trans rfl
    have hfz9_0 := blk_frozen BK298.out 0
    have hfz9_1 := blk_frozen BK298.out 1
    have hfz9_2 := blk_frozen BK298.out 2
    have hcz10_0 : w5.cell? ⟨gb299,0,none⟩ = some (.int .u64 a1_0) := (blk_cell BK299.out 0).trans rfl
    have hcz10_1 : w5.cell? ⟨gb299,1,none⟩ = some (.slice A1_1 l1_1.length c1_1) := (blk_cell BK299.out 1).trans rfl
    have hcz10_2 : w5.cell? ⟨gb299,2,none⟩ = some (.slice A1_2 l1_2.length c1_2) := (blk_cell BK299.out 2).trans rfl
    have hfz10_0 := blk_frozen BK299.out 0
    have hfz10_1 := blk_frozen BK299.out 1
    have hfz10_2 := blk_frozen BK299.out 2
    have hcv11 := Kd.C_string (P := Try.prog) (A := A0_1) (c := c0_1) Try.underlying43 Try.underlying5 Try.underlying9 (Kd.C_below HR0_1.out HB.out)
    have hcv12 := Kd.C_string (P := Try.prog) (A := A1_1) (c := c1_1) Try.underlying43 Try.underlying5 Try.underlying9 (Kd.C_below HR1_1.out HB.out)
    go_wp2
    go_meet
    case rel => exact ⟨_,(((l0_2.length : Int) != (l1_2.length : Int))),(by first | rfl | (simp;done) | (simp [*];done)),H',⟨by first | omega | exact Nat.le_refl _⟩,⟨by (with_reducible repeat (first | refine blk_drewN ?_ _ | refine blk_drew ?_ | refine blk_alloc ?_ _));exact BK298.out⟩,⟨by (with_reducible repeat (first | refine blk_drewN ?_ _ | refine blk_drew ?_ | refine blk_alloc ?_ _));exact BK299.out⟩,⟨by repeat (first | (with_reducible first | exact HB.out | apply below_alloc | apply pw_below_drewN | apply below_drew1 | refine below_set ?_ GE298.out | refine below_set ?_ GE299.out) | exact HB.out)⟩⟩
   ·rw [if_neg c7] at H
    have c7b0 : ((strOfNums l0_1).toList == (strOfNums l1_1).toList) = false := beq_eq_false_iff_ne.mpr c7
    have c7b1 : ((strOfNums l0_1).toList != (strOfNums l1_1).toList) = true := bne_iff_ne.mpr c7
    have H' := Aside0.mk H
    clear H
    have hnb13 := NB298_299.out
    have hnc13 := NB299_298.out
    have hcz14_0 : w5.cell? ⟨gb298,0,none⟩ = some (.int .u64 a0_0) := (blk_cell BK298.out 0).trans rfl
    have hcz14_1 : w5.cell? ⟨gb298,1,none⟩ = some (.slice A0_1 l0_1.length c0_1) := (blk_cell BK298.out 1).trans rfl
    have hcz14_2 : w5.cell? ⟨gb298,2,none⟩ = some (.slice A0_2 l0_2.length c0_2) := (blk_cell BK298.out 2).trans rfl
    have hfz14_0 := blk_frozen BK298.out 0
    have hfz14_1 := blk_frozen BK298.out 1
    have hfz14_2 := blk_frozen BK298.out 2
    have hcz15_0 : w5.cell? ⟨gb299,0,none⟩ = some (.int .u64 a1_0) := (blk_cell BK299.out 0).trans rfl
    have hcz15_1 : w5.cell? ⟨gb299,1,none⟩ = some (.slice A1_1 l1_1.length c1_1) := (blk_cell BK299.out 1).trans rfl
    have hcz15_2 : w5.cell? ⟨gb299,2,none⟩ = some (.slice A1_2 l1_2.length c1_2) := (blk_cell BK299.out 2).trans rfl
    have hfz15_0 := blk_frozen BK299.out 0
    have hfz15_1 := blk_frozen BK299.out 1
    have hfz15_2 := blk_frozen BK299.out 2
    have hcv16 := Kd.C_string (P := Try.prog) (A := A0_1) (c := c0_1) Try.underlying43 Try.underlying5 Try.underlying9 (Kd.C_below HR0_1.out HB.out)
    have hcv17 := Kd.C_string (P := Try.prog) (A := A1_1) (c := c1_1) Try.underlying43 Try.underlying5 Try.underlying9 (Kd.C_below HR1_1.out HB.out)
    go_wp2
    go_meet
    case rel => exact ⟨_,(true),(by first | rfl | (simp;done) | (simp [*];done)),H',⟨by first | omega | exact Nat.le_refl _⟩,⟨by (with_reducible repeat (first | refine blk_drewN ?_ _ | refine blk_drew ?_ | refine blk_alloc ?_ _));exact BK298.out⟩,⟨by (with_reducible repeat (first | refine blk_drewN ?_ _ | refine blk_drew ?_ | refine blk_alloc ?_ _));exact BK299.out⟩,⟨by repeat (first | (with_reducible first | exact HB.out | apply below_alloc | apply pw_below_drewN | apply below_drew1 | refine below_set ?_ GE298.out | refine below_set ?_ GE299.out) | exact HB.out)⟩⟩
  ·rw [if_neg c6] at H
   have c6b0 : (a0_0 == a1_0) = false := beq_eq_false_iff_ne.mpr c6
   have c6b1 : (a0_0 != a1_0) = true := bne_iff_ne.mpr c6
   (first | rw [c6b0] | (simp only [i64_w,i32_w];rw [c6b0]) | skip)
   have H' := Aside0.mk H
   clear H
   have hnb18 := NB298_299.out
   have hnc18 := NB299_298.out
   have hcz19_0 : w5.cell? ⟨gb298,0,none⟩ = some (.int .u64 a0_0) := (blk_cell BK298.out 0).trans rfl
   have hcz19_1 : w5.cell? ⟨gb298,1,none⟩ = some (.slice A0_1 l0_1.length c0_1) := (blk_cell BK298.out 1).trans rfl
   have hcz19_2 : w5.cell? ⟨gb298,2,none⟩ = some (.slice A0_2 l0_2.length c0_2) := (blk_cell BK298.out 2).trans rfl
   have hfz19_0 := blk_frozen BK298.out 0
   have hfz19_1 := blk_frozen BK298.out 1
   have hfz19_2 := blk_frozen BK298.out 2
   have hcz20_0 : w5.cell? ⟨gb299,0,none⟩ = some (.int .u64 a1_0) := (blk_cell BK299.out 0).trans rfl
   have hcz20_1 : w5.cell? ⟨gb299,1,none⟩ = some (.slice A1_1 l1_1.length c1_1) := (blk_cell BK299.out 1).trans rfl
   have hcz20_2 : w5.cell? ⟨gb299,2,none⟩ = some (.slice A1_2 l1_2.length c1_2) := (blk_cell BK299.out 2).trans rfl
   have hfz20_0 := blk_frozen BK299.out 0
   have hfz20_1 := blk_frozen BK299.out 1
   have hfz20_2 := blk_frozen BK299.out 2
   go_wp2
   go_meet
   case rel => exact ⟨_,(true),(by first | rfl | (simp;done) | (simp [*];done)),H',⟨by first | omega | exact Nat.le_refl _⟩,⟨by (with_reducible repeat (first | refine blk_drewN ?_ _ | refine blk_drew ?_ | refine blk_alloc ?_ _));exact BK298.out⟩,⟨by (with_reducible repeat (first | refine blk_drewN ?_ _ | refine blk_drew ?_ | refine blk_alloc ?_ _));exact BK299.out⟩,⟨by repeat (first | (with_reducible first | exact HB.out | apply below_alloc | apply pw_below_drewN | apply below_drew1 | refine below_set ?_ GE298.out | refine below_set ?_ GE299.out) | exact HB.out)⟩⟩
 case rest =>
  clear HC3
  try clear c1
  try clear hcv1
  try clear p2
  try clear c3
  try clear c6
  try clear c6b0
  try clear c6b1
  try clear c7
  try clear c7b0
  try clear c7b1
  try clear c8
  try clear hcv11
  try clear hcv12
  try clear c13
  try clear hcv16
  try clear hcv17
  try clear c18
  try clear hcz10_0
  try clear hcz10_1
  try clear hcz10_2
  try clear hcz14_0
  try clear hcz14_1
  try clear hcz14_2
  try clear hcz15_0
  try clear hcz15_1
  try clear hcz15_2
  try clear hcz19_0
  try clear hcz19_1
  try clear hcz19_2
  try clear hcz20_0
  try clear hcz20_1
  try clear hcz20_2
  try clear hcz9_0
  try clear hcz9_1
  try clear hcz9_2
  try clear hfz10_0
  try clear hfz10_1
  try clear hfz10_2
  try clear hfz14_0
  try clear hfz14_1
  try clear hfz14_2
  try clear hfz15_0
  try clear hfz15_1
  try clear hfz15_2
  try clear hfz19_0
  try clear hfz19_1
  try clear hfz19_2
  try clear hfz20_0
  try clear hfz20_1
  try clear hfz20_2
  try clear hfz9_0
  try clear hfz9_1
  try clear hfz9_2
  obtain ⟨kq,x29_2,rfl,HA,HJ2,BK298,BK299,HB⟩ := hcut
  cases kq with
  | zero => exact absurd HA.out (by simp [passepartoutref05_Same.j0])
  | succ kj2 =>
   have H := HA.out
   clear HA
   simp only [passepartoutref05_Same.j0] at H
   by_cases c21 : x29_2 = true
   ·subst c21
    have H1 : (some false) = some r := by rw [if_pos rfl] at H;exact H
    clear H
    have H := H1
    clear H1
    obtain rfl := Option.some.inj H
    go_wp2
    go_ret
    exact ⟨by first | rfl | (simp [errW_none,errW_some] <;> rfl) | (simp [*,errW_none,errW_some] <;> rfl),by repeat (first | (with_reducible first | exact HB.out | apply below_alloc | apply pw_below_drewN | apply below_drew1 | refine below_set ?_ GE298.out | refine below_set ?_ GE299.out) | exact HB.out)⟩
   ·replace c21 := Bool.eq_false_iff.mpr c21
    subst c21
    have H1 : (passepartoutref05_Same.l0 kj2 0 a0_0 l0_1 l0_2 a1_0 l1_1 l1_2) = some r := by rw [if_neg (show ¬ (false = true) by decide)] at H;exact H
    clear H
    have H := H1
    clear H1
    have H' := Aside0.mk H
    clear H
    go_wp2
    go_loopg [5] kj2 (fun kq v5 w' => ∃ (x5_2 : Int),v5 = .int .i64 x5_2 ∧ Aside0 (passepartoutref05_Same.l0 kq x5_2 a0_0 l0_1 l0_2 a1_0 l1_1 l1_2 = some r) ∧ Aside0 (kq ≤ kj2) ∧ Aside0 (w'.heap[gb298]? = some (.cells #[.int .u64 a0_0,(.slice A0_1 l0_1.length c0_1),(.slice A0_2 l0_2.length c0_2)] 46 (0,0))) ∧ Aside0 (w'.heap[gb299]? = some (.cells #[.int .u64 a1_0,(.slice A1_1 l1_1.length c1_1),(.slice A1_2 l1_2.length c1_2)] 46 (0,0))) ∧ Aside0 (Below w.heap.size w w'))
    case atStart => exact ⟨(0),(by first | rfl | (simp;done) | (simp [*];done)),H',⟨Nat.le_refl _⟩,⟨by (with_reducible repeat (first | refine blk_drewN ?_ _ | refine blk_drew ?_ | refine blk_alloc ?_ _));exact BK298.out⟩,⟨by (with_reducible repeat (first | refine blk_drewN ?_ _ | refine blk_drew ?_ | refine blk_alloc ?_ _));exact BK299.out⟩,⟨by repeat (first | (with_reducible first | exact HB.out | apply below_alloc | apply pw_below_drewN | apply below_drew1 | refine below_set ?_ GE298.out | refine below_set ?_ GE299.out) | exact HB.out)⟩⟩
    case round =>
     clear H'
     try clear c1
     try clear hcv1
     try clear c2
     try clear p2
     try clear c3
     try clear c6
     try clear c6b0
     try clear c6b1
     try clear c7
     try clear c7b0
     try clear c7b1
     try clear c8
     try clear hcv11
     try clear hcv12
     try clear c13
     try clear hcv16
     try clear hcv17
     try clear c18
     try clear c21
     try clear hcz10_0
     try clear hcz10_1
     try clear hcz10_2
     try clear hcz14_0
     try clear hcz14_1
     try clear hcz14_2
     try clear hcz15_0
     try clear hcz15_1
     try clear hcz15_2
     try clear hcz19_0
     try clear hcz19_1
     try clear hcz19_2
     try clear hcz20_0
     try clear hcz20_1
     try clear hcz20_2
     try clear hcz9_0
     try clear hcz9_1
     try clear hcz9_2
     try clear hfz10_0
     try clear hfz10_1
     try clear hfz10_2
     try clear hfz14_0
     try clear hfz14_1
     try clear hfz14_2
     try clear hfz15_0
     try clear hfz15_1
     try clear hfz15_2
     try clear hfz19_0
     try clear hfz19_1
     try clear hfz19_2
     try clear hfz20_0
     try clear hfz20_1
     try clear hfz20_2
     try clear hfz9_0
     try clear hfz9_1
     try clear hfz9_2
     try clear p2
     obtain ⟨x5_2,rfl,HA,HK2,BK298,BK299,HB⟩ := hrel
     cases gk with
     | zero => exact absurd HA.out (by simp [passepartoutref05_Same.l0])
     | succ k2 =>
      have H := HA.out
      clear HA
      simp only [passepartoutref05_Same.l0] at H
      by_cases c22 : x5_2 < (l0_2.length : Int)
      ·rw [if_pos c22] at H
       have c22b0 : decide (x5_2 < (l0_2.length : Int)) = true := decide_eq_true c22
       clear c22
       by_cases c23 : 0 ≤ x5_2
       ·rw [if_pos c23] at H
        have c23b0 : decide (0 ≤ x5_2) = true := decide_eq_true c23
        clear c23
        by_cases c24 : x5_2 < (l1_2.length : Int)
        ·rw [if_pos c24] at H
         have c24b0 : decide (x5_2 < (l1_2.length : Int)) = true := decide_eq_true c24
         clear c24
         replace H := Option.bind_eq_some_iff.mp H
         obtain ⟨t302,A250,H⟩ := H
         replace H : (if t302 = true then (passepartoutref05_Same.l0 k2 (wrap64 (x5_2 + 1)) a0_0 l0_1 l0_2 a1_0 l1_1 l1_2) else (some false)) = some r := H
         have A25 := Aside0.mk A250
         clear A250
         by_cases c26 : t302 = true
         ·subst c26
          have H1 : (passepartoutref05_Same.l0 k2 (wrap64 (x5_2 + 1)) a0_0 l0_1 l0_2 a1_0 l1_1 l1_2) = some r := by rw [if_pos rfl] at H;exact H
          clear H
          have H := H1
          clear H1
          have H' := Aside0.mk H
          clear H
          have hnb27 := NB298_299.out
          have hnc27 := NB299_298.out
          have hcz28_0 : wr.cell? ⟨gb298,0,none⟩ = some (.int .u64 a0_0) := (blk_cell BK298.out 0).trans rfl
          have hcz28_1 : wr.cell? ⟨gb298,1,none⟩ = some (.slice A0_1 l0_1.length c0_1) := (blk_cell BK298.out 1).trans rfl
          have hcz28_2 : wr.cell? ⟨gb298,2,none⟩ = some (.slice A0_2 l0_2.length c0_2) := (blk_cell BK298.out 2).trans rfl
          have hfz28_0 := blk_frozen BK298.out 0
          have hfz28_1 := blk_frozen BK298.out 1
          have hfz28_2 := blk_frozen BK298.out 2
          try go_wp2
          have n0_ := Aside0.mk (blk_drew BK298.out)
          have n1_ := Aside0.mk (blk_drew BK299.out)
          have n2_ := Aside0.mk (below_drew1 HB.out)
          clear BK298
          clear BK299
          clear HB
          have BK298 := n0_
          have BK299 := n1_
          have HB := n2_
          clear n0_ n1_ n2_
          have p300 : 0 ≤ (x5_2 : Int) := of_decide_eq_true (by first | (with_reducible assumption) | assumption)
          have q300 : x5_2 < (l0_2.length : Int) := of_decide_eq_true (by first | (with_reducible assumption) | assumption)
          obtain ⟨ad300,A300_1,c300_1,A300_2,c300_2,e300,hx300_0,hx300_1,hx300_2,hl300_1,hi300_1,hl300_2,hi300_2⟩ := at_T46 HR0_2.out x5_2 p300 q300
          have hw300_2 := hx300_2
          have hw300_1 := hx300_1
          have hw300_0 := hx300_0
          cases e300
          replace hx300_0 := (HB.out.cell (World.block_lt_of_cell? w _ hx300_0)).trans hx300_0
          replace hx300_1 := (HB.out.cell (World.block_lt_of_cell? w _ hx300_1)).trans hx300_1
          replace hx300_2 := (HB.out.cell (World.block_lt_of_cell? w _ hx300_2)).trans hx300_2
          have HR300_1 := Aside0.mk hi300_1
          have HC300_1 := Aside0.mk hl300_1
          clear hi300_1 hl300_1
          have HR300_2 := Aside0.mk hi300_2
          have HC300_2 := Aside0.mk hl300_2
          clear hi300_2 hl300_2
          replace p300 := eq_true p300
          replace q300 := eq_true q300
          have p301 : 0 ≤ (x5_2 : Int) := of_decide_eq_true (by first | (with_reducible assumption) | assumption)
          have q301 : x5_2 < (l1_2.length : Int) := of_decide_eq_true (by first | (with_reducible assumption) | assumption)
          obtain ⟨ad301,A301_1,c301_1,A301_2,c301_2,e301,hx301_0,hx301_1,hx301_2,hl301_1,hi301_1,hl301_2,hi301_2⟩ := at_T46 HR1_2.out x5_2 p301 q301
          have hw301_2 := hx301_2
          have hw301_1 := hx301_1
          have hw301_0 := hx301_0
          cases e301
          replace hx301_0 := (HB.out.cell (World.block_lt_of_cell? w _ hx301_0)).trans hx301_0
          replace hx301_1 := (HB.out.cell (World.block_lt_of_cell? w _ hx301_1)).trans hx301_1
          replace hx301_2 := (HB.out.cell (World.block_lt_of_cell? w _ hx301_2)).trans hx301_2
          have HR301_1 := Aside0.mk hi301_1
          have HC301_1 := Aside0.mk hl301_1
          clear hi301_1 hl301_1
          have HR301_2 := Aside0.mk hi301_2
          have HC301_2 := Aside0.mk hl301_2
          clear hi301_2 hl301_2
          replace p301 := eq_true p301
          replace q301 := eq_true q301
          refine start_ (n := 12) (S := fun w' => w'.cell? ⟨gb298,0,none⟩ = some (.int .u64 a0_0) ∧ w'.cell? ⟨gb298,1,none⟩ = some (.slice A0_1 l0_1.length c0_1) ∧ w'.cell? ⟨gb298,2,none⟩ = some (.slice (some ad300) l0_2.length c0_2) ∧ w'.cell? ⟨gb299,0,none⟩ = some (.int .u64 a1_0) ∧ w'.cell? ⟨gb299,1,none⟩ = some (.slice A1_1 l1_1.length c1_1) ∧ w'.cell? ⟨gb299,2,none⟩ = some (.slice (some ad301) l1_2.length c1_2) ∧ w'.cell? (ad300.add ((x5_2).toNat * 3)) = some (.int .u64 ((rd_T46 l0_2 x5_2).f0)) ∧ w'.cell? ⟨(ad300.add ((x5_2).toNat * 3)).block,(ad300.add ((x5_2).toNat * 3)).off + 1,none⟩ = some (.slice A300_1 ((rd_T46 l0_2 x5_2).f1).length c300_1) ∧ w'.cell? ⟨(ad300.add ((x5_2).toNat * 3)).block,(ad300.add ((x5_2).toNat * 3)).off + 2,none⟩ = some (.slice A300_2 ((rd_T46 l0_2 x5_2).f2).length c300_2) ∧ w'.cell? (ad301.add ((x5_2).toNat * 3)) = some (.int .u64 ((rd_T46 l1_2 x5_2).f0)) ∧ w'.cell? ⟨(ad301.add ((x5_2).toNat * 3)).block,(ad301.add ((x5_2).toNat * 3)).off + 1,none⟩ = some (.slice A301_1 ((rd_T46 l1_2 x5_2).f1).length c301_1) ∧ w'.cell? ⟨(ad301.add ((x5_2).toNat * 3)).block,(ad301.add ((x5_2).toNat * 3)).off + 2,none⟩ = some (.slice A301_2 ((rd_T46 l1_2 x5_2).f2).length c301_2)) (ds := []) #[false,false,false,false,false,false,false,false,false,false,false,false] (by kernel_rfl) rfl rfl ⟨(blk_cell BK298.out 0).trans rfl,(blk_cell BK298.out 1).trans rfl,(blk_cell BK298.out 2).trans rfl,(blk_cell BK299.out 0).trans rfl,(blk_cell BK299.out 1).trans rfl,(blk_cell BK299.out 2).trans rfl,((HB.out.cell (World.block_lt_of_cell? w _ hw300_0)).trans hw300_0),((HB.out.cell (World.block_lt_of_cell? w _ hw300_1)).trans hw300_1),((HB.out.cell (World.block_lt_of_cell? w _ hw300_2)).trans hw300_2),((HB.out.cell (World.block_lt_of_cell? w _ hw301_0)).trans hw301_0),((HB.out.cell (World.block_lt_of_cell? w _ hw301_1)).trans hw301_1),((HB.out.cell (World.block_lt_of_cell? w _ hw301_2)).trans hw301_2)⟩ (fun hHeld => ?_);refine with_tabW passepartoutref05_Same.tab6 passepartoutref05_Same.bits6 (fun HT_ HW_ => ?_)
          generalize wr.drew = w29 at BK298 BK299 HB HR300_1 HR300_2 HR301_1 HR301_2 hx300_0 hx300_1 hx300_2 hx301_0 hx301_1 hx301_2 hHeld ⊢
          refine pure_ (i := 0) (N := some 37) (v := ?_) (a' := ?_) #[true,false,false,false,false,false,false,false,false,false,false,false] rfl rfl (any_of HT_.out (by kernel_rfl)) (fun _ _ _ h => h) (Or.inl ⟨by rfl,?_⟩) ?_ ?_
          rotate_left
          ·intro w'
           go_simp
           with_reducible rfl
          rotate_left
          ·simp only [Act.put,List.setIfInBounds_toArray,List.set_cons_zero,List.set_cons_succ,i64_w,i32_w]
           rfl
          refine pure_ (i := 2) (N := some 39) (v := ?_) (a' := ?_) #[true,false,true,false,false,false,false,false,false,false,false,false] rfl rfl (any_of HT_.out (by kernel_rfl)) (fun _ _ _ h => h) (Or.inl ⟨by rfl,?_⟩) ?_ ?_
          rotate_left
          ·intro w'
           go_simp
           with_reducible rfl
          rotate_left
          ·simp only [Act.put,List.setIfInBounds_toArray,List.set_cons_zero,List.set_cons_succ,i64_w,i32_w]
           rfl
          refine pure_ (i := 5) (N := some 42) (v := ?_) (a' := ?_) #[true,false,true,false,false,true,false,false,false,false,false,false] rfl rfl (any_of HT_.out (by kernel_rfl)) (fun _ _ _ h => h) (Or.inl ⟨by rfl,?_⟩) ?_ ?_
          rotate_left
          ·intro w'
           go_simp
           with_reducible rfl
          rotate_left
          ·simp only [Act.put,List.setIfInBounds_toArray,List.set_cons_zero,List.set_cons_succ,i64_w,i32_w]
           rfl
          refine pure_ (i := 7) (N := some 44) (v := ?_) (a' := ?_) #[true,false,true,false,false,true,false,true,false,false,false,false] rfl rfl (any_of HT_.out (by kernel_rfl)) (fun _ _ _ h => h) (Or.inl ⟨by rfl,?_⟩) ?_ ?_
          rotate_left
          ·intro w'
           go_simp
           with_reducible rfl
          rotate_left
          ·simp only [Act.put,List.setIfInBounds_toArray,List.set_cons_zero,List.set_cons_succ,i64_w,i32_w]
           rfl
          refine take_ (i := 1) (N := some 38) (v := ?_) (a' := ?_) #[true,true,true,false,false,true,false,true,false,false,false,false] rfl rfl (take_ofW HT_.out HW_.out (by kernel_rfl)) (fun _ _ _ h => h) (Or.inl ⟨by rfl,?_⟩) hHeld ?_ ?_
          rotate_left
          ·rintro w' ⟨s0,s1,s2,s3,s4,s5,s6,s7,s8,s9,s10,s11⟩
           go_simp
           with_reducible rfl
          rotate_left
          ·simp only [Act.put,List.setIfInBounds_toArray,List.set_cons_zero,List.set_cons_succ,i64_w,i32_w]
           rfl
          refine pure_ (i := 3) (N := some 40) (v := ?_) (a' := ?_) #[true,true,true,true,false,true,false,true,false,false,false,false] rfl rfl (any_of HT_.out (by kernel_rfl)) (fun _ _ _ h => h) (Or.inl ⟨by rfl,?_⟩) ?_ ?_
          rotate_left
          ·intro w'
           go_simp
           with_reducible rfl
          rotate_left
          ·simp only [Act.put,List.setIfInBounds_toArray,List.set_cons_zero,List.set_cons_succ,i64_w,i32_w]
           rfl
          refine take_ (i := 4) (N := some 41) (v := ?_) (a' := ?_) #[true,true,true,true,true,true,false,true,false,false,false,false] rfl rfl (take_ofW HT_.out HW_.out (by kernel_rfl)) (fun _ _ _ h => h) (Or.inl ⟨by rfl,?_⟩) hHeld ?_ ?_
          rotate_left
          ·rintro w' ⟨s0,s1,s2,s3,s4,s5,s6,s7,s8,s9,s10,s11⟩
           go_simp
           with_reducible rfl
          rotate_left
          ·simp only [Act.put,List.setIfInBounds_toArray,List.set_cons_zero,List.set_cons_succ,i64_w,i32_w]
           rfl
          refine take_ (i := 6) (N := some 43) (v := ?_) (a' := ?_) #[true,true,true,true,true,true,true,true,false,false,false,false] rfl rfl (take_ofW HT_.out HW_.out (by kernel_rfl)) (fun _ _ _ h => h) (Or.inl ⟨by rfl,?_⟩) hHeld ?_ ?_
          rotate_left
          ·rintro w' ⟨s0,s1,s2,s3,s4,s5,s6,s7,s8,s9,s10,s11⟩
           go_simp
           with_reducible rfl
          rotate_left
          ·simp only [Act.put,List.setIfInBounds_toArray,List.set_cons_zero,List.set_cons_succ,i64_w,i32_w]
           rfl
          refine pure_ (i := 8) (N := some 45) (v := ?_) (a' := ?_) #[true,true,true,true,true,true,true,true,true,false,false,false] rfl rfl (any_of HT_.out (by kernel_rfl)) (fun _ _ _ h => h) (Or.inl ⟨by rfl,?_⟩) ?_ ?_
          rotate_left
          ·intro w'
           go_simp
           with_reducible rfl
          rotate_left
          ·simp only [Act.put,List.setIfInBounds_toArray,List.set_cons_zero,List.set_cons_succ,i64_w,i32_w]
           rfl
          refine take_ (i := 9) (N := some 46) (v := ?_) (a' := ?_) #[true,true,true,true,true,true,true,true,true,true,false,false] rfl rfl (take_ofW HT_.out HW_.out (by kernel_rfl)) (fun _ _ _ h => h) (Or.inl ⟨by rfl,?_⟩) hHeld ?_ ?_
          rotate_left
          ·rintro w' ⟨s0,s1,s2,s3,s4,s5,s6,s7,s8,s9,s10,s11⟩
           go_simp
           with_reducible rfl
          rotate_left
          ·simp only [Act.put,List.setIfInBounds_toArray,List.set_cons_zero,List.set_cons_succ,i64_w,i32_w]
           rfl
          refine one_ (i := 10) (N := some 47) #[true,true,true,true,true,true,true,true,true,true,true,false] rfl rfl (one_of HT_.out (by kernel_rfl)) (by decide) (fun K hK => ?_)
          refine goes_ Try.func37 (by kernel_rfl) rfl #[.agg #[.int .u64 ((rd_T46 l0_2 x5_2).f0),.slice A300_1 ((rd_T46 l0_2 x5_2).f1).length c300_1,.slice A300_2 ((rd_T46 l0_2 x5_2).f2).length c300_2],.agg #[.int .u64 ((rd_T46 l1_2 x5_2).f0),.slice A301_1 ((rd_T46 l1_2 x5_2).f1).length c301_1,.slice A301_2 ((rd_T46 l1_2 x5_2).f2).length c301_2]] (by rfl) rfl rfl (by (try simp only [List.map_toArray,List.map_cons,List.map_nil]);first | done | rfl | (simp only [List.length_drop,List.length_take];rfl)) ?_
          with_reducible refine (ih k2 (by have := HJ2.out;have := HK2.out;omega) ((rd_T46 l0_2 x5_2).f0) _ _ ((rd_T46 l0_2 x5_2).f1) _ _ ((rd_T46 l0_2 x5_2).f2) ((rd_T46 l1_2 x5_2).f0) _ _ ((rd_T46 l1_2 x5_2).f1) _ _ ((rd_T46 l1_2 x5_2).f2) true _ ?side1 ?side2 ?side3 ?side4 ?side5 ?side6 ?side7 ?side8 A25.out).mono ?_
          (case side1 => repeat (first | exact (Kd.C_below HR300_1.out HB.out) | (with_reducible refine Kd.C_alloc ?_ _) | (with_reducible refine Kd.C_drewN ?_ _) | (with_reducible refine Kd.C_drew ?_)))
          (case side2 => exact HC300_1.out)
          (case side3 => repeat (first | exact (Kd.C_below HR300_2.out HB.out) | (with_reducible refine Kd.C_alloc ?_ _) | (with_reducible refine Kd.C_drewN ?_ _) | (with_reducible refine Kd.C_drew ?_)))
          (case side4 => exact HC300_2.out)
          (case side5 => repeat (first | exact (Kd.C_below HR301_1.out HB.out) | (with_reducible refine Kd.C_alloc ?_ _) | (with_reducible refine Kd.C_drewN ?_ _) | (with_reducible refine Kd.C_drew ?_)))
          (case side6 => exact HC301_1.out)
          (case side7 => repeat (first | exact (Kd.C_below HR301_2.out HB.out) | (with_reducible refine Kd.C_alloc ?_ _) | (with_reducible refine Kd.C_drewN ?_ _) | (with_reducible refine Kd.C_drew ?_)))
          (case side8 => exact HC301_2.out)
          rintro e w30 ⟨rfl,hb⟩
          refine ⟨_,rfl,?_⟩
          have n0_ := Aside0.mk (blk_below (g := gb298) (o := .cells #[.int .u64 a0_0,.slice A0_1 l0_1.length c0_1,.slice (some ad300) l0_2.length c0_2] 46 (0,0)) (by (with_reducible repeat (first | refine blk_drewN ?_ _ | refine blk_drew ?_ | refine blk_alloc ?_ _));exact BK298.out) hb)
          have n1_ := Aside0.mk (blk_below (g := gb299) (o := .cells #[.int .u64 a1_0,.slice A1_1 l1_1.length c1_1,.slice (some ad301) l1_2.length c1_2] 46 (0,0)) (by (with_reducible repeat (first | refine blk_drewN ?_ _ | refine blk_drew ?_ | refine blk_alloc ?_ _));exact BK299.out) hb)
          have n2_ := Aside0.mk (below_step (by repeat (first | (with_reducible first | exact HB.out | apply below_alloc | apply pw_below_drewN | apply below_drew1 | refine below_set ?_ GE298.out | refine below_set ?_ GE299.out) | exact HB.out)) hb)
          clear BK298
          clear BK299
          clear HB
          have BK298 := n0_
          have BK299 := n1_
          have HB := n2_
          clear n0_ n1_ n2_
          (try clear hb)
          (try clear hb2)
          (try clear hk)
          (try clear hi)
          refine hK.out _ _ ⟨(blk_cell BK298.out 0).trans rfl,(blk_cell BK298.out 1).trans rfl,(blk_cell BK298.out 2).trans rfl,(blk_cell BK299.out 0).trans rfl,(blk_cell BK299.out 1).trans rfl,(blk_cell BK299.out 2).trans rfl,((HB.out.cell (World.block_lt_of_cell? w _ hw300_0)).trans hw300_0),((HB.out.cell (World.block_lt_of_cell? w _ hw300_1)).trans hw300_1),((HB.out.cell (World.block_lt_of_cell? w _ hw300_2)).trans hw300_2),((HB.out.cell (World.block_lt_of_cell? w _ hw301_0)).trans hw301_0),((HB.out.cell (World.block_lt_of_cell? w _ hw301_1)).trans hw301_1),((HB.out.cell (World.block_lt_of_cell? w _ hw301_2)).trans hw301_2)⟩ (fun hHeld => ?_)
          clear hK K
          refine norm_ (a' := ?_) ?_ ?_
          rotate_left
          ·show Act.put _ (some 47) _ = _
           simp only [Act.put,List.setIfInBounds_toArray,List.set_cons_zero,List.set_cons_succ,i64_w,i32_w]
           rfl
          refine pure_ (i := 11) (N := some 6) (v := ?_) (a' := ?_) #[true,true,true,true,true,true,true,true,true,true,true,true] rfl rfl (any_of HT_.out (by kernel_rfl)) (fun _ _ _ h => h) (Or.inl ⟨by rfl,?_⟩) ?_ ?_
          rotate_left
          ·intro w'
           go_simp
           with_reducible rfl
          rotate_left
          ·simp only [Act.put,List.setIfInBounds_toArray,List.set_cons_zero,List.set_cons_succ,i64_w,i32_w]
           rfl
          refine done_ (done_of HT_.out (by kernel_rfl)) ?_
          try go_wp2
          go_roundg k2
          case measure => have := HJ2.out;have := HK2.out;omega
          case rel => exact ⟨(wrap64 (x5_2 + 1)),(by first | rfl | (simp;done) | (simp [*];done)),H',⟨by have := HJ2.out;have := HK2.out;omega⟩,⟨by (with_reducible repeat (first | refine blk_drewN ?_ _ | refine blk_drew ?_ | refine blk_alloc ?_ _));exact BK298.out⟩,⟨by (with_reducible repeat (first | refine blk_drewN ?_ _ | refine blk_drew ?_ | refine blk_alloc ?_ _));exact BK299.out⟩,⟨by repeat (first | (with_reducible first | exact HB.out | apply below_alloc | apply pw_below_drewN | apply below_drew1 | refine below_set ?_ GE298.out | refine below_set ?_ GE299.out) | exact HB.out)⟩⟩
         ·replace c26 := Bool.eq_false_iff.mpr c26
          subst c26
          have H1 : (some false) = some r := by rw [if_neg (show ¬ (false = true) by decide)] at H;exact H
          clear H
          have H := H1
          clear H1
          obtain rfl := Option.some.inj H
          have hnb31 := NB298_299.out
          have hnc31 := NB299_298.out
          have hcz32_0 : wr.cell? ⟨gb298,0,none⟩ = some (.int .u64 a0_0) := (blk_cell BK298.out 0).trans rfl
          have hcz32_1 : wr.cell? ⟨gb298,1,none⟩ = some (.slice A0_1 l0_1.length c0_1) := (blk_cell BK298.out 1).trans rfl
          have hcz32_2 : wr.cell? ⟨gb298,2,none⟩ = some (.slice A0_2 l0_2.length c0_2) := (blk_cell BK298.out 2).trans rfl
          have hfz32_0 := blk_frozen BK298.out 0
          have hfz32_1 := blk_frozen BK298.out 1
          have hfz32_2 := blk_frozen BK298.out 2
          try go_wp2
          have n0_ := Aside0.mk (blk_drew BK298.out)
          have n1_ := Aside0.mk (blk_drew BK299.out)
          have n2_ := Aside0.mk (below_drew1 HB.out)
          clear BK298
          clear BK299
          clear HB
          have BK298 := n0_
          have BK299 := n1_
          have HB := n2_
          clear n0_ n1_ n2_
          have p300 : 0 ≤ (x5_2 : Int) := of_decide_eq_true (by first | (with_reducible assumption) | assumption)
          have q300 : x5_2 < (l0_2.length : Int) := of_decide_eq_true (by first | (with_reducible assumption) | assumption)
          obtain ⟨ad300,A300_1,c300_1,A300_2,c300_2,e300,hx300_0,hx300_1,hx300_2,hl300_1,hi300_1,hl300_2,hi300_2⟩ := at_T46 HR0_2.out x5_2 p300 q300
          have hw300_2 := hx300_2
          have hw300_1 := hx300_1
          have hw300_0 := hx300_0
          cases e300
          replace hx300_0 := (HB.out.cell (World.block_lt_of_cell? w _ hx300_0)).trans hx300_0
          replace hx300_1 := (HB.out.cell (World.block_lt_of_cell? w _ hx300_1)).trans hx300_1
          replace hx300_2 := (HB.out.cell (World.block_lt_of_cell? w _ hx300_2)).trans hx300_2
          have HR300_1 := Aside0.mk hi300_1
          have HC300_1 := Aside0.mk hl300_1
          clear hi300_1 hl300_1
          have HR300_2 := Aside0.mk hi300_2
          have HC300_2 := Aside0.mk hl300_2
          clear hi300_2 hl300_2
          replace p300 := eq_true p300
          replace q300 := eq_true q300
          have p301 : 0 ≤ (x5_2 : Int) := of_decide_eq_true (by first | (with_reducible assumption) | assumption)
          have q301 : x5_2 < (l1_2.length : Int) := of_decide_eq_true (by first | (with_reducible assumption) | assumption)
          obtain ⟨ad301,A301_1,c301_1,A301_2,c301_2,e301,hx301_0,hx301_1,hx301_2,hl301_1,hi301_1,hl301_2,hi301_2⟩ := at_T46 HR1_2.out x5_2 p301 q301
          have hw301_2 := hx301_2
          have hw301_1 := hx301_1
          have hw301_0 := hx301_0
          cases e301
          replace hx301_0 := (HB.out.cell (World.block_lt_of_cell? w _ hx301_0)).trans hx301_0
          replace hx301_1 := (HB.out.cell (World.block_lt_of_cell? w _ hx301_1)).trans hx301_1
          replace hx301_2 := (HB.out.cell (World.block_lt_of_cell? w _ hx301_2)).trans hx301_2
          have HR301_1 := Aside0.mk hi301_1
          have HC301_1 := Aside0.mk hl301_1
          clear hi301_1 hl301_1
          have HR301_2 := Aside0.mk hi301_2
          have HC301_2 := Aside0.mk hl301_2
          clear hi301_2 hl301_2
          replace p301 := eq_true p301
          replace q301 := eq_true q301
          refine start_ (n := 12) (S := fun w' => w'.cell? ⟨gb298,0,none⟩ = some (.int .u64 a0_0) ∧ w'.cell? ⟨gb298,1,none⟩ = some (.slice A0_1 l0_1.length c0_1) ∧ w'.cell? ⟨gb298,2,none⟩ = some (.slice (some ad300) l0_2.length c0_2) ∧ w'.cell? ⟨gb299,0,none⟩ = some (.int .u64 a1_0) ∧ w'.cell? ⟨gb299,1,none⟩ = some (.slice A1_1 l1_1.length c1_1) ∧ w'.cell? ⟨gb299,2,none⟩ = some (.slice (some ad301) l1_2.length c1_2) ∧ w'.cell? (ad300.add ((x5_2).toNat * 3)) = some (.int .u64 ((rd_T46 l0_2 x5_2).f0)) ∧ w'.cell? ⟨(ad300.add ((x5_2).toNat * 3)).block,(ad300.add ((x5_2).toNat * 3)).off + 1,none⟩ = some (.slice A300_1 ((rd_T46 l0_2 x5_2).f1).length c300_1) ∧ w'.cell? ⟨(ad300.add ((x5_2).toNat * 3)).block,(ad300.add ((x5_2).toNat * 3)).off + 2,none⟩ = some (.slice A300_2 ((rd_T46 l0_2 x5_2).f2).length c300_2) ∧ w'.cell? (ad301.add ((x5_2).toNat * 3)) = some (.int .u64 ((rd_T46 l1_2 x5_2).f0)) ∧ w'.cell? ⟨(ad301.add ((x5_2).toNat * 3)).block,(ad301.add ((x5_2).toNat * 3)).off + 1,none⟩ = some (.slice A301_1 ((rd_T46 l1_2 x5_2).f1).length c301_1) ∧ w'.cell? ⟨(ad301.add ((x5_2).toNat * 3)).block,(ad301.add ((x5_2).toNat * 3)).off + 2,none⟩ = some (.slice A301_2 ((rd_T46 l1_2 x5_2).f2).length c301_2)) (ds := []) #[false,false,false,false,false,false,false,false,false,false,false,false] (by kernel_rfl) rfl rfl ⟨(blk_cell BK298.out 0).trans rfl,(blk_cell BK298.out 1).trans rfl,(blk_cell BK298.out 2).trans rfl,(blk_cell BK299.out 0).trans rfl,(blk_cell BK299.out 1).trans rfl,(blk_cell BK299.out 2).trans rfl,((HB.out.cell (World.block_lt_of_cell? w _ hw300_0)).trans hw300_0),((HB.out.cell (World.block_lt_of_cell? w _ hw300_1)).trans hw300_1),((HB.out.cell (World.block_lt_of_cell? w _ hw300_2)).trans hw300_2),((HB.out.cell (World.block_lt_of_cell? w _ hw301_0)).trans hw301_0),((HB.out.cell (World.block_lt_of_cell? w _ hw301_1)).trans hw301_1),((HB.out.cell (World.block_lt_of_cell? w _ hw301_2)).trans hw301_2)⟩ (fun hHeld => ?_);refine with_tabW passepartoutref05_Same.tab6 passepartoutref05_Same.bits6 (fun HT_ HW_ => ?_)
          generalize wr.drew = w33 at BK298 BK299 HB HR300_1 HR300_2 HR301_1 HR301_2 hx300_0 hx300_1 hx300_2 hx301_0 hx301_1 hx301_2 hHeld ⊢
          refine pure_ (i := 0) (N := some 37) (v := ?_) (a' := ?_) #[true,false,false,false,false,false,false,false,false,false,false,false] rfl rfl (any_of HT_.out (by kernel_rfl)) (fun _ _ _ h => h) (Or.inl ⟨by rfl,?_⟩) ?_ ?_
          rotate_left
          ·intro w'
           go_simp
           with_reducible rfl
          rotate_left
          ·simp only [Act.put,List.setIfInBounds_toArray,List.set_cons_zero,List.set_cons_succ,i64_w,i32_w]
           rfl
          refine pure_ (i := 2) (N := some 39) (v := ?_) (a' := ?_) #[true,false,true,false,false,false,false,false,false,false,false,false] rfl rfl (any_of HT_.out (by kernel_rfl)) (fun _ _ _ h => h) (Or.inl ⟨by rfl,?_⟩) ?_ ?_
          rotate_left
          ·intro w'
           go_simp
           with_reducible rfl
          rotate_left
          ·simp only [Act.put,List.setIfInBounds_toArray,List.set_cons_zero,List.set_cons_succ,i64_w,i32_w]
           rfl
          refine pure_ (i := 5) (N := some 42) (v := ?_) (a' := ?_) #[true,false,true,false,false,true,false,false,false,false,false,false] rfl rfl (any_of HT_.out (by kernel_rfl)) (fun _ _ _ h => h) (Or.inl ⟨by rfl,?_⟩) ?_ ?_
          rotate_left
          ·intro w'
           go_simp
           with_reducible rfl
          rotate_left
          ·simp only [Act.put,List.setIfInBounds_toArray,List.set_cons_zero,List.set_cons_succ,i64_w,i32_w]
           rfl
          refine pure_ (i := 7) (N := some 44) (v := ?_) (a' := ?_) #[true,false,true,false,false,true,false,true,false,false,false,false] rfl rfl (any_of HT_.out (by kernel_rfl)) (fun _ _ _ h => h) (Or.inl ⟨by rfl,?_⟩) ?_ ?_
          rotate_left
          ·intro w'
           go_simp
           with_reducible rfl
          rotate_left
          ·simp only [Act.put,List.setIfInBounds_toArray,List.set_cons_zero,List.set_cons_succ,i64_w,i32_w]
           rfl
          refine take_ (i := 1) (N := some 38) (v := ?_) (a' := ?_) #[true,true,true,false,false,true,false,true,false,false,false,false] rfl rfl (take_ofW HT_.out HW_.out (by kernel_rfl)) (fun _ _ _ h => h) (Or.inl ⟨by rfl,?_⟩) hHeld ?_ ?_
          rotate_left
          ·rintro w' ⟨s0,s1,s2,s3,s4,s5,s6,s7,s8,s9,s10,s11⟩
           go_simp
           with_reducible rfl
          rotate_left
          ·simp only [Act.put,List.setIfInBounds_toArray,List.set_cons_zero,List.set_cons_succ,i64_w,i32_w]
           rfl
          refine pure_ (i := 3) (N := some 40) (v := ?_) (a' := ?_) #[true,true,true,true,false,true,false,true,false,false,false,false] rfl rfl (any_of HT_.out (by kernel_rfl)) (fun _ _ _ h => h) (Or.inl ⟨by rfl,?_⟩) ?_ ?_
          rotate_left
          ·intro w'
           go_simp
           with_reducible rfl
          rotate_left
          ·simp only [Act.put,List.setIfInBounds_toArray,List.set_cons_zero,List.set_cons_succ,i64_w,i32_w]
           rfl
          refine take_ (i := 4) (N := some 41) (v := ?_) (a' := ?_) #[true,true,true,true,true,true,false,true,false,false,false,false] rfl rfl (take_ofW HT_.out HW_.out (by kernel_rfl)) (fun _ _ _ h => h) (Or.inl ⟨by rfl,?_⟩) hHeld ?_ ?_
          rotate_left
          ·rintro w' ⟨s0,s1,s2,s3,s4,s5,s6,s7,s8,s9,s10,s11⟩
           go_simp
           with_reducible rfl
          rotate_left
          ·simp only [Act.put,List.setIfInBounds_toArray,List.set_cons_zero,List.set_cons_succ,i64_w,i32_w]
           rfl
          refine take_ (i := 6) (N := some 43) (v := ?_) (a' := ?_) #[true,true,true,true,true,true,true,true,false,false,false,false] rfl rfl (take_ofW HT_.out HW_.out (by kernel_rfl)) (fun _ _ _ h => h) (Or.inl ⟨by rfl,?_⟩) hHeld ?_ ?_
          rotate_left
          ·rintro w' ⟨s0,s1,s2,s3,s4,s5,s6,s7,s8,s9,s10,s11⟩
           go_simp
           with_reducible rfl
          rotate_left
          ·simp only [Act.put,List.setIfInBounds_toArray,List.set_cons_zero,List.set_cons_succ,i64_w,i32_w]
           rfl
          refine pure_ (i := 8) (N := some 45) (v := ?_) (a' := ?_) #[true,true,true,true,true,true,true,true,true,false,false,false] rfl rfl (any_of HT_.out (by kernel_rfl)) (fun _ _ _ h => h) (Or.inl ⟨by rfl,?_⟩) ?_ ?_
          rotate_left
          ·intro w'
           go_simp
           with_reducible rfl
          rotate_left
          ·simp only [Act.put,List.setIfInBounds_toArray,List.set_cons_zero,List.set_cons_succ,i64_w,i32_w]
           rfl
          refine take_ (i := 9) (N := some 46) (v := ?_) (a' := ?_) #[true,true,true,true,true,true,true,true,true,true,false,false] rfl rfl (take_ofW HT_.out HW_.out (by kernel_rfl)) (fun _ _ _ h => h) (Or.inl ⟨by rfl,?_⟩) hHeld ?_ ?_
          rotate_left
          ·rintro w' ⟨s0,s1,s2,s3,s4,s5,s6,s7,s8,s9,s10,s11⟩
           go_simp
           with_reducible rfl
          rotate_left
          ·simp only [Act.put,List.setIfInBounds_toArray,List.set_cons_zero,List.set_cons_succ,i64_w,i32_w]
           rfl
          refine one_ (i := 10) (N := some 47) #[true,true,true,true,true,true,true,true,true,true,true,false] rfl rfl (one_of HT_.out (by kernel_rfl)) (by decide) (fun K hK => ?_)
          refine goes_ Try.func37 (by kernel_rfl) rfl #[.agg #[.int .u64 ((rd_T46 l0_2 x5_2).f0),.slice A300_1 ((rd_T46 l0_2 x5_2).f1).length c300_1,.slice A300_2 ((rd_T46 l0_2 x5_2).f2).length c300_2],.agg #[.int .u64 ((rd_T46 l1_2 x5_2).f0),.slice A301_1 ((rd_T46 l1_2 x5_2).f1).length c301_1,.slice A301_2 ((rd_T46 l1_2 x5_2).f2).length c301_2]] (by rfl) rfl rfl (by (try simp only [List.map_toArray,List.map_cons,List.map_nil]);first | done | rfl | (simp only [List.length_drop,List.length_take];rfl)) ?_
          with_reducible refine (ih k2 (by have := HJ2.out;have := HK2.out;omega) ((rd_T46 l0_2 x5_2).f0) _ _ ((rd_T46 l0_2 x5_2).f1) _ _ ((rd_T46 l0_2 x5_2).f2) ((rd_T46 l1_2 x5_2).f0) _ _ ((rd_T46 l1_2 x5_2).f1) _ _ ((rd_T46 l1_2 x5_2).f2) false _ ?side1 ?side2 ?side3 ?side4 ?side5 ?side6 ?side7 ?side8 A25.out).mono ?_
          (case side1 => repeat (first | exact (Kd.C_below HR300_1.out HB.out) | (with_reducible refine Kd.C_alloc ?_ _) | (with_reducible refine Kd.C_drewN ?_ _) | (with_reducible refine Kd.C_drew ?_)))
          (case side2 => exact HC300_1.out)
          (case side3 => repeat (first | exact (Kd.C_below HR300_2.out HB.out) | (with_reducible refine Kd.C_alloc ?_ _) | (with_reducible refine Kd.C_drewN ?_ _) | (with_reducible refine Kd.C_drew ?_)))
          (case side4 => exact HC300_2.out)
          (case side5 => repeat (first | exact (Kd.C_below HR301_1.out HB.out) | (with_reducible refine Kd.C_alloc ?_ _) | (with_reducible refine Kd.C_drewN ?_ _) | (with_reducible refine Kd.C_drew ?_)))
          (case side6 => exact HC301_1.out)
          (case side7 => repeat (first | exact (Kd.C_below HR301_2.out HB.out) | (with_reducible refine Kd.C_alloc ?_ _) | (with_reducible refine Kd.C_drewN ?_ _) | (with_reducible refine Kd.C_drew ?_)))
          (case side8 => exact HC301_2.out)
          rintro e w34 ⟨rfl,hb⟩
          refine ⟨_,rfl,?_⟩
          have n0_ := Aside0.mk (blk_below (g := gb298) (o := .cells #[.int .u64 a0_0,.slice A0_1 l0_1.length c0_1,.slice (some ad300) l0_2.length c0_2] 46 (0,0)) (by (with_reducible repeat (first | refine blk_drewN ?_ _ | refine blk_drew ?_ | refine blk_alloc ?_ _));exact BK298.out) hb)
          have n1_ := Aside0.mk (blk_below (g := gb299) (o := .cells #[.int .u64 a1_0,.slice A1_1 l1_1.length c1_1,.slice (some ad301) l1_2.length c1_2] 46 (0,0)) (by (with_reducible repeat (first | refine blk_drewN ?_ _ | refine blk_drew ?_ | refine blk_alloc ?_ _));exact BK299.out) hb)
          have n2_ := Aside0.mk (below_step (by repeat (first | (with_reducible first | exact HB.out | apply below_alloc | apply pw_below_drewN | apply below_drew1 | refine below_set ?_ GE298.out | refine below_set ?_ GE299.out) | exact HB.out)) hb)
          clear BK298
          clear BK299
          clear HB
          have BK298 := n0_
          have BK299 := n1_
          have HB := n2_
          clear n0_ n1_ n2_
          (try clear hb)
          (try clear hb2)
          (try clear hk)
          (try clear hi)
          refine hK.out _ _ ⟨(blk_cell BK298.out 0).trans rfl,(blk_cell BK298.out 1).trans rfl,(blk_cell BK298.out 2).trans rfl,(blk_cell BK299.out 0).trans rfl,(blk_cell BK299.out 1).trans rfl,(blk_cell BK299.out 2).trans rfl,((HB.out.cell (World.block_lt_of_cell? w _ hw300_0)).trans hw300_0),((HB.out.cell (World.block_lt_of_cell? w _ hw300_1)).trans hw300_1),((HB.out.cell (World.block_lt_of_cell? w _ hw300_2)).trans hw300_2),((HB.out.cell (World.block_lt_of_cell? w _ hw301_0)).trans hw301_0),((HB.out.cell (World.block_lt_of_cell? w _ hw301_1)).trans hw301_1),((HB.out.cell (World.block_lt_of_cell? w _ hw301_2)).trans hw301_2)⟩ (fun hHeld => ?_)
          clear hK K
          refine norm_ (a' := ?_) ?_ ?_
          rotate_left
          ·show Act.put _ (some 47) _ = _
           simp only [Act.put,List.setIfInBounds_toArray,List.set_cons_zero,List.set_cons_succ,i64_w,i32_w]
           rfl
          refine pure_ (i := 11) (N := some 6) (v := ?_) (a' := ?_) #[true,true,true,true,true,true,true,true,true,true,true,true] rfl rfl (any_of HT_.out (by kernel_rfl)) (fun _ _ _ h => h) (Or.inl ⟨by rfl,?_⟩) ?_ ?_
          rotate_left
          ·intro w'
           go_simp
           with_reducible rfl
          rotate_left
          ·simp only [Act.put,List.setIfInBounds_toArray,List.set_cons_zero,List.set_cons_succ,i64_w,i32_w]
           rfl
          refine done_ (done_of HT_.out (by kernel_rfl)) ?_
          try go_wp2
          go_ret
          exact ⟨by first | rfl | (simp [errW_none,errW_some] <;> rfl) | (simp [*,errW_none,errW_some] <;> rfl),by repeat (first | (with_reducible first | exact HB.out | apply below_alloc | apply pw_below_drewN | apply below_drew1 | refine below_set ?_ GE298.out | refine below_set ?_ GE299.out) | exact HB.out)⟩
        ·rw [if_neg c24] at H
         exact absurd H (by simp)
       ·rw [if_neg c23] at H
        exact absurd H (by simp)
      ·rw [if_neg c22] at H
       have c22b0 : decide (x5_2 < (l0_2.length : Int)) = false := decide_eq_false c22
       clear c22
       obtain rfl := Option.some.inj H
       have hnb35 := NB298_299.out
       have hnc35 := NB299_298.out
       have hcz36_0 : wr.cell? ⟨gb298,0,none⟩ = some (.int .u64 a0_0) := (blk_cell BK298.out 0).trans rfl
       have hcz36_1 : wr.cell? ⟨gb298,1,none⟩ = some (.slice A0_1 l0_1.length c0_1) := (blk_cell BK298.out 1).trans rfl
       have hcz36_2 : wr.cell? ⟨gb298,2,none⟩ = some (.slice A0_2 l0_2.length c0_2) := (blk_cell BK298.out 2).trans rfl
       have hfz36_0 := blk_frozen BK298.out 0
       have hfz36_1 := blk_frozen BK298.out 1
       have hfz36_2 := blk_frozen BK298.out 2
       go_wp2
       go_ret
       exact ⟨by first | rfl | (simp [errW_none,errW_some] <;> rfl) | (simp [*,errW_none,errW_some] <;> rfl),by repeat (first | (with_reducible first | exact HB.out | apply below_alloc | apply pw_below_drewN | apply below_drew1 | refine below_set ?_ GE298.out | refine below_set ?_ GE299.out) | exact HB.out)⟩

end Go.Proofs.Ytfcghajnnllmhaa.QP

namespace Go.Proofs.Ytfcghajnnllmhaa
open Go.RowKit YtfcghajnnllmhaaW.PrintWords

/-- Is a value greater than is looked at? -/
def bigV (x : Vt) : Bool := decide (2000 < cntV 2000 x) || decide (20000 < bytV 20000 x)
end Go.Proofs.Ytfcghajnnllmhaa

namespace Go.Proofs.Ytfcghajnnllmhaa

def be (l : List UInt8) : Nat := l.foldl (fun x b => x * 256 + b.toNat) 0
/-- May a number have so many bytes? -/
def szB (n : Int) : Bool := decide (1 ≤ n ∧ n ≤ 4) || decide (n = 8)
/-- A number's bytes, so many, the highest first. -/
def beB : Nat → Nat → List UInt8
 | 0,_ => []
 | n + 1,x => beB n (x / 256) ++ [UInt8.ofNat x]
end Go.Proofs.Ytfcghajnnllmhaa

namespace Go.Proofs.Ytfcghajnnllmhaa

/-- The next n bytes, the error. -/
def nx (l : List UInt8) (n : Int) : List UInt8 × Int := if n < 0 then ([],2) else if (l.length : Int) < n then ([],4) else (l.take n.toNat,0)

def nn (l : List UInt8) (n : Int) : List UInt8 × Int := if szB n = true then nx l n else ([],2)

end Go.Proofs.Ytfcghajnnllmhaa

namespace Go.Proofs.Ytfcghajnnllmhaa
open Go.RowKit

section
variable {w w' : World} {ok ok' S : Nat → Prop} {g : Nat} {l : List UInt8} {a : Int}
end

/-! ### Places. -/
/-! ### Numbers. -/
/-! ### Bytes taken. -/
/-! ### A cursor of its own over the next bytes. -/
end Go.Proofs.Ytfcghajnnllmhaa

namespace Go.Proofs.Ytfcghajnnllmhaa
open Go.RowKit

/-- What a reading tells: where it is wrong (so many bytes on), why; or the value, and the bytes that are left; its steps. -/
inductive RdT where
 | bad (at_ : Int) (e : Int) (q : Nat)
 | got (x : Vt) (rest : List UInt8) (q : Nat)
def RdT.steps : RdT → Nat
 | .bad _ _ q => q
 | .got _ _ q => q
/-- A length: where it is wrong, why; how many. -/
def lenE (h : FH) (b : List UInt8) : Int × Int × Nat :=
 if (b.length : Int) < h.s then (b.length,4,0)
 else if (be (b.take h.s.toNat) : Int) < h.lo ∨ h.hi < (be (b.take h.s.toNat) : Int) ∨ Int.tmod (be (b.take h.s.toNat) : Int) h.st ≠ 0 then (0,5,0)
 else if b.length < h.s.toNat + be (b.take h.s.toNat) then (b.length,4,0)
 else (0,0,be (b.take h.s.toNat))
/-- Things, as long as there are bytes. -/
def iterR (f : List UInt8 → RdT) : Nat → List UInt8 → Nat → Nat → List Vt → RdT
 | 0,b,_,q,acc => .got (.mk ⟨0,[]⟩ acc) b q
 | n + 1,b,d,q,acc =>
  if b.length = 0 then .got (.mk ⟨0,[]⟩ acc) b q
  else match f b with
   | .bad a e s => .bad (d + a) e (q + s)
   | .got x r s => iterR f n r (d + (b.length - r.length)) (q + s) (acc ++ [x])
mutual
/-- Reads one. -/
def readR : Fm → List UInt8 → RdT
 | .mk h P,b =>
  if h.k = 0 then (if (b.length : Int) < h.s then .bad b.length 4 1 else .got (.mk ⟨(be (b.take h.s.toNat) : Nat),[]⟩ []) (b.drop h.s.toNat) 1)
  else if h.k = 1 then (if (lenE h b).2.1 ≠ 0 then .bad (lenE h b).1 (lenE h b).2.1 1 else .got (.mk ⟨0,(b.drop h.s.toNat).take (lenE h b).2.2⟩ []) (b.drop (h.s.toNat + (lenE h b).2.2)) 1)
  else if h.k = 4 then (if (b.length : Int) < h.lo then .bad b.length 4 1 else if h.hi < (b.length : Int) then .bad h.hi 6 1 else .got (.mk ⟨0,b⟩ []) [] 1)
  else if h.k = 5 then (if (b.length : Int) < h.lo then .bad b.length 4 1 else .got (.mk ⟨0,b.take h.lo.toNat⟩ []) (b.drop h.lo.toNat) 1)
  else if h.k = 3 then readRow P b 0 1 []
  else if (lenE h b).2.1 ≠ 0 then .bad (lenE h b).1 (lenE h b).2.1 1
  else match iterR (readHd P) (lenE h b).2.2 ((b.drop h.s.toNat).take (lenE h b).2.2) h.s.toNat 1 [] with
   | .bad a e q => .bad a e q
   | .got x _ q => .got x (b.drop (h.s.toNat + (lenE h b).2.2)) q
def readRow : List Fm → List UInt8 → Nat → Nat → List Vt → RdT
 | [],b,_,q,acc => .got (.mk ⟨0,[]⟩ acc) b q
 | g :: P,b,d,q,acc => match readR g b with
  | .bad a e s => .bad (d + a) e (q + s)
  | .got x r s => readRow P r (d + (b.length - r.length)) (q + s) (acc ++ [x])
def readHd : List Fm → List UInt8 → RdT
 | [],_ => .bad 0 0 0
 | g :: _,b => readR g b
end
mutual
/-- The bytes of a value. -/
def writeR : Fm → Vt → List UInt8
 | f,.mk a l =>
  if f.a.k = 0 then beB f.a.s.toNat a.n.toNat
  else if f.a.k = 1 then beB f.a.s.toNat a.b.length ++ a.b
  else if f.a.k = 4 ∨ f.a.k = 5 then a.b
  else if f.a.k = 2 then beB f.a.s.toNat (writeL f 0 l).length ++ writeL f 0 l
  else writeL f 0 l
def writeL : Fm → Nat → List Vt → List UInt8
 | _,_,[] => []
 | f,j,x :: t => writeR (f.l.getD (j % f.l.length) nilF) x ++ writeL f (j + 1) t
end
end Go.Proofs.Ytfcghajnnllmhaa

namespace Go.Proofs.Ytfcghajnnllmhaa
open Go.RowKit

mutual
/-- How many forms there are in one. -/
def szF : Fm → Nat
 | .mk a l => if a.k = 2 ∨ a.k = 3 then 1 + szL l else 1
def szL : List Fm → Nat
 | [] => 0
 | f :: t => szF f + szL t
end
def gB (c : Nat) : Nat := max 1 (2 * c - 1)
/-- What is read of bytes is told by so many of them, fits, has as many, and is written as these. -/
def GotR (f : Fm) (b : List UInt8) (x : Vt) (rest : List UInt8) (q : Nat) : Prop :=
 ∃ u,b = u ++ rest ∧ fitR f x = ((u.length : Int),0) ∧ leastR f ≤ u.length ∧ writeR f x = u ∧ wfV x = true ∧ 1 ≤ q ∧ q ≤ szF f * gB u.length ∧ (openR f = false → ∀ r',readR f (u ++ r') = .got x r' q)

end Go.Proofs.Ytfcghajnnllmhaa

namespace Go.Proofs.Ytfcghajnnllmhaa
open Go.RowKit

section
variable {w w' : World} {S : Nat → Prop} {g : Nat} {t : Value} {a e : Int}
end
/-- A value of bytes alone, of a number alone. -/
theorem VtR.bytes {w : World} {ok : Nat → Prop} {v : Value} {l : List UInt8} (h : BR w ok v l) (hl : l.length ≤ 140737488355328) : VtR w ok (.agg #[.int .u64 0,v,.slice none 0 0]) (.mk ⟨0,l⟩ []) :=
 ⟨v,_,rfl,by unfold u64B;simp only [RT.a];omega,h,hl,VsR.nil⟩
theorem VtR.num {w : World} {ok : Nat → Prop} {n : Int} (h : u64B n) : VtR w ok (.agg #[.int .u64 n,.slice none 0 0,.slice none 0 0]) (.mk ⟨n,[]⟩ []) :=
 ⟨_,_,rfl,h,BR.nil,by simp [RT.a],VsR.nil⟩
theorem VtR.zero {w : World} {ok : Nat → Prop} : VtR w ok (.agg #[.int .u64 0,.slice none 0 0,.slice none 0 0]) (.mk ⟨0,[]⟩ []) := VtR.num (by unfold u64B;omega)

def S2 (rg cg : Nat) : Nat → Prop := fun i => i = rg ∨ i = cg

section
variable {S : Nat → Prop} {w : World}
end

/-- A form's value. -/
abbrev fv (h : FH) (A : Option Addr) (n c : Nat) : Value := .agg #[.int .i64 h.k,.int .i64 h.s,.int .i64 h.lo,.int .i64 h.hi,.int .i64 h.st,.slice A n c]
end Go.Proofs.Ytfcghajnnllmhaa

namespace Go.Proofs.Ytfcghajnnllmhaa
open Go.RowKit

end Go.Proofs.Ytfcghajnnllmhaa

namespace Go.Proofs.Ytfcghajnnllmhaa
open Go.RowKit

end Go.Proofs.Ytfcghajnnllmhaa

namespace Go.Proofs.Ytfcghajnnllmhaa
open Go.RowKit

end Go.Proofs.Ytfcghajnnllmhaa

namespace Go.Proofs.Ytfcghajnnllmhaa
open Go.RowKit

end Go.Proofs.Ytfcghajnnllmhaa

namespace Go.Proofs.Ytfcghajnnllmhaa
open Go.RowKit

end Go.Proofs.Ytfcghajnnllmhaa

namespace Go.Proofs.Ytfcghajnnllmhaa
open Go.RowKit

section
variable {α : Type}
/-- Cells that read as a list of trees, one behind the other. -/
def TRl (H : Head α) (n : Nat) (w : World) (ok : Nat → Prop) : List (RT α) → List Value → Prop
 | [],xs => xs = []
 | t :: l,xs => ∃ cs rest,xs = cs ++ rest ∧ cs.length = n ∧ (∀ u ∈ cs,u.oneCell' = true) ∧ TR H n w ok t cs ∧ TRl H n w ok l rest
theorem TRl.len {H : Head α} {n : Nat} {w : World} {ok : Nat → Prop} : ∀ {l : List (RT α)} {xs : List Value},TRl H n w ok l xs → xs.length = l.length * n
 | [],xs,h => by rw [TRl] at h;simp [h]
 | t :: l,xs,h => by
  rw [TRl] at h
  obtain ⟨cs,rest,rfl,h1,_,_,h2⟩ := h
  rw [List.length_append,h1,TRl.len h2,List.length_cons,Nat.succ_mul]
  omega
theorem TRl.one {H : Head α} {n : Nat} {w : World} {ok : Nat → Prop} : ∀ {l : List (RT α)} {xs : List Value},TRl H n w ok l xs → ∀ u ∈ xs,u.oneCell' = true
 | [],xs,h => by rw [TRl] at h;simp [h]
 | t :: l,xs,h => by
  rw [TRl] at h
  obtain ⟨cs,rest,rfl,_,h1,_,h2⟩ := h
  intro u hu
  rcases List.mem_append.1 hu with hu | hu
  ·exact h1 u hu
  ·exact TRl.one h2 u hu
theorem TRl.kp_ {H : Head α} (hH : HeadKp H) {n : Nat} {w w' : World} {ok ok' S : Nat → Prop} (hk : Kp S w w') (hd : ∀ i,ok i → ¬ S i) (hm : ∀ i,ok i → ok' i) : ∀ {l : List (RT α)} {xs : List Value},TRl H n w ok l xs → TRl H n w' ok' l xs
 | [],xs,h => by rw [TRl] at h ⊢;exact h
 | t :: l,xs,h => by
  rw [TRl] at h ⊢
  obtain ⟨cs,rest,rfl,h1,h2,h3,h4⟩ := h
  exact ⟨cs,rest,rfl,h1,h2,TR.kp_ hH hk hd hm t cs h3,TRl.kp_ hH hk hd hm h4⟩
theorem TRl.snoc {H : Head α} {n : Nat} {w : World} {ok : Nat → Prop} {t : RT α} {cs : List Value} (hc : cs.length = n) (h1 : ∀ u ∈ cs,u.oneCell' = true) (ht : TR H n w ok t cs) : ∀ {l : List (RT α)} {xs : List Value},TRl H n w ok l xs → TRl H n w ok (l ++ [t]) (xs ++ cs)
 | [],xs,h => by
  rw [TRl] at h
  subst h
  rw [List.nil_append,List.nil_append,TRl]
  exact ⟨cs,[],by simp,hc,h1,ht,by rw [TRl]⟩
 | t' :: l,xs,h => by
  rw [TRl] at h
  obtain ⟨cs',rest,rfl,g1,g2,g3,g4⟩ := h
  rw [List.cons_append,TRl]
  exact ⟨cs',rest ++ cs,by rw [List.append_assoc],g1,g2,g3,TRl.snoc hc h1 ht g4⟩
theorem TRl.trs {H : Head α} {n : Nat} {w : World} {ok : Nat → Prop} : ∀ {l : List (RT α)} {xs : List Value} {b off : Nat},TRl H n w ok l xs → (∀ j u,xs[j]? = some u → w.cell? ⟨b,off + j,none⟩ = some u) → TRs H n w ok l b off
 | [],_,_,_,_,_ => by rw [TRs];trivial
 | t :: l,xs,b,off,h,hc => by
  rw [TRl] at h
  obtain ⟨cs,rest,rfl,g1,g2,g3,g4⟩ := h
  rw [TRs]
  refine ⟨⟨cs,g3,fun j u hu => hc j u ?_⟩,TRl.trs g4 (fun j u hu => ?_)⟩
  ·rw [List.getElem?_append_left (List.getElem?_eq_some_iff.1 hu).1]
   exact hu
  ·have := hc (n + j) u (by rw [List.getElem?_append_right (by omega),← hu,g1];congr 1;omega)
   rw [show off + (n + j) = off + n + j from by omega] at this
   exact this
/-- Where such cells lie, a slice reads as the list. -/
theorem TRl.tl {H : Head α} {n : Nat} {w : World} {ok : Nat → Prop} {l : List (RT α)} {xs : List Value} {A : Option Addr} (h : TRl H n w ok l xs) (hr : Rd w ok n A l.length xs) : TL H n w ok l A := by
 intro h0
 obtain ⟨⟨b,off,sp⟩,rfl,hsp,hb,hc⟩ := hr.2 h0
 obtain rfl : sp = none := hsp
 exact ⟨b,off,rfl,hb,h.trs (fun j u hu => by rw [← add_spot];exact hc j u hu)⟩
/-- A row of the call's own that reads as these trees: what they lead to lies elsewhere. -/
def OwnT (H : Head α) (n : Nat) (e : TypeId) (w : World) (ok : Nat → Prop) (v : Value) (l : List (RT α)) : Prop := ∃ xs,Own w ok e n v l.length xs ∧ TRl H n w (fun i => ok i ∧ v.ownBlock ≠ some i) l xs
theorem OwnT.nil {H : Head α} {n : Nat} {e : TypeId} {w : World} {ok : Nat → Prop} : OwnT H n e w ok (.slice none 0 0) [] := ⟨[],Own.nil,by rw [TRl]⟩
theorem OwnT.kp_ {H : Head α} (hH : HeadKp H) {n : Nat} {e : TypeId} {w w' : World} {ok S : Nat → Prop} {v : Value} {l : List (RT α)} (h : OwnT H n e w ok v l) (hk : Kp S w w') (hd : ∀ i,ok i → ¬ S i) : OwnT H n e w' ok v l := by
 obtain ⟨xs,h1,h2⟩ := h
 exact ⟨xs,h1.kp hk hd,h2.kp_ hH hk (fun i hi => hd i hi.1) (fun _ h => h)⟩
theorem OwnT.tl {H : Head α} (hH : HeadKp H) {n : Nat} {e : TypeId} {w : World} {ok : Nat → Prop} {A : Option Addr} {c : Nat} {l : List (RT α)} (h : OwnT H n e w ok (.slice A l.length c) l) : l.length ≤ c ∧ TL H n w ok l A := by
 obtain ⟨xs,h1,h2⟩ := h
 obtain ⟨A',c',e',hc⟩ := h1.shape
 injection e' with e1 e2 e3
 subst e1 e3
 exact ⟨hc,(h2.kp_ hH (Kp.refl (fun _ => False) w) (fun _ _ h => h) (ok' := ok) (fun i hi => hi.1)).tl h1.rd⟩
theorem OwnT.shape {H : Head α} {n : Nat} {e : TypeId} {w : World} {ok : Nat → Prop} {v : Value} {l : List (RT α)} (h : OwnT H n e w ok v l) : ∃ A c,v = .slice A l.length c ∧ l.length ≤ c := by
 obtain ⟨xs,h1,h2⟩ := h
 exact h1.shape
theorem OwnT.lt {H : Head α} {n : Nat} {e : TypeId} {w : World} {ok : Nat → Prop} {v : Value} {l : List (RT α)} (h : OwnT H n e w ok v l) {i : Nat} (hi : v.ownBlock = some i) : i < w.heap.size := by
 obtain ⟨xs,h1,h2⟩ := h
 exact h1.lt i hi
end
end Go.Proofs.Ytfcghajnnllmhaa

namespace Go.Proofs.Ytfcghajnnllmhaa
open Go.RowKit

theorem BR.lt_ {w : World} {ok : Nat → Prop} {v : Value} {l : List UInt8} (h : BR w ok v l) : BR w (fun i => ok i ∧ i < w.heap.size) v l := by
 obtain ⟨A,c,e,hc,hl,hr⟩ := h
 refine ⟨A,c,e,hc,hl,fun h0 => ?_⟩
 obtain ⟨ad,e1,hsp,hb,hcell⟩ := hr h0
 refine ⟨ad,e1,hsp,⟨hb,?_⟩,hcell⟩
 have h1 : (bc l)[0]? = some ((bc l)[0]'(by rw [bc_length];omega)) := List.getElem?_eq_getElem _
 have := cell_lt (hcell 0 _ h1)
 rwa [block_add] at this
theorem VtR.shape {w : World} {ok : Nat → Prop} {v : Value} {x : Vt} (h : VtR w ok v x) : ∃ A1 c1 A2 c2,v = .agg #[.int .u64 x.a.n,.slice A1 x.a.b.length c1,.slice A2 x.l.length c2] ∧ TR VHd 3 w ok x [.int .u64 x.a.n,.slice A1 x.a.b.length c1,.slice A2 x.l.length c2] := by
 obtain ⟨bv,sv,rfl,h1,⟨A1,c1,rfl,h2⟩,h3,⟨A2,c2,rfl,h4,h5,h6⟩⟩ := h
 exact ⟨A1,c1,A2,c2,rfl,(TR_def _ _ _ _ _ _).2 ⟨[.int .u64 x.a.n,.slice A1 x.a.b.length c1],A2,c2,rfl,rfl,⟨_,rfl,h1,⟨A1,c1,rfl,h2⟩,h3⟩,h4,h5,h6⟩⟩
def IsT (t : Value) : Prop := t = .pointer none ∨ ∃ g,t = .pointer (some ⟨g,0,none⟩)
def S3 (rg cg : Nat) (t : Value) : Nat → Prop := fun i => i = rg ∨ i = cg ∨ t = .pointer (some ⟨i,0,none⟩)
theorem FmR.row {w : World} {ok : Nat → Prop} {h : FH} {P : List Fm} {A : Option Addr} {c : Nat} (hv : FmR w ok (fv h A P.length c) (.mk h P)) : FsR w ok (.slice A P.length c) P := by
 obtain ⟨sv,e,_,h2⟩ := hv
 simp only [fv,RT.a,Value.agg.injEq,Array.mk.injEq,List.cons.injEq,and_true,true_and] at e
 subst e
 exact h2
end Go.Proofs.Ytfcghajnnllmhaa

namespace Go.Proofs.Ytfcghajnnllmhaa
open Go.RowKit

end Go.Proofs.Ytfcghajnnllmhaa

namespace Go.Proofs.Ytfcghajnnllmhaa
open Go.RowKit

end Go.Proofs.Ytfcghajnnllmhaa

namespace Go.Proofs.Ytfcghajnnllmhaa
open Go.RowKit

def chk8 (f : Fm) : Int := if deepB 8 f then 14 else checkR f
/-- How a reading of all ends. -/
def endAll (pre : Bool) (b : List UInt8) : RdT → Vt × Int × Int
 | .bad o e _ => (.mk ⟨0,[]⟩ [],o,e)
 | .got x r _ => if pre = false ∧ 0 < r.length then (.mk ⟨0,[]⟩ [],((b.length - r.length : Nat) : Int),6) else (x,((b.length - r.length : Nat) : Int),0)
/-- What all tells: the value, the place (from the base on), the error. -/
def readAll (pre : Bool) (f : Fm) (b : List UInt8) : Vt × Int × Int := if chk8 f ≠ 0 then (.mk ⟨0,[]⟩ [],0,chk8 f) else endAll pre b (readR f b)
def readSt (f : Fm) (b : List UInt8) : Nat := if chk8 f ≠ 0 then 0 else (readR f b).steps
def TS (t : Value) : Nat → Prop := fun i => t = .pointer (some ⟨i,0,none⟩)
end Go.Proofs.Ytfcghajnnllmhaa

namespace Go.Proofs.Ytfcghajnnllmhaa
open Go.RowKit

end Go.Proofs.Ytfcghajnnllmhaa

namespace Go.Proofs.Ytfcghajnnllmhaa
open Go.RowKit YtfcghajnnllmhaaW.PrintWords

section
variable {w : World} {ok ok2 : Nat → Prop} {f : Fm} {x y : Vt} {v u : Value}
theorem FmR.wf (h : FmR w ok v f) : wfF f = true := by
 obtain ⟨_,_,h1⟩ := h.tr
 exact tr_wfF f _ h1
theorem VtR.wf (h : VtR w ok v x) : wfV x = true := by
 obtain ⟨_,_,_,h1⟩ := h.tr
 exact tr_wfV x _ h1
end
abbrev Vt.zero_ : Vt := .mk ⟨0,[]⟩ []
end Go.Proofs.Ytfcghajnnllmhaa

namespace Go.Proofs.Ytfcghajnnllmhaa
open Go.RowKit YtfcghajnnllmhaaW.PrintWords

theorem VtR.one_ {W : World} {ok : Nat → Prop} {a : Int} {b : List UInt8} {l : List Vt} {A1 A2 : Option Addr} {c1 c2 g : Nat} (h : VtR W ok (.agg #[.int .u64 a,.slice A1 b.length c1,.slice A2 l.length c2]) (.mk ⟨a,b⟩ l)) (hb : Blk W g 46 #[.int .u64 a,.slice A1 b.length c1,.slice A2 l.length c2]) (ho : ok g) :
  VsR W ok (.slice (some ⟨g,0,none⟩) 1 1) [.mk ⟨a,b⟩ l] := by
 obtain ⟨bv,sv,e,ht⟩ := h.tr
 simp only [RT.a,Value.agg.injEq,Array.mk.injEq,List.cons.injEq,and_true,true_and] at e
 obtain ⟨rfl,rfl⟩ := e
 exact ⟨_,_,rfl,Nat.le_refl _,by simp,tl_one hb ho _ _ ht rfl⟩
end Go.Proofs.Ytfcghajnnllmhaa

namespace Go.Proofs.Ytfcghajnnllmhaa
open Go.RowKit YtfcghajnnllmhaaW.PrintWords

theorem kd_lit0 {α : Type} (d : Kd α) (w : World) (e : Nat) (ok : Nat → Prop) (hok : ok w.heap.size) : d.R e (w.alloc (.cells #[] e)) w.heap.size ok (.slice (some ⟨w.heap.size,0,none⟩) 0 0) [] := by
 refine ⟨fun k hk => ?_,[],⟨by simp,.inr ⟨w.heap.size,0,#[],rfl,Nat.le_refl _,heap_alloc_new w _,Nat.le_refl _,by decide,by simp,by simp⟩⟩,Reps.none _ _⟩
 have : w.heap.size = k := by simpa [Value.ownBlock] using hk
 rw [← this]
 exact hok
theorem kd_none {α : Type} {d : Kd α} {w : World} {n : Nat} {l : List α} (h : d.C w none n l) : l = [] := by
 obtain ⟨h1,_,h2⟩ := h
 rcases Nat.eq_zero_or_pos n with h0 | h0
 ·exact List.eq_nil_of_length_eq_zero (h1.trans h0)
 ·obtain ⟨_,e,_⟩ := h2 h0
  cases e
end Go.Proofs.Ytfcghajnnllmhaa

namespace Go.Proofs.Ytfcghajnnllmhaa.QP
open Go.RowKit Go.Proofs.YtfcghajnnllmhaaW.PrintWords Go.Proofs.YtfcghajnnllmhaaW.PrintLast Go.Proofs.YtfcghajnnllmhaaW.PrintMore
attribute [local go_sem] max2_int min2_int max_two min_two max_three min_three max_four min_four   -- for this text's walks alone
set_option linter.unusedVariables false
set_option linter.unusedSimpArgs false

/-! ### bytes_Clone: function 58 -/
def bytes_Clone.f (l0 : List Int) : Option (List Int) := if l0.length ≤ 140737488355328 then some l0 else none
set_option maxRecDepth 100000 in
theorem bytes_Clone.calls (A0 : Option Addr) (c0 : Nat) (l0 : List Int) (r : List Int) (w : World) (hr0 : Kd.C (Kd.int .u8) w A0 l0.length l0) (hc0 : l0.length ≤ c0) (h : bytes_Clone.f l0 = some r) :
  Calls Try.prog 58 #[.slice A0 l0.length c0] w fun e w' => ∃ v0_ : Value,e = .returned (v0_) ∧ Kd.R (Kd.int .u8) 5 w' w.heap.size (fun _ => True) v0_ r ∧ Below w.heap.size w w' := by
 unfold bytes_Clone.f at h
 split at h
 ·rename_i hlim
  injection h with h
  subst h
  cases A0 with
  | none =>
   obtain rfl : l0 = [] := kd_none hr0
   have HN := fun W => Lib.run_eql_slice_nil (P := Try.prog) W 43 5 none 0 c0 0 0 Try.underlying43
   clear hr0 hc0 hlim
   show Calls Try.prog 58 #[.slice none 0 c0] w _
   go_enter Try.func58,Try.ntmps58
   go_wp2_with fail
   go_ret
   exact ⟨_,rfl,Kd.R_nil _ _ _ _ _,Below.refl _ _⟩
  | some ad =>
   have HN := fun W => Lib.run_eql_slice_nil (P := Try.prog) W 43 5 (some ad) l0.length c0 0 0 Try.underlying43
   have hb : Below w.heap.size w (w.alloc (.cells #[] 5)) := below_alloc (Below.refl _ _) _
   have HR := Lib.hid (Kd.C_below hr0 hb)
   have HO := Lib.hid (kd_lit0 (Kd.int .u8) w 5 (fun _ => True) trivial)
   have HB := Lib.hid hb
   have hz : w.heap.size ≤ (w.alloc (.cells #[] 5)).heap.size := hb.size
   clear hr0 hc0 hb
   go_enter Try.func58,Try.ntmps58
   go_wp2_with (at_builtin;refine Kd.R_append_rows (Kd.int .u8) w.heap.size rfl (.tmp 5) (.tmp 6) 43 5 (.int .u8 0) 1 rfl Try.underlying43 (by kernel_rfl) rfl (by decide) (by decide) (.slice (some ⟨w.heap.size,0,none⟩) 0 0) [] l0 (some ad) l0.length c0 _ (fun _ => False) rfl rfl HO.out HR.out (fun _ _ hk => hk) (fun _ hk => hk.elim) (fun _ _ => trivial) HB.out hz ?hl ?_;(case hl => simp only [List.length_nil];omega);intro v1 w1 hn hbb _ _;have HN1 := Lib.hid hn;have HB1 := Lib.hid hbb;clear hn hbb)
   go_ret
   exact ⟨_,rfl,HN1.out,HB1.out⟩
 ·cases h

end Go.Proofs.Ytfcghajnnllmhaa.QP

namespace Go.Proofs.Ytfcghajnnllmhaa.QP
open Go.RowKit Go.Proofs.YtfcghajnnllmhaaW.PrintWords Go.Proofs.YtfcghajnnllmhaaW.PrintLast Go.Proofs.YtfcghajnnllmhaaW.PrintMore
attribute [local go_sem] max2_int min2_int max_two min_two max_three min_three max_four min_four   -- for this text's walks alone
set_option linter.unusedVariables false
set_option linter.unusedSimpArgs false

/-! ### value_Bytes: function 39 -/
def value_Bytes.f (l0 : List Int) : Option (Int × List Int × (List (S46))) := (bytes_Clone.f l0).bind fun t402 => (some (0,t402,([] : List (S46))))
set_option maxHeartbeats 8000000 in
set_option maxRecDepth 100000 in
theorem value_Bytes.calls (A0 : Option Addr) (c0 : Nat) (l0 : List Int) (r1 : Int) (r2 : List Int) (r3 : List (S46)) (w : World) (hr0 : Kd.C (Kd.int .u8) w A0 l0.length l0) (hc0 : l0.length ≤ c0) (h : value_Bytes.f l0 = some (r1,r2,r3)) :
  Calls Try.prog 39 #[.slice A0 l0.length c0] w fun e w' => ∃ v1_ v2_ : Value,e = .returned (.agg #[.int .u64 r1,v1_,v2_]) ∧ Kd.R (Kd.int .u8) 5 w' w.heap.size (fun _ => True) v1_ r2 ∧ Kd.R k46 46 w' w.heap.size (fun k_ => some k_ ≠ (v1_ : Value).ownBlock) v2_ r3 ∧ Below w.heap.size w w' := by
 have hu46 := Try.underlying46
 have HR0 := Aside0.mk hr0
 have HC0 := Aside0.mk hc0
 clear hr0 hc0
 have HB := Aside0.mk (Below.refl w.heap.size w)
 have H : ((bytes_Clone.f l0).bind fun t402 => (some (0,t402,([] : List (S46))))) = some (r1,r2,r3) := h
 clear h
 replace H := Option.bind_eq_some_iff.mp H
 obtain ⟨t402,A20,H⟩ := H
 replace H : (some (0,t402,([] : List (S46)))) = some (r1,r2,r3) := H
 have A2 := Aside0.mk A20
 clear A20
 simp only [Option.some.injEq,Prod.mk.injEq] at H
 obtain ⟨rfl,rfl,rfl⟩ := H
 go_enter Try.func39,Try.ntmps39
 go_wp2_with (first | ((with_reducible refine gate_dst (N := 2) rfl ?_);refine box_event ?hg (N := 2) ?hd (cs := #[.int .u64 0,.slice none 0 0,.slice none 0 0]) (t := 46) ?hr ?_;(case hd => rfl);(case hg => rfl);(case hr => first | (go_simp;done) | (go_simp;rfl));intro gb401 hg w3 hbox hb;have n0_ := Aside0.mk (below_step (by repeat (first | (with_reducible first | exact HB.out | apply below_alloc | apply pw_below_drewN | apply below_drew1) | exact HB.out)) hb);have n1_ := Aside0.mk (hbox);have n2_ := Aside0.mk ((by rw [hg];exact (below_size (by repeat (first | (with_reducible first | exact HB.out | apply below_alloc | apply pw_below_drewN | apply below_drew1) | exact HB.out))) : w.heap.size ≤ gb401));have n3_ := Aside0.mk ((by rw [hg];exact (below_size (by repeat (first | (with_reducible first | exact HB.out | apply below_alloc | apply pw_below_drewN | apply below_drew1) | exact HB.out))) : w.heap.size ≤ gb401));clear HB;have HB := n0_;have BK401 := n1_;have GW401 := n2_;have GE401 := n3_;clear n0_ n1_ n2_ n3_;clear hb hbox hg) | ((with_reducible refine gate_callee (f := 58) rfl ?_);refine goesL_ (some 4) rfl rfl Try.func58 (by kernel_rfl) rfl #[.slice A0 l0.length c0] rfl (by (try simp only [List.map_toArray,List.map_cons,List.map_nil]);first | done | rfl | (simp only [List.length_drop,List.length_take];rfl)) ?_;(with_reducible refine (bytes_Clone.calls _ _ l0 t402 _ ?side1 ?side2 A2.out).mono ?_);(case side1 => repeat (first | exact (Kd.C_below HR0.out HB.out) | (with_reducible refine Kd.C_alloc ?_ _) | (with_reducible refine Kd.C_drewN ?_ _) | (with_reducible refine Kd.C_drew ?_)));(case side2 => exact HC0.out);rintro e w4 ⟨v403,rfl,ho0,hb⟩;refine ⟨_,rfl,?_⟩;have n0_ := Aside0.mk (Kd.R_lower ho0 (below_size (by repeat (first | (with_reducible first | exact HB.out | apply below_alloc | apply pw_below_drewN | apply below_drew1 | refine below_set ?_ GE401.out) | exact HB.out))));have n1_ := Aside0.mk (blk_below (g := gb401) (o := .cells #[.int .u64 0,.slice none 0 0,.slice none 0 0] 46 (0,0)) (by (with_reducible repeat (first | refine blk_drewN ?_ _ | refine blk_drew ?_ | refine blk_alloc ?_ _));exact BK401.out) hb);have n2_ := Aside0.mk (below_step (by repeat (first | (with_reducible first | exact HB.out | apply below_alloc | apply pw_below_drewN | apply below_drew1 | refine below_set ?_ GE401.out) | exact HB.out)) hb);clear BK401;clear HB;have HO404 := n0_;have BK401 := n1_;have HB := n2_;clear n0_ n1_ n2_;(try clear hb);(try clear hb2);(try clear hk);(try clear hi);(try clear ho0);obtain ⟨Ao5,co5,eo5⟩ := Kd.R_slice HO404.out;subst eo5;have hcz6_0 : w4.cell? ⟨gb401,0,none⟩ = some (.int .u64 0) := (blk_cell BK401.out 0).trans rfl;have hcz6_1 : w4.cell? ⟨gb401,1,none⟩ = some (.slice none 0 0) := (blk_cell BK401.out 1).trans rfl;have hcz6_2 : w4.cell? ⟨gb401,2,none⟩ = some (.slice none 0 0) := (blk_cell BK401.out 2).trans rfl;have hfz6_0 := blk_frozen BK401.out 0;have hfz6_1 := blk_frozen BK401.out 1;have hfz6_2 := blk_frozen BK401.out 2))
 refine bodyPost_ret (results_cell_row rfl _ _ gb401 46 #[.int .u64 0,.slice Ao5 t402.length co5,.slice none 0 0] (0,0) _ rfl (by (with_reducible repeat (first | refine blk_drewN ?_ _ | refine blk_drew ?_ | refine blk_alloc ?_ _));refine blk_put (cs := #[.int .u64 0,.slice Ao5 t402.length co5,.slice none 0 0]) ?_ 2 _ rfl;(with_reducible repeat (first | refine blk_drewN ?_ _ | refine blk_drew ?_ | refine blk_alloc ?_ _));refine blk_put (cs := #[.int .u64 0,.slice none 0 0,.slice none 0 0]) ?_ 1 _ rfl;(with_reducible repeat (first | refine blk_drewN ?_ _ | refine blk_drew ?_ | refine blk_alloc ?_ _));refine blk_put (cs := #[.int .u64 0,.slice none 0 0,.slice none 0 0]) ?_ 0 _ rfl;(with_reducible repeat (first | refine blk_drewN ?_ _ | refine blk_drew ?_ | refine blk_alloc ?_ _));exact BK401.out) Try.underlying46 rfl (by kernel_rfl)) rfl ?_
 exact ⟨_,_,by first | rfl | (simp [errW_none,errW_some] <;> rfl) | (simp [*,errW_none,errW_some] <;> rfl),by (with_reducible repeat (first | apply Kd.R_alloc | apply Kd.R_drewN | apply Kd.R_drew));exact Kd.R_mono (Kd.R_far (p := ⟨gb401,2,none⟩) (Kd.R_far (p := ⟨gb401,1,none⟩) (Kd.R_far (p := ⟨gb401,0,none⟩) (Kd.R_types HO404.out BK401.out (by decide)) (fun _ hk => hk.2) (.int .u64 0)) (fun _ hk => hk.2) (.slice Ao5 t402.length co5)) (fun _ hk => hk.2) (.slice none 0 0)) (fun _ hk => trivial),by first | exact Kd.R_nil _ _ _ _ _ | exact Kd.N_nil _ _ _ _ _ | exact Kd.V_nil _ _ _ _ _ | exact Kd.Q_nil _ _ _ _ _ | exact Kd.S_nil _ _ _ _ _,by repeat (first | (with_reducible first | exact HB.out | apply below_alloc | apply pw_below_drewN | apply below_drew1 | refine below_set ?_ GE401.out) | exact HB.out)⟩

end Go.Proofs.Ytfcghajnnllmhaa.QP

namespace Go.Proofs.Ytfcghajnnllmhaa
open Go.RowKit YtfcghajnnllmhaaW.PrintWords

set_option maxRecDepth 100000 in
theorem vbytes_any (ok : Nat → Prop) (A : Option Addr) (c : Nat) (b : List UInt8) (w : World) (hb : BR w ok (.slice A b.length c) b) (hl : b.length ≤ 100000) :
  Calls Try.prog 39 #[.slice A b.length c] w fun e w' => ∃ A1 c1 A2 c2,e = .returned (.agg #[.int .u64 0,.slice A1 b.length c1,.slice A2 0 c2]) ∧ VtR w' (· < w'.heap.size) (.agg #[.int .u64 0,.slice A1 b.length c1,.slice A2 0 c2]) (.mk ⟨0,b⟩ []) ∧ Kp (fun _ => False) w w' := by
 obtain ⟨_,g1,g2⟩ := br_c hb (by omega)
 have hf : QP.value_Bytes.f (bI b) = some (0,bI b,[]) := by
  show (if (bI b).length ≤ _ then some (bI b) else none).bind _ = _
  rw [if_pos (by rw [bI_len];omega)]
  rfl
 have := QP.value_Bytes.calls A c (bI b) 0 (bI b) [] w g2 g1 hf
 simp only [bI_len] at this
 refine this.mono ?_
 rintro e w' ⟨v1,v2,rfl,h1,h2,hbl⟩
 obtain ⟨A1,c1,rfl,hc1,hr1⟩ := Kd.R_reads h1
 obtain ⟨A2,c2,rfl,hc2,hr2⟩ := Kd.R_reads h2
 simp only [List.length_nil] at *
 have hok : okB (bI b) = true := okB_bI b
 have h3 := c_VtR (a0 := 0) hr1 hc1 hr2 hc2 ((wfSV_mk _ _ _).2 ⟨u64_small 0 (by decide) (by decide),hok,by rw [bI_len];omega,by simp,by simp⟩)
 rw [toV_mk,iB_bI,List.map_nil,bI_len] at h3
 exact ⟨A1,c1,A2,c2,by rw [bI_len],h3,Kp.of_below hbl⟩
theorem VtR.num_ {W : World} {ok : Nat → Prop} {x : Int} (hx : u64B x) : VtR W ok (.agg #[.int .u64 x,.slice none 0 0,.slice none 0 0]) (.mk ⟨x,[]⟩ []) := (VtR.of_tr (tr_value x hx [] none 0 0 rfl (Nat.le_refl _) (by simp) tl_none)).1
end Go.Proofs.Ytfcghajnnllmhaa

namespace Go.Proofs.Ytfcghajnnllmhaa
open Go.RowKit
set_option maxRecDepth 100000

theorem i64_wf6 {k : Int} (h : i64B k) : (Lit.int .i64 k).wf = true := by
 unfold i64B at h
 simp [Lit.wf,IntKind.min,IntKind.max,IntKind.signed,IntKind.bits]
 omega
theorem FmR.form6 {w : World} {ok : Nat → Prop} {v : Value} {k s lo hi st : Int} {P : List Fm} (h : FmR w ok v (.mk ⟨k,s,lo,hi,st⟩ P)) : ∃ A c,v = .agg #[.int .i64 k,.int .i64 s,.int .i64 lo,.int .i64 hi,.int .i64 st,.slice A P.length c] := by
 obtain ⟨sv,e,_,A,c,e2,_⟩ := h
 subst e2
 exact ⟨A,c,e⟩
theorem FmR.here6 {w : World} {ok : Nat → Prop} {k s lo hi st : Int} {sv : Value} {P : List Fm} (h : FmR w ok (.agg #[.int .i64 k,.int .i64 s,.int .i64 lo,.int .i64 hi,.int .i64 st,sv]) (.mk ⟨k,s,lo,hi,st⟩ P)) : FsR w ok sv P := by
 obtain ⟨sv',e,_,h2⟩ := h
 simp [RT.a] at e
 subst e
 exact h2
theorem fitL_step (h : FH) (P : List Fm) (q : Int) (l : List Vt) (j : Nat) (hj : j < l.length) (p : Nat) (hp : p < P.length) (hpe : j % P.length = p) : fitL (.mk h P) q j (l.drop j) =
  if (fitR P[p] l[j]).2 = 0 then fitL (.mk h P) (wrap64 (q + (fitR P[p] l[j]).1)) (j + 1) (l.drop (j + 1)) else (0,(fitR P[p] l[j]).2) := by
 rw [fitL_drop h P q l j hj]
 have e : P.getD (j % P.length) nilF = P[p] := by subst hpe;simp [hp]
 simp only [e]

theorem vmay_any (n lo hi st : Int) (hst : st ≠ 0) (w : World) : Calls Try.prog 71 #[.int .i64 n,.int .i64 lo,.int .i64 hi,.int .i64 st] w fun e w' => e = .returned (.int .i64 (mayR n lo hi st)) ∧ w' = w := by
 unfold mayR
 by_cases h1 : n < lo
 ·rw [if_pos h1]
  go_enter Try.func71,Try.ntmps71
  go_wp2_with fail
  go_ret
  exact ⟨rfl,rfl⟩
 by_cases h2 : hi < n
 ·rw [if_neg h1,if_pos h2]
  go_enter Try.func71,Try.ntmps71
  go_wp2_with fail
  go_ret
  exact ⟨rfl,rfl⟩
 obtain ⟨t,ht⟩ : ∃ t,Int.tmod n st = t := ⟨_,rfl⟩
 rw [if_neg h1,if_neg h2,ht]
 by_cases h3 : t = 0
 ·subst h3
  go_enter Try.func71,Try.ntmps71
  go_wp2_with fail
  go_ret
  exact ⟨rfl,rfl⟩
 ·have h4 : (t != 0) = true := by simpa using h3
  rw [if_neg h3]
  go_enter Try.func71,Try.ntmps71
  go_wp2_with fail
  go_ret
  exact ⟨rfl,rfl⟩

theorem FmR.wf_k {w : World} {ok : Nat → Prop} {v : Value} {h : FH} {P : List Fm} (hf : FmR w ok v (.mk h P)) : i64B h.k := by
 obtain ⟨_,_,h1,_⟩ := hf
 exact h1.k
set_option maxHeartbeats 3200000 in
theorem vfit_not (ok : Nat → Prop) (k s lo hi st : Int) (P : List Fm) (a : Int) (b : List UInt8) (l : List Vt) (A0 A1 A2 : Option Addr) (c0 c1 c2 : Nat) (w : World) (hf : FmR w ok (.agg #[.int .i64 k,.int .i64 s,.int .i64 lo,.int .i64 hi,.int .i64 st,.slice A0 P.length c0]) (.mk ⟨k,s,lo,hi,st⟩ P)) (hal : aloneB k a b.length l.length = false) :
  Calls Try.prog 66 #[.agg #[.int .i64 k,.int .i64 s,.int .i64 lo,.int .i64 hi,.int .i64 st,.slice A0 P.length c0],.agg #[.int .u64 a,.slice A1 b.length c1,.slice A2 l.length c2]] w fun e w' => e = .returned (.tuple #[.int .i64 0,.int .i64 15]) ∧ Kp (fun _ => False) w w' := by
 have hkw : (Lit.int .i64 k).wf = true := i64_wf6 hf.wf_k
 have ka : Kp (fun _ => False) w ((w.alloc (.cells #[.int .i64 k,.int .i64 s,.int .i64 lo,.int .i64 hi,.int .i64 st,.slice A0 P.length c0] 27)).alloc (.cells #[.int .u64 a,.slice A1 b.length c1,.slice A2 l.length c2] 46)) := ((Kp.refl _ w).alloc _).alloc _
 have q2 := (Blk.new w 27 #[.int .i64 k,.int .i64 s,.int .i64 lo,.int .i64 hi,.int .i64 st,.slice A0 P.length c0]).alloc (.cells #[.int .u64 a,.slice A1 b.length c1,.slice A2 l.length c2] 46)
 have q3 := Blk.new (w.alloc (.cells #[.int .i64 k,.int .i64 s,.int .i64 lo,.int .i64 hi,.int .i64 st,.slice A0 P.length c0] 27)) 46 #[.int .u64 a,.slice A1 b.length c1,.slice A2 l.length c2]
 simp only [World.size_alloc] at q3
 have HKA := Lib.hid ka
 have HQ2 := Lib.hid q2
 have HQ3 := Lib.hid q3
 have HAL := Lib.hid (fun W => alone_any k a hkw A1 A2 b.length l.length c1 c2 W)
 rw [hal] at HAL
 clear ka q2 q3 hkw hal hf
 go_enter Try.func66,Try.ntmps66
 go_upto_region 1 with fail
 generalize (w.alloc (.cells #[.int .i64 k,.int .i64 s,.int .i64 lo,.int .i64 hi,.int .i64 st,.slice A0 P.length c0] 27)).alloc (.cells #[.int .u64 a,.slice A1 b.length c1,.slice A2 l.length c2] 46) = W0 at HKA HQ2 HQ3 ⊢
 have x0 := HQ2.out.cell 0
 have x1 := HQ2.out.cell 1
 have x2 := HQ2.out.cell 2
 have x3 := HQ2.out.cell 3
 have x4 := HQ2.out.cell 4
 have x5 := HQ2.out.cell 5
 have y0 := HQ3.out.cell 0
 have y1 := HQ3.out.cell 1
 have y2 := HQ3.out.cell 2
 simp at x0 x1 x2 x3 x4 x5 y0 y1 y2
 go_wp2_with fail
 refine (HAL.out W0).mono ?_
 rintro e w1 ⟨rfl,hk1⟩
 have HK1 := Lib.hid (HKA.out.then_ hk1 (fun _ h => h.elim))
 have q2 := HQ2.out.kp hk1 (fun h => h)
 have q3 := HQ3.out.kp hk1 (fun h => h)
 clear x0 x1 x2 x3 x4 x5 y0 y1 y2 hk1 HAL HKA HQ2 HQ3
 have HQ2 := Lib.hid q2
 have HQ3 := Lib.hid q3
 clear q2 q3
 have x0 := HQ2.out.cell 0
 have x1 := HQ2.out.cell 1
 have x2 := HQ2.out.cell 2
 have x3 := HQ2.out.cell 3
 have x4 := HQ2.out.cell 4
 have x5 := HQ2.out.cell 5
 have y0 := HQ3.out.cell 0
 have y1 := HQ3.out.cell 1
 have y2 := HQ3.out.cell 2
 simp at x0 x1 x2 x3 x4 x5 y0 y1 y2
 go_wp2_with fail
 go_ret2
 exact ⟨rfl,HK1.out⟩

set_option maxHeartbeats 6400000 in
theorem vfit_numx (ok : Nat → Prop) (s lo hi st : Int) (P : List Fm) (a : Int) (b : List UInt8) (l : List Vt) (A0 A1 A2 : Option Addr) (c0 c1 c2 : Nat) (w : World) (hf : FmR w ok (.agg #[.int .i64 0,.int .i64 s,.int .i64 lo,.int .i64 hi,.int .i64 st,.slice A0 P.length c0]) (.mk ⟨0,s,lo,hi,st⟩ P)) (hal : aloneB 0 a b.length l.length = true) (hs : 0 ≤ s) (hs8 : s < 8) (hd : (a / 2 ^ (8 * s).toNat != 0) = true) :
  Calls Try.prog 66 #[.agg #[.int .i64 0,.int .i64 s,.int .i64 lo,.int .i64 hi,.int .i64 st,.slice A0 P.length c0],.agg #[.int .u64 a,.slice A1 b.length c1,.slice A2 l.length c2]] w fun e w' => e = .returned (.tuple #[.int .i64 0,.int .i64 3]) ∧ Kp (fun _ => False) w w' := by
 have hkw : (Lit.int .i64 0).wf = true := i64_wf6 hf.wf_k
 have ka : Kp (fun _ => False) w ((w.alloc (.cells #[.int .i64 0,.int .i64 s,.int .i64 lo,.int .i64 hi,.int .i64 st,.slice A0 P.length c0] 27)).alloc (.cells #[.int .u64 a,.slice A1 b.length c1,.slice A2 l.length c2] 46)) := ((Kp.refl _ w).alloc _).alloc _
 have q2 := (Blk.new w 27 #[.int .i64 0,.int .i64 s,.int .i64 lo,.int .i64 hi,.int .i64 st,.slice A0 P.length c0]).alloc (.cells #[.int .u64 a,.slice A1 b.length c1,.slice A2 l.length c2] 46)
 have q3 := Blk.new (w.alloc (.cells #[.int .i64 0,.int .i64 s,.int .i64 lo,.int .i64 hi,.int .i64 st,.slice A0 P.length c0] 27)) 46 #[.int .u64 a,.slice A1 b.length c1,.slice A2 l.length c2]
 simp only [World.size_alloc] at q3
 have HKA := Lib.hid ka
 have HQ2 := Lib.hid q2
 have HQ3 := Lib.hid q3
 have HAL := Lib.hid (fun W => alone_any 0 a hkw A1 A2 b.length l.length c1 c2 W)
 rw [hal] at HAL
 clear ka q2 q3 hkw hal hf
 go_enter Try.func66,Try.ntmps66
 go_upto_region 1 with fail
 generalize (w.alloc (.cells #[.int .i64 0,.int .i64 s,.int .i64 lo,.int .i64 hi,.int .i64 st,.slice A0 P.length c0] 27)).alloc (.cells #[.int .u64 a,.slice A1 b.length c1,.slice A2 l.length c2] 46) = W0 at HKA HQ2 HQ3 ⊢
 have x0 := HQ2.out.cell 0
 have x1 := HQ2.out.cell 1
 have x2 := HQ2.out.cell 2
 have x3 := HQ2.out.cell 3
 have x4 := HQ2.out.cell 4
 have x5 := HQ2.out.cell 5
 have y0 := HQ3.out.cell 0
 have y1 := HQ3.out.cell 1
 have y2 := HQ3.out.cell 2
 simp at x0 x1 x2 x3 x4 x5 y0 y1 y2
 go_wp2_with fail
 refine (HAL.out W0).mono ?_
 rintro e w1 ⟨rfl,hk1⟩
 have HK1 := Lib.hid (HKA.out.then_ hk1 (fun _ h => h.elim))
 have q2 := HQ2.out.kp hk1 (fun h => h)
 have q3 := HQ3.out.kp hk1 (fun h => h)
 clear x0 x1 x2 x3 x4 x5 y0 y1 y2 hk1 HAL HKA HQ2 HQ3
 have HQ2 := Lib.hid q2
 have HQ3 := Lib.hid q3
 clear q2 q3
 have x0 := HQ2.out.cell 0
 have x1 := HQ2.out.cell 1
 have x2 := HQ2.out.cell 2
 have x3 := HQ2.out.cell 3
 have x4 := HQ2.out.cell 4
 have x5 := HQ2.out.cell 5
 have y0 := HQ3.out.cell 0
 have y1 := HQ3.out.cell 1
 have y2 := HQ3.out.cell 2
 simp at x0 x1 x2 x3 x4 x5 y0 y1 y2
 go_wp2_with fail
 go_ret2
 exact ⟨rfl,HK1.out⟩

set_option maxHeartbeats 6400000 in
theorem vfit_num (ok : Nat → Prop) (s lo hi st : Int) (P : List Fm) (a : Int) (b : List UInt8) (l : List Vt) (A0 A1 A2 : Option Addr) (c0 c1 c2 : Nat) (w : World) (hf : FmR w ok (.agg #[.int .i64 0,.int .i64 s,.int .i64 lo,.int .i64 hi,.int .i64 st,.slice A0 P.length c0]) (.mk ⟨0,s,lo,hi,st⟩ P)) (hal : aloneB 0 a b.length l.length = true) (hs : 0 ≤ s) (hs8 : s < 8) (hd : (a / 2 ^ (8 * s).toNat != 0) = false) :
  Calls Try.prog 66 #[.agg #[.int .i64 0,.int .i64 s,.int .i64 lo,.int .i64 hi,.int .i64 st,.slice A0 P.length c0],.agg #[.int .u64 a,.slice A1 b.length c1,.slice A2 l.length c2]] w fun e w' => e = .returned (.tuple #[.int .i64 s,.int .i64 0]) ∧ Kp (fun _ => False) w w' := by
 have hkw : (Lit.int .i64 0).wf = true := i64_wf6 hf.wf_k
 have ka : Kp (fun _ => False) w ((w.alloc (.cells #[.int .i64 0,.int .i64 s,.int .i64 lo,.int .i64 hi,.int .i64 st,.slice A0 P.length c0] 27)).alloc (.cells #[.int .u64 a,.slice A1 b.length c1,.slice A2 l.length c2] 46)) := ((Kp.refl _ w).alloc _).alloc _
 have q2 := (Blk.new w 27 #[.int .i64 0,.int .i64 s,.int .i64 lo,.int .i64 hi,.int .i64 st,.slice A0 P.length c0]).alloc (.cells #[.int .u64 a,.slice A1 b.length c1,.slice A2 l.length c2] 46)
 have q3 := Blk.new (w.alloc (.cells #[.int .i64 0,.int .i64 s,.int .i64 lo,.int .i64 hi,.int .i64 st,.slice A0 P.length c0] 27)) 46 #[.int .u64 a,.slice A1 b.length c1,.slice A2 l.length c2]
 simp only [World.size_alloc] at q3
 have HKA := Lib.hid ka
 have HQ2 := Lib.hid q2
 have HQ3 := Lib.hid q3
 have HAL := Lib.hid (fun W => alone_any 0 a hkw A1 A2 b.length l.length c1 c2 W)
 rw [hal] at HAL
 clear ka q2 q3 hkw hal hf
 go_enter Try.func66,Try.ntmps66
 go_upto_region 1 with fail
 generalize (w.alloc (.cells #[.int .i64 0,.int .i64 s,.int .i64 lo,.int .i64 hi,.int .i64 st,.slice A0 P.length c0] 27)).alloc (.cells #[.int .u64 a,.slice A1 b.length c1,.slice A2 l.length c2] 46) = W0 at HKA HQ2 HQ3 ⊢
 have x0 := HQ2.out.cell 0
 have x1 := HQ2.out.cell 1
 have x2 := HQ2.out.cell 2
 have x3 := HQ2.out.cell 3
 have x4 := HQ2.out.cell 4
 have x5 := HQ2.out.cell 5
 have y0 := HQ3.out.cell 0
 have y1 := HQ3.out.cell 1
 have y2 := HQ3.out.cell 2
 simp at x0 x1 x2 x3 x4 x5 y0 y1 y2
 go_wp2_with fail
 refine (HAL.out W0).mono ?_
 rintro e w1 ⟨rfl,hk1⟩
 have HK1 := Lib.hid (HKA.out.then_ hk1 (fun _ h => h.elim))
 have q2 := HQ2.out.kp hk1 (fun h => h)
 have q3 := HQ3.out.kp hk1 (fun h => h)
 clear x0 x1 x2 x3 x4 x5 y0 y1 y2 hk1 HAL HKA HQ2 HQ3
 have HQ2 := Lib.hid q2
 have HQ3 := Lib.hid q3
 clear q2 q3
 have x0 := HQ2.out.cell 0
 have x1 := HQ2.out.cell 1
 have x2 := HQ2.out.cell 2
 have x3 := HQ2.out.cell 3
 have x4 := HQ2.out.cell 4
 have x5 := HQ2.out.cell 5
 have y0 := HQ3.out.cell 0
 have y1 := HQ3.out.cell 1
 have y2 := HQ3.out.cell 2
 simp at x0 x1 x2 x3 x4 x5 y0 y1 y2
 go_wp2_with fail
 go_ret2
 exact ⟨rfl,HK1.out⟩

set_option maxHeartbeats 3200000 in
theorem vfit_n8 (ok : Nat → Prop) (lo hi st : Int) (P : List Fm) (a : Int) (b : List UInt8) (l : List Vt) (A0 A1 A2 : Option Addr) (c0 c1 c2 : Nat) (w : World) (hf : FmR w ok (.agg #[.int .i64 0,.int .i64 8,.int .i64 lo,.int .i64 hi,.int .i64 st,.slice A0 P.length c0]) (.mk ⟨0,8,lo,hi,st⟩ P)) (hal : aloneB 0 a b.length l.length = true) :
  Calls Try.prog 66 #[.agg #[.int .i64 0,.int .i64 8,.int .i64 lo,.int .i64 hi,.int .i64 st,.slice A0 P.length c0],.agg #[.int .u64 a,.slice A1 b.length c1,.slice A2 l.length c2]] w fun e w' => e = .returned (.tuple #[.int .i64 8,.int .i64 0]) ∧ Kp (fun _ => False) w w' := by
 have hkw : (Lit.int .i64 0).wf = true := i64_wf6 hf.wf_k
 have ka : Kp (fun _ => False) w ((w.alloc (.cells #[.int .i64 0,.int .i64 8,.int .i64 lo,.int .i64 hi,.int .i64 st,.slice A0 P.length c0] 27)).alloc (.cells #[.int .u64 a,.slice A1 b.length c1,.slice A2 l.length c2] 46)) := ((Kp.refl _ w).alloc _).alloc _
 have q2 := (Blk.new w 27 #[.int .i64 0,.int .i64 8,.int .i64 lo,.int .i64 hi,.int .i64 st,.slice A0 P.length c0]).alloc (.cells #[.int .u64 a,.slice A1 b.length c1,.slice A2 l.length c2] 46)
 have q3 := Blk.new (w.alloc (.cells #[.int .i64 0,.int .i64 8,.int .i64 lo,.int .i64 hi,.int .i64 st,.slice A0 P.length c0] 27)) 46 #[.int .u64 a,.slice A1 b.length c1,.slice A2 l.length c2]
 simp only [World.size_alloc] at q3
 have HKA := Lib.hid ka
 have HQ2 := Lib.hid q2
 have HQ3 := Lib.hid q3
 have HAL := Lib.hid (fun W => alone_any 0 a hkw A1 A2 b.length l.length c1 c2 W)
 rw [hal] at HAL
 clear ka q2 q3 hkw hal hf
 go_enter Try.func66,Try.ntmps66
 go_upto_region 1 with fail
 generalize (w.alloc (.cells #[.int .i64 0,.int .i64 8,.int .i64 lo,.int .i64 hi,.int .i64 st,.slice A0 P.length c0] 27)).alloc (.cells #[.int .u64 a,.slice A1 b.length c1,.slice A2 l.length c2] 46) = W0 at HKA HQ2 HQ3 ⊢
 have x0 := HQ2.out.cell 0
 have x1 := HQ2.out.cell 1
 have x2 := HQ2.out.cell 2
 have x3 := HQ2.out.cell 3
 have x4 := HQ2.out.cell 4
 have x5 := HQ2.out.cell 5
 have y0 := HQ3.out.cell 0
 have y1 := HQ3.out.cell 1
 have y2 := HQ3.out.cell 2
 simp at x0 x1 x2 x3 x4 x5 y0 y1 y2
 go_wp2_with fail
 refine (HAL.out W0).mono ?_
 rintro e w1 ⟨rfl,hk1⟩
 have HK1 := Lib.hid (HKA.out.then_ hk1 (fun _ h => h.elim))
 have q2 := HQ2.out.kp hk1 (fun h => h)
 have q3 := HQ3.out.kp hk1 (fun h => h)
 clear x0 x1 x2 x3 x4 x5 y0 y1 y2 hk1 HAL HKA HQ2 HQ3
 have HQ2 := Lib.hid q2
 have HQ3 := Lib.hid q3
 clear q2 q3
 have x0 := HQ2.out.cell 0
 have x1 := HQ2.out.cell 1
 have x2 := HQ2.out.cell 2
 have x3 := HQ2.out.cell 3
 have x4 := HQ2.out.cell 4
 have x5 := HQ2.out.cell 5
 have y0 := HQ3.out.cell 0
 have y1 := HQ3.out.cell 1
 have y2 := HQ3.out.cell 2
 simp at x0 x1 x2 x3 x4 x5 y0 y1 y2
 go_wp2_with fail
 go_ret2
 exact ⟨rfl,HK1.out⟩

set_option maxHeartbeats 3200000 in
theorem vfit_opq (ok : Nat → Prop) (s lo hi st : Int) (P : List Fm) (a : Int) (b : List UInt8) (l : List Vt) (A0 A1 A2 : Option Addr) (c0 c1 c2 : Nat) (w : World) (hf : FmR w ok (.agg #[.int .i64 1,.int .i64 s,.int .i64 lo,.int .i64 hi,.int .i64 st,.slice A0 P.length c0]) (.mk ⟨1,s,lo,hi,st⟩ P)) (hal : aloneB 1 a b.length l.length = true) (hst : st ≠ 0) :
  Calls Try.prog 66 #[.agg #[.int .i64 1,.int .i64 s,.int .i64 lo,.int .i64 hi,.int .i64 st,.slice A0 P.length c0],.agg #[.int .u64 a,.slice A1 b.length c1,.slice A2 l.length c2]] w fun e w' => e = .returned (.tuple #[.int .i64 (wrap64 (s + (b.length : Int))),.int .i64 (mayR b.length lo hi st)]) ∧ Kp (fun _ => False) w w' := by
 have HM := Lib.hid (fun W => vmay_any b.length lo hi st hst W)
 have hkw : (Lit.int .i64 1).wf = true := i64_wf6 hf.wf_k
 have ka : Kp (fun _ => False) w ((w.alloc (.cells #[.int .i64 1,.int .i64 s,.int .i64 lo,.int .i64 hi,.int .i64 st,.slice A0 P.length c0] 27)).alloc (.cells #[.int .u64 a,.slice A1 b.length c1,.slice A2 l.length c2] 46)) := ((Kp.refl _ w).alloc _).alloc _
 have q2 := (Blk.new w 27 #[.int .i64 1,.int .i64 s,.int .i64 lo,.int .i64 hi,.int .i64 st,.slice A0 P.length c0]).alloc (.cells #[.int .u64 a,.slice A1 b.length c1,.slice A2 l.length c2] 46)
 have q3 := Blk.new (w.alloc (.cells #[.int .i64 1,.int .i64 s,.int .i64 lo,.int .i64 hi,.int .i64 st,.slice A0 P.length c0] 27)) 46 #[.int .u64 a,.slice A1 b.length c1,.slice A2 l.length c2]
 simp only [World.size_alloc] at q3
 have HKA := Lib.hid ka
 have HQ2 := Lib.hid q2
 have HQ3 := Lib.hid q3
 have HAL := Lib.hid (fun W => alone_any 1 a hkw A1 A2 b.length l.length c1 c2 W)
 rw [hal] at HAL
 clear ka q2 q3 hkw hal hf
 generalize mayR b.length lo hi st = r2 at HM ⊢
 go_enter Try.func66,Try.ntmps66
 go_upto_region 1 with fail
 generalize (w.alloc (.cells #[.int .i64 1,.int .i64 s,.int .i64 lo,.int .i64 hi,.int .i64 st,.slice A0 P.length c0] 27)).alloc (.cells #[.int .u64 a,.slice A1 b.length c1,.slice A2 l.length c2] 46) = W0 at HKA HQ2 HQ3 ⊢
 have x0 := HQ2.out.cell 0
 have x1 := HQ2.out.cell 1
 have x2 := HQ2.out.cell 2
 have x3 := HQ2.out.cell 3
 have x4 := HQ2.out.cell 4
 have x5 := HQ2.out.cell 5
 have y0 := HQ3.out.cell 0
 have y1 := HQ3.out.cell 1
 have y2 := HQ3.out.cell 2
 simp at x0 x1 x2 x3 x4 x5 y0 y1 y2
 go_wp2_with fail
 refine (HAL.out W0).mono ?_
 rintro e w1 ⟨rfl,hk1⟩
 have HK1 := Lib.hid (HKA.out.then_ hk1 (fun _ h => h.elim))
 have q2 := HQ2.out.kp hk1 (fun h => h)
 have q3 := HQ3.out.kp hk1 (fun h => h)
 clear x0 x1 x2 x3 x4 x5 y0 y1 y2 hk1 HAL HKA HQ2 HQ3
 have HQ2 := Lib.hid q2
 have HQ3 := Lib.hid q3
 clear q2 q3
 have x0 := HQ2.out.cell 0
 have x1 := HQ2.out.cell 1
 have x2 := HQ2.out.cell 2
 have x3 := HQ2.out.cell 3
 have x4 := HQ2.out.cell 4
 have x5 := HQ2.out.cell 5
 have y0 := HQ3.out.cell 0
 have y1 := HQ3.out.cell 1
 have y2 := HQ3.out.cell 2
 simp at x0 x1 x2 x3 x4 x5 y0 y1 y2
 go_upto_region 9 with fail
 go_quiet ((go_at_call 71;exact Calls.quiet_of_same (HM.out _)))
 have HK2 := Lib.hid (HK1.out.drewN nq)
 clear HK1
 go_wp2_with fail
 go_ret2
 exact ⟨rfl,HK2.out⟩

set_option maxHeartbeats 3200000 in
theorem vfit_rest (ok : Nat → Prop) (s lo hi st : Int) (P : List Fm) (a : Int) (b : List UInt8) (l : List Vt) (A0 A1 A2 : Option Addr) (c0 c1 c2 : Nat) (w : World) (hf : FmR w ok (.agg #[.int .i64 4,.int .i64 s,.int .i64 lo,.int .i64 hi,.int .i64 st,.slice A0 P.length c0]) (.mk ⟨4,s,lo,hi,st⟩ P)) (hal : aloneB 4 a b.length l.length = true) :
  Calls Try.prog 66 #[.agg #[.int .i64 4,.int .i64 s,.int .i64 lo,.int .i64 hi,.int .i64 st,.slice A0 P.length c0],.agg #[.int .u64 a,.slice A1 b.length c1,.slice A2 l.length c2]] w fun e w' => e = .returned (.tuple #[.int .i64 (b.length : Int),.int .i64 (mayR b.length lo hi 1)]) ∧ Kp (fun _ => False) w w' := by
 have HM := Lib.hid (fun W => vmay_any b.length lo hi 1 (by decide) W)
 have hkw : (Lit.int .i64 4).wf = true := i64_wf6 hf.wf_k
 have ka : Kp (fun _ => False) w ((w.alloc (.cells #[.int .i64 4,.int .i64 s,.int .i64 lo,.int .i64 hi,.int .i64 st,.slice A0 P.length c0] 27)).alloc (.cells #[.int .u64 a,.slice A1 b.length c1,.slice A2 l.length c2] 46)) := ((Kp.refl _ w).alloc _).alloc _
 have q2 := (Blk.new w 27 #[.int .i64 4,.int .i64 s,.int .i64 lo,.int .i64 hi,.int .i64 st,.slice A0 P.length c0]).alloc (.cells #[.int .u64 a,.slice A1 b.length c1,.slice A2 l.length c2] 46)
 have q3 := Blk.new (w.alloc (.cells #[.int .i64 4,.int .i64 s,.int .i64 lo,.int .i64 hi,.int .i64 st,.slice A0 P.length c0] 27)) 46 #[.int .u64 a,.slice A1 b.length c1,.slice A2 l.length c2]
 simp only [World.size_alloc] at q3
 have HKA := Lib.hid ka
 have HQ2 := Lib.hid q2
 have HQ3 := Lib.hid q3
 have HAL := Lib.hid (fun W => alone_any 4 a hkw A1 A2 b.length l.length c1 c2 W)
 rw [hal] at HAL
 clear ka q2 q3 hkw hal hf
 generalize mayR b.length lo hi 1 = r2 at HM ⊢
 go_enter Try.func66,Try.ntmps66
 go_upto_region 1 with fail
 generalize (w.alloc (.cells #[.int .i64 4,.int .i64 s,.int .i64 lo,.int .i64 hi,.int .i64 st,.slice A0 P.length c0] 27)).alloc (.cells #[.int .u64 a,.slice A1 b.length c1,.slice A2 l.length c2] 46) = W0 at HKA HQ2 HQ3 ⊢
 have x0 := HQ2.out.cell 0
 have x1 := HQ2.out.cell 1
 have x2 := HQ2.out.cell 2
 have x3 := HQ2.out.cell 3
 have x4 := HQ2.out.cell 4
 have x5 := HQ2.out.cell 5
 have y0 := HQ3.out.cell 0
 have y1 := HQ3.out.cell 1
 have y2 := HQ3.out.cell 2
 simp at x0 x1 x2 x3 x4 x5 y0 y1 y2
 go_wp2_with fail
 refine (HAL.out W0).mono ?_
 rintro e w1 ⟨rfl,hk1⟩
 have HK1 := Lib.hid (HKA.out.then_ hk1 (fun _ h => h.elim))
 have q2 := HQ2.out.kp hk1 (fun h => h)
 have q3 := HQ3.out.kp hk1 (fun h => h)
 clear x0 x1 x2 x3 x4 x5 y0 y1 y2 hk1 HAL HKA HQ2 HQ3
 have HQ2 := Lib.hid q2
 have HQ3 := Lib.hid q3
 clear q2 q3
 have x0 := HQ2.out.cell 0
 have x1 := HQ2.out.cell 1
 have x2 := HQ2.out.cell 2
 have x3 := HQ2.out.cell 3
 have x4 := HQ2.out.cell 4
 have x5 := HQ2.out.cell 5
 have y0 := HQ3.out.cell 0
 have y1 := HQ3.out.cell 1
 have y2 := HQ3.out.cell 2
 simp at x0 x1 x2 x3 x4 x5 y0 y1 y2
 go_upto_region 11 with fail
 go_quiet ((go_at_call 71;exact Calls.quiet_of_same (HM.out _)))
 have HK2 := Lib.hid (HK1.out.drewN nq)
 clear HK1
 go_wp2_with fail
 go_ret2
 exact ⟨rfl,HK2.out⟩

set_option maxHeartbeats 3200000 in
theorem vfit_fixed (ok : Nat → Prop) (s lo hi st : Int) (P : List Fm) (a : Int) (b : List UInt8) (l : List Vt) (A0 A1 A2 : Option Addr) (c0 c1 c2 : Nat) (w : World) (hf : FmR w ok (.agg #[.int .i64 5,.int .i64 s,.int .i64 lo,.int .i64 hi,.int .i64 st,.slice A0 P.length c0]) (.mk ⟨5,s,lo,hi,st⟩ P)) (hal : aloneB 5 a b.length l.length = true) :
  Calls Try.prog 66 #[.agg #[.int .i64 5,.int .i64 s,.int .i64 lo,.int .i64 hi,.int .i64 st,.slice A0 P.length c0],.agg #[.int .u64 a,.slice A1 b.length c1,.slice A2 l.length c2]] w fun e w' => e = .returned (.tuple #[.int .i64 lo,.int .i64 (mayR b.length lo lo 1)]) ∧ Kp (fun _ => False) w w' := by
 have HM := Lib.hid (fun W => vmay_any b.length lo lo 1 (by decide) W)
 have hkw : (Lit.int .i64 5).wf = true := i64_wf6 hf.wf_k
 have ka : Kp (fun _ => False) w ((w.alloc (.cells #[.int .i64 5,.int .i64 s,.int .i64 lo,.int .i64 hi,.int .i64 st,.slice A0 P.length c0] 27)).alloc (.cells #[.int .u64 a,.slice A1 b.length c1,.slice A2 l.length c2] 46)) := ((Kp.refl _ w).alloc _).alloc _
 have q2 := (Blk.new w 27 #[.int .i64 5,.int .i64 s,.int .i64 lo,.int .i64 hi,.int .i64 st,.slice A0 P.length c0]).alloc (.cells #[.int .u64 a,.slice A1 b.length c1,.slice A2 l.length c2] 46)
 have q3 := Blk.new (w.alloc (.cells #[.int .i64 5,.int .i64 s,.int .i64 lo,.int .i64 hi,.int .i64 st,.slice A0 P.length c0] 27)) 46 #[.int .u64 a,.slice A1 b.length c1,.slice A2 l.length c2]
 simp only [World.size_alloc] at q3
 have HKA := Lib.hid ka
 have HQ2 := Lib.hid q2
 have HQ3 := Lib.hid q3
 have HAL := Lib.hid (fun W => alone_any 5 a hkw A1 A2 b.length l.length c1 c2 W)
 rw [hal] at HAL
 clear ka q2 q3 hkw hal hf
 generalize mayR b.length lo lo 1 = r2 at HM ⊢
 go_enter Try.func66,Try.ntmps66
 go_upto_region 1 with fail
 generalize (w.alloc (.cells #[.int .i64 5,.int .i64 s,.int .i64 lo,.int .i64 hi,.int .i64 st,.slice A0 P.length c0] 27)).alloc (.cells #[.int .u64 a,.slice A1 b.length c1,.slice A2 l.length c2] 46) = W0 at HKA HQ2 HQ3 ⊢
 have x0 := HQ2.out.cell 0
 have x1 := HQ2.out.cell 1
 have x2 := HQ2.out.cell 2
 have x3 := HQ2.out.cell 3
 have x4 := HQ2.out.cell 4
 have x5 := HQ2.out.cell 5
 have y0 := HQ3.out.cell 0
 have y1 := HQ3.out.cell 1
 have y2 := HQ3.out.cell 2
 simp at x0 x1 x2 x3 x4 x5 y0 y1 y2
 go_wp2_with fail
 refine (HAL.out W0).mono ?_
 rintro e w1 ⟨rfl,hk1⟩
 have HK1 := Lib.hid (HKA.out.then_ hk1 (fun _ h => h.elim))
 have q2 := HQ2.out.kp hk1 (fun h => h)
 have q3 := HQ3.out.kp hk1 (fun h => h)
 clear x0 x1 x2 x3 x4 x5 y0 y1 y2 hk1 HAL HKA HQ2 HQ3
 have HQ2 := Lib.hid q2
 have HQ3 := Lib.hid q3
 clear q2 q3
 have x0 := HQ2.out.cell 0
 have x1 := HQ2.out.cell 1
 have x2 := HQ2.out.cell 2
 have x3 := HQ2.out.cell 3
 have x4 := HQ2.out.cell 4
 have x5 := HQ2.out.cell 5
 have y0 := HQ3.out.cell 0
 have y1 := HQ3.out.cell 1
 have y2 := HQ3.out.cell 2
 simp at x0 x1 x2 x3 x4 x5 y0 y1 y2
 go_upto_region 13 with fail
 go_quiet ((go_at_call 71;exact Calls.quiet_of_same (HM.out _)))
 have HK2 := Lib.hid (HK1.out.drewN nq)
 clear HK1
 go_wp2_with fail
 go_ret2
 exact ⟨rfl,HK2.out⟩

/-- What fitting tells of a form. -/
def FitC (f : Fm) : Prop := ∀ (ok ok2 : Nat → Prop) (x : Vt) (fv vv : Value) (w : World),FmR w ok fv f → VtR w ok2 vv x →
 Calls Try.prog 66 #[fv,vv] w fun e w' => e = .returned (.tuple #[.int .i64 (fitR f x).1,.int .i64 (fitR f x).2]) ∧ Kp (fun _ => False) w w'

set_option maxHeartbeats 3200000 in
theorem vfit_len (ok : Nat → Prop) (s lo hi st : Int) (P : List Fm) (a : Int) (b : List UInt8) (l : List Vt) (A0 A1 A2 : Option Addr) (c0 c1 c2 : Nat) (w : World) (hf : FmR w ok (.agg #[.int .i64 3,.int .i64 s,.int .i64 lo,.int .i64 hi,.int .i64 st,.slice A0 P.length c0]) (.mk ⟨3,s,lo,hi,st⟩ P)) (hal : aloneB 3 a b.length l.length = true) (hne : l.length ≠ P.length) :
  Calls Try.prog 66 #[.agg #[.int .i64 3,.int .i64 s,.int .i64 lo,.int .i64 hi,.int .i64 st,.slice A0 P.length c0],.agg #[.int .u64 a,.slice A1 b.length c1,.slice A2 l.length c2]] w fun e w' => e = .returned (.tuple #[.int .i64 0,.int .i64 15]) ∧ Kp (fun _ => False) w w' := by
 have hd : ((l.length : Int) != (P.length : Int)) = true := by simp;omega
 have hkw : (Lit.int .i64 3).wf = true := i64_wf6 hf.wf_k
 have ka : Kp (fun _ => False) w ((w.alloc (.cells #[.int .i64 3,.int .i64 s,.int .i64 lo,.int .i64 hi,.int .i64 st,.slice A0 P.length c0] 27)).alloc (.cells #[.int .u64 a,.slice A1 b.length c1,.slice A2 l.length c2] 46)) := ((Kp.refl _ w).alloc _).alloc _
 have q2 := (Blk.new w 27 #[.int .i64 3,.int .i64 s,.int .i64 lo,.int .i64 hi,.int .i64 st,.slice A0 P.length c0]).alloc (.cells #[.int .u64 a,.slice A1 b.length c1,.slice A2 l.length c2] 46)
 have q3 := Blk.new (w.alloc (.cells #[.int .i64 3,.int .i64 s,.int .i64 lo,.int .i64 hi,.int .i64 st,.slice A0 P.length c0] 27)) 46 #[.int .u64 a,.slice A1 b.length c1,.slice A2 l.length c2]
 simp only [World.size_alloc] at q3
 have HKA := Lib.hid ka
 have HQ2 := Lib.hid q2
 have HQ3 := Lib.hid q3
 have HAL := Lib.hid (fun W => alone_any 3 a hkw A1 A2 b.length l.length c1 c2 W)
 rw [hal] at HAL
 clear ka q2 q3 hkw hal hf
 clear hne
 go_enter Try.func66,Try.ntmps66
 go_upto_region 1 with fail
 generalize (w.alloc (.cells #[.int .i64 3,.int .i64 s,.int .i64 lo,.int .i64 hi,.int .i64 st,.slice A0 P.length c0] 27)).alloc (.cells #[.int .u64 a,.slice A1 b.length c1,.slice A2 l.length c2] 46) = W0 at HKA HQ2 HQ3 ⊢
 have x0 := HQ2.out.cell 0
 have x1 := HQ2.out.cell 1
 have x2 := HQ2.out.cell 2
 have x3 := HQ2.out.cell 3
 have x4 := HQ2.out.cell 4
 have x5 := HQ2.out.cell 5
 have y0 := HQ3.out.cell 0
 have y1 := HQ3.out.cell 1
 have y2 := HQ3.out.cell 2
 simp at x0 x1 x2 x3 x4 x5 y0 y1 y2
 go_wp2_with fail
 refine (HAL.out W0).mono ?_
 rintro e w1 ⟨rfl,hk1⟩
 have HK1 := Lib.hid (HKA.out.then_ hk1 (fun _ h => h.elim))
 have q2 := HQ2.out.kp hk1 (fun h => h)
 have q3 := HQ3.out.kp hk1 (fun h => h)
 clear x0 x1 x2 x3 x4 x5 y0 y1 y2 hk1 HAL HKA HQ2 HQ3
 have HQ2 := Lib.hid q2
 have HQ3 := Lib.hid q3
 clear q2 q3
 have x0 := HQ2.out.cell 0
 have x1 := HQ2.out.cell 1
 have x2 := HQ2.out.cell 2
 have x3 := HQ2.out.cell 3
 have x4 := HQ2.out.cell 4
 have x5 := HQ2.out.cell 5
 have y0 := HQ3.out.cell 0
 have y1 := HQ3.out.cell 1
 have y2 := HQ3.out.cell 2
 simp at x0 x1 x2 x3 x4 x5 y0 y1 y2
 go_wp2_with fail
 go_ret2
 exact ⟨rfl,HK1.out⟩

set_option maxHeartbeats 6400000 in
theorem vfit_all2 (ok : Nat → Prop) (s lo hi st : Int) (P : List Fm) (a : Int) (b : List UInt8) (l : List Vt) (A0 A1 A2 : Option Addr) (c0 c1 c2 : Nat) (w : World) (hf : FmR w ok (.agg #[.int .i64 2,.int .i64 s,.int .i64 lo,.int .i64 hi,.int .i64 st,.slice A0 P.length c0]) (.mk ⟨2,s,lo,hi,st⟩ P)) (ok2 : Nat → Prop) (hv : VtR w ok2 (.agg #[.int .u64 a,.slice A1 b.length c1,.slice A2 l.length c2]) (.mk ⟨a,b⟩ l)) (hal : aloneB 2 a b.length l.length = true) (hst : st ≠ 0) (hC : ∀ y ∈ P,FitC y) (hP : 0 < l.length → 0 < P.length) :
  Calls Try.prog 66 #[.agg #[.int .i64 2,.int .i64 s,.int .i64 lo,.int .i64 hi,.int .i64 st,.slice A0 P.length c0],.agg #[.int .u64 a,.slice A1 b.length c1,.slice A2 l.length c2]] w fun e w' => e = .returned (.tuple #[.int .i64 (fitL (.mk ⟨2,s,lo,hi,st⟩ P) 0 0 l).1,.int .i64 (fitL (.mk ⟨2,s,lo,hi,st⟩ P) 0 0 l).2]) ∧ Kp (fun _ => False) w w' := by
 have hl : VsR w ok2 (.slice A2 l.length c2) l := by
  obtain ⟨A1',c1',A2',c2',e,_,_,_,_,_,_,h⟩ := hv.parts
  simp at e
  obtain ⟨_,rfl,rfl⟩ := e
  exact h
 obtain ⟨hl0,hl1,hl2⟩ := hl.len
 have hfs := hf.here6
 have HL := Lib.hid (fun W (hk : Kp (fun _ => False) w W) => hl.kp hk (fun _ _ h => h))
 have HF := Lib.hid (fun W (hk : Kp (fun _ => False) w W) => hfs.kp hk (fun _ _ h => h))
 have HC := Lib.hid hC
 have HP := Lib.hid hP
 have hkw : (Lit.int .i64 2).wf = true := i64_wf6 hf.wf_k
 have ka : Kp (fun _ => False) w ((w.alloc (.cells #[.int .i64 2,.int .i64 s,.int .i64 lo,.int .i64 hi,.int .i64 st,.slice A0 P.length c0] 27)).alloc (.cells #[.int .u64 a,.slice A1 b.length c1,.slice A2 l.length c2] 46)) := ((Kp.refl _ w).alloc _).alloc _
 have q2 := (Blk.new w 27 #[.int .i64 2,.int .i64 s,.int .i64 lo,.int .i64 hi,.int .i64 st,.slice A0 P.length c0]).alloc (.cells #[.int .u64 a,.slice A1 b.length c1,.slice A2 l.length c2] 46)
 have q3 := Blk.new (w.alloc (.cells #[.int .i64 2,.int .i64 s,.int .i64 lo,.int .i64 hi,.int .i64 st,.slice A0 P.length c0] 27)) 46 #[.int .u64 a,.slice A1 b.length c1,.slice A2 l.length c2]
 simp only [World.size_alloc] at q3
 have HKA := Lib.hid ka
 have HQ2 := Lib.hid q2
 have HQ3 := Lib.hid q3
 have HAL := Lib.hid (fun W => alone_any 2 a hkw A1 A2 b.length l.length c1 c2 W)
 rw [hal] at HAL
 clear ka q2 q3 hkw hal hf hl hl0 hv hfs hC hP
 obtain ⟨r,hr⟩ : ∃ r,fitL (.mk ⟨2,s,lo,hi,st⟩ P) 0 0 l = r := ⟨_,rfl⟩
 have HR := Lib.hid hr
 rw [hr]
 clear hr
 go_enter Try.func66,Try.ntmps66
 go_upto_region 1 with fail
 generalize (w.alloc (.cells #[.int .i64 2,.int .i64 s,.int .i64 lo,.int .i64 hi,.int .i64 st,.slice A0 P.length c0] 27)).alloc (.cells #[.int .u64 a,.slice A1 b.length c1,.slice A2 l.length c2] 46) = W0 at HKA HQ2 HQ3 ⊢
 have x0 := HQ2.out.cell 0
 have x1 := HQ2.out.cell 1
 have x2 := HQ2.out.cell 2
 have x3 := HQ2.out.cell 3
 have x4 := HQ2.out.cell 4
 have x5 := HQ2.out.cell 5
 have y0 := HQ3.out.cell 0
 have y1 := HQ3.out.cell 1
 have y2 := HQ3.out.cell 2
 simp at x0 x1 x2 x3 x4 x5 y0 y1 y2
 go_wp2_with fail
 refine (HAL.out W0).mono ?_
 rintro e w1 ⟨rfl,hk1⟩
 have HK1 := Lib.hid (HKA.out.then_ hk1 (fun _ h => h.elim))
 have q2 := HQ2.out.kp hk1 (fun h => h)
 have q3 := HQ3.out.kp hk1 (fun h => h)
 clear x0 x1 x2 x3 x4 x5 y0 y1 y2 hk1 HAL HKA HQ2 HQ3
 have HQ2 := Lib.hid q2
 have HQ3 := Lib.hid q3
 clear q2 q3
 have x0 := HQ2.out.cell 0
 have x1 := HQ2.out.cell 1
 have x2 := HQ2.out.cell 2
 have x3 := HQ2.out.cell 3
 have x4 := HQ2.out.cell 4
 have x5 := HQ2.out.cell 5
 have y0 := HQ3.out.cell 0
 have y1 := HQ3.out.cell 1
 have y2 := HQ3.out.cell 2
 simp at x0 x1 x2 x3 x4 x5 y0 y1 y2
 go_upto_region 18 with fail
 go_loopw [6,92] (fun qv i wr => ∃ (j : Nat) (q : Int),j ≤ l.length ∧ i = .int .i64 j ∧ qv = .int .i64 q ∧ r = fitL (.mk ⟨2,s,lo,hi,st⟩ P) q j (l.drop j) ∧ Kp (fun _ => False) w1 wr) (fun _ i _ => l.length - (intOf i).toNat)
 case atStart => exact ⟨0,0,Nat.zero_le _,rfl,rfl,HR.out.symm,Kp.refl _ _⟩
 case round =>
  obtain ⟨j,q,hj,rfl,rfl,he,hkr⟩ := hrel
  have HE := Lib.hid he
  have HKR := Lib.hid hkr
  have HKW := Lib.hid (HK1.out.then_ hkr (fun _ h => h.elim))
  have q2 := HQ2.out.kp hkr (fun h => h)
  have q3 := HQ3.out.kp hkr (fun h => h)
  have HQ4 := Lib.hid q2
  have HQ5 := Lib.hid q3
  clear he hkr q2 q3 x0 x1 x2 x3 x4 x5 y0 y1 y2
  by_cases hlt : j < l.length
  ·have hP0 : 0 < P.length := HP.out (by omega)
   obtain ⟨p,hp,hpe⟩ : ∃ p,p < P.length ∧ j % P.length = p := ⟨_,Nat.mod_lt _ hP0,rfl⟩
   have hstep := fitL_step ⟨2,s,lo,hi,st⟩ P q l j hlt p hp hpe
   have hmod : ((j : Int)).tmod (P.length : Int) = (p : Int) := by rw [Int.tmod_eq_emod_of_nonneg (by omega),← hpe];rfl
   obtain ⟨bo,off,A3,c3,A4,c4,rfl,hob,hvx,x0,x1,x2⟩ := (HL.out wr HKW.out).at_ hlt
   have hmem : P[p] ∈ P := List.getElem_mem hp
   have HLC := Lib.hid (HC.out _ hmem)
   have HS := Lib.hid (show r = if (fitR P[p] l[j]).2 = 0 then fitL (.mk ⟨2,s,lo,hi,st⟩ P) (wrap64 (q + (fitR P[p] l[j]).1)) (j + 1) (l.drop (j + 1)) else (0,(fitR P[p] l[j]).2) from HE.out.trans hstep)
   have HVX := Lib.hid hvx
   have hi0 : (0 : Int) ≤ (j : Int) := by omega
   have hi1 : (j : Int) < (l.length : Int) := by omega
   clear hvx hmem hstep hpe HE
   go_upto_region 20 with fail
   have hk5 : Kp (fun _ => False) wr (wr.alloc (.cells #[.int .u64 (l[j]).a.n,.slice A3 (l[j]).a.b.length c3,.slice A4 (l[j]).l.length c4] 46)) := (Kp.refl _ wr).alloc _
   have hq8 := Blk.new wr 46 #[.int .u64 (l[j]).a.n,.slice A3 (l[j]).a.b.length c3,.slice A4 (l[j]).l.length c4]
   have hv5 := VtR.kp HVX.out hk5 (fun _ _ h => h)
   generalize wr.alloc (.cells #[.int .u64 (l[j]).a.n,.slice A3 (l[j]).a.b.length c3,.slice A4 (l[j]).l.length c4] 46) = W5 at hk5 hq8 hv5 ⊢
   generalize wr.heap.size = b8 at hq8 ⊢
   have HK5 := Lib.hid (HKR.out.then_ hk5 (fun _ h => h.elim))
   have HQ6 := Lib.hid (HQ4.out.kp hk5 (fun h => h))
   have HQ7 := Lib.hid (HQ5.out.kp hk5 (fun h => h))
   have HV5 := Lib.hid hv5
   have hkw := HKW.out.then_ hk5 (fun _ h => h.elim)
   clear x0 x1 x2 hk5 hv5 HVX HKR HKW HQ4 HQ5
   obtain ⟨bp,offp,A5,c5,rfl,hop,hfp,p0,p1,p2,p3,p4,p5⟩ := (HF.out W5 hkw).at_ hp
   have HFP := Lib.hid hfp
   have g5 := HQ6.out.cell 5
   have y0 := hq8.cell 0
   have y1 := hq8.cell 1
   have y2 := hq8.cell 2
   simp at g5 y0 y1 y2
   generalize hpq : P[p] = pq at hfp HFP p0 p1 p2 p3 p4 p5 HLC HS
   clear hfp hkw hq8 hpq
   have hpne : ¬ P = [] := fun h => by rw [h] at hP0;simp at hP0
   have hpl : (P.length : Int) ≠ 0 := by omega
   have hq0 : (0 : Int) ≤ (p : Int) := by omega
   have hq1 : (p : Int) < (P.length : Int) := by omega
   have HCE := Lib.hid (fun W (hk : Kp (fun _ => False) W5 W) => show (fun w' : World => w'.cell? ⟨w.heap.size,5,none⟩ = some (.slice (some ⟨bp,offp,none⟩) P.length c0) ∧ w'.cell? ⟨b8,0,none⟩ = some (.int .u64 (l[j]).a.n) ∧ w'.cell? ⟨b8,1,none⟩ = some (.slice A3 (l[j]).a.b.length c3) ∧ w'.cell? ⟨b8,2,none⟩ = some (.slice A4 (l[j]).l.length c4) ∧
    w'.cell? ⟨bp,offp + p * 6,none⟩ = some (.int .i64 pq.a.k) ∧ w'.cell? ⟨bp,offp + p * 6 + 1,none⟩ = some (.int .i64 pq.a.s) ∧ w'.cell? ⟨bp,offp + p * 6 + 2,none⟩ = some (.int .i64 pq.a.lo) ∧ w'.cell? ⟨bp,offp + p * 6 + 3,none⟩ = some (.int .i64 pq.a.hi) ∧ w'.cell? ⟨bp,offp + p * 6 + 4,none⟩ = some (.int .i64 pq.a.st) ∧ w'.cell? ⟨bp,offp + p * 6 + 5,none⟩ = some (.slice A5 pq.l.length c5)) W from
    ⟨hk.cell g5 (fun h => h),hk.cell y0 (fun h => h),hk.cell y1 (fun h => h),hk.cell y2 (fun h => h),hk.cell p0 (fun h => h),hk.cell p1 (fun h => h),hk.cell p2 (fun h => h),hk.cell p3 (fun h => h),hk.cell p4 (fun h => h),hk.cell p5 (fun h => h)⟩)
   have HLD := Lib.hid (fun W (hk : Kp (fun _ => False) W5 W) => HLC.out _ _ l[j] _ _ W (FmR.kp HFP.out hk (fun _ _ h => h)) (VtR.kp HV5.out hk (fun _ _ h => h)))
   have HKZ := Lib.hid (Kp.refl (fun _ => False) W5)
   clear g5 y0 y1 y2 p0 p1 p2 p3 p4 p5 HFP HV5 HLC
   obtain ⟨⟨kv,ev⟩,hke⟩ : ∃ r,fitR pq l[j] = r := ⟨_,rfl⟩
   rw [hke] at HLD HS
   clear hke
   go_cut [9,10] (fun c d wx => c = .int .i64 kv ∧ d = .int .i64 ev ∧ Kp (fun _ => False) W5 wx)
   case first =>
    go_region_held3 (fun w' => w'.cell? ⟨w.heap.size,5,none⟩ = some (.slice (some ⟨bp,offp,none⟩) P.length c0) ∧ w'.cell? ⟨b8,0,none⟩ = some (.int .u64 (l[j]).a.n) ∧ w'.cell? ⟨b8,1,none⟩ = some (.slice A3 (l[j]).a.b.length c3) ∧ w'.cell? ⟨b8,2,none⟩ = some (.slice A4 (l[j]).l.length c4) ∧
     w'.cell? ⟨bp,offp + p * 6,none⟩ = some (.int .i64 pq.a.k) ∧ w'.cell? ⟨bp,offp + p * 6 + 1,none⟩ = some (.int .i64 pq.a.s) ∧ w'.cell? ⟨bp,offp + p * 6 + 2,none⟩ = some (.int .i64 pq.a.lo) ∧ w'.cell? ⟨bp,offp + p * 6 + 3,none⟩ = some (.int .i64 pq.a.hi) ∧ w'.cell? ⟨bp,offp + p * 6 + 4,none⟩ = some (.int .i64 pq.a.st) ∧ w'.cell? ⟨bp,offp + p * 6 + 5,none⟩ = some (.slice A5 pq.l.length c5)) (first | exact HCE.out _ HKZ.out | exact HCE.out _ HKZ.out.drew) (first | (go_at_call 66;refine (HLD.out _ (by first | exact HKZ.out | exact HKZ.out.drew)).mono ?_;rintro e w5 ⟨rfl,hk5⟩;have hq := Kp.then_ (a := W5) (S := fun _ => False) (by first | exact HKZ.out | exact HKZ.out.drew) hk5 (fun _ h => h.elim);clear HKZ;have HKZ := Lib.hid hq;clear hq hk5))
    go_wp2_with fail
    go_meet
    exact ⟨rfl,rfl,HKZ.out⟩
   case rest =>
   obtain ⟨rfl,rfl,hkc⟩ := hcut
   have HK7 := Lib.hid (HK5.out.then_ hkc (fun _ h => h.elim))
   clear hkc HCE HLD HKZ hpne hmod HQ6 HQ7
   by_cases hev : ev = 0
   ·subst hev
    have HS2 := Lib.hid (show r = fitL (.mk ⟨2,s,lo,hi,st⟩ P) (wrap64 (q + kv)) (j + 1) (l.drop (j + 1)) from by have := HS.out;rwa [if_pos rfl] at this)
    clear HS
    go_wp2_with fail
    go_roundw
    case rel => exact ⟨j + 1,_,by omega,by go_num,rfl,HS2.out,HK7.out⟩
    case measure => simp [intOf];omega
   ·have t0 : (ev != 0) = true := by simpa using hev
    have hS := HS.out
    simp only [if_neg hev] at hS
    subst hS
    have HK8 := Lib.hid (HK1.out.then_ HK7.out (fun _ h => h.elim))
    clear HS HR HK7
    go_wp2_with fail
    go_ret2
    exact ⟨rfl,HK8.out⟩
  ·obtain rfl : j = l.length := by omega
   have hE := HE.out
   rw [List.drop_length,fitL_nil] at hE
   simp at hE
   subst hE
   have x0 := HQ4.out.cell 0
   have x1 := HQ4.out.cell 1
   have x2 := HQ4.out.cell 2
   have x3 := HQ4.out.cell 3
   have x4 := HQ4.out.cell 4
   simp at x0 x1 x2 x3 x4
   clear HE HR
   have HM := Lib.hid (fun W => vmay_any q lo hi st hst W)
   go_upto_region 27 with fail
   go_quiet ((go_at_call 71;exact Calls.quiet_of_same (HM.out _)))
   have HK2 := Lib.hid (HKW.out.drewN nq)
   go_wp2_with fail
   go_ret2
   exact ⟨rfl,HK2.out⟩

set_option maxHeartbeats 6400000 in
theorem vfit_all3 (ok : Nat → Prop) (s lo hi st : Int) (P : List Fm) (a : Int) (b : List UInt8) (l : List Vt) (A0 A1 A2 : Option Addr) (c0 c1 c2 : Nat) (w : World) (hf : FmR w ok (.agg #[.int .i64 3,.int .i64 s,.int .i64 lo,.int .i64 hi,.int .i64 st,.slice A0 P.length c0]) (.mk ⟨3,s,lo,hi,st⟩ P)) (ok2 : Nat → Prop) (hv : VtR w ok2 (.agg #[.int .u64 a,.slice A1 b.length c1,.slice A2 l.length c2]) (.mk ⟨a,b⟩ l)) (hal : aloneB 3 a b.length l.length = true) (hlen : l.length = P.length) (hC : ∀ y ∈ P,FitC y) (hP : 0 < l.length → 0 < P.length) :
  Calls Try.prog 66 #[.agg #[.int .i64 3,.int .i64 s,.int .i64 lo,.int .i64 hi,.int .i64 st,.slice A0 P.length c0],.agg #[.int .u64 a,.slice A1 b.length c1,.slice A2 l.length c2]] w fun e w' => e = .returned (.tuple #[.int .i64 (fitL (.mk ⟨3,s,lo,hi,st⟩ P) 0 0 l).1,.int .i64 (fitL (.mk ⟨3,s,lo,hi,st⟩ P) 0 0 l).2]) ∧ Kp (fun _ => False) w w' := by
 have hd : ((l.length : Int) != (P.length : Int)) = false := by simp;omega
 have hl : VsR w ok2 (.slice A2 l.length c2) l := by
  obtain ⟨A1',c1',A2',c2',e,_,_,_,_,_,_,h⟩ := hv.parts
  simp at e
  obtain ⟨_,rfl,rfl⟩ := e
  exact h
 obtain ⟨hl0,hl1,hl2⟩ := hl.len
 have hfs := hf.here6
 have HL := Lib.hid (fun W (hk : Kp (fun _ => False) w W) => hl.kp hk (fun _ _ h => h))
 have HF := Lib.hid (fun W (hk : Kp (fun _ => False) w W) => hfs.kp hk (fun _ _ h => h))
 have HC := Lib.hid hC
 have HP := Lib.hid hP
 have hkw : (Lit.int .i64 3).wf = true := i64_wf6 hf.wf_k
 have ka : Kp (fun _ => False) w ((w.alloc (.cells #[.int .i64 3,.int .i64 s,.int .i64 lo,.int .i64 hi,.int .i64 st,.slice A0 P.length c0] 27)).alloc (.cells #[.int .u64 a,.slice A1 b.length c1,.slice A2 l.length c2] 46)) := ((Kp.refl _ w).alloc _).alloc _
 have q2 := (Blk.new w 27 #[.int .i64 3,.int .i64 s,.int .i64 lo,.int .i64 hi,.int .i64 st,.slice A0 P.length c0]).alloc (.cells #[.int .u64 a,.slice A1 b.length c1,.slice A2 l.length c2] 46)
 have q3 := Blk.new (w.alloc (.cells #[.int .i64 3,.int .i64 s,.int .i64 lo,.int .i64 hi,.int .i64 st,.slice A0 P.length c0] 27)) 46 #[.int .u64 a,.slice A1 b.length c1,.slice A2 l.length c2]
 simp only [World.size_alloc] at q3
 have HKA := Lib.hid ka
 have HQ2 := Lib.hid q2
 have HQ3 := Lib.hid q3
 have HAL := Lib.hid (fun W => alone_any 3 a hkw A1 A2 b.length l.length c1 c2 W)
 rw [hal] at HAL
 clear ka q2 q3 hkw hal hf hl hl0 hv hfs hC hP
 clear hlen
 obtain ⟨r,hr⟩ : ∃ r,fitL (.mk ⟨3,s,lo,hi,st⟩ P) 0 0 l = r := ⟨_,rfl⟩
 have HR := Lib.hid hr
 rw [hr]
 clear hr
 go_enter Try.func66,Try.ntmps66
 go_upto_region 1 with fail
 generalize (w.alloc (.cells #[.int .i64 3,.int .i64 s,.int .i64 lo,.int .i64 hi,.int .i64 st,.slice A0 P.length c0] 27)).alloc (.cells #[.int .u64 a,.slice A1 b.length c1,.slice A2 l.length c2] 46) = W0 at HKA HQ2 HQ3 ⊢
 have x0 := HQ2.out.cell 0
 have x1 := HQ2.out.cell 1
 have x2 := HQ2.out.cell 2
 have x3 := HQ2.out.cell 3
 have x4 := HQ2.out.cell 4
 have x5 := HQ2.out.cell 5
 have y0 := HQ3.out.cell 0
 have y1 := HQ3.out.cell 1
 have y2 := HQ3.out.cell 2
 simp at x0 x1 x2 x3 x4 x5 y0 y1 y2
 go_wp2_with fail
 refine (HAL.out W0).mono ?_
 rintro e w1 ⟨rfl,hk1⟩
 have HK1 := Lib.hid (HKA.out.then_ hk1 (fun _ h => h.elim))
 have q2 := HQ2.out.kp hk1 (fun h => h)
 have q3 := HQ3.out.kp hk1 (fun h => h)
 clear x0 x1 x2 x3 x4 x5 y0 y1 y2 hk1 HAL HKA HQ2 HQ3
 have HQ2 := Lib.hid q2
 have HQ3 := Lib.hid q3
 clear q2 q3
 have x0 := HQ2.out.cell 0
 have x1 := HQ2.out.cell 1
 have x2 := HQ2.out.cell 2
 have x3 := HQ2.out.cell 3
 have x4 := HQ2.out.cell 4
 have x5 := HQ2.out.cell 5
 have y0 := HQ3.out.cell 0
 have y1 := HQ3.out.cell 1
 have y2 := HQ3.out.cell 2
 simp at x0 x1 x2 x3 x4 x5 y0 y1 y2
 go_upto_region 18 with fail
 go_loopw [6,92] (fun qv i wr => ∃ (j : Nat) (q : Int),j ≤ l.length ∧ i = .int .i64 j ∧ qv = .int .i64 q ∧ r = fitL (.mk ⟨3,s,lo,hi,st⟩ P) q j (l.drop j) ∧ Kp (fun _ => False) w1 wr) (fun _ i _ => l.length - (intOf i).toNat)
 case atStart => exact ⟨0,0,Nat.zero_le _,rfl,rfl,HR.out.symm,Kp.refl _ _⟩
 case round =>
  obtain ⟨j,q,hj,rfl,rfl,he,hkr⟩ := hrel
  have HE := Lib.hid he
  have HKR := Lib.hid hkr
  have HKW := Lib.hid (HK1.out.then_ hkr (fun _ h => h.elim))
  have q2 := HQ2.out.kp hkr (fun h => h)
  have q3 := HQ3.out.kp hkr (fun h => h)
  have HQ4 := Lib.hid q2
  have HQ5 := Lib.hid q3
  clear he hkr q2 q3 x0 x1 x2 x3 x4 x5 y0 y1 y2
  by_cases hlt : j < l.length
  ·have hP0 : 0 < P.length := HP.out (by omega)
   obtain ⟨p,hp,hpe⟩ : ∃ p,p < P.length ∧ j % P.length = p := ⟨_,Nat.mod_lt _ hP0,rfl⟩
   have hstep := fitL_step ⟨3,s,lo,hi,st⟩ P q l j hlt p hp hpe
   have hmod : ((j : Int)).tmod (P.length : Int) = (p : Int) := by rw [Int.tmod_eq_emod_of_nonneg (by omega),← hpe];rfl
   obtain ⟨bo,off,A3,c3,A4,c4,rfl,hob,hvx,x0,x1,x2⟩ := (HL.out wr HKW.out).at_ hlt
   have hmem : P[p] ∈ P := List.getElem_mem hp
   have HLC := Lib.hid (HC.out _ hmem)
   have HS := Lib.hid (show r = if (fitR P[p] l[j]).2 = 0 then fitL (.mk ⟨3,s,lo,hi,st⟩ P) (wrap64 (q + (fitR P[p] l[j]).1)) (j + 1) (l.drop (j + 1)) else (0,(fitR P[p] l[j]).2) from HE.out.trans hstep)
   have HVX := Lib.hid hvx
   have hi0 : (0 : Int) ≤ (j : Int) := by omega
   have hi1 : (j : Int) < (l.length : Int) := by omega
   clear hvx hmem hstep hpe HE
   go_upto_region 20 with fail
   have hk5 : Kp (fun _ => False) wr (wr.alloc (.cells #[.int .u64 (l[j]).a.n,.slice A3 (l[j]).a.b.length c3,.slice A4 (l[j]).l.length c4] 46)) := (Kp.refl _ wr).alloc _
   have hq8 := Blk.new wr 46 #[.int .u64 (l[j]).a.n,.slice A3 (l[j]).a.b.length c3,.slice A4 (l[j]).l.length c4]
   have hv5 := VtR.kp HVX.out hk5 (fun _ _ h => h)
   generalize wr.alloc (.cells #[.int .u64 (l[j]).a.n,.slice A3 (l[j]).a.b.length c3,.slice A4 (l[j]).l.length c4] 46) = W5 at hk5 hq8 hv5 ⊢
   generalize wr.heap.size = b8 at hq8 ⊢
   have HK5 := Lib.hid (HKR.out.then_ hk5 (fun _ h => h.elim))
   have HQ6 := Lib.hid (HQ4.out.kp hk5 (fun h => h))
   have HQ7 := Lib.hid (HQ5.out.kp hk5 (fun h => h))
   have HV5 := Lib.hid hv5
   have hkw := HKW.out.then_ hk5 (fun _ h => h.elim)
   clear x0 x1 x2 hk5 hv5 HVX HKR HKW HQ4 HQ5
   obtain ⟨bp,offp,A5,c5,rfl,hop,hfp,p0,p1,p2,p3,p4,p5⟩ := (HF.out W5 hkw).at_ hp
   have HFP := Lib.hid hfp
   have g5 := HQ6.out.cell 5
   have y0 := hq8.cell 0
   have y1 := hq8.cell 1
   have y2 := hq8.cell 2
   simp at g5 y0 y1 y2
   generalize hpq : P[p] = pq at hfp HFP p0 p1 p2 p3 p4 p5 HLC HS
   clear hfp hkw hq8 hpq
   have hpne : ¬ P = [] := fun h => by rw [h] at hP0;simp at hP0
   have hpl : (P.length : Int) ≠ 0 := by omega
   have hq0 : (0 : Int) ≤ (p : Int) := by omega
   have hq1 : (p : Int) < (P.length : Int) := by omega
   have HCE := Lib.hid (fun W (hk : Kp (fun _ => False) W5 W) => show (fun w' : World => w'.cell? ⟨w.heap.size,5,none⟩ = some (.slice (some ⟨bp,offp,none⟩) P.length c0) ∧ w'.cell? ⟨b8,0,none⟩ = some (.int .u64 (l[j]).a.n) ∧ w'.cell? ⟨b8,1,none⟩ = some (.slice A3 (l[j]).a.b.length c3) ∧ w'.cell? ⟨b8,2,none⟩ = some (.slice A4 (l[j]).l.length c4) ∧
    w'.cell? ⟨bp,offp + p * 6,none⟩ = some (.int .i64 pq.a.k) ∧ w'.cell? ⟨bp,offp + p * 6 + 1,none⟩ = some (.int .i64 pq.a.s) ∧ w'.cell? ⟨bp,offp + p * 6 + 2,none⟩ = some (.int .i64 pq.a.lo) ∧ w'.cell? ⟨bp,offp + p * 6 + 3,none⟩ = some (.int .i64 pq.a.hi) ∧ w'.cell? ⟨bp,offp + p * 6 + 4,none⟩ = some (.int .i64 pq.a.st) ∧ w'.cell? ⟨bp,offp + p * 6 + 5,none⟩ = some (.slice A5 pq.l.length c5)) W from
    ⟨hk.cell g5 (fun h => h),hk.cell y0 (fun h => h),hk.cell y1 (fun h => h),hk.cell y2 (fun h => h),hk.cell p0 (fun h => h),hk.cell p1 (fun h => h),hk.cell p2 (fun h => h),hk.cell p3 (fun h => h),hk.cell p4 (fun h => h),hk.cell p5 (fun h => h)⟩)
   have HLD := Lib.hid (fun W (hk : Kp (fun _ => False) W5 W) => HLC.out _ _ l[j] _ _ W (FmR.kp HFP.out hk (fun _ _ h => h)) (VtR.kp HV5.out hk (fun _ _ h => h)))
   have HKZ := Lib.hid (Kp.refl (fun _ => False) W5)
   clear g5 y0 y1 y2 p0 p1 p2 p3 p4 p5 HFP HV5 HLC
   obtain ⟨⟨kv,ev⟩,hke⟩ : ∃ r,fitR pq l[j] = r := ⟨_,rfl⟩
   rw [hke] at HLD HS
   clear hke
   go_cut [9,10] (fun c d wx => c = .int .i64 kv ∧ d = .int .i64 ev ∧ Kp (fun _ => False) W5 wx)
   case first =>
    go_region_held3 (fun w' => w'.cell? ⟨w.heap.size,5,none⟩ = some (.slice (some ⟨bp,offp,none⟩) P.length c0) ∧ w'.cell? ⟨b8,0,none⟩ = some (.int .u64 (l[j]).a.n) ∧ w'.cell? ⟨b8,1,none⟩ = some (.slice A3 (l[j]).a.b.length c3) ∧ w'.cell? ⟨b8,2,none⟩ = some (.slice A4 (l[j]).l.length c4) ∧
     w'.cell? ⟨bp,offp + p * 6,none⟩ = some (.int .i64 pq.a.k) ∧ w'.cell? ⟨bp,offp + p * 6 + 1,none⟩ = some (.int .i64 pq.a.s) ∧ w'.cell? ⟨bp,offp + p * 6 + 2,none⟩ = some (.int .i64 pq.a.lo) ∧ w'.cell? ⟨bp,offp + p * 6 + 3,none⟩ = some (.int .i64 pq.a.hi) ∧ w'.cell? ⟨bp,offp + p * 6 + 4,none⟩ = some (.int .i64 pq.a.st) ∧ w'.cell? ⟨bp,offp + p * 6 + 5,none⟩ = some (.slice A5 pq.l.length c5)) (first | exact HCE.out _ HKZ.out | exact HCE.out _ HKZ.out.drew) (first | (go_at_call 66;refine (HLD.out _ (by first | exact HKZ.out | exact HKZ.out.drew)).mono ?_;rintro e w5 ⟨rfl,hk5⟩;have hq := Kp.then_ (a := W5) (S := fun _ => False) (by first | exact HKZ.out | exact HKZ.out.drew) hk5 (fun _ h => h.elim);clear HKZ;have HKZ := Lib.hid hq;clear hq hk5))
    go_wp2_with fail
    go_meet
    exact ⟨rfl,rfl,HKZ.out⟩
   case rest =>
   obtain ⟨rfl,rfl,hkc⟩ := hcut
   have HK7 := Lib.hid (HK5.out.then_ hkc (fun _ h => h.elim))
   clear hkc HCE HLD HKZ hpne hmod HQ6 HQ7
   by_cases hev : ev = 0
   ·subst hev
    have HS2 := Lib.hid (show r = fitL (.mk ⟨3,s,lo,hi,st⟩ P) (wrap64 (q + kv)) (j + 1) (l.drop (j + 1)) from by have := HS.out;rwa [if_pos rfl] at this)
    clear HS
    go_wp2_with fail
    go_roundw
    case rel => exact ⟨j + 1,_,by omega,by go_num,rfl,HS2.out,HK7.out⟩
    case measure => simp [intOf];omega
   ·have t0 : (ev != 0) = true := by simpa using hev
    have hS := HS.out
    simp only [if_neg hev] at hS
    subst hS
    have HK8 := Lib.hid (HK1.out.then_ HK7.out (fun _ h => h.elim))
    clear HS HR HK7
    go_wp2_with fail
    go_ret2
    exact ⟨rfl,HK8.out⟩
  ·obtain rfl : j = l.length := by omega
   have hE := HE.out
   rw [List.drop_length,fitL_nil] at hE
   simp at hE
   subst hE
   have x0 := HQ4.out.cell 0
   have x1 := HQ4.out.cell 1
   have x2 := HQ4.out.cell 2
   have x3 := HQ4.out.cell 3
   have x4 := HQ4.out.cell 4
   simp at x0 x1 x2 x3 x4
   clear HE HR
   go_wp2_with fail
   go_ret2
   exact ⟨rfl,HKW.out⟩

end Go.Proofs.Ytfcghajnnllmhaa

namespace Go.Proofs.Ytfcghajnnllmhaa
open Go.RowKit
set_option maxRecDepth 100000

theorem vfit_any (f : Fm) : checkR f = 0 → FitC f := by
 induction f using RT.induct with
 | h h P ih =>
 intro hc ok ok2 x fv vv w hf hv
 obtain ⟨hown,hone,h32,hch⟩ := check_ok hc
 obtain ⟨k,s,lo,hi,st⟩ := h
 obtain ⟨⟨a,b⟩,l⟩ := x
 obtain ⟨A0,c0,rfl⟩ := hf.form6
 obtain ⟨A1,c1,A2,c2,rfl,hu,_,_,_,_,_,_⟩ := hv.parts
 unfold u64B at hu
 rw [fitR_mk]
 simp only
 by_cases hal : aloneB k a b.length l.length = false
 ·rw [if_pos hal]
  exact vfit_not ok k s lo hi st P a b l A0 A1 A2 c0 c1 c2 w hf hal
 rw [if_neg hal]
 rw [Bool.not_eq_false] at hal
 by_cases k0 : k = 0
 ·rw [if_pos k0]
  subst k0
  have hs := hown.k0 rfl
  simp only at hs
  by_cases hr : s < 8 ∧ (2 : Int) ^ (8 * s.toNat) ≤ a
  ·rw [if_pos hr]
   have e : (8 * s).toNat = 8 * s.toNat := by omega
   have hp : (0 : Int) < 2 ^ (8 * s.toNat) := Int.pow_pos (by decide)
   have hd : (a / 2 ^ (8 * s).toNat != 0) = true := by
    rw [e]
    have := (Int.le_ediv_iff_mul_le hp).2 (show (1 : Int) * 2 ^ (8 * s.toNat) ≤ a by rw [Int.one_mul];exact hr.2)
    simp
    omega
   exact vfit_numx ok s lo hi st P a b l A0 A1 A2 c0 c1 c2 w hf hal (by omega) hr.1 hd
  ·rw [if_neg hr]
   by_cases h8 : s < 8
   ·have e : (8 * s).toNat = 8 * s.toNat := by omega
    have hd : (a / 2 ^ (8 * s).toNat != 0) = false := by
     rw [e]
     have := Int.ediv_eq_zero_of_lt (b := (2 : Int) ^ (8 * s.toNat)) hu.1 (by
      have : ¬ (2 : Int) ^ (8 * s.toNat) ≤ a := fun hh => hr ⟨h8,hh⟩
      omega)
     simp [this]
    exact vfit_num ok s lo hi st P a b l A0 A1 A2 c0 c1 c2 w hf hal (by omega) h8 hd
   ·have : s = 8 := by omega
    subst this
    exact vfit_n8 ok lo hi st P a b l A0 A1 A2 c0 c1 c2 w hf hal
 rw [if_neg k0]
 by_cases k1 : k = 1
 ·rw [if_pos k1]
  obtain ⟨hs1,hs2,hl1,hl2,hl3,hl4,hl5,hl6⟩ := hown.k12 (.inl k1)
  subst k1
  exact vfit_opq ok s lo hi st P a b l A0 A1 A2 c0 c1 c2 w hf hal (by simp only at hl5;omega)
 rw [if_neg k1]
 have hk := hown.k
 simp only at hk
 by_cases k4 : k = 4
 ·rw [if_pos k4]
  subst k4
  exact vfit_rest ok s lo hi st P a b l A0 A1 A2 c0 c1 c2 w hf hal
 rw [if_neg k4]
 by_cases k5 : k = 5
 ·rw [if_pos k5]
  subst k5
  exact vfit_fixed ok s lo hi st P a b l A0 A1 A2 c0 c1 c2 w hf hal
 rw [if_neg k5]
 have hk23 : k = 2 ∨ k = 3 := by omega
 have hC : ∀ y ∈ P,FitC y := fun y hy => ih y hy ((hch hk23).1 y hy)
 by_cases k3 : k = 3
 ·subst k3
  by_cases hlen : l.length = P.length
  ·rw [if_neg (fun hh => hh.2 hlen)]
   exact vfit_all3 ok s lo hi st P a b l A0 A1 A2 c0 c1 c2 w hf ok2 hv hal hlen hC (fun h => by omega)
  ·rw [if_pos ⟨rfl,hlen⟩]
   exact vfit_len ok s lo hi st P a b l A0 A1 A2 c0 c1 c2 w hf hal hlen
 ·have k2 : k = 2 := by omega
  rw [if_neg (fun hh => k3 hh.1)]
  obtain ⟨hs1,hs2,hl1,hl2,hl3,hl4,hl5,hl6⟩ := hown.k12 (.inr k2)
  subst k2
  have := hone rfl
  exact vfit_all2 ok s lo hi st P a b l A0 A1 A2 c0 c1 c2 w hf ok2 hv hal (by simp only at hl5;omega) hC (fun _ => by omega)

set_option maxHeartbeats 3200000 in
theorem vsize6_any (ok ok2 : Nat → Prop) (f : Fm) (x : Vt) (fv vv : Value) (w : World) (hokl : ∀ i,ok i → i < w.heap.size) (hf : FmR w ok fv f) (hv : VtR w ok2 vv x) : Calls Try.prog 56 #[fv,vv] w fun e w' => e = .returned (.tuple #[.int .i64 (sizeR f x).1,.int .i64 (sizeR f x).2]) ∧ Kp (fun _ => False) w w' := by
 have HCK := Lib.hid (fun W (hk : Kp (fun _ => False) w W) => check_any ok f fv W (fun i hi => Nat.lt_of_lt_of_le (hokl i hi) hk.size) (hf.kp hk (fun _ _ h => h)))
 have HFI := Lib.hid (fun (h : checkR f = 0) W (hk : Kp (fun _ => False) w W) => vfit_any f h ok ok2 x fv vv W (hf.kp hk (fun _ _ h => h)) (hv.kp hk (fun _ _ h => h)))
 obtain ⟨cr,hcr⟩ : ∃ c,(if deepB 8 f then 14 else checkR f) = c := ⟨_,rfl⟩
 obtain ⟨⟨n,e⟩,hne⟩ : ∃ r,fitR f x = r := ⟨_,rfl⟩
 have hsz : sizeR f x = if cr = 0 then (if e = 0 then (n,0) else (0,e)) else (0,cr) := by
  unfold sizeR
  rw [hcr,hne]
 have hc0 : cr = 0 → checkR f = 0 := by
  intro h
  rw [h] at hcr
  split at hcr
  ·simp at hcr
  ·exact hcr
 rw [hcr] at HCK
 rw [hne] at HFI
 rw [hsz]
 have HC0 := Lib.hid hc0
 obtain ⟨⟨k,s,lo,hi,st⟩,P⟩ := f
 obtain ⟨⟨a,b⟩,l⟩ := x
 obtain ⟨A0,c0,rfl⟩ := hf.form6
 obtain ⟨A1,c1,A2,c2,rfl,_,_,_,_,_,_,_⟩ := hv.parts
 have ka : Kp (fun _ => False) w ((w.alloc (.cells #[.int .i64 k,.int .i64 s,.int .i64 lo,.int .i64 hi,.int .i64 st,.slice A0 P.length c0] 27)).alloc (.cells #[.int .u64 a,.slice A1 b.length c1,.slice A2 l.length c2] 46)) := ((Kp.refl _ w).alloc _).alloc _
 have q2 := (Blk.new w 27 #[.int .i64 k,.int .i64 s,.int .i64 lo,.int .i64 hi,.int .i64 st,.slice A0 P.length c0]).alloc (.cells #[.int .u64 a,.slice A1 b.length c1,.slice A2 l.length c2] 46)
 have q3 := Blk.new (w.alloc (.cells #[.int .i64 k,.int .i64 s,.int .i64 lo,.int .i64 hi,.int .i64 st,.slice A0 P.length c0] 27)) 46 #[.int .u64 a,.slice A1 b.length c1,.slice A2 l.length c2]
 simp only [World.size_alloc] at q3
 have HKA := Lib.hid ka
 have HQ2 := Lib.hid q2
 have HQ3 := Lib.hid q3
 clear ka q2 q3 hf hv hcr hne hsz hc0 hokl
 by_cases hcz : cr = 0
 rotate_left
 ·have t0 : (cr != 0) = true := by simpa using hcz
  rw [if_neg hcz]
  clear hcz
  go_enter Try.func56,Try.ntmps56
  go_wp2_with fail
  refine (HCK.out _ HKA.out).mono ?_
  rintro en w1 ⟨rfl,hk1⟩
  have HK1 := Lib.hid (HKA.out.then_ hk1 (fun _ h => h.elim))
  clear hk1
  go_wp2_with fail
  go_ret2
  exact ⟨rfl,HK1.out⟩
 subst hcz
 rw [if_pos rfl]
 have HF := Lib.hid (HFI.out (HC0.out rfl))
 clear HFI HC0
 by_cases hez : e = 0
 ·subst hez
  rw [if_pos rfl]
  go_enter Try.func56,Try.ntmps56
  go_wp2_with fail
  refine (HCK.out _ HKA.out).mono ?_
  rintro en w1 ⟨rfl,hk1⟩
  have HK1 := Lib.hid (HKA.out.then_ hk1 (fun _ h => h.elim))
  have q2 := HQ2.out.kp hk1 (fun h => h)
  have q3 := HQ3.out.kp hk1 (fun h => h)
  have x0 := q2.cell 0
  have x1 := q2.cell 1
  have x2 := q2.cell 2
  have x3 := q2.cell 3
  have x4 := q2.cell 4
  have x5 := q2.cell 5
  have y0 := q3.cell 0
  have y1 := q3.cell 1
  have y2 := q3.cell 2
  simp at x0 x1 x2 x3 x4 x5 y0 y1 y2
  clear hk1 q2 q3 HQ2 HQ3
  go_wp2_with fail
  refine (HF.out _ HK1.out).mono ?_
  rintro en w2 ⟨rfl,hk2⟩
  have HK2 := Lib.hid (HK1.out.then_ hk2 (fun _ h => h.elim))
  clear hk2 x0 x1 x2 x3 x4 x5 y0 y1 y2
  go_wp2_with fail
  go_ret2
  exact ⟨rfl,HK2.out⟩
 ·have t0 : (e != 0) = true := by simpa using hez
  rw [if_neg hez]
  clear hez
  go_enter Try.func56,Try.ntmps56
  go_wp2_with fail
  refine (HCK.out _ HKA.out).mono ?_
  rintro en w1 ⟨rfl,hk1⟩
  have HK1 := Lib.hid (HKA.out.then_ hk1 (fun _ h => h.elim))
  have q2 := HQ2.out.kp hk1 (fun h => h)
  have q3 := HQ3.out.kp hk1 (fun h => h)
  have x0 := q2.cell 0
  have x1 := q2.cell 1
  have x2 := q2.cell 2
  have x3 := q2.cell 3
  have x4 := q2.cell 4
  have x5 := q2.cell 5
  have y0 := q3.cell 0
  have y1 := q3.cell 1
  have y2 := q3.cell 2
  simp at x0 x1 x2 x3 x4 x5 y0 y1 y2
  clear hk1 q2 q3 HQ2 HQ3
  go_wp2_with fail
  refine (HF.out _ HK1.out).mono ?_
  rintro en w2 ⟨rfl,hk2⟩
  have HK2 := Lib.hid (HK1.out.then_ hk2 (fun _ h => h.elim))
  clear hk2 x0 x1 x2 x3 x4 x5 y0 y1 y2
  go_wp2_with fail
  go_ret2
  exact ⟨rfl,HK2.out⟩

set_option maxHeartbeats 3200000 in
theorem vfits6_any (ok ok2 : Nat → Prop) (f : Fm) (x : Vt) (v u : Value) (w : World) (hokl : ∀ i,ok i → i < w.heap.size) (hf : FmR w ok v f) (hv : VtR w ok2 u x) : Calls Try.prog 33 #[v,u] w fun e w' => e = .returned (.int .i64 (sizeR f x).2) ∧ Kp (fun _ => False) w w' := by
 have HSZ := Lib.hid (fun W (hk : Kp (fun _ => False) w W) => vsize6_any ok ok2 f x v u W (fun i hi => Nat.lt_of_lt_of_le (hokl i hi) hk.size) (hf.kp hk (fun _ _ h => h)) (hv.kp hk (fun _ _ h => h)))
 obtain ⟨⟨n,e⟩,hne⟩ : ∃ r,sizeR f x = r := ⟨_,rfl⟩
 rw [hne] at HSZ ⊢
 obtain ⟨⟨k,s,lo,hi,st⟩,P⟩ := f
 obtain ⟨⟨a,b⟩,l⟩ := x
 obtain ⟨A0,c0,rfl⟩ := hf.form6
 obtain ⟨A1,c1,A2,c2,rfl,_,_,_,_,_,_,_⟩ := hv.parts
 have HKA := Lib.hid (show Kp (fun _ => False) w ((w.alloc (.cells #[.int .i64 k,.int .i64 s,.int .i64 lo,.int .i64 hi,.int .i64 st,.slice A0 P.length c0] 27)).alloc (.cells #[.int .u64 a,.slice A1 b.length c1,.slice A2 l.length c2] 46)) from ((Kp.refl _ w).alloc _).alloc _)
 clear hf hv hne hokl
 go_enter Try.func33,Try.ntmps33
 go_wp2_with fail
 refine (HSZ.out _ HKA.out).mono ?_
 rintro en w1 ⟨rfl,hk1⟩
 have HK1 := Lib.hid (HKA.out.then_ hk1 (fun _ h => h.elim))
 clear hk1
 go_wp2_with fail
 go_ret
 exact ⟨rfl,HK1.out⟩

set_option maxHeartbeats 3200000 in
theorem vsizeS6_any (ok ok2 : Nat → Prop) (f : Fm) (x : Vt) (v u : Value) (w : World) (hokl : ∀ i,ok i → i < w.heap.size) (hf : FmR w ok v f) (hv : VtR w ok2 u x) : Calls Try.prog 32 #[v,u] w fun e w' => e = .returned (.int .i64 (sizeR f x).1) ∧ Kp (fun _ => False) w w' := by
 have HSZ := Lib.hid (fun W (hk : Kp (fun _ => False) w W) => vsize6_any ok ok2 f x v u W (fun i hi => Nat.lt_of_lt_of_le (hokl i hi) hk.size) (hf.kp hk (fun _ _ h => h)) (hv.kp hk (fun _ _ h => h)))
 obtain ⟨⟨n,e⟩,hne⟩ : ∃ r,sizeR f x = r := ⟨_,rfl⟩
 rw [hne] at HSZ ⊢
 obtain ⟨⟨k,s,lo,hi,st⟩,P⟩ := f
 obtain ⟨⟨a,b⟩,l⟩ := x
 obtain ⟨A0,c0,rfl⟩ := hf.form6
 obtain ⟨A1,c1,A2,c2,rfl,_,_,_,_,_,_,_⟩ := hv.parts
 have HKA := Lib.hid (show Kp (fun _ => False) w ((w.alloc (.cells #[.int .i64 k,.int .i64 s,.int .i64 lo,.int .i64 hi,.int .i64 st,.slice A0 P.length c0] 27)).alloc (.cells #[.int .u64 a,.slice A1 b.length c1,.slice A2 l.length c2] 46)) from ((Kp.refl _ w).alloc _).alloc _)
 clear hf hv hne hokl
 go_enter Try.func32,Try.ntmps32
 go_wp2_with fail
 refine (HSZ.out _ HKA.out).mono ?_
 rintro en w1 ⟨rfl,hk1⟩
 have HK1 := Lib.hid (HKA.out.then_ hk1 (fun _ h => h.elim))
 clear hk1
 go_wp2_with fail
 go_ret
 exact ⟨rfl,HK1.out⟩
end Go.Proofs.Ytfcghajnnllmhaa
