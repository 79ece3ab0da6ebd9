/-
  The law ValueAlone: for every input it returns true, and its arguments read behind the call as before it. No condition.
-/
import Derived.Laws.BitsAllLaws
import Derived.Test.YtfcghajnnllmhaaProg
import Derived.Lib.SmallJoins
import Derived.Test.YtfcghajnnllmhaaRows
import Derived.Test.YtfcghajnnllmhaaMValueAlone1
import Derived.Test.YtfcghajnnllmhaaMValueAlone2
import Derived.Test.YtfcghajnnllmhaaMValueAlone4

set_option linter.unusedVariables false
set_option linter.unusedSimpArgs false
namespace Go.Proofs.Ytfcghajnnllmhaa
open Go.RowKit

theorem or1_u64 (n : Nat) (h : n < 140737488355329) : ∃ z,bits .or .u64 (n : Int) 1 = z ∧ u64B z ∧ z ≠ 0 := by
 have h1 := u64_or_nat n 1 (by omega) (by omega)
 have h2 : n ||| 1 < 2 ^ 48 := Nat.or_lt_two_pow (by omega) (by omega)
 have h3 : 1 ≤ n ||| 1 := Nat.right_le_or
 refine ⟨((n ||| 1 : Nat) : Int),h1,?_,by omega⟩
 unfold u64B
 omega
/-- A field more: then it is none. -/
theorem alone_off {f : Fm} {x : Vt} (hd : deepB 8 f = false) (hc : checkR f = 0) (h : aloneB f.a.k x.a.n x.a.b.length x.l.length = false) : (sizeR f x).2 = 15 := by
 obtain ⟨h0,P⟩ := f
 obtain ⟨⟨n,b⟩,l⟩ := x
 rw [sizeR_eq hd hc,fitR_mk,if_pos (show aloneB h0.k n b.length l.length = false from h)]
 simp
theorem BR.takeA {w : World} {ok : Nat → Prop} {A : Option Addr} {c k : Nat} {l : List UInt8} (h : BR w ok (.slice A l.length c) l) (hk : k ≤ l.length) : BR w ok (.slice A k c) (l.take k) := by
 obtain ⟨A',c',e,hc,hr⟩ := h
 injection e with e1 e2 e3
 subst e1 e3
 exact ⟨A,c,by rw [List.length_take,Nat.min_eq_left hk],by rw [List.length_take];omega,by have h2 := hr.take hk;rw [List.length_take,Nat.min_eq_left hk];simpa [bc,List.map_take] using h2⟩
theorem fld_at (k : Int) (h : 0 ≤ k ∧ k ≤ 5) : (k = 0 → fld k = 0) ∧ (k ≠ 0 → fld k ≠ 0) ∧ (k = 0 ∨ k = 2 ∨ k = 3 → fld k ≠ 1) ∧ (¬ (k = 0 ∨ k = 2 ∨ k = 3) → fld k ≠ 2) := by
 have : k = 0 ∨ k = 1 ∨ k = 2 ∨ k = 3 ∨ k = 4 ∨ k = 5 := by omega
 rcases this with rfl | rfl | rfl | rfl | rfl | rfl <;> decide

set_option maxRecDepth 100000 in
set_option maxHeartbeats 12800000 in
theorem valone_walk (w : World) (fv : Value) (f : Fm) (hf : FmR w (· < w.heap.size) fv f) (vv : Value) (x : Vt) (hv : VtR w (· < w.heap.size) vv x) (bv : Value) (m : List UInt8) (hm : BR w (· < w.heap.size) bv m) (_hl : m.length ≤ 140737488351232) :
  Calls Try.prog 10 #[fv,vv,bv] w fun e w' => e = .returned (.bool true) ∧ Below w.heap.size w w' := by
 refine Calls.mono (R := fun e w' => e = .returned (.bool true) ∧ Kp (fun _ => False) w w') ?_ fun _ _ ⟨h1,h2⟩ => ⟨h1,h2.below⟩
 obtain ⟨Am,cm,rfl,hmc,_⟩ := id hm
 obtain ⟨y,hy,hyB,hyN⟩ := or1_u64 m.length (by omega)
 have hwx := hv.wf
 obtain ⟨⟨n,er⟩,hsz⟩ : ∃ r,sizeR f x = r := ⟨_,rfl⟩
 obtain ⟨⟨k,s,lo,hi,st⟩,P⟩ := f
 obtain ⟨⟨a,b⟩,l⟩ := x
 obtain ⟨A0,c0,rfl⟩ := hf.form6
 obtain ⟨A1,c1,A2,c2,rfl,hau,hbc1,hbl,hbr,hlc2,hll,hvs⟩ := hv.parts
 have ka : Kp (fun _ => False) w ((w.alloc (.cells #[.int .i64 k,.int .i64 s,.int .i64 lo,.int .i64 hi,.int .i64 st,.slice A0 P.length c0] 27)).alloc (.cells #[.int .u64 a,.slice A1 b.length c1,.slice A2 l.length c2] 46)) := ((Kp.refl _ w).alloc _).alloc _
 have hbf := (Blk.new w 27 #[.int .i64 k,.int .i64 s,.int .i64 lo,.int .i64 hi,.int .i64 st,.slice A0 P.length c0]).alloc (.cells #[.int .u64 a,.slice A1 b.length c1,.slice A2 l.length c2] 46)
 have hbv := Blk.new (w.alloc (.cells #[.int .i64 k,.int .i64 s,.int .i64 lo,.int .i64 hi,.int .i64 st,.slice A0 P.length c0] 27)) 46 #[.int .u64 a,.slice A1 b.length c1,.slice A2 l.length c2]
 simp only [World.size_alloc] at hbv
 have HBF := Lib.hid hbf
 have HBV := Lib.hid hbv
 have HKA := Lib.hid ka
 have HAL := Lib.hid alive05
 have HFV := Lib.hid (fun W (hk : Kp (fun _ => False) w W) => (hf.kp hk (fun _ _ h => h)).mono (ok' := (· < W.heap.size)) (fun i hi => Nat.lt_of_lt_of_le hi hk.size))
 have HUV := Lib.hid (fun W (hk : Kp (fun _ => False) w W) => (hv.kp hk (fun _ _ h => h)).mono (ok' := (· < W.heap.size)) (fun i hi => Nat.lt_of_lt_of_le hi hk.size))
 have HBR := Lib.hid (fun W (hk : Kp (fun _ => False) w W) => (hbr.kp hk (fun _ _ h => h)).mono (ok' := (· < W.heap.size)) (fun i hi => Nat.lt_of_lt_of_le hi hk.size))
 have HVS := Lib.hid (fun W (hk : Kp (fun _ => False) w W) => (hvs.kp hk (fun _ _ h => h)).mono (ok' := (· < W.heap.size)) (fun i hi => Nat.lt_of_lt_of_le hi hk.size))
 have HMR := Lib.hid (fun W (hk : Kp (fun _ => False) w W) => (hm.kp hk (fun _ _ h => h)).mono (ok' := (· < W.heap.size)) (fun i hi => Nat.lt_of_lt_of_le hi hk.size))
 obtain ⟨gr,hgr⟩ : ∃ gr : Int,(if decide (500 < cntR 500 (.mk ⟨k,s,lo,hi,st⟩ P)) || [(RT.mk ⟨a,b⟩ l : Vt)].any bigV then 1 else 0) = gr := ⟨_,rfl⟩
 have hgc : gr = 1 ∨ gr = 0 := by rw [← hgr];split <;> simp
 have HGR := Lib.hid (fun W g (hk : Kp (fun _ => False) w W) (hb : Blk W g 46 #[.int .u64 a,.slice A1 b.length c1,.slice A2 l.length c2]) => greatL_any _ _ (.mk ⟨k,s,lo,hi,st⟩ P) [.mk ⟨a,b⟩ l] _ _ W (HFV.out W hk) ((HUV.out W hk).one_ hb hb.lt) (by simpa using hwx))
 rw [hgr] at HGR
 -- value.Fits of the form and any value
 have HFT := Lib.hid (fun W (hk : Kp (fun _ => False) w W) ok2 (z : Vt) (zv : Value) (hz : VtR W ok2 zv z) => vfits6_any (· < W.heap.size) ok2 _ z _ zv W (fun _ h => h) (HFV.out W hk) hz)
 have HSZ := Lib.hid hsz
 have HCP := Lib.hid (And.intro hbc1 (And.intro hbl (And.intro hlc2 (And.intro hll (And.intro hau hyB)))))
 have HY := Lib.hid hyN
 clear ka hf hv hm hbf hbv hgr hsz hwx hbc1 hbl hlc2 hll hau hyB hyN hbr hvs
 go_enter Try.func10,Try.ntmps10
 go_upto_region 2 with fail
 generalize ((w.alloc (.cells #[.int .i64 k,.int .i64 s,.int .i64 lo,.int .i64 hi,.int .i64 st,.slice A0 P.length c0] 27)).alloc (.cells #[.int .u64 a,.slice A1 b.length c1,.slice A2 l.length c2] 46)) = W0 at HBF HBV HKA ⊢
 have HA0 := Lib.hid (HAL.out W0)
 go_wp2_with fail
 refine HA0.out.mono ?_
 rintro e w1 ⟨rfl,hk1⟩
 have HK1 := Lib.hid (HKA.out.then_ hk1 (fun _ h => h.elim))
 have HBF1 := Lib.hid (HBF.out.kp hk1 (fun h => h))
 have HBV1 := Lib.hid (HBV.out.kp hk1 (fun h => h))
 have f0 := HBF1.out.cell 0
 have f1 := HBF1.out.cell 1
 have f2 := HBF1.out.cell 2
 have f3 := HBF1.out.cell 3
 have f4 := HBF1.out.cell 4
 have f5 := HBF1.out.cell 5
 have v0 := HBV1.out.cell 0
 have v1 := HBV1.out.cell 1
 have v2 := HBV1.out.cell 2
 simp at f0 f1 f2 f3 f4 f5 v0 v1 v2
 clear hk1 HA0 HBF HBV HKA
 have kb : Kp (fun _ => False) w1 (w1.alloc (.cells #[.int .u64 a,.slice A1 b.length c1,.slice A2 l.length c2] 46)) := (Kp.refl _ w1).alloc _
 have HKB := Lib.hid kb
 have HG1 := Lib.hid (HGR.out _ _ (HK1.out.then_ kb (fun _ h => h.elim)) (Blk.new w1 46 #[.int .u64 a,.slice A1 b.length c1,.slice A2 l.length c2]))
 clear kb
 go_wp2_with fail
 refine HG1.out.mono ?_
 rintro e w2 ⟨rfl,hk⟩
 have hk12 := HKB.out.then_ hk (fun _ h => h.elim)
 have HK2 := Lib.hid (HK1.out.then_ hk12 (fun _ h => h.elim))
 have HBF2 := Lib.hid (HBF1.out.kp hk12 (fun h => h))
 have HBV2 := Lib.hid (HBV1.out.kp hk12 (fun h => h))
 clear hk hk12 f0 f1 f2 f3 f4 f5 v0 v1 v2 HG1 HBF1 HBV1 HGR HKB
 rcases hgc with rfl | rfl
 ·have HA2 := Lib.hid (HAL.out w2)
  have HK3 := Lib.hid HK2.out
  go_wp2_with fail
  refine HA2.out.mono ?_
  rintro e w9 ⟨rfl,hk9⟩
  have HK9 := Lib.hid (HK3.out.then_ hk9 (fun _ h => h.elim))
  clear hk9
  go_wp2_with fail
  go_ret
  exact ⟨rfl,HK9.out⟩
 have f0 := HBF2.out.cell 0
 have f1 := HBF2.out.cell 1
 have f2 := HBF2.out.cell 2
 have f3 := HBF2.out.cell 3
 have f4 := HBF2.out.cell 4
 have f5 := HBF2.out.cell 5
 have v0 := HBV2.out.cell 0
 have v1 := HBV2.out.cell 1
 have v2 := HBV2.out.cell 2
 simp at f0 f1 f2 f3 f4 f5 v0 v1 v2
 have hft := HFT.out w2 HK2.out _ _ _ (HUV.out w2 HK2.out)
 rw [HSZ.out] at hft
 have HF2 := Lib.hid hft
 clear hft
 go_wp2_with fail
 refine HF2.out.mono ?_
 rintro e w3 ⟨rfl,hk⟩
 have HK3 := Lib.hid (HK2.out.then_ hk (fun _ h => h.elim))
 have HBF3 := Lib.hid (HBF2.out.kp hk (fun h => h))
 have HBV3 := Lib.hid (HBV2.out.kp hk (fun h => h))
 clear hk f0 f1 f2 f3 f4 f5 v0 v1 v2 HF2 HBF2 HBV2 HK2
 by_cases her : er = 0
 rotate_left
 ·have hner : (er != 0) = true := by simpa using her
  have HA2 := Lib.hid (HAL.out w3)
  clear her
  go_wp2_with fail
  refine HA2.out.mono ?_
  rintro e w9 ⟨rfl,hk9⟩
  have HK9 := Lib.hid (HK3.out.then_ hk9 (fun _ h => h.elim))
  clear hk9
  go_wp2_with fail
  go_ret
  exact ⟨rfl,HK9.out⟩
 subst her
 obtain ⟨hd,hc,_,_⟩ := sizeR_ok (f := .mk ⟨k,s,lo,hi,st⟩ P) (x := .mk ⟨a,b⟩ l) (by rw [HSZ.out])
 obtain ⟨hown,_,_,_⟩ := check_ok hc
 have hk05 : 0 ≤ k ∧ k ≤ 5 := hown.k
 obtain ⟨k1,k2,k3,k4⟩ := fld_at k hk05
 have HOFF := Lib.hid (fun x' h => alone_off (x := x') hd hc h)
 have HKK := Lib.hid (And.intro k1 (And.intro k2 (And.intro k3 (And.intro k4 hk05))))
 clear hd hc hown k1 k2 k3 k4 hk05 HSZ HAL
 go_upto_region 4 with fail
 have f0 := HBF3.out.cell 0
 have f1 := HBF3.out.cell 1
 have f2 := HBF3.out.cell 2
 have f3 := HBF3.out.cell 3
 have f4 := HBF3.out.cell 4
 have f5 := HBF3.out.cell 5
 have v0 := HBV3.out.cell 0
 have v1 := HBV3.out.cell 1
 have v2 := HBV3.out.cell 2
 simp at f0 f1 f2 f3 f4 f5 v0 v1 v2
 have HVC := Lib.hid (show ∀ W,Kp (fun _ => False) w3 W → W.cell? ⟨w.heap.size + 1,0,none⟩ = some (.int .u64 a) ∧ W.cell? ⟨w.heap.size + 1,1,none⟩ = some (.slice A1 b.length c1) ∧ W.cell? ⟨w.heap.size + 1,2,none⟩ = some (.slice A2 l.length c2) from fun W hk => ⟨hk.cell v0 (fun h => h),hk.cell v1 (fun h => h),hk.cell v2 (fun h => h)⟩)
 go_cut [8,9] (fun p q wx => ∃ B8 B9,p = .pointer (some ⟨B8,0,none⟩) ∧ q = .pointer (some ⟨B9,0,none⟩) ∧ B8 ≠ B9 ∧ w3.heap.size ≤ B8 ∧ w3.heap.size ≤ B9 ∧ Blk wx B8 46 #[.int .u64 a,.slice A1 b.length c1,.slice A2 l.length c2] ∧ Blk wx B9 46 #[.int .u64 a,.slice A1 b.length c1,.slice A2 l.length c2] ∧ Kp (fun _ => False) w3 wx)
 case first =>
  have d1 : ∀ o,(w3.alloc o).cell? ⟨w.heap.size + 1,0,none⟩ = some (.int .u64 a) := fun o => (HVC.out _ ((Kp.refl _ _).alloc o)).1
  have d2 : ∀ o,(w3.alloc o).cell? ⟨w.heap.size + 1,1,none⟩ = some (.slice A1 b.length c1) := fun o => (HVC.out _ ((Kp.refl _ _).alloc o)).2.1
  have d3 : ∀ o,(w3.alloc o).cell? ⟨w.heap.size + 1,2,none⟩ = some (.slice A2 l.length c2) := fun o => (HVC.out _ ((Kp.refl _ _).alloc o)).2.2
  have e1 : ∀ o o',((w3.alloc o).alloc o').cell? ⟨w.heap.size + 1,0,none⟩ = some (.int .u64 a) := fun o o' => (HVC.out _ (((Kp.refl _ _).alloc o).alloc o')).1
  have e2 : ∀ o o',((w3.alloc o).alloc o').cell? ⟨w.heap.size + 1,1,none⟩ = some (.slice A1 b.length c1) := fun o o' => (HVC.out _ (((Kp.refl _ _).alloc o).alloc o')).2.1
  have e3 : ∀ o o',((w3.alloc o).alloc o').cell? ⟨w.heap.size + 1,2,none⟩ = some (.slice A2 l.length c2) := fun o o' => (HVC.out _ (((Kp.refl _ _).alloc o).alloc o')).2.2
  have hb1 := (Blk.new w3 46 #[.int .u64 a,.slice A1 b.length c1,.slice A2 l.length c2]).alloc (.cells #[.int .u64 a,.slice A1 b.length c1,.slice A2 l.length c2] 46)
  have hb2 := Blk.new (w3.alloc (.cells #[.int .u64 a,.slice A1 b.length c1,.slice A2 l.length c2] 46)) 46 #[.int .u64 a,.slice A1 b.length c1,.slice A2 l.length c2]
  rw [World.size_alloc] at hb2
  have HB1 := Lib.hid hb1.drew
  have HB2 := Lib.hid hb2.drew
  have HKC := Lib.hid (((Kp.refl (fun _ => False) w3).alloc (.cells #[.int .u64 a,.slice A1 b.length c1,.slice A2 l.length c2] 46)).alloc (.cells #[.int .u64 a,.slice A1 b.length c1,.slice A2 l.length c2] 46)).drew
  clear hb1 hb2
  go_region
  all_goals
   go_wp2_with fail
   go_meet
   first
    | exact ⟨w3.heap.size,w3.heap.size + 1,rfl,rfl,by omega,by omega,by omega,HB1.out,HB2.out,HKC.out⟩
    | exact ⟨w3.heap.size + 1,w3.heap.size,rfl,rfl,by omega,by omega,by omega,HB2.out,HB1.out,HKC.out⟩
 case rest =>
 obtain ⟨B8,B9,rfl,rfl,hne,hB8,hB9,hb8,hb9,hkc⟩ := hcut
 generalize wc = w4 at hb8 hb9 hkc ⊢
 have HK4 := Lib.hid (HK3.out.then_ hkc (fun _ h => h.elim))
 have HBF4 := Lib.hid (HBF3.out.kp hkc (fun h => h))
 have HB8 := Lib.hid hb8
 have HB9 := Lib.hid hb9
 have HNE := Lib.hid (And.intro hne (And.intro (Nat.lt_of_lt_of_le HBF3.out.lt hB8) (Nat.lt_of_lt_of_le HBF3.out.lt hB9)))
 clear hkc hb8 hb9 hB8 hB9 f0 f1 f2 f3 f4 f5 v0 v1 v2 HVC HBF3 HBV3 HK3 hne
 by_cases k0 : k = 0
 ·subst k0
  have f0 := HBF4.out.cell 0
  simp at f0
  have HOWN := Lib.hid (Own.lit w4 [7] #[.int .u8 7] 1 w4.heap.size rfl rfl (Nat.le_refl _) (by decide))
  have kal : Kp (fun _ => False) w4 (w4.alloc (.cells #[.int .u8 7] 5)) := (Kp.refl _ _).alloc _
  have HMA := Lib.hid (HMR.out _ (HK4.out.then_ kal (fun _ h => h.elim)))
  have HKAL := Lib.hid kal
  clear kal
  by_cases h50 : m.length ≤ 50
  ·have hj0 : (m.length : Int) ≤ 50 := by omega
   go_upto_region 11 with (at_builtin;refine app_bytes rfl (.tmp 54) (.tmp 59) rfl w4.heap.size (some ⟨w4.heap.size,0,none⟩) 1 1 [7] rfl rfl HOWN.out _ Am m.length cm m rfl rfl HMA.out (1 + m.length) rfl (by omega) (by rw [World.size_alloc];omega) ?_;intro A5 c5 w5 ho5 hk5;have hkk := HKAL.out.then_ hk5 (fun i (h : w4.heap.size ≤ i) => .inr h);have HKK5 := Lib.hid hkk;have HOW5 := Lib.hid ho5;have hb95 := HB9.out.kp hkk (fun h => h);have fr1 := hb95.frozen 1;have ce1 := hb95.cell 1;simp at ce1;have HB95 := Lib.hid hb95;clear hkk ho5 hk5 hb95)
   have hst : Kp (fun i => i = B9) w5 (w5.setCell ⟨B9,1,none⟩ (.slice A5 (1 + m.length) c5)) := (Kp.refl (fun i => i = B9) w5).setCell (p := ⟨B9,1,none⟩) (.inl rfl) _
   have hb9x := HB95.out.set_ 1 (.slice A5 (1 + m.length) c5)
   have hobr := (HOW5.out.br (by simp only [List.length_append,List.length_take,List.length_cons,List.length_nil] <;> omega)).kp hst (fun i hi h => by
    have := HB9.out.lt
    omega)
   simp at hb9x
   generalize w5.setCell ⟨B9,1,none⟩ (.slice A5 (1 + m.length) c5) = w6 at hst hb9x hobr ⊢
   have hk6 := (HK4.out.then_ HKK5.out (fun _ h => h.elim)).then_ hst (fun i h => .inr (by rw [h];exact Nat.le_of_lt HNE.out.2.2))
   have HBF6 := Lib.hid ((HBF4.out.kp HKK5.out (fun h => h)).kp hst (fun h => by have := HNE.out.2.2;omega))
   have hvv : VtR w6 (fun i => True) (.agg #[.int .u64 a,.slice A5 (1 + m.length) c5,.slice A2 l.length c2]) (.mk ⟨a,[7] ++ m⟩ l) :=
    ⟨_,_,rfl,HCP.out.2.2.2.2.1,hobr.mono (fun _ _ => trivial),by simp only [RT.a,List.length_append,List.length_take,List.length_cons,List.length_nil];omega,(HVS.out w6 hk6).mono (fun _ _ => trivial)⟩
   have hft := HFT.out w6 hk6 _ _ _ hvv
   rw [HOFF.out _ (by have h3 := HKK.out.2.2.1 (by simp);simp [aloneB,RT.a,RT.l,h3])] at hft
   have HF6 := Lib.hid hft
   have HK6 := Lib.hid hk6
   have HB9x := Lib.hid hb9x
   clear hst hb9x hobr hk6 hvv hft HB95 HOW5 HKK5 fr1 ce1 hj0
   have f0 := HBF6.out.cell 0
   have f1 := HBF6.out.cell 1
   have f2 := HBF6.out.cell 2
   have f3 := HBF6.out.cell 3
   have f4 := HBF6.out.cell 4
   have f5 := HBF6.out.cell 5
   have v0 := HB9x.out.cell 0
   have v1 := HB9x.out.cell 1
   have v2 := HB9x.out.cell 2
   simp at f0 f1 f2 f3 f4 f5 v0 v1 v2
   go_wp2_with fail
   refine HF6.out.mono ?_
   rintro e w7 ⟨rfl,hk7⟩
   have HK7 := Lib.hid (HK6.out.then_ hk7 (fun _ h => h.elim))
   clear hk7 f0 f1 f2 f3 f4 f5 v0 v1 v2 HF6 HBF6 HB9x
   go_wp2_with fail
   go_ret
   exact ⟨rfl,HK7.out⟩
  ·have hj0 : (50 : Int) < (m.length : Int) := by omega
   have hj1 : (50 : Int) ≤ (cm : Int) := by omega
   go_upto_region 11 with (at_builtin;refine app_bytes rfl (.tmp 54) (.tmp 59) rfl w4.heap.size (some ⟨w4.heap.size,0,none⟩) 1 1 [7] rfl rfl HOWN.out _ Am 50 cm (m.take 50) rfl (by rw [List.length_take];omega) (HMA.out.takeA (by omega)) 51 rfl (by omega) (by rw [World.size_alloc];omega) ?_;intro A5 c5 w5 ho5 hk5;have hkk := HKAL.out.then_ hk5 (fun i (h : w4.heap.size ≤ i) => .inr h);have HKK5 := Lib.hid hkk;have HOW5 := Lib.hid ho5;have hb95 := HB9.out.kp hkk (fun h => h);have fr1 := hb95.frozen 1;have ce1 := hb95.cell 1;simp at ce1;have HB95 := Lib.hid hb95;clear hkk ho5 hk5 hb95)
   have hst : Kp (fun i => i = B9) w5 (w5.setCell ⟨B9,1,none⟩ (.slice A5 51 c5)) := (Kp.refl (fun i => i = B9) w5).setCell (p := ⟨B9,1,none⟩) (.inl rfl) _
   have hb9x := HB95.out.set_ 1 (.slice A5 51 c5)
   have hobr := (HOW5.out.br (by simp only [List.length_append,List.length_take,List.length_cons,List.length_nil] <;> omega)).kp hst (fun i hi h => by
    have := HB9.out.lt
    omega)
   simp at hb9x
   generalize w5.setCell ⟨B9,1,none⟩ (.slice A5 51 c5) = w6 at hst hb9x hobr ⊢
   have hk6 := (HK4.out.then_ HKK5.out (fun _ h => h.elim)).then_ hst (fun i h => .inr (by rw [h];exact Nat.le_of_lt HNE.out.2.2))
   have HBF6 := Lib.hid ((HBF4.out.kp HKK5.out (fun h => h)).kp hst (fun h => by have := HNE.out.2.2;omega))
   have hvv : VtR w6 (fun i => True) (.agg #[.int .u64 a,.slice A5 51 c5,.slice A2 l.length c2]) (.mk ⟨a,[7] ++ (m.take 50)⟩ l) :=
    ⟨_,_,rfl,HCP.out.2.2.2.2.1,hobr.mono (fun _ _ => trivial),by simp only [RT.a,List.length_append,List.length_take,List.length_cons,List.length_nil];omega,(HVS.out w6 hk6).mono (fun _ _ => trivial)⟩
   have hft := HFT.out w6 hk6 _ _ _ hvv
   rw [HOFF.out _ (by have h3 := HKK.out.2.2.1 (by simp);simp [aloneB,RT.a,RT.l,h3])] at hft
   have HF6 := Lib.hid hft
   have HK6 := Lib.hid hk6
   have HB9x := Lib.hid hb9x
   clear hst hb9x hobr hk6 hvv hft HB95 HOW5 HKK5 fr1 ce1 hj0
   have f0 := HBF6.out.cell 0
   have f1 := HBF6.out.cell 1
   have f2 := HBF6.out.cell 2
   have f3 := HBF6.out.cell 3
   have f4 := HBF6.out.cell 4
   have f5 := HBF6.out.cell 5
   have v0 := HB9x.out.cell 0
   have v1 := HB9x.out.cell 1
   have v2 := HB9x.out.cell 2
   simp at f0 f1 f2 f3 f4 f5 v0 v1 v2
   go_wp2_with fail
   refine HF6.out.mono ?_
   rintro e w7 ⟨rfl,hk7⟩
   have HK7 := Lib.hid (HK6.out.then_ hk7 (fun _ h => h.elim))
   clear hk7 f0 f1 f2 f3 f4 f5 v0 v1 v2 HF6 HBF6 HB9x
   go_wp2_with fail
   go_ret
   exact ⟨rfl,HK7.out⟩
 ·have f0 := HBF4.out.cell 0
  simp at f0
  have t0 : (k != 0) = true := by simpa using k0
  have t1 : (k == 0) = false := by simpa using k0
  have fr0 := HB8.out.frozen 0
  have ce0 := HB8.out.cell 0
  simp at ce0
  go_upto_region 7 with fail
  have hst : Kp (fun i => i = B8) w4 (w4.setCell ⟨B8,0,none⟩ (.int .u64 y)) := (Kp.refl (fun i => i = B8) w4).setCell (p := ⟨B8,0,none⟩) (.inl rfl) _
  have hb8x := HB8.out.set_ 0 (.int .u64 y)
  simp at hb8x
  generalize w4.setCell ⟨B8,0,none⟩ (.int .u64 y) = x6 at hst hb8x ⊢
  have hk6 := HK4.out.then_ hst (fun i h => .inr (by rw [h];exact Nat.le_of_lt HNE.out.2.1))
  have HBF6 := Lib.hid (HBF4.out.kp hst (fun h => by have := HNE.out.2.1;omega))
  have HB96 := Lib.hid (HB9.out.kp hst (fun h => HNE.out.1 h.symm))
  have hvv : VtR x6 (fun i => True) (.agg #[.int .u64 y,.slice A1 b.length c1,.slice A2 l.length c2]) (.mk ⟨y,b⟩ l) :=
   ⟨_,_,rfl,HCP.out.2.2.2.2.2,(HBR.out x6 hk6).mono (fun _ _ => trivial),HCP.out.2.1,(HVS.out x6 hk6).mono (fun _ _ => trivial)⟩
  have hft := HFT.out x6 hk6 _ _ _ hvv
  rw [HOFF.out _ (by have h3 := HKK.out.2.1 k0;have h4 := HY.out;simp [aloneB,RT.a,RT.l,h3,h4])] at hft
  have HF6 := Lib.hid hft
  have HK6 := Lib.hid hk6
  have HB8x := Lib.hid hb8x
  clear hst hb8x hk6 hvv hft HB8 HB9 HBF4 f0 fr0 ce0
  have f0 := HBF6.out.cell 0
  have f1 := HBF6.out.cell 1
  have f2 := HBF6.out.cell 2
  have f3 := HBF6.out.cell 3
  have f4 := HBF6.out.cell 4
  have f5 := HBF6.out.cell 5
  have v0 := HB8x.out.cell 0
  have v1 := HB8x.out.cell 1
  have v2 := HB8x.out.cell 2
  simp at f0 f1 f2 f3 f4 f5 v0 v1 v2
  go_upto_region 9 with (go_at_call 33;refine HF6.out.mono ?_;rintro e w7 ⟨rfl,hk7⟩)
  have HK7 := Lib.hid (HK6.out.then_ hk7 (fun _ h => h.elim))
  have HBF7 := Lib.hid (HBF6.out.kp hk7 (fun h => h))
  have HB97 := Lib.hid (HB96.out.kp hk7 (fun h => h))
  clear hk7 f0 f1 f2 f3 f4 f5 v0 v1 v2 HF6 HBF6 HB8x HB96 HK6
  have f0 := HBF7.out.cell 0
  simp at f0
  by_cases hk023 : k = 0 ∨ k = 2 ∨ k = 3
  ·have hg : (k == 2) = true ∨ ((k == 2) = false ∧ (k == 3) = true) := by
    by_cases h2 : k = 2
    ·exact .inl (by simpa using h2)
    ·exact .inr ⟨by simpa using h2,by simp;omega⟩
   rcases hg with t2 | ⟨t2,t3⟩
   all_goals
    have HOWN := Lib.hid (Own.lit w7 [7] #[.int .u8 7] 1 w7.heap.size rfl rfl (Nat.le_refl _) (by decide))
    have kal : Kp (fun _ => False) w7 (w7.alloc (.cells #[.int .u8 7] 5)) := (Kp.refl _ _).alloc _
    have HMA := Lib.hid (HMR.out _ (HK7.out.then_ kal (fun _ h => h.elim)))
    have HKAL := Lib.hid kal
    clear kal
    by_cases h50 : m.length ≤ 50
    ·have hj0 : (m.length : Int) ≤ 50 := by omega
     go_upto_region 11 with (at_builtin;refine app_bytes rfl (.tmp 54) (.tmp 59) rfl w7.heap.size (some ⟨w7.heap.size,0,none⟩) 1 1 [7] rfl rfl HOWN.out _ Am m.length cm m rfl rfl HMA.out (1 + m.length) rfl (by omega) (by rw [World.size_alloc];omega) ?_;intro A5 c5 w5 ho5 hk5;have hkk := HKAL.out.then_ hk5 (fun i (h : w7.heap.size ≤ i) => .inr h);have HKK5 := Lib.hid hkk;have HOW5 := Lib.hid ho5;have hb95 := HB97.out.kp hkk (fun h => h);have fr1 := hb95.frozen 1;have ce1 := hb95.cell 1;simp at ce1;have HB95 := Lib.hid hb95;clear hkk ho5 hk5 hb95)
     have hst : Kp (fun i => i = B9) w5 (w5.setCell ⟨B9,1,none⟩ (.slice A5 (1 + m.length) c5)) := (Kp.refl (fun i => i = B9) w5).setCell (p := ⟨B9,1,none⟩) (.inl rfl) _
     have hb9x := HB95.out.set_ 1 (.slice A5 (1 + m.length) c5)
     have hobr := (HOW5.out.br (by simp only [List.length_append,List.length_take,List.length_cons,List.length_nil] <;> omega)).kp hst (fun i hi h => by
      have := HB97.out.lt
      omega)
     simp at hb9x
     generalize w5.setCell ⟨B9,1,none⟩ (.slice A5 (1 + m.length) c5) = w6 at hst hb9x hobr ⊢
     have hk6 := (HK7.out.then_ HKK5.out (fun _ h => h.elim)).then_ hst (fun i h => .inr (by rw [h];exact Nat.le_of_lt HNE.out.2.2))
     have HBF6 := Lib.hid ((HBF7.out.kp HKK5.out (fun h => h)).kp hst (fun h => by have := HNE.out.2.2;omega))
     have hvv : VtR w6 (fun i => True) (.agg #[.int .u64 a,.slice A5 (1 + m.length) c5,.slice A2 l.length c2]) (.mk ⟨a,[7] ++ m⟩ l) :=
      ⟨_,_,rfl,HCP.out.2.2.2.2.1,hobr.mono (fun _ _ => trivial),by simp only [RT.a,List.length_append,List.length_take,List.length_cons,List.length_nil];omega,(HVS.out w6 hk6).mono (fun _ _ => trivial)⟩
     have hft := HFT.out w6 hk6 _ _ _ hvv
     rw [HOFF.out _ (by have h3 := HKK.out.2.2.1 hk023;simp [aloneB,RT.a,RT.l,h3])] at hft
     have HF6 := Lib.hid hft
     have HK6 := Lib.hid hk6
     have HB9x := Lib.hid hb9x
     clear hst hb9x hobr hk6 hvv hft HB95 HOW5 HKK5 fr1 ce1 hj0
     have f0 := HBF6.out.cell 0
     have f1 := HBF6.out.cell 1
     have f2 := HBF6.out.cell 2
     have f3 := HBF6.out.cell 3
     have f4 := HBF6.out.cell 4
     have f5 := HBF6.out.cell 5
     have v0 := HB9x.out.cell 0
     have v1 := HB9x.out.cell 1
     have v2 := HB9x.out.cell 2
     simp at f0 f1 f2 f3 f4 f5 v0 v1 v2
     go_wp2_with fail
     refine HF6.out.mono ?_
     rintro e w7 ⟨rfl,hk7⟩
     have HK7 := Lib.hid (HK6.out.then_ hk7 (fun _ h => h.elim))
     clear hk7 f0 f1 f2 f3 f4 f5 v0 v1 v2 HF6 HBF6 HB9x
     go_wp2_with fail
     go_ret
     exact ⟨rfl,HK7.out⟩
    ·have hj0 : (50 : Int) < (m.length : Int) := by omega
     have hj1 : (50 : Int) ≤ (cm : Int) := by omega
     go_upto_region 11 with (at_builtin;refine app_bytes rfl (.tmp 54) (.tmp 59) rfl w7.heap.size (some ⟨w7.heap.size,0,none⟩) 1 1 [7] rfl rfl HOWN.out _ Am 50 cm (m.take 50) rfl (by rw [List.length_take];omega) (HMA.out.takeA (by omega)) 51 rfl (by omega) (by rw [World.size_alloc];omega) ?_;intro A5 c5 w5 ho5 hk5;have hkk := HKAL.out.then_ hk5 (fun i (h : w7.heap.size ≤ i) => .inr h);have HKK5 := Lib.hid hkk;have HOW5 := Lib.hid ho5;have hb95 := HB97.out.kp hkk (fun h => h);have fr1 := hb95.frozen 1;have ce1 := hb95.cell 1;simp at ce1;have HB95 := Lib.hid hb95;clear hkk ho5 hk5 hb95)
     have hst : Kp (fun i => i = B9) w5 (w5.setCell ⟨B9,1,none⟩ (.slice A5 51 c5)) := (Kp.refl (fun i => i = B9) w5).setCell (p := ⟨B9,1,none⟩) (.inl rfl) _
     have hb9x := HB95.out.set_ 1 (.slice A5 51 c5)
     have hobr := (HOW5.out.br (by simp only [List.length_append,List.length_take,List.length_cons,List.length_nil] <;> omega)).kp hst (fun i hi h => by
      have := HB97.out.lt
      omega)
     simp at hb9x
     generalize w5.setCell ⟨B9,1,none⟩ (.slice A5 51 c5) = w6 at hst hb9x hobr ⊢
     have hk6 := (HK7.out.then_ HKK5.out (fun _ h => h.elim)).then_ hst (fun i h => .inr (by rw [h];exact Nat.le_of_lt HNE.out.2.2))
     have HBF6 := Lib.hid ((HBF7.out.kp HKK5.out (fun h => h)).kp hst (fun h => by have := HNE.out.2.2;omega))
     have hvv : VtR w6 (fun i => True) (.agg #[.int .u64 a,.slice A5 51 c5,.slice A2 l.length c2]) (.mk ⟨a,[7] ++ (m.take 50)⟩ l) :=
      ⟨_,_,rfl,HCP.out.2.2.2.2.1,hobr.mono (fun _ _ => trivial),by simp only [RT.a,List.length_append,List.length_take,List.length_cons,List.length_nil];omega,(HVS.out w6 hk6).mono (fun _ _ => trivial)⟩
     have hft := HFT.out w6 hk6 _ _ _ hvv
     rw [HOFF.out _ (by have h3 := HKK.out.2.2.1 hk023;simp [aloneB,RT.a,RT.l,h3])] at hft
     have HF6 := Lib.hid hft
     have HK6 := Lib.hid hk6
     have HB9x := Lib.hid hb9x
     clear hst hb9x hobr hk6 hvv hft HB95 HOW5 HKK5 fr1 ce1 hj0
     have f0 := HBF6.out.cell 0
     have f1 := HBF6.out.cell 1
     have f2 := HBF6.out.cell 2
     have f3 := HBF6.out.cell 3
     have f4 := HBF6.out.cell 4
     have f5 := HBF6.out.cell 5
     have v0 := HB9x.out.cell 0
     have v1 := HB9x.out.cell 1
     have v2 := HB9x.out.cell 2
     simp at f0 f1 f2 f3 f4 f5 v0 v1 v2
     go_wp2_with fail
     refine HF6.out.mono ?_
     rintro e w7 ⟨rfl,hk7⟩
     have HK7 := Lib.hid (HK6.out.then_ hk7 (fun _ h => h.elim))
     clear hk7 f0 f1 f2 f3 f4 f5 v0 v1 v2 HF6 HBF6 HB9x
     go_wp2_with fail
     go_ret
     exact ⟨rfl,HK7.out⟩
  ·have t2 : (k == 2) = false := by simp;omega
   have t3 : (k == 3) = false := by simp;omega
   have hmu : u64B (m.length : Int) := by unfold u64B;omega
   have q1 := Blk.new w7 46 #[.int .u64 (m.length : Int),.slice none 0 0,.slice none 0 0]
   have kal : Kp (fun _ => False) w7 (w7.alloc (.cells #[.int .u64 (m.length : Int),.slice none 0 0,.slice none 0 0] 46)) := (Kp.refl _ _).alloc _
   have hb95 := HB97.out.kp kal (fun h => h)
   have fr2 := hb95.frozen 2
   have ce2 := hb95.cell 2
   simp at ce2
   have HQ1 := Lib.hid q1
   have HKAL := Lib.hid kal
   have HB95 := Lib.hid hb95
   have HBF5 := Lib.hid (HBF7.out.kp kal (fun h => h))
   have HLB := Lib.hid (show B9 < w7.heap.size from HB97.out.lt)
   clear q1 kal hb95
   go_upto_region 14 with fail
   generalize w7.alloc (.cells #[.int .u64 (m.length : Int),.slice none 0 0,.slice none 0 0] 46) = w5 at HQ1 HKAL HB95 HBF5 fr2 ce2 ⊢
   generalize w7.heap.size = g5 at HQ1 HLB ⊢
   have hst : Kp (fun i => i = B9) w5 (w5.setCell ⟨B9,2,none⟩ (.slice (some ⟨g5,0,none⟩) 1 1)) := (Kp.refl (fun i => i = B9) w5).setCell (p := ⟨B9,2,none⟩) (.inl rfl) _
   have hb9x := HB95.out.set_ 2 (.slice (some ⟨g5,0,none⟩) 1 1)
   have hq1 := HQ1.out.kp hst (fun h => by have := HLB.out;omega)
   simp at hb9x
   generalize w5.setCell ⟨B9,2,none⟩ (.slice (some ⟨g5,0,none⟩) 1 1) = w6 at hst hb9x hq1 ⊢
   have hk6 := (HK7.out.then_ HKAL.out (fun _ h => h.elim)).then_ hst (fun i h => .inr (by rw [h];exact Nat.le_of_lt HNE.out.2.2))
   have HBF6 := Lib.hid (HBF5.out.kp hst (fun h => by have := HNE.out.2.2;omega))
   have hvv : VtR w6 (fun i => True) (.agg #[.int .u64 a,.slice A1 b.length c1,.slice (some ⟨g5,0,none⟩) 1 1]) (.mk ⟨a,b⟩ [.mk ⟨(m.length : Int),[]⟩ []]) :=
    ⟨_,_,rfl,HCP.out.2.2.2.2.1,(HBR.out w6 hk6).mono (fun _ _ => trivial),HCP.out.2.1,⟨_,_,rfl,Nat.le_refl _,by show 1 ≤ 140737488355328;omega,tl_one hq1 trivial _ _ (tr_value _ hmu [] none 0 0 rfl (Nat.le_refl _) (by simp) tl_none) rfl⟩⟩
   have hft := HFT.out w6 hk6 _ _ _ hvv
   rw [HOFF.out _ (by have h3 := HKK.out.2.2.2.1 hk023;simp [aloneB,RT.a,RT.l,h3])] at hft
   have HF6 := Lib.hid hft
   have HK6 := Lib.hid hk6
   have HB9x := Lib.hid hb9x
   clear hst hb9x hk6 hvv hft hq1 HB95 HQ1 HKAL HBF5 HLB fr2 ce2
   have f0 := HBF6.out.cell 0
   have f1 := HBF6.out.cell 1
   have f2 := HBF6.out.cell 2
   have f3 := HBF6.out.cell 3
   have f4 := HBF6.out.cell 4
   have f5 := HBF6.out.cell 5
   have v0 := HB9x.out.cell 0
   have v1 := HB9x.out.cell 1
   have v2 := HB9x.out.cell 2
   simp at f0 f1 f2 f3 f4 f5 v0 v1 v2
   go_wp2_with fail
   refine HF6.out.mono ?_
   rintro e w7 ⟨rfl,hk7⟩
   have HK7 := Lib.hid (HK6.out.then_ hk7 (fun _ h => h.elim))
   clear hk7 f0 f1 f2 f3 f4 f5 v0 v1 v2 HF6 HBF6 HB9x
   go_wp2_with fail
   go_ret
   exact ⟨rfl,HK7.out⟩
end Go.Proofs.Ytfcghajnnllmhaa

namespace Go.Proofs.Ytfcghajnnllmhaa
open Go.Joins Go.ChangeShapes Go.WideShapes Go.ChangeAt Go.RowKit Go.Deep

theorem i64B_of {n : Int} (h : (Lit.int .i64 n).wf = true) : i64B n := by
 obtain ⟨h0,h1⟩ := bounds_i64 h
 exact ⟨h0,by omega⟩
section
variable {H : Type} {enc : TypeId × Value → H} {w : World} {sp : Nat → Bool} {held : Bool} {r : Reach} {b0 : Nat}
end
end Go.Proofs.Ytfcghajnnllmhaa

namespace Go.Proofs.Ytfcghajnnllmhaa
set_option maxRecDepth 100000
open Go.Joins Go.ChangeShapes Go.WideShapes Go.ChangeAt Go.RowKit Go.Deep

theorem okWide_struct_ {P : Program} {w : World} {r : Reach} {b : Nat} {t : TypeId} {fs : Array Field} {v : Value} (ht : P.underlying t = some (.struct fs)) (h : Value.okWide P w r b t v) : ∃ cs,v = .agg cs := by
 simp only [Value.okWide,ht] at h
 obtain ⟨cs,h1,_⟩ := h
 exact ⟨cs,h1⟩
theorem form_type : TreeType Try.prog 27 25 (match Try.prog.underlying 27 with | some (.struct fs) => fs | _ => #[]) 5 where
 ht := by rw [Try.underlying27]
 hone := by rw [Try.underlying27];kernel_rfl
 hC := by kernel_rfl
 hn := by rw [Try.underlying27];rfl
 hlast := by rw [Try.underlying27];rfl
 hts := Try.underlying25
 hB := by rw [show Try.prog.bytesOf 27 = 64 from by kernel_rfl];omega
section
variable {H : Type} {enc : TypeId × Value → H} {w : World} {sp : Nat → Bool} {held : Bool} {r : Reach} {b0 : Nat}
theorem sized_at {P : Program} {ts : List TypeId} {ds : List (DataW H)} (hsz : (DataW.weightsEach P ts ds).all (· ≤ reachBytes) = true) {j : Nat} {t : TypeId} {d : DataW H} (ht : ts[j]? = some t) (hd : ds[j]? = some d) : (d.weights P t).all (· ≤ reachBytes) = true :=
 List.all_eq_true.2 fun n hn => List.all_eq_true.1 hsz n (DataW.weights_mem_each ht hd n hn)
theorem form_head : HeadOpen enc Try.prog w sp held (match Try.prog.underlying 27 with | some (.struct fs) => fs | _ => #[]) 5 FHd := by
 intro vs ds hl hf
 have each : ∀ i,i < 5 → ∃ n : Int,vs[i]? = some (.int .i64 n) ∧ i64B n := by
  intro i hi
  obtain ⟨f,v,d,ps,fuel,hfi,hv,_,ht,_⟩ := hf i hi
  have hft : f.type = 3 := by
   rw [Try.underlying27] at hfi
   rcases (show i = 0 ∨ i = 1 ∨ i = 2 ∨ i = 3 ∨ i = 4 by omega) with rfl | rfl | rfl | rfl | rfl <;>
    ·simp at hfi
     rw [← hfi]
  rw [hft] at ht
  obtain ⟨k0,e0,_,hw0⟩ := DataW.trod_int Try.underlying3 ht
  simp only [List.cons.injEq,and_true] at e0
  exact ⟨k0,by rw [hv,e0],i64B_of hw0⟩
 obtain ⟨a,ha,b0⟩ := each 0 (by omega)
 obtain ⟨b,hb,b1⟩ := each 1 (by omega)
 obtain ⟨c,hc,b2⟩ := each 2 (by omega)
 obtain ⟨d,hd,b3⟩ := each 3 (by omega)
 obtain ⟨e,he,b4⟩ := each 4 (by omega)
 refine ⟨⟨a,b,c,d,e⟩,?_,⟨b0,b1,b2,b3,b4⟩⟩
 rcases vs with _ | ⟨v0,_ | ⟨v1,_ | ⟨v2,_ | ⟨v3,_ | ⟨v4,_ | ⟨v5,vs⟩⟩⟩⟩⟩⟩ <;> simp_all
theorem open_form {v : Value} {d : DataW H} {ps : List MemPlace} {ts : List TypeId} {ds : List (DataW H)} (hv : Value.okWide Try.prog w r b0 27 v) (h : DataW.Trod enc Try.prog w 0 sp held 27 v d ps)
  (_hsz : (DataW.weightsEach Try.prog ts ds).all (· ≤ reachBytes) = true) {j : Nat} (_ht : ts[j]? = some 27) (_hd : ds[j]? = some d) : ∃ x : Fm,FmR w (· < w.heap.size) v x := by
 obtain ⟨cs,rfl⟩ := okWide_struct_ Try.underlying27 hv
 obtain ⟨fuel,hf⟩ := h
 obtain ⟨x,hx⟩ := (open_tree_ form_type form_head fuel).1 _ _ _ hf (sized_at _hsz _ht _hd)
 have h1 := (FmR.of_tr hx).1
 rw [show (Value.agg cs).cells.toList.toArray = cs from by simp [Value.cells]] at h1
 exact ⟨x,h1⟩
end
end Go.Proofs.Ytfcghajnnllmhaa

namespace Go.Proofs.Ytfcghajnnllmhaa
open Go.ChangeShapes Go.WideShapes Go.ChangeAt Go.RowKit Go.Deep

section
variable {H : Type} {enc : TypeId × Value → H} {P : Program} {w : World} {spare : Nat → Bool} {held : Bool}

theorem cells_ir {t e : TypeId} {k : IntKind} {v : Value} {fuel : Nat} {x : DataW H × List MemPlace} (ht : P.underlying t = some (.slice e)) (he : P.underlying e = some (.int k)) (hC : P.cellsOf e = 1)
  (hf : DataW.trod enc P w 0 spare held fuel t [v] = some x) :
  ∃ l : List Int,IR k w (· < w.heap.size) v l ∧ (∀ n ∈ l,(Lit.int k n).wf = true) ∧ lenD x.1 = l.length ∧ l.length ≤ maxLen := by
 rcases open_ints ht he hC hf with ⟨hcs,hx⟩ | ⟨x,l,c,zs,hcs,_,hl,hm,hz,hx,hcell,hwz⟩
 ·simp only [List.cons.injEq,and_true] at hcs
  subst hcs hx
  exact ⟨[],⟨none,0,rfl,Nat.le_refl _,Rd.none_⟩,fun n hn => by simp at hn,rfl,Nat.zero_le _⟩
 ·simp only [List.cons.injEq,and_true] at hcs
  subst hcs hx
  have hlz : l ≤ zs.length := by rw [hz];split <;> omega
  have hlt : (zs.take l).length = l := by simp;omega
  refine ⟨zs.take l,⟨some x,c,?_,?_,?_,fun hn => ?_⟩,fun n hn => hwz n (List.mem_of_mem_take hn),?_,by rw [hlt];omega⟩
  ·rw [hlt]
  ·rw [hlt];exact hl
  ·simp [ic]
  ·have h0 := hcell 0 (by rw [hlt] at hn;omega)
   have hsp : x.spot = none := by simpa [Addr.add] using World.cell?_spot h0
   have hb := cell_lt h0
   rw [block_add] at hb
   refine ⟨x,rfl,hsp,hb,fun j u hu => ?_⟩
   simp only [ic,List.getElem?_map,List.getElem?_take] at hu
   split at hu
   ·rename_i hj
    have hj' : j < zs.length := by omega
    rw [List.getElem?_eq_getElem hj'] at hu
    simp at hu
    subst hu
    have h1 := hcell j hj'
    rw [h1]
    simp [List.getElem?_eq_getElem hj']
   ·simp at hu
  ·simp [lenD,lits]

theorem cells_br {t e : TypeId} {v : Value} {fuel : Nat} {x : DataW H × List MemPlace} (ht : P.underlying t = some (.slice e)) (he : P.underlying e = some (.int .u8)) (hC : P.cellsOf e = 1)
  (hf : DataW.trod enc P w 0 spare held fuel t [v] = some x) :
  ∃ l : List UInt8,BR w (· < w.heap.size) v l ∧ lenD x.1 = l.length ∧ l.length ≤ maxLen := by
 obtain ⟨l,⟨A,c,rfl,hc,hr⟩,hw,hd,hm⟩ := cells_ir ht he hC hf
 obtain ⟨m,hme,hl⟩ := bytes_of hw
 refine ⟨m,⟨A,c,by rw [hl],by omega,?_⟩,by omega,by omega⟩
 rw [← hme,hl]
 exact hr
end
end Go.Proofs.Ytfcghajnnllmhaa

namespace Go.Proofs.Ytfcghajnnllmhaa
set_option maxRecDepth 100000
open Go.Joins Go.ChangeShapes Go.WideShapes Go.ChangeAt Go.RowKit Go.Deep

theorem value_type : TreeType Try.prog 46 44 (match Try.prog.underlying 46 with | some (.struct fs) => fs | _ => #[]) 2 where
 ht := by rw [Try.underlying46]
 hone := by rw [Try.underlying46];kernel_rfl
 hC := by kernel_rfl
 hn := by rw [Try.underlying46];rfl
 hlast := by rw [Try.underlying46];rfl
 hts := Try.underlying44
 hB := by rw [show Try.prog.bytesOf 46 = 56 from by kernel_rfl];omega
section
variable {H : Type} {enc : TypeId × Value → H} {w : World} {sp : Nat → Bool} {held : Bool} {r : Reach} {b0 : Nat}
theorem weights_lenD {P : Program} {t e : TypeId} {d : DataW H} (ht : P.underlying t = some (.slice e)) (h : (d.weights P t).all (· ≤ reachBytes) = true) : lenD d * P.bytesOf e ≤ 140737488351232 := by
 cases d with
 | slice es rest => exact weights_len ht h
 | _ => simp [lenD]
theorem value_head : HeadOpen enc Try.prog w sp held (match Try.prog.underlying 46 with | some (.struct fs) => fs | _ => #[]) 2 VHd := by
 intro vs ds hl hf
 obtain ⟨f0,v0,d0,ps0,fuel0,hf0,hv0,_,ht0,_⟩ := hf 0 (by omega)
 obtain ⟨f1,v1,d1,ps1,fuel1,hf1,hv1,_,ht1,hw1⟩ := hf 1 (by omega)
 have e0 : f0.type = 42 := by
  rw [Try.underlying46] at hf0
  simp at hf0
  rw [← hf0]
 have e1 : f1.type = 43 := by
  rw [Try.underlying46] at hf1
  simp at hf1
  rw [← hf1]
 rw [e0] at ht0
 rw [e1] at ht1 hw1
 obtain ⟨k0,x0,_,hk0⟩ := DataW.trod_int Try.underlying42 ht0
 simp only [List.cons.injEq,and_true] at x0
 obtain ⟨b,hb,hb2,_⟩ := cells_br Try.underlying43 Try.underlying5 (by kernel_rfl) ht1
 have hlen := weights_lenD Try.underlying43 hw1
 rw [show Try.prog.bytesOf 5 = 1 from by kernel_rfl,Nat.mul_one] at hlen
 obtain ⟨q0,q1⟩ := bounds_u64 hk0
 refine ⟨⟨k0,b⟩,v1,?_,⟨q0,by show k0 < _;omega⟩,hb,by show b.length ≤ _;simp only at hb2;omega⟩
 rcases vs with _ | ⟨y0,_ | ⟨y1,_ | ⟨y2,vs⟩⟩⟩ <;> simp_all
theorem open_value {v : Value} {d : DataW H} {ps : List MemPlace} {ts : List TypeId} {ds : List (DataW H)} (hv : Value.okWide Try.prog w r b0 46 v) (h : DataW.Trod enc Try.prog w 0 sp held 46 v d ps)
  (_hsz : (DataW.weightsEach Try.prog ts ds).all (· ≤ reachBytes) = true) {j : Nat} (_ht : ts[j]? = some 46) (_hd : ds[j]? = some d) : ∃ x : Vt,VtR w (· < w.heap.size) v x := by
 obtain ⟨cs,rfl⟩ := okWide_struct_ Try.underlying46 hv
 obtain ⟨fuel,hf⟩ := h
 obtain ⟨x,hx⟩ := (open_tree_ value_type value_head fuel).1 _ _ _ hf (sized_at _hsz _ht _hd)
 have h1 := (VtR.of_tr hx).1
 rw [show (Value.agg cs).cells.toList.toArray = cs from by simp [Value.cells]] at h1
 exact ⟨x,h1⟩
end
end Go.Proofs.Ytfcghajnnllmhaa

namespace Go.Proofs.Ytfcghajnnllmhaa.valueAlone
open Go.ChangeShapes Go.WideShapes Go.ChangeAt Go.RowKit
set_option linter.unusedVariables false

theorem own : ownKnob Try.prog.godebug = none := by kernel_rfl
theorem laidOut : laidOutB Try.prog = true := by kernel_rfl

set_option maxRecDepth 100000 in
theorem lifted (os : Os) (started : os.Started) (H : Type) (enc : TypeId × Value → H) :
  ReturnsInHanded {} Try.checked os 10 .any (Rows.valueAloneSpec.pre6 enc Try.prog Try.f10 Rows.valueAloneRow.domain false) (Rows.valueAloneSpec.post enc Try.prog Try.f10 false true false false) := by
 refine returnsInHanded_of_change_sized (C := Try.checked) own started (by kernel_rfl) Try.func10
  (ChangeSpec.witness6 (enc := enc) (C := Try.checked) false ⟨#[],#[.agg #[.int .i64 0,.int .i64 0,.int .i64 0,.int .i64 0,.int .i64 0,.slice none 0 0],.agg #[.int .u64 0,.slice none 0 0,.slice none 0 0],.slice none 0 0],[]⟩ 8 (by kernel_rfl) (by kernel_rfl) (by kernel_rfl) (by kernel_rfl)) ?_
 intro W base args ds gs before hval0 hW hcnd hsz0 _
 have hval : ∀ (j : Nat) t v,Try.f10.params[j]? = some t → args[j]? = some v → Value.okWide Try.prog W .any base t v := hval0
 have hW' := hW
 obtain ⟨p,q,hA0,hV,rfl,hfz,hnd⟩ := hW
 have hA : DataW.TrodAll enc Try.prog W 0 (fun _ => true) true Try.f10.params.toList args.toList ds p := hA0
 obtain ⟨rfl,rfl⟩ := trodVars_none hV
 have hsz : (DataW.weightsEach Try.prog (Try.f10.params.toList ++ []) (ds ++ [])).all (· ≤ reachBytes) = true := hsz0
 rw [List.append_nil,List.append_nil] at hsz
 rw [Try.params10] at hA hval hsz
 obtain ⟨v0,vs0,d0,ds0,p0,q0,hargs,rfl,rfl,h0,r0⟩ := trodAll_cons hA
 obtain ⟨v1,vs1,d1,ds1,p1,q1,rfl,rfl,rfl,h1,r1⟩ := trodAll_cons r0
 obtain ⟨v2,vs2,d2,ds2,p2,q2,rfl,rfl,rfl,h2,r2⟩ := trodAll_cons r1
 obtain ⟨rfl,rfl,rfl⟩ := trodAll_nil r2
 obtain rfl : args = #[v0,v1,v2] := by cases args;simp_all
 have k0 := h0
 have lt0 : ∀ x ∈ p0,x.block < W.heap.size := by obtain ⟨m,hm⟩ := k0;exact DataW.trod_lt m _ _ _ hm
 have k1 := h1
 have lt1 : ∀ x ∈ p1,x.block < W.heap.size := by obtain ⟨m,hm⟩ := k1;exact DataW.trod_lt m _ _ _ hm
 have k2 := h2
 have lt2 : ∀ x ∈ p2,x.block < W.heap.size := by obtain ⟨m,hm⟩ := k2;exact DataW.trod_lt m _ _ _ hm
 obtain ⟨l0,b0⟩ := open_form (hval 0 27 v0 rfl rfl) h0 (_hsz := hsz) (j := 0) rfl rfl
 obtain ⟨l1,b1⟩ := open_value (hval 1 46 v1 rfl rfl) h1 (_hsz := hsz) (j := 1) rfl rfl
 obtain ⟨l2,b2,e2⟩ := open_br Try.underlying43 Try.underlying5 (by kernel_rfl) (hval 2 43 v2 rfl rfl) h2
 have s2 := sized_len hsz (j := 2) (t := 43) (e := 5) rfl rfl Try.underlying43 e2
 rw [show Try.prog.bytesOf 5 = 1 from by kernel_rfl] at s2
 clear hA0 hval0 hsz0
 refine (valone_walk W v0 l0 b0 v1 l1 b1 v2 l2 b2 (by omega)).mono fun e W' ⟨he,bel⟩ => ?_
 subst he
 exact ⟨_,rfl,_,_,_,[],_,[],hW',trodAll_mk1 (shut_bool Try.underlying4 _),(trodAll_cons_mk (Below.trod laidOut (by kernel_rfl) (of_decide_eq_true (by kernel_rfl)) k0 bel lt0) (trodAll_cons_mk (Below.trod laidOut (by kernel_rfl) (of_decide_eq_true (by kernel_rfl)) k1 bel lt1) (trodAll_cons_mk (Below.trod laidOut (by kernel_rfl) (of_decide_eq_true (by kernel_rfl)) k2 bel lt2) trodAll_mk0))),rfl,bel.frame _,fun h => by cases h⟩

theorem over : Rows.valueAloneRow.holds Try.pinned (OpenSpec.ofChange Rows.valueAloneSpec) :=
 OpenClaim.holds_of_wide 10 Try.f10 rfl rfl rfl rfl rfl rfl rfl ⟨rfl,rfl,rfl,rfl,rfl⟩ rfl rfl rfl rfl rfl (by kernel_rfl) Try.func10 (by kernel_rfl)
  (of_decide_eq_true (by kernel_rfl)) (by unfold Func.isWrapper;first | (rw [if_pos (by decide +kernel)];kernel_rfl) | (rw [if_neg (by decide +kernel)];exact ⟨rfl,rfl⟩))
  (fun os started H enc _ => lifted os started H enc)

theorem proved : Rows.ValueAloneSaid := over
#print axioms proved
end Go.Proofs.Ytfcghajnnllmhaa.valueAlone
