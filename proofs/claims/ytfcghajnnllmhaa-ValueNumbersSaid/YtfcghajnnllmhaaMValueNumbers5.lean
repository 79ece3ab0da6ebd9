/-
  The law ValueNumbers: for every input it returns true, and its arguments read behind the call as before it. No condition.
-/
import Derived.Deep.RegionHeld3
import Derived.Deep.RegionWith
import Derived.Test.YtfcghajnnllmhaaRows
import Derived.Test.YtfcghajnnllmhaaMValueNumbers1
import Derived.Test.YtfcghajnnllmhaaMValueNumbers4

set_option linter.unusedVariables false
set_option linter.unusedSimpArgs false
namespace Go.Proofs.Ytfcghajnnllmhaa
open Go.RowKit

abbrev nF (s : Int) : Fm := .mk ⟨0,s,0,0,0⟩ []
abbrev nX (x : Int) : Vt := .mk ⟨x,[]⟩ []
theorem size_flat {k s lo hi st : Int} {x : Vt} (h : ownN k s lo hi st 0 = 0) : sizeR (.mk ⟨k,s,lo,hi,st⟩ []) x = if (fitR (.mk ⟨k,s,lo,hi,st⟩ []) x).2 = 0 then ((fitR (.mk ⟨k,s,lo,hi,st⟩ []) x).1,0) else (0,(fitR (.mk ⟨k,s,lo,hi,st⟩ []) x).2) := by
 have hd : deepB 8 (.mk ⟨k,s,lo,hi,st⟩ [] : Fm) = false := by
  rw [deepB]
  unfold partsF
  split <;> simp [RT.l]
 have hc : checkR (.mk ⟨k,s,lo,hi,st⟩ [] : Fm) = 0 := by
  rw [checkR_mk]
  simp only [List.length_nil,h]
  simp [checkL,badF]
 exact sizeR_eq hd hc
theorem nums_size (s x : Int) (hs : s = 1 ∨ s = 2 ∨ s = 3 ∨ s = 4 ∨ s = 8) : sizeR (nF s) (nX x) = if s < 8 ∧ (2 : Int) ^ (8 * s.toNat) ≤ x then (0,3) else (s,0) := by
 have e0 : fld 0 = 0 := by decide
 have ho : ownN 0 s 0 0 0 0 = 0 := by rcases hs with rfl | rfl | rfl | rfl | rfl <;> decide
 have hf : fitR (nF s) (nX x) = if s < 8 ∧ (2 : Int) ^ (8 * s.toNat) ≤ x then (0,3) else (s,0) := by
  rw [fitR_mk,if_neg (by simp [aloneB,e0]),if_pos rfl]
 rw [size_flat ho,hf]
 split <;> simp
theorem raw_size (b : List UInt8) (n : Int) (hk : 0 ≤ n) (hn : n < 3000) (hb : b.length ≤ 2000) :
  sizeR (.mk ⟨5,0,n,0,0⟩ []) (.mk ⟨0,b⟩ []) = ((if (b.length : Int) = n then n else 0),(if (b.length : Int) = n then 0 else 5)) ∧
  (sizeR (.mk ⟨4,0,n,16777215,0⟩ []) (.mk ⟨0,b⟩ [])).2 = (if n ≤ (b.length : Int) then 0 else 5) ∧
  (sizeR (.mk ⟨1,3,0,n,1⟩ []) (.mk ⟨0,b⟩ [])).2 = (if (b.length : Int) ≤ n then 0 else 5) := by
 have e5 : fld 5 = 1 := by decide
 have e4 : fld 4 = 1 := by decide
 have e1 : fld 1 = 1 := by decide
 have t1 : ∀ z : Int,Int.tmod z 1 = 0 := fun z => by simp
 refine ⟨?_,?_,?_⟩
 ·have ho : ownN 5 0 n 0 0 0 = 0 := by
   unfold ownN boundsR
   simp
   omega
  have hf : fitR (.mk ⟨5,0,n,0,0⟩ []) (.mk ⟨0,b⟩ []) = (n,if (b.length : Int) = n then 0 else 5) := by
   rw [fitR_mk,if_neg (by simp [aloneB,e5]),if_neg (by simp),if_neg (by simp),if_neg (by simp),if_pos rfl]
   unfold mayR
   simp only [t1]
   congr 1
   by_cases h : (b.length : Int) = n
   ·rw [if_neg (by omega),if_neg (by omega),if_pos h,if_pos trivial]
   ·rw [if_neg h]
    by_cases h2 : (b.length : Int) < n
    ·rw [if_pos h2]
    ·rw [if_neg h2,if_pos (by omega)]
  rw [size_flat ho,hf]
  by_cases h : (b.length : Int) = n <;> simp [h]
 ·have ho : ownN 4 0 n 16777215 0 0 = 0 := by
   unfold ownN boundsR
   simp
   omega
  have hf : fitR (.mk ⟨4,0,n,16777215,0⟩ []) (.mk ⟨0,b⟩ []) = ((b.length : Int),if n ≤ (b.length : Int) then 0 else 5) := by
   rw [fitR_mk,if_neg (by simp [aloneB,e4]),if_neg (by simp),if_neg (by simp),if_pos rfl]
   unfold mayR
   simp only [t1]
   congr 1
   by_cases h : n ≤ (b.length : Int)
   ·rw [if_neg (by omega),if_neg (by omega),if_pos h,if_pos trivial]
   ·rw [if_neg h,if_pos (by omega)]
  rw [size_flat ho,hf]
  by_cases h : n ≤ (b.length : Int) <;> simp [h]
 ·have ho : ownN 1 3 0 n 1 0 = 0 := by
   unfold ownN boundsR
   simp
   omega
  have hf : (fitR (.mk ⟨1,3,0,n,1⟩ []) (.mk ⟨0,b⟩ [])).2 = (if (b.length : Int) ≤ n then 0 else 5) := by
   rw [fitR_mk,if_neg (by simp [aloneB,e1]),if_neg (by simp),if_pos rfl]
   unfold mayR
   simp only [t1]
   by_cases h : (b.length : Int) ≤ n
   ·rw [if_neg (by omega),if_neg (by omega),if_pos h,if_pos trivial]
   ·rw [if_neg h,if_neg (by omega),if_pos (by omega)]
  rw [size_flat ho]
  by_cases h : (fitR (.mk ⟨1,3,0,n,1⟩ []) (.mk ⟨0,b⟩ [])).2 = 0
  ·rw [if_pos h,← hf,h]
  ·rw [if_neg h,hf]
theorem flatF_R {W : World} {ok : Nat → Prop} (k s lo hi st : Int) (h : FH.ok ⟨k,s,lo,hi,st⟩) : FmR W ok (.agg #[.int .i64 k,.int .i64 s,.int .i64 lo,.int .i64 hi,.int .i64 st,.slice none 0 0]) (.mk ⟨k,s,lo,hi,st⟩ []) :=
 (FmR.of_tr (tr_form ⟨k,s,lo,hi,st⟩ h [] none 0 0 rfl (Nat.le_refl _) (by simp) tl_none)).1
/-! the walk -/
theorem wrap_pow (sz : Int) (h : sz = 1 ∨ sz = 2 ∨ sz = 3 ∨ sz = 4) : IntKind.u64.wrap (2 ^ (8 * sz).toNat) = 2 ^ (8 * sz.toNat) := by
 rcases h with rfl | rfl | rfl | rfl <;> decide
set_option maxRecDepth 100000 in
set_option maxHeartbeats 25600000 in
theorem vnums_walk (w : World) (x : Int) (hx0 : (Lit.int .u64 x).wf = true) (bv : Value) (b : List UInt8) (hb : BR w (· < w.heap.size) bv b) (_hl : b.length ≤ 140737488351232) (n : Int) (hn0 : (Lit.int .i64 n).wf = true) :
  Calls Try.prog 12 #[.int .u64 x,bv,.int .i64 n] w fun e w' => e = .returned (.bool true) ∧ Below w.heap.size w w' := by
 refine Calls.mono (R := fun e w' => e = .returned (.bool true) ∧ Kp (fun _ => False) w w') ?_ fun _ _ ⟨h1,h2⟩ => ⟨h1,h2.below⟩
 have hx : u64B x := by
  obtain ⟨q0,q1⟩ := bounds_u64 hx0
  exact ⟨q0,by omega⟩
 obtain ⟨hn1,hn2⟩ := bounds_i64 hn0
 obtain ⟨Ab,cb,rfl,hbc,_⟩ := id hb
 have HAL := Lib.hid alive05
 have HNM := Lib.hid (vnum_any x)
 have HBY := Lib.hid (fun W (hk : Kp (fun _ => False) w W) (h : b.length ≤ 100000) => vbytes_any _ Ab cb b W (hb.kp hk (fun _ _ h => h)) h)
 have HXB := Lib.hid hx
 obtain ⟨gb,hgb⟩ : ∃ gb,decide (2000 < (b.length : Int)) = gb := ⟨_,rfl⟩
 clear hb hx0 hx hn0
 have HAL0 := Lib.hid (HAL.out w)
 go_enter Try.func12,Try.ntmps12
 go_wp2_with fail
 refine HAL0.out.mono ?_
 rintro e w1 ⟨rfl,hk1⟩
 have HK1 := Lib.hid hk1
 clear hk1 HAL0
 cases gb with
 | true =>
  have HA2 := Lib.hid (HAL.out w1)
  go_wp2_with fail
  refine HA2.out.mono ?_
  rintro e w9 ⟨rfl,hk9⟩
  have HK9 := Lib.hid (HK1.out.then_ hk9 (fun _ h => h.elim))
  clear hk9
  go_wp2_with fail
  go_ret
  exact ⟨rfl,HK9.out⟩
 | false =>
  have hb2k : b.length ≤ 2000 := by have := of_decide_eq_false hgb;omega
  clear HAL hgb
  have HL := Lib.hid (Blk.new w1 3 #[.int .i64 1,.int .i64 2,.int .i64 3,.int .i64 4,.int .i64 8])
  have hk2 : Kp (fun _ => False) w1 (w1.alloc (.cells #[.int .i64 1,.int .i64 2,.int .i64 3,.int .i64 4,.int .i64 8] 3)) := (Kp.refl _ _).alloc _
  have HK2 := Lib.hid (HK1.out.then_ hk2 (fun _ h => h.elim))
  clear hk2 HK1
  go_upto_region 4 with fail
  generalize w1.alloc (.cells #[.int .i64 1,.int .i64 2,.int .i64 3,.int .i64 4,.int .i64 8] 3) = W2 at HL HK2 ⊢
  generalize w1.heap.size = g2 at HL ⊢
  go_loopw [26] (fun i wr => ∃ j : Nat,j ≤ 5 ∧ i = .int .i64 j ∧ Kp (fun _ => False) W2 wr) (fun i _ => 5 - (intOf i).toNat)
  case atStart => exact ⟨0,Nat.zero_le _,rfl,Kp.refl _ _⟩
  case round =>
   obtain ⟨j,hj,rfl,hkr⟩ := hrel
   have HKR := Lib.hid hkr
   have HLR := Lib.hid (HL.out.kp hkr (fun h => h))
   have HKW := Lib.hid (HK2.out.then_ hkr (fun _ h => h.elim))
   clear hkr
   by_cases hlt : j < 5
   ·obtain ⟨sz,hsz,hsj⟩ : ∃ sz : Int,(sz = 1 ∨ sz = 2 ∨ sz = 3 ∨ sz = 4 ∨ sz = 8) ∧ wr.cell? ⟨g2,j,none⟩ = some (.int .i64 sz) := by
     have h0 := HLR.out.cell 0
     have h1 := HLR.out.cell 1
     have h2 := HLR.out.cell 2
     have h3 := HLR.out.cell 3
     have h4 := HLR.out.cell 4
     simp at h0 h1 h2 h3 h4
     have : j = 0 ∨ j = 1 ∨ j = 2 ∨ j = 3 ∨ j = 4 := by omega
     rcases this with rfl | rfl | rfl | rfl | rfl
     ·exact ⟨1,by simp,h0⟩
     ·exact ⟨2,by simp,h1⟩
     ·exact ⟨3,by simp,h2⟩
     ·exact ⟨4,by simp,h3⟩
     ·exact ⟨8,by simp,h4⟩
    have hi0 : (0 : Int) ≤ (j : Int) := by omega
    have hi1 : (j : Int) < 5 := by omega
    have hsi : -100 ≤ sz ∧ sz ≤ 1000 := by omega
    have hs0 : 0 ≤ sz := by omega
    have hnum := nums_size sz x hsz
    obtain ⟨t,ht⟩ : ∃ t,decide (¬ (sz < 8 ∧ (2 : Int) ^ (8 * sz.toNat) ≤ x)) = t := ⟨_,rfl⟩
    have hres : sizeR (nF sz) (nX x) = if t = true then (sz,0) else (0,3) := by
     rw [hnum]
     cases t with
     | true =>
      have := of_decide_eq_true ht
      rw [if_neg this,if_pos rfl]
     | false =>
      have := of_decide_eq_false ht
      rw [if_pos (Decidable.not_not.1 this),if_neg (by simp)]
    have hg8 : ((sz == 8) = true ∧ t = true) ∨ ((sz == 8) = false ∧ sz < 8 ∧ decide (x < IntKind.u64.wrap (2 ^ (8 * sz).toNat)) = t) := by
     by_cases h8 : sz = 8
     ·refine .inl ⟨by simpa using h8,?_⟩
      rw [← ht]
      exact decide_eq_true (fun h => by omega)
     ·have h7 : sz < 8 := by omega
      refine .inr ⟨by simpa using h8,h7,?_⟩
      rw [← ht]
      rw [wrap_pow sz (by omega),decide_eq_decide]
      constructor
      ·intro h1 h2
       omega
      ·intro h1
       exact Int.not_le.1 (fun h => h1 ⟨h7,h⟩)
    have HRES := Lib.hid hres
    have HFR := Lib.hid (fun (W : World) => flatF_R (W := W) (ok := (· < W.heap.size)) 0 sz 0 0 0 (fh_small _ _ _ _ _ (by simp;omega)))
    clear hnum ht hres hsz hsi
    go_upto_region 7 with fail
    have hk5 : Kp (fun _ => False) wr (wr.alloc (.cells #[.int .i64 0,.int .i64 sz,.int .i64 0,.int .i64 0,.int .i64 0,.slice none 0 0] 27)) := (Kp.refl _ wr).alloc _
    have hb9 := Blk.new wr 27 #[.int .i64 0,.int .i64 sz,.int .i64 0,.int .i64 0,.int .i64 0,.slice none 0 0]
    generalize wr.alloc (.cells #[.int .i64 0,.int .i64 sz,.int .i64 0,.int .i64 0,.int .i64 0,.slice none 0 0] 27) = W5 at hk5 hb9 ⊢
    generalize wr.heap.size = g9 at hb9 ⊢
    have HK5 := Lib.hid (HKR.out.then_ hk5 (fun _ h => h.elim))
    have HCE := Lib.hid (fun W (hk : Kp (fun _ => False) W5 W) => show (fun w' : World => w'.cell? ⟨g9,0,none⟩ = some (.int .i64 0) ∧ w'.cell? ⟨g9,1,none⟩ = some (.int .i64 sz) ∧ w'.cell? ⟨g9,2,none⟩ = some (.int .i64 0) ∧ w'.cell? ⟨g9,3,none⟩ = some (.int .i64 0) ∧ w'.cell? ⟨g9,4,none⟩ = some (.int .i64 0) ∧ w'.cell? ⟨g9,5,none⟩ = some (.slice none 0 0)) W from by have hb := hb9.kp hk (fun h => h);exact ⟨hb.cell 0,hb.cell 1,hb.cell 2,hb.cell 3,hb.cell 4,hb.cell 5⟩)
    clear hk5 hb9 HKR HLR HKW hsj
    go_cut [10] (fun c wx => c = .bool t ∧ wx = W5)
    case first =>
     rcases hg8 with ⟨h8,rfl⟩ | ⟨h8,h7,hd⟩
     ·go_wp2_with fail
      go_meet
      exact ⟨rfl,rfl⟩
     ·go_wp2_with fail
      go_meet
      exact ⟨by first | rfl | rw [hd],rfl⟩
    case rest =>
    obtain ⟨rfl,rfl⟩ := hcut
    clear hg8
    have HKZ := Lib.hid (Kp.refl (fun _ => False) wc)
    have hans : ∃ sr er : Int,sizeR (nF sz) (nX x) = (sr,er) ∧ ((t = true ∧ sr = sz ∧ er = 0) ∨ (t = false ∧ er = 3)) := by
     cases t with
     | true => exact ⟨sz,0,by rw [HRES.out,if_pos rfl],.inl ⟨rfl,rfl,rfl⟩⟩
     | false => exact ⟨0,3,by rw [HRES.out,if_neg (by simp)],.inr ⟨rfl,rfl⟩⟩
    obtain ⟨sr,er,hres,hcase⟩ := hans
    have HFT := Lib.hid (fun W => by have := vfits6_any (· < W.heap.size) (fun _ => False) _ _ _ _ W (fun _ h => h) (HFR.out W) (VtR.num_ (W := W) HXB.out);rw [hres] at this;exact this)
    have HSS := Lib.hid (fun W => by have := vsizeS6_any (· < W.heap.size) (fun _ => False) _ _ _ _ W (fun _ h => h) (HFR.out W) (VtR.num_ (W := W) HXB.out);rw [hres] at this;exact this)
    clear hres HRES HFR
    go_upto_region 8 with fail
    go_cut [11] (fun c wx => c = .int .i64 er ∧ Kp (fun _ => False) wc wx)
    case first =>
     go_region_held3 (fun w' : World => w'.cell? ⟨g9,0,none⟩ = some (.int .i64 0) ∧ w'.cell? ⟨g9,1,none⟩ = some (.int .i64 sz) ∧ w'.cell? ⟨g9,2,none⟩ = some (.int .i64 0) ∧ w'.cell? ⟨g9,3,none⟩ = some (.int .i64 0) ∧ w'.cell? ⟨g9,4,none⟩ = some (.int .i64 0) ∧ w'.cell? ⟨g9,5,none⟩ = some (.slice none 0 0)) (first | exact HCE.out _ HKZ.out | exact HCE.out _ HKZ.out.drew) (first
      | (go_at_call 38;refine (HNM.out _).mono ?_;rintro e w5 ⟨rfl,hk5⟩;have hq := Kp.then_ (a := wc) (S := fun _ => False) (by first | exact HKZ.out | exact HKZ.out.drew) hk5 (fun _ h => h.elim);clear HKZ;have HKZ := Lib.hid hq;clear hq hk5)
      | (go_at_call 33;refine (HFT.out _).mono ?_;rintro e w5 ⟨rfl,hk5⟩;have hq := Kp.then_ (a := wc) (S := fun _ => False) (by first | exact HKZ.out | exact HKZ.out.drew) hk5 (fun _ h => h.elim);clear HKZ;have HKZ := Lib.hid hq;clear hq hk5))
     go_wp2_with fail
     go_meet
     exact ⟨rfl,HKZ.out⟩
    case rest =>
    obtain ⟨rfl,hkc⟩ := hcut
    generalize wc = w7 at hkc ⊢
    have HK7 := Lib.hid (HK5.out.then_ hkc (fun _ h => h.elim))
    have HCE7 := Lib.hid (fun W (hk : Kp (fun _ => False) w7 W) => HCE.out W (hkc.then_ hk (fun _ h => h.elim)))
    clear hkc HCE HFT HKZ HK5
    have HKZ := Lib.hid (Kp.refl (fun _ => False) w7)
    go_upto_region 9 with fail
    go_cut [67] (fun c wx => c = .bool false ∧ Kp (fun _ => False) w7 wx)
    case first =>
     rcases hcase with ⟨rfl,rfl,rfl⟩ | ⟨rfl,rfl⟩
     ·refine wp_region_noPanic ?_
      refine wp_region_held_drew (S := (fun w' : World => w'.cell? ⟨g9,0,none⟩ = some (.int .i64 0) ∧ w'.cell? ⟨g9,1,none⟩ = some (.int .i64 sr) ∧ w'.cell? ⟨g9,2,none⟩ = some (.int .i64 0) ∧ w'.cell? ⟨g9,3,none⟩ = some (.int .i64 0) ∧ w'.cell? ⟨g9,4,none⟩ = some (.int .i64 0) ∧ w'.cell? ⟨g9,5,none⟩ = some (.slice none 0 0))) (by kernel_rfl) (HCE7.out _ HKZ.out.drew) (fun hHeld => ?_)
      have hq := HKZ.out.drew
      clear HKZ
      have HKZ := Lib.hid hq
      clear hq
      generalize w7.drew = y0 at HKZ hHeld ⊢
      refine wpAnyH_take (i := 0) (v := ?va_0) (by simp only [List.getElem?_toArray,List.getElem?_cons_succ,List.getElem?_cons_zero];rfl) (by kernel_rfl) (by kernel_rfl) (by kernel_rfl) (fun _ _ _ h => h) (Or.inl ⟨by rfl,?ha_0⟩) (by assumption) ?ra_0
      case ha_0 => (intro w hSw;(try dsimp only at hSw);go_simp;(try with_reducible rfl))
      try simp only [Act.put,List.setIfInBounds_toArray,List.set_cons_zero,List.set_cons_succ]
      refine wpAnyH_take (i := 1) (v := ?va_1) (by simp only [List.getElem?_toArray,List.getElem?_cons_succ,List.getElem?_cons_zero];rfl) (by kernel_rfl) (by kernel_rfl) (by kernel_rfl) (fun _ _ _ h => h) (Or.inl ⟨by rfl,?ha_1⟩) (by assumption) ?ra_1
      case ha_1 => (intro w hSw;(try dsimp only at hSw);go_simp;(try with_reducible rfl))
      try simp only [Act.put,List.setIfInBounds_toArray,List.set_cons_zero,List.set_cons_succ]
      refine wpAnyH_take (i := 2) (v := ?va_2) (by simp only [List.getElem?_toArray,List.getElem?_cons_succ,List.getElem?_cons_zero];rfl) (by kernel_rfl) (by kernel_rfl) (by kernel_rfl) (fun _ _ _ h => h) (Or.inl ⟨by rfl,?ha_2⟩) (by assumption) ?ra_2
      case ha_2 => (intro w hSw;(try dsimp only at hSw);go_simp;(try with_reducible rfl))
      try simp only [Act.put,List.setIfInBounds_toArray,List.set_cons_zero,List.set_cons_succ]
      refine wpAnyH_take (i := 3) (v := ?va_3) (by simp only [List.getElem?_toArray,List.getElem?_cons_succ,List.getElem?_cons_zero];rfl) (by kernel_rfl) (by kernel_rfl) (by kernel_rfl) (fun _ _ _ h => h) (Or.inl ⟨by rfl,?ha_3⟩) (by assumption) ?ra_3
      case ha_3 => (intro w hSw;(try dsimp only at hSw);go_simp;(try with_reducible rfl))
      try simp only [Act.put,List.setIfInBounds_toArray,List.set_cons_zero,List.set_cons_succ]
      refine wpAnyH_take (i := 4) (v := ?va_4) (by simp only [List.getElem?_toArray,List.getElem?_cons_succ,List.getElem?_cons_zero];rfl) (by kernel_rfl) (by kernel_rfl) (by kernel_rfl) (fun _ _ _ h => h) (Or.inl ⟨by rfl,?ha_4⟩) (by assumption) ?ra_4
      case ha_4 => (intro w hSw;(try dsimp only at hSw);go_simp;(try with_reducible rfl))
      try simp only [Act.put,List.setIfInBounds_toArray,List.set_cons_zero,List.set_cons_succ]
      refine wpAnyH_take (i := 5) (v := ?va_5) (by simp only [List.getElem?_toArray,List.getElem?_cons_succ,List.getElem?_cons_zero];rfl) (by kernel_rfl) (by kernel_rfl) (by kernel_rfl) (fun _ _ _ h => h) (Or.inl ⟨by rfl,?ha_5⟩) (by assumption) ?ra_5
      case ha_5 => (intro w hSw;(try dsimp only at hSw);go_simp;(try with_reducible rfl))
      try simp only [Act.put,List.setIfInBounds_toArray,List.set_cons_zero,List.set_cons_succ]
      refine wpAnyH_take (i := 6) (v := ?va_6) (by simp only [List.getElem?_toArray,List.getElem?_cons_succ,List.getElem?_cons_zero];rfl) (by kernel_rfl) (by kernel_rfl) (by kernel_rfl) (fun _ _ _ h => h) (Or.inl ⟨by rfl,?ha_6⟩) (by assumption) ?ra_6
      case ha_6 => (intro w hSw;(try dsimp only at hSw);go_simp;(try with_reducible rfl))
      try simp only [Act.put,List.setIfInBounds_toArray,List.set_cons_zero,List.set_cons_succ]
      refine wpAnyH_take (i := 7) (v := ?va_7) (by simp only [List.getElem?_toArray,List.getElem?_cons_succ,List.getElem?_cons_zero];rfl) (by kernel_rfl) (by kernel_rfl) (by kernel_rfl) (fun _ _ _ h => h) (Or.inl ⟨by rfl,?ha_7⟩) (by assumption) ?ra_7
      case ha_7 => (intro w hSw;(try dsimp only at hSw);go_simp;(try with_reducible rfl))
      try simp only [Act.put,List.setIfInBounds_toArray,List.set_cons_zero,List.set_cons_succ]
      refine wpAnyH_take (i := 8) (v := undef) (by simp only [List.getElem?_toArray,List.getElem?_cons_succ,List.getElem?_cons_zero];rfl) (by kernel_rfl) (by kernel_rfl) (by kernel_rfl) (fun _ _ _ h => h) (Or.inr ⟨by rfl,rfl⟩) (by assumption) ?ra_8
      try simp only [Act.put,List.setIfInBounds_toArray,List.set_cons_zero,List.set_cons_succ]
      refine wpAnyH_take (i := 9) (v := undef) (by simp only [List.getElem?_toArray,List.getElem?_cons_succ,List.getElem?_cons_zero];rfl) (by kernel_rfl) (by kernel_rfl) (by kernel_rfl) (fun _ _ _ h => h) (Or.inr ⟨by rfl,rfl⟩) (by assumption) ?ra_9
      try simp only [Act.put,List.setIfInBounds_toArray,List.set_cons_zero,List.set_cons_succ]
      refine wpAnyH_take (i := 10) (v := ?va_10) (by simp only [List.getElem?_toArray,List.getElem?_cons_succ,List.getElem?_cons_zero];rfl) (by kernel_rfl) (by kernel_rfl) (by kernel_rfl) (fun _ _ _ h => h) (Or.inl ⟨by rfl,?ha_10⟩) (by assumption) ?ra_10
      case ha_10 => (intro w hSw;(try dsimp only at hSw);go_simp;(try with_reducible rfl))
      try simp only [Act.put,List.setIfInBounds_toArray,List.set_cons_zero,List.set_cons_succ]
      refine wpAnyH_take (i := 11) (v := ?va_11) (by simp only [List.getElem?_toArray,List.getElem?_cons_succ,List.getElem?_cons_zero];rfl) (by kernel_rfl) (by kernel_rfl) (by kernel_rfl) (fun _ _ _ h => h) (Or.inl ⟨by rfl,?ha_11⟩) (by assumption) ?ra_11
      case ha_11 => (intro w hSw;(try dsimp only at hSw);go_simp;(try with_reducible rfl))
      try simp only [Act.put,List.setIfInBounds_toArray,List.set_cons_zero,List.set_cons_succ]
      refine wpAnyH_take (i := 12) (v := ?va_12) (by simp only [List.getElem?_toArray,List.getElem?_cons_succ,List.getElem?_cons_zero];rfl) (by kernel_rfl) (by kernel_rfl) (by kernel_rfl) (fun _ _ _ h => h) (Or.inl ⟨by rfl,?ha_12⟩) (by assumption) ?ra_12
      case ha_12 => (intro w hSw;(try dsimp only at hSw);go_simp;(try with_reducible rfl))
      try simp only [Act.put,List.setIfInBounds_toArray,List.set_cons_zero,List.set_cons_succ]
      refine wpAnyH_take (i := 13) (v := ?va_13) (by simp only [List.getElem?_toArray,List.getElem?_cons_succ,List.getElem?_cons_zero];rfl) (by kernel_rfl) (by kernel_rfl) (by kernel_rfl) (fun _ _ _ h => h) (Or.inl ⟨by rfl,?ha_13⟩) (by assumption) ?ra_13
      case ha_13 => (intro w hSw;(try dsimp only at hSw);go_simp;(try with_reducible rfl))
      try simp only [Act.put,List.setIfInBounds_toArray,List.set_cons_zero,List.set_cons_succ]
      refine wpAnyH_take (i := 14) (v := ?va_14) (by simp only [List.getElem?_toArray,List.getElem?_cons_succ,List.getElem?_cons_zero];rfl) (by kernel_rfl) (by kernel_rfl) (by kernel_rfl) (fun _ _ _ h => h) (Or.inl ⟨by rfl,?ha_14⟩) (by assumption) ?ra_14
      case ha_14 => (intro w hSw;(try dsimp only at hSw);go_simp;(try with_reducible rfl))
      try simp only [Act.put,List.setIfInBounds_toArray,List.set_cons_zero,List.set_cons_succ]
      refine wpAnyH_take (i := 15) (v := ?va_15) (by simp only [List.getElem?_toArray,List.getElem?_cons_succ,List.getElem?_cons_zero];rfl) (by kernel_rfl) (by kernel_rfl) (by kernel_rfl) (fun _ _ _ h => h) (Or.inl ⟨by rfl,?ha_15⟩) (by assumption) ?ra_15
      case ha_15 => (intro w hSw;(try dsimp only at hSw);go_simp;(try with_reducible rfl))
      try simp only [Act.put,List.setIfInBounds_toArray,List.set_cons_zero,List.set_cons_succ]
      refine wpAnyH_take (i := 16) (v := ?va_16) (by simp only [List.getElem?_toArray,List.getElem?_cons_succ,List.getElem?_cons_zero];rfl) (by kernel_rfl) (by kernel_rfl) (by kernel_rfl) (fun _ _ _ h => h) (Or.inl ⟨by rfl,?ha_16⟩) (by assumption) ?ra_16
      case ha_16 => (intro w hSw;(try dsimp only at hSw);go_simp;(try with_reducible rfl))
      try simp only [Act.put,List.setIfInBounds_toArray,List.set_cons_zero,List.set_cons_succ]
      refine wpAnyH_take (i := 19) (v := ?va_19) (by simp only [List.getElem?_toArray,List.getElem?_cons_succ,List.getElem?_cons_zero];rfl) (by kernel_rfl) (by kernel_rfl) (by kernel_rfl) (fun _ _ _ h => h) (Or.inl ⟨by rfl,?ha_19⟩) (by assumption) ?ra_19
      case ha_19 => (intro w hSw;(try dsimp only at hSw);go_simp;(try with_reducible rfl))
      try simp only [Act.put,List.setIfInBounds_toArray,List.set_cons_zero,List.set_cons_succ]
      refine wpAnyH_ready (rs := [17]) (by kernel_rfl) (by simp) ?_
      refine (AllReadyH.cons (o := _) rfl (fun K hK => ?_) AllReadyH.nil)
      go_simp
      refine (HNM.out _).mono ?_
      rintro e y1 ⟨rfl,hk5⟩
      have hq := HKZ.out.then_ hk5 (fun _ h => h.elim)
      clear HKZ
      have HKZ := Lib.hid hq
      clear hq hk5
      try simp only [Act.put,List.setIfInBounds_toArray,List.set_cons_zero,List.set_cons_succ]
      try dsimp only
      refine hK.out _ _ (HCE7.out _ HKZ.out) (fun hHeld => ?_)
      clear hK K
      refine wpAnyH_ready (rs := [18]) (by kernel_rfl) (by simp) ?_
      refine (AllReadyH.cons (o := _) rfl (fun K hK => ?_) AllReadyH.nil)
      go_simp
      refine (HSS.out _).mono ?_
      rintro e y2 ⟨rfl,hk5⟩
      have hq := HKZ.out.then_ hk5 (fun _ h => h.elim)
      clear HKZ
      have HKZ := Lib.hid hq
      clear hq hk5
      try simp only [Act.put,List.setIfInBounds_toArray,List.set_cons_zero,List.set_cons_succ]
      try dsimp only
      refine hK.out _ _ (HCE7.out _ HKZ.out) (fun hHeld => ?_)
      clear hK K
      refine wpAnyH_take (i := 20) (v := ?va_20) (by simp only [List.getElem?_toArray,List.getElem?_cons_succ,List.getElem?_cons_zero];rfl) (by kernel_rfl) (by kernel_rfl) (by kernel_rfl) (fun _ _ _ h => h) (Or.inl ⟨by rfl,?ha_20⟩) (by assumption) ?ra_20
      case ha_20 => (intro w hSw;(try dsimp only at hSw);go_simp;(try with_reducible rfl))
      try simp only [Act.put,List.setIfInBounds_toArray,List.set_cons_zero,List.set_cons_succ]
      refine wpAnyH_take (i := 21) (v := ?va_21) (by simp only [List.getElem?_toArray,List.getElem?_cons_succ,List.getElem?_cons_zero];rfl) (by kernel_rfl) (by kernel_rfl) (by kernel_rfl) (fun _ _ _ h => h) (Or.inl ⟨by rfl,?ha_21⟩) (by assumption) ?ra_21
      case ha_21 => (intro w hSw;(try dsimp only at hSw);go_simp;(try with_reducible rfl))
      try simp only [Act.put,List.setIfInBounds_toArray,List.set_cons_zero,List.set_cons_succ]
      refine wpAnyH_take (i := 22) (v := ?va_22) (by simp only [List.getElem?_toArray,List.getElem?_cons_succ,List.getElem?_cons_zero];rfl) (by kernel_rfl) (by kernel_rfl) (by kernel_rfl) (fun _ _ _ h => h) (Or.inl ⟨by rfl,?ha_22⟩) (by assumption) ?ra_22
      case ha_22 => (intro w hSw;(try dsimp only at hSw);go_simp;(try with_reducible rfl))
      try simp only [Act.put,List.setIfInBounds_toArray,List.set_cons_zero,List.set_cons_succ]
      refine wpAnyH_done (by kernel_rfl) ?_ _
      refine NoPanic.normal ?_
      go_wp2_with fail
      go_meet
      exact ⟨rfl,HKZ.out⟩
     ·refine wp_region_noPanic ?_
      refine wp_region_held_drew (S := (fun w' : World => w'.cell? ⟨g9,0,none⟩ = some (.int .i64 0) ∧ w'.cell? ⟨g9,1,none⟩ = some (.int .i64 sz) ∧ w'.cell? ⟨g9,2,none⟩ = some (.int .i64 0) ∧ w'.cell? ⟨g9,3,none⟩ = some (.int .i64 0) ∧ w'.cell? ⟨g9,4,none⟩ = some (.int .i64 0) ∧ w'.cell? ⟨g9,5,none⟩ = some (.slice none 0 0))) (by kernel_rfl) (HCE7.out _ HKZ.out.drew) (fun hHeld => ?_)
      have hq := HKZ.out.drew
      clear HKZ
      have HKZ := Lib.hid hq
      clear hq
      generalize w7.drew = y0 at HKZ hHeld ⊢
      refine wpAnyH_take (i := 0) (v := ?vb_0) (by simp only [List.getElem?_toArray,List.getElem?_cons_succ,List.getElem?_cons_zero];rfl) (by kernel_rfl) (by kernel_rfl) (by kernel_rfl) (fun _ _ _ h => h) (Or.inl ⟨by rfl,?hb_0⟩) (by assumption) ?rb_0
      case hb_0 => (intro w hSw;(try dsimp only at hSw);go_simp;(try with_reducible rfl))
      try simp only [Act.put,List.setIfInBounds_toArray,List.set_cons_zero,List.set_cons_succ]
      refine wpAnyH_take (i := 1) (v := ?vb_1) (by simp only [List.getElem?_toArray,List.getElem?_cons_succ,List.getElem?_cons_zero];rfl) (by kernel_rfl) (by kernel_rfl) (by kernel_rfl) (fun _ _ _ h => h) (Or.inl ⟨by rfl,?hb_1⟩) (by assumption) ?rb_1
      case hb_1 => (intro w hSw;(try dsimp only at hSw);go_simp;(try with_reducible rfl))
      try simp only [Act.put,List.setIfInBounds_toArray,List.set_cons_zero,List.set_cons_succ]
      refine wpAnyH_take (i := 2) (v := ?vb_2) (by simp only [List.getElem?_toArray,List.getElem?_cons_succ,List.getElem?_cons_zero];rfl) (by kernel_rfl) (by kernel_rfl) (by kernel_rfl) (fun _ _ _ h => h) (Or.inl ⟨by rfl,?hb_2⟩) (by assumption) ?rb_2
      case hb_2 => (intro w hSw;(try dsimp only at hSw);go_simp;(try with_reducible rfl))
      try simp only [Act.put,List.setIfInBounds_toArray,List.set_cons_zero,List.set_cons_succ]
      refine wpAnyH_take (i := 3) (v := ?vb_3) (by simp only [List.getElem?_toArray,List.getElem?_cons_succ,List.getElem?_cons_zero];rfl) (by kernel_rfl) (by kernel_rfl) (by kernel_rfl) (fun _ _ _ h => h) (Or.inl ⟨by rfl,?hb_3⟩) (by assumption) ?rb_3
      case hb_3 => (intro w hSw;(try dsimp only at hSw);go_simp;(try with_reducible rfl))
      try simp only [Act.put,List.setIfInBounds_toArray,List.set_cons_zero,List.set_cons_succ]
      refine wpAnyH_take (i := 4) (v := ?vb_4) (by simp only [List.getElem?_toArray,List.getElem?_cons_succ,List.getElem?_cons_zero];rfl) (by kernel_rfl) (by kernel_rfl) (by kernel_rfl) (fun _ _ _ h => h) (Or.inl ⟨by rfl,?hb_4⟩) (by assumption) ?rb_4
      case hb_4 => (intro w hSw;(try dsimp only at hSw);go_simp;(try with_reducible rfl))
      try simp only [Act.put,List.setIfInBounds_toArray,List.set_cons_zero,List.set_cons_succ]
      refine wpAnyH_take (i := 5) (v := ?vb_5) (by simp only [List.getElem?_toArray,List.getElem?_cons_succ,List.getElem?_cons_zero];rfl) (by kernel_rfl) (by kernel_rfl) (by kernel_rfl) (fun _ _ _ h => h) (Or.inl ⟨by rfl,?hb_5⟩) (by assumption) ?rb_5
      case hb_5 => (intro w hSw;(try dsimp only at hSw);go_simp;(try with_reducible rfl))
      try simp only [Act.put,List.setIfInBounds_toArray,List.set_cons_zero,List.set_cons_succ]
      refine wpAnyH_take (i := 6) (v := ?vb_6) (by simp only [List.getElem?_toArray,List.getElem?_cons_succ,List.getElem?_cons_zero];rfl) (by kernel_rfl) (by kernel_rfl) (by kernel_rfl) (fun _ _ _ h => h) (Or.inl ⟨by rfl,?hb_6⟩) (by assumption) ?rb_6
      case hb_6 => (intro w hSw;(try dsimp only at hSw);go_simp;(try with_reducible rfl))
      try simp only [Act.put,List.setIfInBounds_toArray,List.set_cons_zero,List.set_cons_succ]
      refine wpAnyH_take (i := 7) (v := ?vb_7) (by simp only [List.getElem?_toArray,List.getElem?_cons_succ,List.getElem?_cons_zero];rfl) (by kernel_rfl) (by kernel_rfl) (by kernel_rfl) (fun _ _ _ h => h) (Or.inl ⟨by rfl,?hb_7⟩) (by assumption) ?rb_7
      case hb_7 => (intro w hSw;(try dsimp only at hSw);go_simp;(try with_reducible rfl))
      try simp only [Act.put,List.setIfInBounds_toArray,List.set_cons_zero,List.set_cons_succ]
      refine wpAnyH_take (i := 8) (v := ?vb_8) (by simp only [List.getElem?_toArray,List.getElem?_cons_succ,List.getElem?_cons_zero];rfl) (by kernel_rfl) (by kernel_rfl) (by kernel_rfl) (fun _ _ _ h => h) (Or.inl ⟨by rfl,?hb_8⟩) (by assumption) ?rb_8
      case hb_8 => (intro w hSw;(try dsimp only at hSw);go_simp;(try with_reducible rfl))
      try simp only [Act.put,List.setIfInBounds_toArray,List.set_cons_zero,List.set_cons_succ]
      refine wpAnyH_take (i := 9) (v := ?vb_9) (by simp only [List.getElem?_toArray,List.getElem?_cons_succ,List.getElem?_cons_zero];rfl) (by kernel_rfl) (by kernel_rfl) (by kernel_rfl) (fun _ _ _ h => h) (Or.inl ⟨by rfl,?hb_9⟩) (by assumption) ?rb_9
      case hb_9 => (intro w hSw;(try dsimp only at hSw);go_simp;(try with_reducible rfl))
      try simp only [Act.put,List.setIfInBounds_toArray,List.set_cons_zero,List.set_cons_succ]
      refine wpAnyH_take (i := 10) (v := ?vb_10) (by simp only [List.getElem?_toArray,List.getElem?_cons_succ,List.getElem?_cons_zero];rfl) (by kernel_rfl) (by kernel_rfl) (by kernel_rfl) (fun _ _ _ h => h) (Or.inl ⟨by rfl,?hb_10⟩) (by assumption) ?rb_10
      case hb_10 => (intro w hSw;(try dsimp only at hSw);go_simp;(try with_reducible rfl))
      try simp only [Act.put,List.setIfInBounds_toArray,List.set_cons_zero,List.set_cons_succ]
      refine wpAnyH_take (i := 11) (v := ?vb_11) (by simp only [List.getElem?_toArray,List.getElem?_cons_succ,List.getElem?_cons_zero];rfl) (by kernel_rfl) (by kernel_rfl) (by kernel_rfl) (fun _ _ _ h => h) (Or.inl ⟨by rfl,?hb_11⟩) (by assumption) ?rb_11
      case hb_11 => (intro w hSw;(try dsimp only at hSw);go_simp;(try with_reducible rfl))
      try simp only [Act.put,List.setIfInBounds_toArray,List.set_cons_zero,List.set_cons_succ]
      refine wpAnyH_take (i := 12) (v := ?vb_12) (by simp only [List.getElem?_toArray,List.getElem?_cons_succ,List.getElem?_cons_zero];rfl) (by kernel_rfl) (by kernel_rfl) (by kernel_rfl) (fun _ _ _ h => h) (Or.inl ⟨by rfl,?hb_12⟩) (by assumption) ?rb_12
      case hb_12 => (intro w hSw;(try dsimp only at hSw);go_simp;(try with_reducible rfl))
      try simp only [Act.put,List.setIfInBounds_toArray,List.set_cons_zero,List.set_cons_succ]
      refine wpAnyH_take (i := 13) (v := ?vb_13) (by simp only [List.getElem?_toArray,List.getElem?_cons_succ,List.getElem?_cons_zero];rfl) (by kernel_rfl) (by kernel_rfl) (by kernel_rfl) (fun _ _ _ h => h) (Or.inl ⟨by rfl,?hb_13⟩) (by assumption) ?rb_13
      case hb_13 => (intro w hSw;(try dsimp only at hSw);go_simp;(try with_reducible rfl))
      try simp only [Act.put,List.setIfInBounds_toArray,List.set_cons_zero,List.set_cons_succ]
      refine wpAnyH_take (i := 14) (v := ?vb_14) (by simp only [List.getElem?_toArray,List.getElem?_cons_succ,List.getElem?_cons_zero];rfl) (by kernel_rfl) (by kernel_rfl) (by kernel_rfl) (fun _ _ _ h => h) (Or.inl ⟨by rfl,?hb_14⟩) (by assumption) ?rb_14
      case hb_14 => (intro w hSw;(try dsimp only at hSw);go_simp;(try with_reducible rfl))
      try simp only [Act.put,List.setIfInBounds_toArray,List.set_cons_zero,List.set_cons_succ]
      refine wpAnyH_take (i := 15) (v := undef) (by simp only [List.getElem?_toArray,List.getElem?_cons_succ,List.getElem?_cons_zero];rfl) (by kernel_rfl) (by kernel_rfl) (by kernel_rfl) (fun _ _ _ h => h) (Or.inr ⟨by rfl,rfl⟩) (by assumption) ?rb_15
      try simp only [Act.put,List.setIfInBounds_toArray,List.set_cons_zero,List.set_cons_succ]
      refine wpAnyH_take (i := 16) (v := undef) (by simp only [List.getElem?_toArray,List.getElem?_cons_succ,List.getElem?_cons_zero];rfl) (by kernel_rfl) (by kernel_rfl) (by kernel_rfl) (fun _ _ _ h => h) (Or.inr ⟨by rfl,rfl⟩) (by assumption) ?rb_16
      try simp only [Act.put,List.setIfInBounds_toArray,List.set_cons_zero,List.set_cons_succ]
      refine wpAnyH_take (i := 17) (v := undef) (by simp only [List.getElem?_toArray,List.getElem?_cons_succ,List.getElem?_cons_zero];rfl) (by kernel_rfl) (by kernel_rfl) (by kernel_rfl) (fun _ _ _ h => h) (Or.inr ⟨by rfl,rfl⟩) (by assumption) ?rb_17
      try simp only [Act.put,List.setIfInBounds_toArray,List.set_cons_zero,List.set_cons_succ]
      refine wpAnyH_take (i := 18) (v := undef) (by simp only [List.getElem?_toArray,List.getElem?_cons_succ,List.getElem?_cons_zero];rfl) (by kernel_rfl) (by kernel_rfl) (by kernel_rfl) (fun _ _ _ h => h) (Or.inr ⟨by rfl,rfl⟩) (by assumption) ?rb_18
      try simp only [Act.put,List.setIfInBounds_toArray,List.set_cons_zero,List.set_cons_succ]
      refine wpAnyH_take (i := 19) (v := undef) (by simp only [List.getElem?_toArray,List.getElem?_cons_succ,List.getElem?_cons_zero];rfl) (by kernel_rfl) (by kernel_rfl) (by kernel_rfl) (fun _ _ _ h => h) (Or.inr ⟨by rfl,rfl⟩) (by assumption) ?rb_19
      try simp only [Act.put,List.setIfInBounds_toArray,List.set_cons_zero,List.set_cons_succ]
      refine wpAnyH_take (i := 20) (v := undef) (by simp only [List.getElem?_toArray,List.getElem?_cons_succ,List.getElem?_cons_zero];rfl) (by kernel_rfl) (by kernel_rfl) (by kernel_rfl) (fun _ _ _ h => h) (Or.inr ⟨by rfl,rfl⟩) (by assumption) ?rb_20
      try simp only [Act.put,List.setIfInBounds_toArray,List.set_cons_zero,List.set_cons_succ]
      refine wpAnyH_take (i := 21) (v := ?vb_21) (by simp only [List.getElem?_toArray,List.getElem?_cons_succ,List.getElem?_cons_zero];rfl) (by kernel_rfl) (by kernel_rfl) (by kernel_rfl) (fun _ _ _ h => h) (Or.inl ⟨by rfl,?hb_21⟩) (by assumption) ?rb_21
      case hb_21 => (intro w hSw;(try dsimp only at hSw);go_simp;(try with_reducible rfl))
      try simp only [Act.put,List.setIfInBounds_toArray,List.set_cons_zero,List.set_cons_succ]
      refine wpAnyH_take (i := 22) (v := ?vb_22) (by simp only [List.getElem?_toArray,List.getElem?_cons_succ,List.getElem?_cons_zero];rfl) (by kernel_rfl) (by kernel_rfl) (by kernel_rfl) (fun _ _ _ h => h) (Or.inl ⟨by rfl,?hb_22⟩) (by assumption) ?rb_22
      case hb_22 => (intro w hSw;(try dsimp only at hSw);go_simp;(try with_reducible rfl))
      try simp only [Act.put,List.setIfInBounds_toArray,List.set_cons_zero,List.set_cons_succ]
      refine wpAnyH_done (by kernel_rfl) ?_ _
      refine NoPanic.normal ?_
      go_wp2_with fail
      go_meet
      exact ⟨rfl,HKZ.out⟩
    case rest =>
    obtain ⟨rfl,hkc⟩ := hcut
    generalize wc = w8 at hkc ⊢
    have HK8 := Lib.hid (HK7.out.then_ hkc (fun _ h => h.elim))
    clear hkc HCE7 HSS HKZ HK7 hcase
    go_wp2_with fail
    go_roundw
    case rel => exact ⟨j + 1,by omega,by go_num,HK8.out⟩
    case measure => simp [intOf];omega
   ·obtain rfl : j = 5 := by omega
    clear HLR HKR HL HNM HK2
    obtain ⟨k,hk0,hk3,hkk⟩ : ∃ k : Int,0 ≤ k ∧ k < 3000 ∧ ((0 < n ∧ n.tmod 3000 = k) ∨ (n ≤ 0 ∧ k = 0)) := by
     by_cases h : 0 < n
     ·have e : n.tmod 3000 = n % 3000 := Int.tmod_eq_emod_of_nonneg (by omega)
      exact ⟨n % 3000,by omega,by omega,.inl ⟨h,e⟩⟩
     ·exact ⟨0,by omega,by omega,.inr ⟨by omega,rfl⟩⟩
    go_upto_region 12 with fail
    go_cut [12] (fun c wx => c = .int .i64 k ∧ wx = wr)
    case first =>
     rcases hkk with ⟨h1,h2⟩ | ⟨h1,rfl⟩
     ·have h3 : n % 3000 = k := by rw [← h2,Int.tmod_eq_emod_of_nonneg (by omega)]
      go_wp2_with fail
      go_meet
      exact ⟨rfl,rfl⟩
     ·go_wp2_with fail
      go_meet
      exact ⟨rfl,rfl⟩
    case rest =>
    obtain ⟨rfl,rfl⟩ := hcut
    clear hkk
    have hraw := raw_size b k hk0 hk3 hb2k
    obtain ⟨e1,e2,e3,hr,hcase⟩ : ∃ e1 e2 e3 : Int,((sizeR (.mk ⟨5,0,k,0,0⟩ []) (.mk ⟨0,b⟩ [])).2 = e1 ∧ (sizeR (.mk ⟨4,0,k,16777215,0⟩ []) (.mk ⟨0,b⟩ [])).2 = e2 ∧ (sizeR (.mk ⟨1,3,0,k,1⟩ []) (.mk ⟨0,b⟩ [])).2 = e3) ∧
      (((b.length : Int) < k ∧ e1 = 5 ∧ e2 = 5 ∧ e3 = 0) ∨ ((b.length : Int) = k ∧ e1 = 0 ∧ e2 = 0 ∧ e3 = 0) ∨ (k < (b.length : Int) ∧ e1 = 5 ∧ e2 = 0 ∧ e3 = 5)) := by
     refine ⟨_,_,_,⟨rfl,rfl,rfl⟩,?_⟩
     have hr1 : (sizeR (.mk ⟨5,0,k,0,0⟩ []) (.mk ⟨0,b⟩ [])).2 = (if (b.length : Int) = k then 0 else 5) := by rw [hraw.1]
     rw [hr1,hraw.2.1,hraw.2.2]
     by_cases h1 : (b.length : Int) < k
     ·exact .inl ⟨h1,by rw [if_neg (by omega)],by rw [if_neg (by omega)],by rw [if_pos (by omega)]⟩
     ·by_cases h2 : (b.length : Int) = k
      ·exact .inr (.inl ⟨h2,by rw [if_pos h2],by rw [if_pos (by omega)],by rw [if_pos (by omega)]⟩)
      ·exact .inr (.inr ⟨by omega,by rw [if_neg h2],by rw [if_pos (by omega)],by rw [if_neg (by omega)]⟩)
    have HRAW := Lib.hid hr
    have HOKF := Lib.hid (show ∀ k s lo hi st : Int,(∀ i ∈ [k,s,lo,hi,st], -100 ≤ i ∧ i ≤ 20000000) → FH.ok ⟨k,s,lo,hi,st⟩ from fun k s lo hi st h => by
     have : ∀ i ∈ [k,s,lo,hi,st],i64B i := fun i hi => by have := h i hi;unfold i64B;omega
     exact ⟨this _ (by simp),this _ (by simp),this _ (by simp),this _ (by simp),this _ (by simp)⟩)
    clear hraw hr
    have HBX := Lib.hid (HBY.out wc HKW.out (by omega))
    go_wp2_with fail
    refine HBX.out.mono ?_
    rintro e xp ⟨Ap,cp,Bp,dp,rfl,hvp,hkp⟩
    have HKpa := Lib.hid (HKW.out.then_ hkp (fun _ h => h.elim))
    have hft := vfits6_any (· < xp.heap.size) (· < xp.heap.size) (.mk ⟨5,0,k,0,0⟩ []) (.mk ⟨0,b⟩ []) _ _ xp (fun _ h => h) (flatF_R 5 0 k 0 0 (HOKF.out 5 0 k 0 0 (by simp;omega))) hvp
    rw [HRAW.out.1] at hft
    have HFX := Lib.hid hft
    clear hft hvp hkp HBX
    go_wp2_with fail
    refine HFX.out.mono ?_
    rintro e yp ⟨rfl,hkp⟩
    have HKp := Lib.hid (HKpa.out.then_ hkp (fun _ h => h.elim))
    clear hkp HFX HKpa
    have HBX := Lib.hid (HBY.out yp HKp.out (by omega))
    go_wp2_with fail
    refine HBX.out.mono ?_
    rintro e xq ⟨Aq,cq,Bq,dq,rfl,hvq,hkq⟩
    have HKqa := Lib.hid (HKp.out.then_ hkq (fun _ h => h.elim))
    have hft := vfits6_any (· < xq.heap.size) (· < xq.heap.size) (.mk ⟨4,0,k,16777215,0⟩ []) (.mk ⟨0,b⟩ []) _ _ xq (fun _ h => h) (flatF_R 4 0 k 16777215 0 (HOKF.out 4 0 k 16777215 0 (by simp;omega))) hvq
    rw [HRAW.out.2.1] at hft
    have HFX := Lib.hid hft
    clear hft hvq hkq HBX
    go_wp2_with fail
    refine HFX.out.mono ?_
    rintro e yq ⟨rfl,hkq⟩
    have HKq := Lib.hid (HKqa.out.then_ hkq (fun _ h => h.elim))
    clear hkq HFX HKqa
    have HBX := Lib.hid (HBY.out yq HKq.out (by omega))
    go_wp2_with fail
    refine HBX.out.mono ?_
    rintro e xr ⟨Ar,cr,Br,dr,rfl,hvr,hkr⟩
    have HKra := Lib.hid (HKq.out.then_ hkr (fun _ h => h.elim))
    have hft := vfits6_any (· < xr.heap.size) (· < xr.heap.size) (.mk ⟨1,3,0,k,1⟩ []) (.mk ⟨0,b⟩ []) _ _ xr (fun _ h => h) (flatF_R 1 3 0 k 1 (HOKF.out 1 3 0 k 1 (by simp;omega))) hvr
    rw [HRAW.out.2.2] at hft
    have HFX := Lib.hid hft
    clear hft hvr hkr HBX
    go_wp2_with fail
    refine HFX.out.mono ?_
    rintro e yr ⟨rfl,hkr⟩
    have HKr := Lib.hid (HKra.out.then_ hkr (fun _ h => h.elim))
    clear hkr HFX HKra
    rcases hcase with ⟨h1,rfl,rfl,rfl⟩ | ⟨h1,rfl,rfl,rfl⟩ | ⟨h1,rfl,rfl,rfl⟩
    ·have t1 : ((b.length : Int) == k) = false := by simp;omega
     have t2 : decide (k ≤ (b.length : Int)) = false := decide_eq_false (by omega)
     have t3 : decide ((b.length : Int) ≤ k) = true := decide_eq_true (by omega)
     go_wp2_with fail
     go_ret
     exact ⟨rfl,HKr.out⟩
    ·have t1 : ((b.length : Int) == k) = true := by simp;omega
     have t2 : decide (k ≤ (b.length : Int)) = true := decide_eq_true (by omega)
     have t3 : decide ((b.length : Int) ≤ k) = true := decide_eq_true (by omega)
     clear h1
     go_wp2_with fail
     go_ret
     exact ⟨rfl,HKr.out⟩
    ·have t1 : ((b.length : Int) == k) = false := by simp;omega
     have t2 : decide (k ≤ (b.length : Int)) = true := decide_eq_true (by omega)
     have t3 : decide ((b.length : Int) ≤ k) = false := decide_eq_false (by omega)
     go_wp2_with fail
     go_ret
     exact ⟨rfl,HKr.out⟩
end Go.Proofs.Ytfcghajnnllmhaa

namespace Go.Proofs.Ytfcghajnnllmhaa.valueNumbers
open Go.ChangeShapes Go.WideShapes Go.ChangeAt Go.RowKit
set_option linter.unusedVariables false

theorem own : ownKnob Try.prog.godebug = none := by kernel_rfl
theorem laidOut : laidOutB Try.prog = true := by kernel_rfl

set_option maxRecDepth 100000 in
theorem lifted (os : Os) (started : os.Started) (H : Type) (enc : TypeId × Value → H) :
  ReturnsInHanded {} Try.checked os 12 .any (Rows.valueNumbersSpec.pre6 enc Try.prog Try.f12 Rows.valueNumbersRow.domain false) (Rows.valueNumbersSpec.post enc Try.prog Try.f12 false true false false) := by
 refine returnsInHanded_of_change_sized (C := Try.checked) own started (by kernel_rfl) Try.func12
  (ChangeSpec.witness6 (enc := enc) (C := Try.checked) false ⟨#[],#[.int .u64 0,.slice none 0 0,.int .i64 0],[]⟩ 8 (by kernel_rfl) (by kernel_rfl) (by kernel_rfl) (by kernel_rfl)) ?_
 intro W base args ds gs before hval0 hW hcnd hsz0 _
 have hval : ∀ (j : Nat) t v,Try.f12.params[j]? = some t → args[j]? = some v → Value.okWide Try.prog W .any base t v := hval0
 have hW' := hW
 obtain ⟨p,q,hA0,hV,rfl,hfz,hnd⟩ := hW
 have hA : DataW.TrodAll enc Try.prog W 0 (fun _ => true) true Try.f12.params.toList args.toList ds p := hA0
 obtain ⟨rfl,rfl⟩ := trodVars_none hV
 have hsz : (DataW.weightsEach Try.prog (Try.f12.params.toList ++ []) (ds ++ [])).all (· ≤ reachBytes) = true := hsz0
 rw [List.append_nil,List.append_nil] at hsz
 rw [Try.params12] at hA hval hsz
 obtain ⟨v0,vs0,d0,ds0,p0,q0,hargs,rfl,rfl,h0,r0⟩ := trodAll_cons hA
 obtain ⟨v1,vs1,d1,ds1,p1,q1,rfl,rfl,rfl,h1,r1⟩ := trodAll_cons r0
 obtain ⟨v2,vs2,d2,ds2,p2,q2,rfl,rfl,rfl,h2,r2⟩ := trodAll_cons r1
 obtain ⟨rfl,rfl,rfl⟩ := trodAll_nil r2
 obtain rfl : args = #[v0,v1,v2] := by cases args;simp_all
 have k0 := h0
 have lt0 : ∀ x ∈ p0,x.block < W.heap.size := by obtain ⟨m,hm⟩ := k0;exact DataW.trod_lt m _ _ _ hm
 have k1 := h1
 have lt1 : ∀ x ∈ p1,x.block < W.heap.size := by obtain ⟨m,hm⟩ := k1;exact DataW.trod_lt m _ _ _ hm
 have k2 := h2
 have lt2 : ∀ x ∈ p2,x.block < W.heap.size := by obtain ⟨m,hm⟩ := k2;exact DataW.trod_lt m _ _ _ hm
 obtain ⟨a0,rfl,rfl,rfl,w0⟩ := open_int Try.underlying42 (hval 0 42 v0 rfl rfl) h0
 obtain ⟨l1,b1,e1⟩ := open_br Try.underlying43 Try.underlying5 (by kernel_rfl) (hval 1 43 v1 rfl rfl) h1
 have s1 := sized_len hsz (j := 1) (t := 43) (e := 5) rfl rfl Try.underlying43 e1
 rw [show Try.prog.bytesOf 5 = 1 from by kernel_rfl] at s1
 obtain ⟨a2,rfl,rfl,rfl,w2⟩ := open_int Try.underlying3 (hval 2 3 v2 rfl rfl) h2
 clear hA0 hval0 hsz0
 refine (vnums_walk W a0 w0 v1 l1 b1 (by omega) a2 w2).mono fun e W' ⟨he,bel⟩ => ?_
 subst he
 exact ⟨_,rfl,_,_,_,[],_,[],hW',trodAll_mk1 (shut_bool Try.underlying4 _),(trodAll_cons_mk (Below.trod laidOut (by kernel_rfl) (of_decide_eq_true (by kernel_rfl)) k0 bel lt0) (trodAll_cons_mk (Below.trod laidOut (by kernel_rfl) (of_decide_eq_true (by kernel_rfl)) k1 bel lt1) (trodAll_cons_mk (Below.trod laidOut (by kernel_rfl) (of_decide_eq_true (by kernel_rfl)) k2 bel lt2) trodAll_mk0))),rfl,bel.frame _,fun h => by cases h⟩

theorem over : Rows.valueNumbersRow.holds Try.pinned (OpenSpec.ofChange Rows.valueNumbersSpec) :=
 OpenClaim.holds_of_wide 12 Try.f12 rfl rfl rfl rfl rfl rfl rfl ⟨rfl,rfl,rfl,rfl,rfl⟩ rfl rfl rfl rfl rfl (by kernel_rfl) Try.func12 (by kernel_rfl)
  (of_decide_eq_true (by kernel_rfl)) (by unfold Func.isWrapper;first | (rw [if_pos (by decide +kernel)];kernel_rfl) | (rw [if_neg (by decide +kernel)];exact ⟨rfl,rfl⟩))
  (fun os started H enc _ => lifted os started H enc)

theorem proved : Rows.ValueNumbersSaid := over
#print axioms proved
end Go.Proofs.Ytfcghajnnllmhaa.valueNumbers
