/-
  Texts for the law WriteBack: part 5.
-/
import Derived.Test.YtdhnfccgojgehaaDoorMWriteBack1
import Derived.Test.YtdhnfccgojgehaaDoorMWriteBack2
import Derived.Test.YtdhnfccgojgehaaDoorMWriteBack3
import Derived.Test.YtdhnfccgojgehaaDoorMWriteBack4

set_option linter.unusedVariables false
set_option linter.unusedSimpArgs false
namespace Go.Proofs.YtdhnfccgojgehaaDoor
open Go.RowKit

theorem FmR.fv_ {w : World} {ok : Nat → Prop} {v : Value} {f : Fm} (h : FmR w ok v f) : ∃ A c,v = fv f.a A f.l.length c := by
 obtain ⟨sv,rfl,_,A,c,rfl,_⟩ := h
 exact ⟨A,c,rfl⟩
/-- The contract of a form that is read, whatever the form. -/
theorem form_any (ok : Nat → Prop) (rg : Nat) (t : Value) (hT : IsT t) (f : Fm) : szF f ≤ 100000 → checkR f = 0 → FormC ok rg t f := by
 induction f using RT.induct with
 | h h P ih =>
 intro hz hck cg b a q v w E hv hr hc ht hroom tab
 obtain ⟨hown,hone,h32,hch⟩ := check_ok hck
 obtain ⟨A0,c0,rfl⟩ := hv.fv_
 by_cases k0 : h.k = 0
 ·exact form_number ok rg cg t h P A0 c0 b a q w k0 hT (own_sz hck k0) E hv hr hc ht hroom tab
 by_cases k1 : h.k = 1
 ·have hs := hown.k12 (.inl k1)
  exact form_opaque ok rg cg t h P A0 c0 b a q w k1 hT ⟨by omega,by omega⟩ ⟨by omega,by omega⟩ E hv hr hc ht hroom tab
 by_cases k4 : h.k = 4
 ·have hs := hown.k4 k4
  exact form_rest ok rg cg t h P A0 c0 b a q w k4 hT ⟨by omega,by omega,by omega⟩ E hv hr hc ht hroom tab
 by_cases k5 : h.k = 5
 ·have hs := hown.k5 k5
  exact form_fixed ok rg cg t h P A0 c0 b a q w k5 hT (by omega) E hv hr hc ht hroom tab
 have hk23 : h.k = 2 ∨ h.k = 3 := by have := hown.k;omega
 have hPc : ∀ y ∈ P,checkR y = 0 := (hch hk23).1
 have hPz : ∀ y ∈ P,szF y ≤ 100000 := fun y hy => by
  rw [szF_mk,if_pos hk23] at hz
  have := szL_mem hy
  omega
 by_cases k3 : h.k = 3
 ·exact form_row ok rg cg t h P A0 c0 b a q w k3 hT (h32 k3) hPz hPc (fun y hy => ih y hy (hPz y hy) (hPc y hy)) E hv hr hc ht hroom tab
 ·have k2 : h.k = 2 := by omega
  have hs := hown.k12 (.inr k2)
  obtain ⟨g,hg,hgc,_,hgl⟩ := list_item hck k2
  have hm : g ∈ P := by rw [hg];simp
  exact form_list ok rg cg t h P A0 c0 b a q w k2 hT ⟨by omega,by omega⟩ ⟨by omega,by omega⟩ g hg (hPz g hm) hgc hgl (ih g hm (hPz g hm) hgc) E hv hr hc ht hroom tab

def chk8 (f : Fm) : Int := if deepB 8 f then 14 else checkR f
/-- How a reading of all ends. -/
def endAll (pre : Bool) (b : List UInt8) : RdT → Vt × Int × Int
 | .bad o e _ => (.mk ⟨0,[]⟩ [],o,e)
 | .got x r _ => if pre = false ∧ 0 < r.length then (.mk ⟨0,[]⟩ [],((b.length - r.length : Nat) : Int),6) else (x,((b.length - r.length : Nat) : Int),0)
/-- What all tells: the value, the place (from the base on), the error. -/
def readAll (pre : Bool) (f : Fm) (b : List UInt8) : Vt × Int × Int := if chk8 f ≠ 0 then (.mk ⟨0,[]⟩ [],0,chk8 f) else endAll pre b (readR f b)
def readSt (f : Fm) (b : List UInt8) : Nat := if chk8 f ≠ 0 then 0 else (readR f b).steps
def TS (t : Value) : Nat → Prop := fun i => t = .pointer (some ⟨i,0,none⟩)
/-- What all leaves. -/
def AllQ (t : Value) (a : Int) (q : Nat) (pre : Bool) (f : Fm) (b : List UInt8) (w : World) (e : Ending) (w' : World) : Prop :=
 ∃ A1 c1 A2 c2,e = .returned (.tuple #[.agg #[.int .u64 (readAll pre f b).1.a.n,.slice A1 (readAll pre f b).1.a.b.length c1,.slice A2 (readAll pre f b).1.l.length c2],.int .i64 (a + (readAll pre f b).2.1),.int .i64 (readAll pre f b).2.2]) ∧
  VtR w' (w.heap.size ≤ ·) (.agg #[.int .u64 (readAll pre f b).1.a.n,.slice A1 (readAll pre f b).1.a.b.length c1,.slice A2 (readAll pre f b).1.l.length c2]) (readAll pre f b).1 ∧ Kp (TS t) w w' ∧ Tl w' t (q + readSt f b)

set_option maxRecDepth 100000 in
set_option maxHeartbeats 3200000 in
theorem all_any (ok : Nat → Prop) (t : Value) (f : Fm) (v bv : Value) (b : List UInt8) (a : Int) (pre : Bool) (q : Nat) (w : World) (hT : IsT t) (hz : szF f ≤ 100000) (hv : FmR w ok v f) (hb : BR w ok bv b) (hokl : ∀ i,ok i → i < w.heap.size) (hok0 : ok 0) (hot : ∀ g,t = .pointer (some ⟨g,0,none⟩) → ¬ ok g)
  (ht : Tl w t q) (hroom : t = .pointer none ∨ (chk8 f = 0 → q + (readR f b).steps ≤ 1073741824)) (hl : b.length ≤ 1000000000) (ha : 0 ≤ a) (hal : a + b.length ≤ 4611686018427387904) (tab : Tab06 w) :
  Calls Tryd.prog 27 #[t,v,bv,.int .i64 a,.bool pre] w (AllQ t a q pre f b w) := by
 obtain ⟨⟨k,s,lo,hi,st⟩,P⟩ := f
 obtain ⟨A0,c0,rfl⟩ : ∃ A c,v = fv ⟨k,s,lo,hi,st⟩ A P.length c := hv.fv_
 obtain ⟨Ab,cb,rfl,hbc,hbr⟩ := id hb
 obtain ⟨pt,rfl⟩ : ∃ pt,t = .pointer pt := by rcases hT with rfl | ⟨g,rfl⟩ <;> exact ⟨_,rfl⟩
 have htl : ∀ g,Value.pointer pt = .pointer (some ⟨g,0,none⟩) → g < w.heap.size := fun g hg => (ht g hg).lt
 have ka : Kp (fun _ => False) w ((w.alloc (.cells #[.int .i64 k,.int .i64 s,.int .i64 lo,.int .i64 hi,.int .i64 st,.slice A0 P.length c0] 24)).alloc (.cells #[.int .u64 0,.slice none 0 0,.slice none 0 0] 31)) := ((Kp.refl _ w).alloc _).alloc _
 have hb0 := Blk.new (w.alloc (.cells #[.int .i64 k,.int .i64 s,.int .i64 lo,.int .i64 hi,.int .i64 st,.slice A0 P.length c0] 24)) 31 #[.int .u64 0,.slice none 0 0,.slice none 0 0]
 rw [World.size_alloc] at hb0
 have HBF := Lib.hid ((Blk.new w 24 #[.int .i64 k,.int .i64 s,.int .i64 lo,.int .i64 hi,.int .i64 st,.slice A0 P.length c0]).alloc (.cells #[.int .u64 0,.slice none 0 0,.slice none 0 0] 31))
 have hsz : ((w.alloc (.cells #[.int .i64 k,.int .i64 s,.int .i64 lo,.int .i64 hi,.int .i64 st,.slice A0 P.length c0] 24)).alloc (.cells #[.int .u64 0,.slice none 0 0,.slice none 0 0] 31)).heap.size = w.heap.size + 2 := by rw [World.size_alloc,World.size_alloc]
 have HCH := Lib.hid (check_any ok (.mk ⟨k,s,lo,hi,st⟩ P) (fv ⟨k,s,lo,hi,st⟩ A0 P.length c0) _ (fun i hi => Nat.lt_of_lt_of_le (hokl i hi) ka.size) (hv.kp ka (fun _ _ h => h)))
 have HB0 := Lib.hid hb0
 have HKA := Lib.hid ka
 have HV := Lib.hid hv
 have HB := Lib.hid hb
 have HT := Lib.hid hT
 have HTL := Lib.hid ht
 have HRM := Lib.hid hroom
 have HTA := Lib.hid tab
 have HOT := Lib.hid hot
 have HTZ := Lib.hid htl
 obtain ⟨ck,hck⟩ : ∃ ck,chk8 (.mk ⟨k,s,lo,hi,st⟩ P) = ck := ⟨_,rfl⟩
 have hck' : (if deepB 8 (.mk ⟨k,s,lo,hi,st⟩ P) = true then (14 : Int) else checkR (.mk ⟨k,s,lo,hi,st⟩ P)) = ck := hck
 rw [hck'] at HCH
 have HCK := Lib.hid hck
 clear ka hb0 hv hb hT ht hroom tab hot htl hck hck' hbr
 go_enter Tryd.func27,Tryd.ntmps27
 go_wp2_with fail
 generalize (w.alloc (.cells #[.int .i64 k,.int .i64 s,.int .i64 lo,.int .i64 hi,.int .i64 st,.slice A0 P.length c0] 24)).alloc (.cells #[.int .u64 0,.slice none 0 0,.slice none 0 0] 31) = W0 at HCH HB0 HBF HKA hsz ⊢
 refine HCH.out.mono ?_
 rintro e w1 ⟨rfl,hk1⟩
 have HB1 := Lib.hid (HB0.out.kp hk1 (fun h => h))
 have hbf1 := HBF.out.kp hk1 (fun h => h)
 have f0 := hbf1.cell 0
 have f1 := hbf1.cell 1
 have f2 := hbf1.cell 2
 have f3 := hbf1.cell 3
 have f4 := hbf1.cell 4
 have f5 := hbf1.cell 5
 simp at f0 f1 f2 f3 f4 f5
 have HBF1 := Lib.hid hbf1
 have HK1 := Lib.hid (HKA.out.then_ hk1 (fun _ h => h.elim))
 have hz1 := hk1.size
 rw [hsz] at hz1
 clear hk1 HCH HB0 HBF HKA hbf1 hsz
 by_cases hc : ck = 0
 ·have hne : (ck != 0) = false := by simp [hc]
  have HC := Lib.hid hc
  clear hc
  have kr : Kp (fun _ => False) w1 (w1.alloc (.cells #[.pointer pt,.int .i64 0,.int .i64 0] 76)) := (Kp.refl _ w1).alloc _
  have HNW := Lib.hid (new_any ok (.slice Ab b.length cb) b a _ ((HB.out.kp HK1.out (fun _ _ h => h)).kp kr (fun _ _ h => h)))
  have HR1 := Lib.hid (Blk.new w1 76 #[.pointer pt,.int .i64 0,.int .i64 0])
  have hsr : (w1.alloc (.cells #[.pointer pt,.int .i64 0,.int .i64 0] 76)).heap.size = w1.heap.size + 1 := World.size_alloc _ _
  have hrf : ∀ (W : World),Kp (fun _ => False) w1 W → W.cell? ⟨w.heap.size,0,none⟩ = some (.int .i64 k) ∧ W.cell? ⟨w.heap.size,1,none⟩ = some (.int .i64 s) ∧ W.cell? ⟨w.heap.size,2,none⟩ = some (.int .i64 lo) ∧ W.cell? ⟨w.heap.size,3,none⟩ = some (.int .i64 hi) ∧ W.cell? ⟨w.heap.size,4,none⟩ = some (.int .i64 st) ∧ W.cell? ⟨w.heap.size,5,none⟩ = some (.slice A0 P.length c0) := fun W hk =>
   ⟨hk.cell f0 (fun h => h),hk.cell f1 (fun h => h),hk.cell f2 (fun h => h),hk.cell f3 (fun h => h),hk.cell f4 (fun h => h),hk.cell f5 (fun h => h)⟩
  have HRF := Lib.hid hrf
  have HKR := Lib.hid kr
  clear kr f0 f1 f2 f3 f4 f5 hrf
  go_wp2_with fail
  generalize w1.alloc (.cells #[.pointer pt,.int .i64 0,.int .i64 0] 76) = W1 at HNW HR1 HKR hsr ⊢
  refine HNW.out.mono ?_
  rintro e w2 ⟨g,rfl,hg,hcur,hk2⟩
  have hkw2 : Kp (fun _ => False) w1 w2 := HKR.out.then_ hk2 (fun _ h => h.elim)
  have hkww : Kp (fun _ => False) w w2 := HK1.out.then_ hkw2 (fun _ h => h.elim)
  have hz2 := hk2.size
  obtain ⟨f0,f1,f2,f3,f4,f5⟩ := HRF.out w2 hkw2
  have E2 : RdEnv ok w1.heap.size g (.pointer pt) b a w2 := ⟨fun h => by have := hokl _ h;omega,fun h => by have := hokl _ h;omega,HOT.out,by omega,fun gg hgg => by have := HTZ.out gg hgg;omega,fun gg hgg => by have := HTZ.out gg hgg;omega,by omega,hcur.lt,fun gg hgg => by have := HTZ.out gg hgg;omega,fun i hi => by have := hokl i hi;omega,hok0,hl,ha,hal⟩
  have HFC := Lib.hid (form_any ok w1.heap.size (.pointer pt) HT.out (.mk ⟨k,s,lo,hi,st⟩ P) hz (by
   have := HCK.out
   rw [HC.out] at this
   unfold chk8 at this
   split at this
   ·omega
   ·exact this) g b a q (fv ⟨k,s,lo,hi,st⟩ A0 P.length c0) w2 E2 (HV.out.kp hkww (fun _ _ h => h)) (HR1.out.kp hk2 (fun h => h)) hcur (HTL.out.kp hkww (fun _ _ h => h)) (HRM.out.imp id (fun h => h (HCK.out.trans HC.out))) (HTA.out.kp hkww (fun h => h)))
  have HB2 := Lib.hid (HB1.out.kp hkw2 (fun h => h))
  have HKW := Lib.hid hkww
  have HE2 := Lib.hid E2
  clear hkw2 hkww hcur hk2 E2 HNW HR1 HRF HKR HB1 HBF1 HTA HRM
  obtain ⟨R,hR⟩ : ∃ R,readR (.mk ⟨k,s,lo,hi,st⟩ P) b = R := ⟨_,rfl⟩
  have hA : readAll pre (.mk ⟨k,s,lo,hi,st⟩ P) b = endAll pre b R := by
   unfold readAll
   rw [HCK.out,if_neg (by simp [HC.out]),hR]
  have HS := Lib.hid (show readSt (.mk ⟨k,s,lo,hi,st⟩ P) b = R.steps by
   unfold readSt
   rw [HCK.out,if_neg (by simp [HC.out]),hR])
  have hrl : ∀ x r q2,R = .got x r q2 → r.length ≤ b.length := fun x r q2 h => RdT.rest_le hz (by
   have := HCK.out
   rw [HC.out] at this
   unfold chk8 at this
   split at this
   ·omega
   ·exact this) (by omega) (hR.trans h)
  rw [hR] at HFC
  have HA := Lib.hid hA
  have HRL := Lib.hid hrl
  clear hA hrl HCK HV hR
  go_wp2_with fail
  refine HFC.out.mono ?_
  rintro e w3 ⟨hfp,htl⟩
  obtain ⟨v3,x,rfl,hvx,hk3,hen⟩ := hfp.parts
  obtain ⟨A5,c5,A6,c6,rfl,_⟩ := hvx.shape
  have hnS : ∀ j,w.heap.size ≤ j → j ≠ w1.heap.size → j ≠ g → ¬ S3 w1.heap.size g (.pointer pt) j := fun j h1 h2 h3 hs => by
   rcases hs with rfl | rfl | hs
   ·exact h2 rfl
   ·exact h3 rfl
   ·have := HTZ.out j hs;omega
  have HB3 := Lib.hid (HB2.out.kp hk3 (hnS _ (by omega) (by omega) (by omega)))
  have HK3 := Lib.hid (show Kp (TS (.pointer pt)) w w3 from (HKW.out.mono (fun _ _ h => h.elim)).then_ hk3 (fun i hi => by
   rcases hi with rfl | rfl | hi
   ·exact .inr (by omega)
   ·exact .inr (by omega)
   ·exact .inl hi))
  have HVX := Lib.hid hvx
  have HEN := Lib.hid hen
  have HTL3 := Lib.hid htl
  have hz3 := hk3.size
  clear hvx hen htl hk3 hfp hnS HFC HB2 f0 f1 f2 f3 f4 f5
  generalize hl5 : x.a.b.length = l5 at HVX ⊢
  generalize hl6 : x.l.length = l6 at HVX ⊢
  generalize hn5 : x.a.n = n5 at HVX ⊢
  have HL := Lib.hid (And.intro hl5 (And.intro hl6 hn5))
  clear hl5 hl6 hn5
  go_upto_region 6 with fail
  have hbv := Blk.new w3 31 #[.int .u64 n5,.slice A5 l5 c5,.slice A6 l6 c6]
  have hk4 : Kp (fun _ => False) w3 (w3.alloc (.cells #[.int .u64 n5,.slice A5 l5 c5,.slice A6 l6 c6] 31)) := (Kp.refl _ w3).alloc _
  generalize w3.alloc (.cells #[.int .u64 n5,.slice A5 l5 c5,.slice A6 l6 c6] 31) = W4 at hbv hk4 ⊢
  have v0 := hbv.cell 0
  have v1 := hbv.cell 1
  have v2 := hbv.cell 2
  simp at v0 v1 v2
  have hb4 := HB3.out.kp hk4 (fun h => h)
  have z0 := hb4.frozen 0
  have z1 := hb4.frozen 1
  have z2 := hb4.frozen 2
  have y0 := hb4.cell 0
  have y1 := hb4.cell 1
  have y2 := hb4.cell 2
  simp at y0 y1 y2
  have HB4 := Lib.hid hb4
  have HBV := Lib.hid hbv
  have HV4 := Lib.hid (HVX.out.kp hk4 (fun _ _ h => h))
  have HT4 := Lib.hid (HTL3.out.kp hk4 (fun _ _ h => h))
  have HK4 := Lib.hid (HK3.out.then_ hk4 (fun _ h => h.elim))
  -- the end: a value stored
  have HFI := Lib.hid (show ∀ (W : World) (S : Nat → Prop) (y : Vt) (A1 A2 : Option Addr) (c1 c2 : Nat) (o e : Int),Kp (fun _ => False) W4 W → readAll pre (.mk ⟨k,s,lo,hi,st⟩ P) b = (y,o,e) → VtR W (fun i => w2.heap.size ≤ i) (.agg #[.int .u64 y.a.n,.slice A1 y.a.b.length c1,.slice A2 y.l.length c2]) y →
    AllQ (.pointer pt) a q pre (.mk ⟨k,s,lo,hi,st⟩ P) b w (.returned (.tuple #[.agg #[.int .u64 y.a.n,.slice A1 y.a.b.length c1,.slice A2 y.l.length c2],.int .i64 (a + o),.int .i64 e])) (((W.setCell ⟨w.heap.size + 1,0,none⟩ (.int .u64 y.a.n)).setCell ⟨w.heap.size + 1,1,none⟩ (.slice A1 y.a.b.length c1)).setCell ⟨w.heap.size + 1,2,none⟩ (.slice A2 y.l.length c2)) from fun W S y A1 A2 c1 c2 o e hk hAy hvy => by
   have hq : Kp (fun i => i = w.heap.size + 1) W (((W.setCell ⟨w.heap.size + 1,0,none⟩ (.int .u64 y.a.n)).setCell ⟨w.heap.size + 1,1,none⟩ (.slice A1 y.a.b.length c1)).setCell ⟨w.heap.size + 1,2,none⟩ (.slice A2 y.l.length c2)) := (Kp.refl (fun i => i = w.heap.size + 1) W).put3 (B := w.heap.size + 1) (.inl rfl) _ _ _
   unfold AllQ
   rw [hAy,HS.out]
   refine ⟨A1,c1,A2,c2,rfl,(hvy.kp hq (fun i hi he => by omega)).mono (fun i hi => by omega),(HK4.out.then_ hk (fun _ h => h.elim)).then_ hq (fun i hi => .inr (by omega)),?_⟩
   exact (HT4.out.kp hk (fun _ _ h => h)).kp hq (fun g hg he => by have := HTZ.out g hg;omega))
  cases R with
  | bad o er q2 =>
   have hr4 := HEN.out.1.kp hk4 (fun h => h)
   have r1 := Blk.cell hr4 1
   have r2 := Blk.cell hr4 2
   simp at r1 r2
   have hne2 : (er != 0) = true := by simpa using HEN.out.2
   have HFF := Lib.hid (fun W hk => HFI.out W (fun _ => False) (.mk ⟨0,[]⟩ []) none none 0 0 o er hk HA.out VtR.zero)
   have hS0 : ∀ W,Kp (fun i => i = w.heap.size + 1) W4 W → W.cell? ⟨w1.heap.size,1,none⟩ = some (.int .i64 (a + o)) ∧ W.cell? ⟨w1.heap.size,2,none⟩ = some (.int .i64 er) := fun W hk => ⟨hk.cell r1 (by show w1.heap.size ≠ _;omega),hk.cell r2 (by show w1.heap.size ≠ _;omega)⟩
   have HCE := Lib.hid (hS0 W4.drew (Kp.refl _ W4).drew)
   have HCF := Lib.hid (fun u0 u1 u2 => hS0 _ (((Kp.refl (fun i => i = w.heap.size + 1) W4).drew).put3 (B := w.heap.size + 1) (.inl rfl) u0 u1 u2))
   have z0d : W4.drew.frozen? ⟨w.heap.size + 1,0,none⟩ = false := z0
   have z1d : W4.drew.frozen? ⟨w.heap.size + 1,1,none⟩ = false := z1
   have z2d : W4.drew.frozen? ⟨w.heap.size + 1,2,none⟩ = false := z2
   have y0d : W4.drew.cell? ⟨w.heap.size + 1,0,none⟩ = some (.int .u64 0) := y0
   have y1d : W4.drew.cell? ⟨w.heap.size + 1,1,none⟩ = some (.slice none 0 0) := y1
   have y2d : W4.drew.cell? ⟨w.heap.size + 1,2,none⟩ = some (.slice none 0 0) := y2
   have HFD := Lib.hid (HFF.out W4.drew (Kp.refl _ W4).drew)
   clear hk4 hr4 hbv hb4 HFI HA HS HRL HFF hS0
   go_upto_region 7 with fail
   go_region_held3 (fun w' => (w').cell? ⟨w1.heap.size,1,none⟩ = some (.int .i64 (a + o)) ∧ (w').cell? ⟨w1.heap.size,2,none⟩ = some (.int .i64 er)) (first | exact HCE.out | exact HCF.out _ _ _) (first | fail)
   go_wp2_with fail
   exact bodyPost_ret (v := .tuple #[.agg #[.int .u64 0,.slice none 0 0,.slice none 0 0],.int .i64 (a + o),.int .i64 er]) (by simp [results,Tryd.results27,go_sem,y0,y1,y2]) rfl HFD.out
  | got y r q2 =>
   obtain ⟨rfl,hrd,hcu⟩ := HEN.out
   have hrl := HRL.out x r q2 rfl
   have hr4 := hrd.kp hk4 (fun h => h)
   have hc4 := hcu.kp hk4 (fun _ _ h => h) (fun h => h)
   have r2 := Blk.cell hr4 2
   simp at r2
   have hne2 : ((0 : Int) != 0) = false := rfl
   obtain ⟨hl5,hl6,hn5⟩ := HL.out
   have HFX := Lib.hid (show pre = true ∨ r.length = 0 → ∀ W,Kp (fun _ => False) W4 W → AllQ (.pointer pt) a q pre (.mk ⟨k,s,lo,hi,st⟩ P) b w (.returned (.tuple #[.agg #[.int .u64 n5,.slice A5 l5 c5,.slice A6 l6 c6],.int .i64 (a + ((b.length - r.length : Nat) : Int)),.int .i64 0])) (((W.setCell ⟨w.heap.size + 1,0,none⟩ (.int .u64 n5)).setCell ⟨w.heap.size + 1,1,none⟩ (.slice A5 l5 c5)).setCell ⟨w.heap.size + 1,2,none⟩ (.slice A6 l6 c6)) from fun hp W hk => by
    have := HFI.out W (fun _ => False) x A5 A6 c5 c6 ((b.length - r.length : Nat) : Int) 0 hk (by
     rw [HA.out]
     exact if_neg (fun hh => by rcases hp with h | h;rw [h] at hh;simp at hh;omega)) (by rw [hl5,hl6,hn5];exact HV4.out.kp hk (fun _ _ h => h))
    rw [hl5,hl6,hn5] at this
    exact this)
   have HAT := Lib.hid (fun W (hk : Kp (fun _ => False) W4 W) => at_any ok g r (a + ((b.length - r.length : Nat) : Int)) W (hc4.kp hk (fun _ _ h => h) (fun h => h)))
   have hS0 : ∀ W,Kp (fun i => i = w.heap.size + 1) W4 W → W.cell? ⟨w3.heap.size,0,none⟩ = some (.int .u64 n5) ∧ W.cell? ⟨w3.heap.size,1,none⟩ = some (.slice A5 l5 c5) ∧ W.cell? ⟨w3.heap.size,2,none⟩ = some (.slice A6 l6 c6) := fun W hk => ⟨hk.cell v0 (by show w3.heap.size ≠ _;omega),hk.cell v1 (by show w3.heap.size ≠ _;omega),hk.cell v2 (by show w3.heap.size ≠ _;omega)⟩
   have HCE := Lib.hid (hS0 W4.drew (Kp.refl _ W4).drew)
   have HCF := Lib.hid (fun u0 u1 u2 => hS0 _ (((Kp.refl (fun i => i = w.heap.size + 1) W4).drew).put3 (B := w.heap.size + 1) (.inl rfl) u0 u1 u2))
   have z0d : W4.drew.frozen? ⟨w.heap.size + 1,0,none⟩ = false := z0
   have z1d : W4.drew.frozen? ⟨w.heap.size + 1,1,none⟩ = false := z1
   have z2d : W4.drew.frozen? ⟨w.heap.size + 1,2,none⟩ = false := z2
   have y0d : W4.drew.cell? ⟨w.heap.size + 1,0,none⟩ = some (.int .u64 0) := y0
   have y1d : W4.drew.cell? ⟨w.heap.size + 1,1,none⟩ = some (.slice none 0 0) := y1
   have y2d : W4.drew.cell? ⟨w.heap.size + 1,2,none⟩ = some (.slice none 0 0) := y2
   have hkD : Kp (fun _ => False) W4 W4.drew := (Kp.refl _ W4).drew
   have HLF := Lib.hid (left_any ok g r _ W4 hc4)
   have HKD := Lib.hid hkD
   have HKI := Lib.hid (Kp.refl (fun _ => False) W4)
   have HZB := Lib.hid (show pre = false → 0 < r.length → AllQ (.pointer pt) a q pre (.mk ⟨k,s,lo,hi,st⟩ P) b w (.returned (.tuple #[.agg #[.int .u64 0,.slice none 0 0,.slice none 0 0],.int .i64 (a + ((b.length - r.length : Nat) : Int)),.int .i64 6])) (((W4.setCell ⟨w.heap.size + 1,0,none⟩ (.int .u64 0)).setCell ⟨w.heap.size + 1,1,none⟩ (.slice none 0 0)).setCell ⟨w.heap.size + 1,2,none⟩ (.slice none 0 0)) from fun hp hr0 => HFI.out W4 (fun _ => False) (.mk ⟨0,[]⟩ []) none none 0 0 ((b.length - r.length : Nat) : Int) 6 (Kp.refl _ W4) (by
     rw [HA.out]
     exact if_pos ⟨hp,hr0⟩) VtR.zero)
   generalize hpl : a + ((b.length - r.length : Nat) : Int) = pl at HFX HAT HZB HLF
   clear hk4 hr4 hbv hb4 HFI HA HS HRL hS0 hkD hl5 hl6 hn5 hpl hrd hcu hc4
   cases pre with
   | false =>
    by_cases h0 : 0 < r.length
    ·have e4 : decide (0 < r.length) = true := decide_eq_true h0
     have HZ := Lib.hid (HZB.out rfl h0)
     clear HFX HZB h0
     go_wp2_with (first | (go_at_call 42;refine HLF.out.mono ?_;rintro e w2 ⟨rfl,rfl⟩) | (go_at_call 43;refine (HAT.out _ HKI.out).mono ?_;rintro e w2 ⟨rfl,rfl⟩))
     exact bodyPost_ret (v := .tuple #[.agg #[.int .u64 0,.slice none 0 0,.slice none 0 0],.int .i64 pl,.int .i64 6]) (by simp [results,Tryd.results27,go_sem,y0,y1,y2]) rfl HZ.out
    ·have e4 : decide (0 < r.length) = false := decide_eq_false h0
     have HF := Lib.hid (HFX.out (.inr (by omega)) _ HKD.out)
     clear HFX HZB h0
     go_upto_region 10 with (go_at_call 42;refine HLF.out.mono ?_;rintro e w2 ⟨rfl,rfl⟩)
     go_region_held3 (fun w' => (w').cell? ⟨w3.heap.size,0,none⟩ = some (.int .u64 n5) ∧ (w').cell? ⟨w3.heap.size,1,none⟩ = some (.slice A5 l5 c5) ∧ (w').cell? ⟨w3.heap.size,2,none⟩ = some (.slice A6 l6 c6)) (first | exact HCE.out | exact HCF.out _ _ _) (first | (go_at_call 43;refine (HAT.out _ HKD.out).mono ?_;rintro e w5 ⟨rfl,rfl⟩))
     go_wp2_with fail
     exact bodyPost_ret (v := .tuple #[.agg #[.int .u64 n5,.slice A5 l5 c5,.slice A6 l6 c6],.int .i64 pl,.int .i64 0]) (by simp [results,Tryd.results27,go_sem,y0,y1,y2]) rfl HF.out
   | true =>
    have HF := Lib.hid (HFX.out (.inl rfl) _ HKD.out)
    clear HFX HZB
    go_upto_region 10 with fail
    go_region_held3 (fun w' => (w').cell? ⟨w3.heap.size,0,none⟩ = some (.int .u64 n5) ∧ (w').cell? ⟨w3.heap.size,1,none⟩ = some (.slice A5 l5 c5) ∧ (w').cell? ⟨w3.heap.size,2,none⟩ = some (.slice A6 l6 c6)) (first | exact HCE.out | exact HCF.out _ _ _) (first | (go_at_call 43;refine (HAT.out _ HKD.out).mono ?_;rintro e w5 ⟨rfl,rfl⟩))
    go_wp2_with fail
    exact bodyPost_ret (v := .tuple #[.agg #[.int .u64 n5,.slice A5 l5 c5,.slice A6 l6 c6],.int .i64 pl,.int .i64 0]) (by simp [results,Tryd.results27,go_sem,y0,y1,y2]) rfl HF.out
 ·have hne : (ck != 0) = true := by simpa using hc
  have hA : readAll pre (.mk ⟨k,s,lo,hi,st⟩ P) b = (.mk ⟨0,[]⟩ [],0,ck) := by
   unfold readAll
   rw [HCK.out,if_pos hc]
  have hS : readSt (.mk ⟨k,s,lo,hi,st⟩ P) b = 0 := by
   unfold readSt
   rw [HCK.out,if_pos hc]
  have hq : Kp (fun i => i = w.heap.size + 1) w1 (((w1.setCell ⟨w.heap.size + 1,0,none⟩ (.int .u64 0)).setCell ⟨w.heap.size + 1,1,none⟩ (.slice none 0 0)).setCell ⟨w.heap.size + 1,2,none⟩ (.slice none 0 0)) := (Kp.refl (fun i => i = w.heap.size + 1) w1).put3 (B := w.heap.size + 1) (.inl rfl) _ _ _
  have HF := Lib.hid (show AllQ (.pointer pt) a q pre (.mk ⟨k,s,lo,hi,st⟩ P) b w (.returned (.tuple #[.agg #[.int .u64 0,.slice none 0 0,.slice none 0 0],.int .i64 a,.int .i64 ck])) (((w1.setCell ⟨w.heap.size + 1,0,none⟩ (.int .u64 0)).setCell ⟨w.heap.size + 1,1,none⟩ (.slice none 0 0)).setCell ⟨w.heap.size + 1,2,none⟩ (.slice none 0 0)) from by
   unfold AllQ
   rw [hA,hS]
   refine ⟨none,0,none,0,by simp [RT.a,RT.l],VtR.zero,(HK1.out.mono (fun _ _ h => h.elim)).then_ hq (fun i hi => .inr (by omega)),?_⟩
   exact (HTL.out.kp HK1.out (fun _ _ h => h)).kp hq (fun g hg he => by have := HTZ.out g hg;omega))
  have hb2 := HB1.out
  have z0 := hb2.frozen 0
  have z1 := hb2.frozen 1
  have z2 := hb2.frozen 2
  have y0 := hb2.cell 0
  have y1 := hb2.cell 1
  have y2 := hb2.cell 2
  simp at y0 y1 y2
  clear hb2 hA hS hq hc
  go_wp2_with fail
  exact bodyPost_ret (v := .tuple #[.agg #[.int .u64 0,.slice none 0 0,.slice none 0 0],.int .i64 a,.int .i64 ck]) (by simp [results,Tryd.results27,go_sem,y0,y1,y2]) rfl HF.out

set_option maxRecDepth 100000 in
set_option maxHeartbeats 1600000 in
theorem read_any (ok : Nat → Prop) (f : Fm) (v bv : Value) (b : List UInt8) (a : Int) (w : World) (hz : szF f ≤ 100000) (hv : FmR w ok v f) (hb : BR w ok bv b) (hokl : ∀ i,ok i → i < w.heap.size) (hok0 : ok 0) 
  (hl : b.length ≤ 1000000000) (ha : 0 ≤ a) (hal : a + b.length ≤ 4611686018427387904) (tab : Tab06 w) :
  Calls Tryd.prog 12 #[v,bv,.int .i64 a] w (AllQ (.pointer none) a 0 false f b w) := by
 obtain ⟨⟨k,s,lo,hi,st⟩,P⟩ := f
 obtain ⟨A0,c0,rfl⟩ : ∃ A c,v = fv ⟨k,s,lo,hi,st⟩ A P.length c := hv.fv_
 obtain ⟨Ab,cb,rfl,hbc,hbr⟩ := id hb
 have ka : Kp (fun _ => False) w ((w.alloc (.cells #[.int .i64 k,.int .i64 s,.int .i64 lo,.int .i64 hi,.int .i64 st,.slice A0 P.length c0] 24)).alloc (.cells #[.int .u64 0,.slice none 0 0,.slice none 0 0] 31)) := ((Kp.refl _ w).alloc _).alloc _
 have hb0 := Blk.new (w.alloc (.cells #[.int .i64 k,.int .i64 s,.int .i64 lo,.int .i64 hi,.int .i64 st,.slice A0 P.length c0] 24)) 31 #[.int .u64 0,.slice none 0 0,.slice none 0 0]
 rw [World.size_alloc] at hb0
 have hsz : ((w.alloc (.cells #[.int .i64 k,.int .i64 s,.int .i64 lo,.int .i64 hi,.int .i64 st,.slice A0 P.length c0] 24)).alloc (.cells #[.int .u64 0,.slice none 0 0,.slice none 0 0] 31)).heap.size = w.heap.size + 2 := by rw [World.size_alloc,World.size_alloc]
 have HA := Lib.hid (all_any ok (.pointer none) (.mk ⟨k,s,lo,hi,st⟩ P) (fv ⟨k,s,lo,hi,st⟩ A0 P.length c0) (.slice Ab b.length cb) b a false 0 _ (.inl rfl) hz (hv.kp ka (fun _ _ h => h)) (hb.kp ka (fun _ _ h => h)) (fun i hi => Nat.lt_of_lt_of_le (hokl i hi) ka.size) hok0 (fun g hg => by cases hg) (fun g hg => by cases hg) (.inl rfl) hl ha hal (tab.kp ka (fun h => h)))
 have HB0 := Lib.hid hb0
 have HKA := Lib.hid ka
 clear ka hb0 hv hb hbr tab 
 go_enter Tryd.func12,Tryd.ntmps12
 go_wp2_with fail
 generalize (w.alloc (.cells #[.int .i64 k,.int .i64 s,.int .i64 lo,.int .i64 hi,.int .i64 st,.slice A0 P.length c0] 24)).alloc (.cells #[.int .u64 0,.slice none 0 0,.slice none 0 0] 31) = W0 at HA HB0 HKA hsz ⊢
 refine HA.out.mono ?_
 rintro e w1 ⟨A1,c1,A2,c2,rfl,hvx,hk1,ht1⟩
 have hnT : ¬ TS (.pointer none) (w.heap.size + 1) := (fun h => by cases h)
 have hb1 := HB0.out.kp hk1 hnT
 have z0 := hb1.frozen 0
 have z1 := hb1.frozen 1
 have z2 := hb1.frozen 2
 have y0 := hb1.cell 0
 have y1 := hb1.cell 1
 have y2 := hb1.cell 2
 simp at y0 y1 y2
 have hz1 := hk1.size
 have hq := (Kp.refl (fun i => i = w.heap.size + 1) w1).put3 (B := w.heap.size + 1) (.inl rfl) (.int .u64 (readAll false (.mk ⟨k,s,lo,hi,st⟩ P) b).1.a.n) (.slice A1 (readAll false (.mk ⟨k,s,lo,hi,st⟩ P) b).1.a.b.length c1) (.slice A2 (readAll false (.mk ⟨k,s,lo,hi,st⟩ P) b).1.l.length c2)
 have HF := Lib.hid (show AllQ (.pointer none) a 0 false (.mk ⟨k,s,lo,hi,st⟩ P) b w (.returned (.tuple #[.agg #[.int .u64 (readAll false (.mk ⟨k,s,lo,hi,st⟩ P) b).1.a.n,.slice A1 (readAll false (.mk ⟨k,s,lo,hi,st⟩ P) b).1.a.b.length c1,.slice A2 (readAll false (.mk ⟨k,s,lo,hi,st⟩ P) b).1.l.length c2],.int .i64 (a + (readAll false (.mk ⟨k,s,lo,hi,st⟩ P) b).2.1),.int .i64 (readAll false (.mk ⟨k,s,lo,hi,st⟩ P) b).2.2])) _ from
  ⟨A1,c1,A2,c2,rfl,(hvx.kp hq (fun i hi he => by omega)).mono (fun i hi => by omega),((HKA.out.mono (fun _ _ h => h.elim)).then_ hk1 (fun i hi => .inl hi)).then_ hq (fun i hi => .inr (by omega)),ht1.kp hq (fun g hg he => hnT (by unfold TS;rw [hg,he]))⟩)
 clear hb1 hvx hk1 ht1 hq
 generalize readAll false (.mk ⟨k,s,lo,hi,st⟩ P) b = RA at HF ⊢
 obtain ⟨⟨⟨n5,l5⟩,l6⟩,o,er⟩ := RA
 simp only [RT.a,RT.l] at HF ⊢
 generalize l5.length = m5 at HF ⊢
 generalize l6.length = m6 at HF ⊢
 generalize a + o = pl at HF ⊢
 go_wp2_with fail
 exact bodyPost_ret (v := .tuple #[.agg #[.int .u64 n5,.slice A1 m5 c1,.slice A2 m6 c2],.int .i64 pl,.int .i64 er]) (by simp [results,Tryd.results12,go_sem,y0,y1,y2]) rfl HF.out

end Go.Proofs.YtdhnfccgojgehaaDoor

namespace Go.Proofs.YtdhnfccgojgehaaDoor
open Go.RowKit

end Go.Proofs.YtdhnfccgojgehaaDoor

namespace Go.Proofs.YtdhnfccgojgehaaDoor
open Go.RowKit YtdhnfccgojgehaaDoorW.PrintWords

section
variable {w : World} {ok ok2 : Nat → Prop} {f : Fm} {x y : Vt} {v u : Value}
theorem FmR.wf (h : FmR w ok v f) : wfF f = true := by
 obtain ⟨_,_,h1⟩ := h.tr
 exact tr_wfF f _ h1
theorem VtR.wf (h : VtR w ok v x) : wfV x = true := by
 obtain ⟨_,_,_,h1⟩ := h.tr
 exact tr_wfV x _ h1
theorem same05_any (ok ok2 : Nat → Prop) (x y : Vt) (v u : Value) (w : World) (hv : VtR w ok v x) (hu : VtR w ok2 u y) : Calls Tryd.prog 13 #[v,u] w fun e w' => e = .returned (.bool (sameV x y)) ∧ Kp (fun _ => False) w w' := by
 obtain ⟨K,hK⟩ := (same05_ev x y hv.wf hu.wf).rounds
 obtain ⟨⟨n,b⟩,l⟩ := x
 obtain ⟨⟨n2,b2⟩,l2⟩ := y
 obtain ⟨A1,c1,A2,c2,rfl,_,_,hbl,hb,_,_,h2⟩ := hv.parts
 obtain ⟨A3,c3,A4,c4,rfl,_,_,hbl2,hb2,_,_,h4⟩ := hu.parts
 obtain ⟨_,g3,g4⟩ := br_c hb hbl
 obtain ⟨_,g5,g6⟩ := h2.c
 obtain ⟨_,g7,g8⟩ := br_c hb2 hbl2
 obtain ⟨_,g9,g0⟩ := h4.c
 have := QP.passepartoutref05_Same.calls K n A1 c1 (bI b) A2 c2 (l.map ofV) n2 A3 c3 (bI b2) A4 c4 (l2.map ofV) _ w g4 g3 g6 g5 g8 g7 g0 g9 hK
 simp only [List.length_map,bI_len] at this
 exact this.mono fun e w' h => ⟨h.1,Kp.of_below h.2⟩
end
/-- Read, told by the parts of its answer. -/
theorem read_at (ok : Nat → Prop) (f : Fm) (v bv : Value) (b : List UInt8) (a : Int) (w : World) (n5 : Int) (l5 : List UInt8) (l6 : List Vt) (o er : Int) (hR : readAll false f b = (.mk ⟨n5,l5⟩ l6,o,er)) (hz : szF f ≤ 100000) (hv : FmR w ok v f) (hb : BR w ok bv b) (hokl : ∀ i,ok i → i < w.heap.size) (hok0 : ok 0)
  (hl : b.length ≤ 1000000000) (ha : 0 ≤ a) (hal : a + b.length ≤ 4611686018427387904) (tab : Tab06 w) :
  Calls Tryd.prog 12 #[v,bv,.int .i64 a] w fun e w' => ∃ A1 c1 A2 c2,e = .returned (.tuple #[.agg #[.int .u64 n5,.slice A1 l5.length c1,.slice A2 l6.length c2],.int .i64 (a + o),.int .i64 er]) ∧
   VtR w' (w.heap.size ≤ ·) (.agg #[.int .u64 n5,.slice A1 l5.length c1,.slice A2 l6.length c2]) (.mk ⟨n5,l5⟩ l6) ∧ Kp (fun _ => False) w w' := by
 refine (read_any ok f v bv b a w hz hv hb hokl hok0 hl ha hal tab).mono ?_
 rintro e w' ⟨A1,c1,A2,c2,he,hv2,hk,_⟩
 rw [hR] at he hv2
 exact ⟨A1,c1,A2,c2,he,hv2,hk.mono (fun i _ h => by cases h)⟩

/-- What not too great means. -/
theorem sz_ok {f : Fm} (h : ¬ 500 < cntR 500 f) : szF f ≤ 100000 := by
 have := (cnt_sz f 500).1 (by omega)
 omega
theorem okk {w : World} (tab : Tab06 w) : 0 < w.heap.size := cell_lt tab.c0
abbrev Vt.zero_ : Vt := .mk ⟨0,[]⟩ []
theorem chk8_ok {f : Fm} (h : chk8 f = 0) : deepB 8 f = false ∧ checkR f = 0 := by
 unfold chk8 at h
 split at h
 ·omega
 ·rename_i hd
  exact ⟨by simpa using hd,h⟩
end Go.Proofs.YtdhnfccgojgehaaDoor

namespace Go.Proofs.YtdhnfccgojgehaaDoor
open Go.RowKit

end Go.Proofs.YtdhnfccgojgehaaDoor

namespace Go.Proofs.YtdhnfccgojgehaaDoor
open Go.RowKit

mutual
/-- How many values there are in one. -/
def szV : Vt → Nat
 | .mk _ l => 1 + szVs l
def szVs : List Vt → Nat
 | [] => 0
 | x :: t => szV x + szVs t
end
theorem cntVs_ge {m : Nat} : ∀ (t : List Vt) (n : Nat),n ≤ m + 1 → n ≤ cntVs m n t := by
 intro t
 induction t with
 | nil => intro n _;rw [cntVs];omega
 | cons f t ih =>
  intro n hn
  rw [cntVs]
  split
  ·have h1 := cntV_bound f (m - n)
   have := ih (n + cntV (m - n) f) (by omega)
   omega
  ·omega
theorem cntV_sz (x : Vt) : ∀ m,cntV m x ≤ m → cntV m x = szV x := by
 induction x using RT.induct with
 | h a l ih =>
 intro m hm
 have key : ∀ (t : List Vt),(∀ f ∈ t,∀ m,cntV m f ≤ m → cntV m f = szV f) → ∀ n,cntVs m n t ≤ m → cntVs m n t = n + szVs t := by
  intro t
  induction t with
  | nil => intro _ n _;rw [cntVs,szVs];rfl
  | cons f t ih2 =>
   intro hf n hn
   rw [cntVs] at hn ⊢
   split at hn
   ·rename_i hnm
    have h1 := cntV_bound f (m - n)
    have h2 := cntVs_ge (m := m) t (n + cntV (m - n) f) (by omega)
    have h3 := hf f (by simp) (m - n) (by omega)
    have h4 := ih2 (fun g hg => hf g (by simp [hg])) _ hn
    rw [if_pos hnm,h4,h3,szVs]
    omega
   ·omega
 rw [cntV] at hm ⊢
 rw [key l ih 1 hm,szV]
/-- What is written is no longer than so many bytes a value. -/
theorem wr_len (f : Fm) : checkR f = 0 → ∀ x n,fitR f x = (n,0) → (writeR f x).length ≤ 16777218 * szV x := by
 induction f using RT.induct with
 | h h P ih =>
 intro hck x n hfit
 obtain ⟨hown,hone,h32,hch⟩ := check_ok hck
 obtain ⟨⟨a,b⟩,l⟩ := x
 rw [fitR_mk] at hfit
 rw [szV]
 by_cases hal : aloneB h.k a b.length l.length = false
 ·rw [if_pos hal] at hfit
  simp at hfit
 rw [if_neg hal] at hfit
 simp only at hfit
 by_cases k0 : h.k = 0
 ·have hs := hown.k0 k0
  rw [writeR_mk,if_pos k0,beB_length]
  omega
 rw [if_neg k0] at hfit
 by_cases k1 : h.k = 1
 ·rw [if_pos k1] at hfit
  obtain ⟨hs1,hs2,hl1,hl2,hl3,_⟩ := hown.k12 (.inl k1)
  injection hfit with _ hm
  obtain ⟨m1,m2,m3⟩ := mayR_ok hm
  rw [writeR_mk,if_neg k0,if_pos k1,List.length_append,beB_length]
  simp only
  omega
 rw [if_neg k1] at hfit
 by_cases k4 : h.k = 4
 ·rw [if_pos k4] at hfit
  have hl := hown.k4 k4
  injection hfit with _ hm
  obtain ⟨m1,m2,m3⟩ := mayR_ok hm
  rw [writeR_mk,if_neg k0,if_neg k1,if_pos (.inl k4)]
  simp only
  omega
 rw [if_neg k4] at hfit
 by_cases k5 : h.k = 5
 ·rw [if_pos k5] at hfit
  have hl := hown.k5 k5
  injection hfit with _ hm
  obtain ⟨m1,m2,m3⟩ := mayR_ok hm
  rw [writeR_mk,if_neg k0,if_neg k1,if_pos (.inr k5)]
  simp only
  omega
 rw [if_neg k5] at hfit
 have hk := hown.k
 have hk23 : h.k = 2 ∨ h.k = 3 := by omega
 have hPc : ∀ y ∈ P,checkR y = 0 := (hch hk23).1
 have hin : ∀ i,0 < P.length → P.getD (i % P.length) nilF ∈ P := by
  intro i hp
  have : i % P.length < P.length := Nat.mod_lt _ hp
  simp [this]
 have key : 0 < P.length → ∀ (ys : List Vt) (i : Nat) (c0 n : Int),fitL (.mk h P) c0 i ys = (n,0) → (writeL (.mk h P) i ys).length ≤ 16777218 * szVs ys := by
  intro hp ys
  induction ys with
  | nil => intro i c0 n _;rw [writeL];simp
  | cons y t iht =>
   intro i c0 n hft
   rw [fitL] at hft
   obtain ⟨⟨k,e⟩,hke⟩ : ∃ r,fitR ((RT.mk h P).l.getD (i % (RT.mk h P).l.length) nilF) y = r := ⟨_,rfl⟩
   rw [hke] at hft
   simp only at hft
   by_cases he : e = 0
   rotate_left
   ·rw [if_neg he] at hft
    injection hft with _ h2
    exact absurd h2 he
   subst he
   rw [if_pos rfl] at hft
   have h1 := ih _ (hin i hp) (hPc _ (hin i hp)) y k hke
   have h2 := iht _ _ _ hft
   rw [writeL,List.length_append,szVs]
   simp only [RT.l]
   omega
 by_cases k3 : h.k = 3
 ·by_cases hlen : l.length = P.length
  rotate_left
  ·rw [if_pos ⟨k3,hlen⟩] at hfit
   simp at hfit
  rw [if_neg (fun hh => hh.2 hlen)] at hfit
  rw [writeR_mk,if_neg k0,if_neg k1,if_neg (by omega),if_neg (by omega)]
  by_cases hp : 0 < P.length
  ·have := key hp l 0 0 n hfit
   omega
  ·obtain rfl : l = [] := List.eq_nil_of_length_eq_zero (by omega)
   rw [writeL]
   simp
 rw [if_neg (fun hh => k3 hh.1)] at hfit
 have k2 : h.k = 2 := by omega
 obtain ⟨g,rfl,_⟩ := list_item hck k2
 obtain ⟨hs1,hs2,_⟩ := hown.k12 (.inr k2)
 have := key (by simp) l 0 0 n hfit
 rw [writeR_mk,if_neg k0,if_neg k1,if_neg (by omega),if_pos k2,List.length_append,beB_length]
 omega
/-- What is written is read whole, as it was. -/
theorem back_all {f : Fm} {x : Vt} {n : Int} (hz : szF f ≤ 100000) (hw : wfV x = true) (hcnt : cntV 2000 x ≤ 2000) (h : sizeR f x = (n,0)) :
  readAll false f (writeR f x) = (x,n,0) ∧ ((writeR f x).length : Int) = n ∧ (writeR f x).length ≤ 40000000000 ∧ chk8 f = 0 ∧ fitR f x = (n,0) := by
 have hc : chk8 f = 0 := by
  by_cases hc : chk8 f = 0
  ·exact hc
  ·have e : sizeR f x = (0,chk8 f) := by unfold sizeR;exact if_neg hc
   rw [e] at h
   injection h
 obtain ⟨hd,hck⟩ := chk8_ok hc
 have hf : fitR f x = (n,0) := by
  rw [sizeR_eq hd hck] at h
  obtain ⟨⟨k,e⟩,hke⟩ : ∃ r,fitR f x = r := ⟨_,rfl⟩
  rw [hke] at h ⊢
  simp only at h
  by_cases he : e = 0
  ·subst he
   rw [if_pos rfl] at h
   injection h with h1 _
   rw [h1]
  ·rw [if_neg he] at h
   injection h with _ h2
   exact absurd h2 he
 have hs := cntV_sz x 2000 hcnt
 have hlen := wr_len f hck x n hf
 obtain ⟨w1,_,q,w3⟩ := write_got f hz hck x n hw hf (by omega)
 refine ⟨?_,w1,by omega,hc,hf⟩
 unfold readAll
 rw [if_neg (by simp [hc]),w3]
 show (if false = false ∧ 0 < ([] : List UInt8).length then ((.mk ⟨0,[]⟩ [],(((writeR f x).length - ([] : List UInt8).length : Nat) : Int),6) : Vt × Int × Int) else (x,(((writeR f x).length - ([] : List UInt8).length : Nat) : Int),0)) = _
 rw [if_neg (by simp),← w1]
 simp
end Go.Proofs.YtdhnfccgojgehaaDoor

namespace Go.Proofs.YtdhnfccgojgehaaDoor
open Go.RowKit

mutual
/-- How many bytes a value holds. -/
def btV : Vt → Nat
 | .mk a l => a.b.length + btVs l
def btVs : List Vt → Nat
 | [] => 0
 | x :: t => btV x + btVs t
end
theorem bytVs_ge {m : Nat} : ∀ (t : List Vt) (n : Nat),n ≤ bytVs m n t := by
 intro t
 induction t with
 | nil => intro n;rw [bytVs];omega
 | cons f t ih =>
  intro n
  rw [bytVs]
  split
  ·have := ih (n + bytV (m - n) f)
   omega
  ·omega
theorem bytV_sz (x : Vt) : ∀ m,bytV m x ≤ m → bytV m x = btV x := by
 induction x using RT.induct with
 | h a l ih =>
 intro m hm
 have key : ∀ (t : List Vt),(∀ f ∈ t,∀ m,bytV m f ≤ m → bytV m f = btV f) → ∀ n,bytVs m n t ≤ m → bytVs m n t = n + btVs t := by
  intro t
  induction t with
  | nil => intro _ n _;rw [bytVs,btVs];rfl
  | cons f t ih2 =>
   intro hf n hn
   rw [bytVs] at hn ⊢
   split at hn
   ·rename_i hnm
    have h2 := bytVs_ge (m := m) t (n + bytV (m - n) f)
    have h3 := hf f (by simp) (m - n) (by omega)
    have h4 := ih2 (fun g hg => hf g (by simp [hg])) _ hn
    rw [if_pos hnm,h4,h3,btVs]
    omega
   ·omega
 rw [bytV] at hm ⊢
 rw [key l ih _ hm,btV]
/-- What is written: its bytes, and eight for each value. -/
theorem wr_len2 (f : Fm) : checkR f = 0 → ∀ x n,fitR f x = (n,0) → (writeR f x).length ≤ btV x + 8 * szV x := by
 induction f using RT.induct with
 | h h P ih =>
 intro hck x n hfit
 obtain ⟨hown,hone,h32,hch⟩ := check_ok hck
 obtain ⟨⟨a,b⟩,l⟩ := x
 rw [fitR_mk] at hfit
 rw [szV,btV]
 by_cases hal : aloneB h.k a b.length l.length = false
 ·rw [if_pos hal] at hfit
  simp at hfit
 rw [if_neg hal] at hfit
 simp only at hfit
 by_cases k0 : h.k = 0
 ·have hs := hown.k0 k0
  rw [writeR_mk,if_pos k0,beB_length]
  omega
 rw [if_neg k0] at hfit
 by_cases k1 : h.k = 1
 ·rw [if_pos k1] at hfit
  obtain ⟨hs1,hs2,hl1,hl2,hl3,_⟩ := hown.k12 (.inl k1)
  injection hfit with _ hm
  obtain ⟨m1,m2,m3⟩ := mayR_ok hm
  rw [writeR_mk,if_neg k0,if_pos k1,List.length_append,beB_length]
  simp only
  omega
 rw [if_neg k1] at hfit
 by_cases k4 : h.k = 4
 ·rw [if_pos k4] at hfit
  have hl := hown.k4 k4
  injection hfit with _ hm
  obtain ⟨m1,m2,m3⟩ := mayR_ok hm
  rw [writeR_mk,if_neg k0,if_neg k1,if_pos (.inl k4)]
  simp only
  omega
 rw [if_neg k4] at hfit
 by_cases k5 : h.k = 5
 ·rw [if_pos k5] at hfit
  have hl := hown.k5 k5
  injection hfit with _ hm
  obtain ⟨m1,m2,m3⟩ := mayR_ok hm
  rw [writeR_mk,if_neg k0,if_neg k1,if_pos (.inr k5)]
  simp only
  omega
 rw [if_neg k5] at hfit
 have hk := hown.k
 have hk23 : h.k = 2 ∨ h.k = 3 := by omega
 have hPc : ∀ y ∈ P,checkR y = 0 := (hch hk23).1
 have hin : ∀ i,0 < P.length → P.getD (i % P.length) nilF ∈ P := by
  intro i hp
  have : i % P.length < P.length := Nat.mod_lt _ hp
  simp [this]
 have key : 0 < P.length → ∀ (ys : List Vt) (i : Nat) (c0 n : Int),fitL (.mk h P) c0 i ys = (n,0) → (writeL (.mk h P) i ys).length ≤ btVs ys + 8 * szVs ys := by
  intro hp ys
  induction ys with
  | nil => intro i c0 n _;rw [writeL];exact Nat.zero_le _
  | cons y t iht =>
   intro i c0 n hft
   rw [fitL] at hft
   obtain ⟨⟨k,e⟩,hke⟩ : ∃ r,fitR ((RT.mk h P).l.getD (i % (RT.mk h P).l.length) nilF) y = r := ⟨_,rfl⟩
   rw [hke] at hft
   simp only at hft
   by_cases he : e = 0
   rotate_left
   ·rw [if_neg he] at hft
    injection hft with _ h2
    exact absurd h2 he
   subst he
   rw [if_pos rfl] at hft
   have h1 := ih _ (hin i hp) (hPc _ (hin i hp)) y k hke
   have h2 := iht _ _ _ hft
   rw [writeL,List.length_append,szVs,btVs]
   simp only [RT.l]
   omega
 by_cases k3 : h.k = 3
 ·by_cases hlen : l.length = P.length
  rotate_left
  ·rw [if_pos ⟨k3,hlen⟩] at hfit
   simp at hfit
  rw [if_neg (fun hh => hh.2 hlen)] at hfit
  rw [writeR_mk,if_neg k0,if_neg k1,if_neg (by omega),if_neg (by omega)]
  by_cases hp : 0 < P.length
  ·have := key hp l 0 0 n hfit
   omega
  ·obtain rfl : l = [] := List.eq_nil_of_length_eq_zero (by omega)
   rw [writeL]
   simp
 rw [if_neg (fun hh => k3 hh.1)] at hfit
 have k2 : h.k = 2 := by omega
 obtain ⟨g,rfl,_⟩ := list_item hck k2
 obtain ⟨hs1,hs2,_⟩ := hown.k12 (.inr k2)
 have := key (by simp) l 0 0 n hfit
 rw [writeR_mk,if_neg k0,if_neg k1,if_neg (by omega),if_pos k2,List.length_append,beB_length]
 omega
end Go.Proofs.YtdhnfccgojgehaaDoor

namespace Go.Proofs.YtdhnfccgojgehaaDoor
open Go.RowKit YtdhnfccgojgehaaDoorW.PrintWords

theorem greatL_any (ok ok2 : Nat → Prop) (f : Fm) (l : List Vt) (v u : Value) (w : World) (hv : FmR w ok v f) (hu : VsR w ok2 u l) (hw : ∀ x ∈ l,wfV x = true) : Calls Tryd.prog 25 #[v,u] w fun e w' => e = .returned (.int .i64 (if decide (500 < cntR 500 f) || l.any bigV then 1 else 0)) ∧ Kp (fun _ => False) w w' := by
 obtain ⟨A2,c2,rfl,hlc,hl,ht⟩ := id hu
 obtain ⟨K,hK⟩ := (Great_ev f l hv.wf hl hw).rounds
 obtain ⟨⟨k,s,lo,hi,st⟩,P⟩ := f
 obtain ⟨A,c,rfl,_,_,_,_,_,_,_,h1⟩ := hv.parts
 obtain ⟨_,g1,g2⟩ := h1.c
 obtain ⟨_,g5,g6⟩ := hu.c
 have := QP.passepartoutlaw05_Great.calls K k s lo hi st A c (P.map ofF) A2 c2 (l.map ofV) _ w g2 g1 g6 g5 hK
 simp only [List.length_map] at this
 exact this.mono fun e w' h => ⟨h.1,Kp.of_below h.2⟩
theorem VtR.one_ {W : World} {ok : Nat → Prop} {a : Int} {b : List UInt8} {l : List Vt} {A1 A2 : Option Addr} {c1 c2 g : Nat} (h : VtR W ok (.agg #[.int .u64 a,.slice A1 b.length c1,.slice A2 l.length c2]) (.mk ⟨a,b⟩ l)) (hb : Blk W g 31 #[.int .u64 a,.slice A1 b.length c1,.slice A2 l.length c2]) (ho : ok g) :
  VsR W ok (.slice (some ⟨g,0,none⟩) 1 1) [.mk ⟨a,b⟩ l] := by
 obtain ⟨bv,sv,e,ht⟩ := h.tr
 simp only [RT.a,Value.agg.injEq,Array.mk.injEq,List.cons.injEq,and_true,true_and] at e
 obtain ⟨rfl,rfl⟩ := e
 exact ⟨_,_,rfl,Nat.le_refl _,by simp,tl_one hb ho _ _ ht rfl⟩
/-- What is not too great has few bytes. -/
theorem wr_small {f : Fm} {x : Vt} {n : Int} (hs : sizeR f x = (n,0)) (hb : bigV x = false) : (writeR f x).length ≤ 36000 ∧ cntV 2000 x ≤ 2000 := by
 obtain ⟨hd,hck,hft,hfn⟩ := sizeR_ok (f := f) (x := x) (by rw [hs])
 unfold bigV at hb
 rw [Bool.or_eq_false_iff,decide_eq_false_iff_not,decide_eq_false_iff_not] at hb
 have h1 := cntV_sz x 2000 (by omega)
 have h2 := bytV_sz x 20000 (by omega)
 have h3 := wr_len2 f hck x (fitR f x).1 (Prod.ext rfl hft)
 omega

end Go.Proofs.YtdhnfccgojgehaaDoor

namespace Go.Proofs.YtdhnfccgojgehaaDoor.QP
open Go.RowKit Go.Proofs.YtdhnfccgojgehaaDoorW.PrintWords Go.Proofs.YtdhnfccgojgehaaDoorW.PrintLast Go.Proofs.YtdhnfccgojgehaaDoorW.PrintMore
attribute [local go_sem] max2_int min2_int max_two min_two max_three min_three max_four min_four   -- for this text's walks alone
set_option linter.unusedVariables false
set_option linter.unusedSimpArgs false

/-! ### passepartoutref05_power: function 44 -/
def passepartoutref05_power.l0 : Nat → Int → Int → Int → Option (Int)
 | 0,_,_,_ => none
 | k + 1,x0,x3,x4 => if x4 < x0 then (passepartoutref05_power.l0 k x0 (IntKind.u64.wrap (x3 * 256)) (wrap64 (x4 + 1))) else (some x3)
def passepartoutref05_power.f (k : Nat) (a0 : Int) : Option (Int) := passepartoutref05_power.l0 k a0 1 0
theorem passepartoutref05_power.mono_l : ∀ k,(∀ y0 y1 y2,LeO (passepartoutref05_power.l0 k y0 y1 y2) (passepartoutref05_power.l0 (k + 1) y0 y1 y2))
 | 0 => fun _ _ _ r h => by simp [passepartoutref05_power.l0] at h
 | k + 1 => by
  have ih0 := passepartoutref05_power.mono_l k
  ·intro y0 y1 y2
   unfold passepartoutref05_power.l0
   repeat' first
   | (with_reducible exact ih0 _ _ _)
   | (with_reducible exact LeO.refl _)
   | (with_reducible exact LeO.none _)
   | (with_reducible refine LeO.ite ?_ ?_)
   | (with_reducible refine LeO.bind ?_ (fun _ => ?_))
   | exact ih0 _ _ _
   | exact LeO.none _
   | refine LeO.ite ?_ ?_
   | refine LeO.bind ?_ (fun _ => ?_)
theorem passepartoutref05_power.mono : ∀ a0 k,LeO (passepartoutref05_power.f k a0) (passepartoutref05_power.f (k + 1) a0) := by
 intro a0 k
 have ih0 := passepartoutref05_power.mono_l k
 unfold passepartoutref05_power.f
 repeat' first
   | (with_reducible exact ih0 _ _ _)
   | (with_reducible exact LeO.refl _)
   | (with_reducible exact LeO.none _)
   | (with_reducible refine LeO.ite ?_ ?_)
   | (with_reducible refine LeO.bind ?_ (fun _ => ?_))
   | exact ih0 _ _ _
   | exact LeO.none _
   | refine LeO.ite ?_ ?_
   | refine LeO.bind ?_ (fun _ => ?_)
set_option maxHeartbeats 8000000 in
set_option maxRecDepth 100000 in
theorem passepartoutref05_power.calls (k : Nat) (a0 : Int) (r : Int) (w : World) (h : passepartoutref05_power.f k a0 = some r) :
  Calls Tryd.prog 44 #[.int .i64 a0] w fun e w' => e = .returned (.int .u64 r) ∧ Drawn0 w w' := by
 have H : (passepartoutref05_power.l0 k a0 1 0) = some r := h
 clear h
 have H' := Aside0.mk H
 clear H
 go_enter Tryd.func44,Tryd.ntmps44
 go_wp2
 go_loopg [3,4] k (fun kq v3 v4 w' => ∃ (x3_1 : Int) (x4_1 : Int),v3 = .int .u64 x3_1 ∧ v4 = .int .i64 x4_1 ∧ Aside0 (passepartoutref05_power.l0 kq a0 x3_1 x4_1 = some r) ∧ Aside0 (kq ≤ k) ∧ Drawn0 w w')
 case atStart => exact ⟨(1),(0),(by first | rfl | (simp;done) | (simp [*];done)),(by first | rfl | (simp;done) | (simp [*];done)),H',⟨Nat.le_refl _⟩,by repeat (first | exact Drawn0.refl _ | apply Drawn0.step)⟩
 case round =>
  clear H'
  obtain ⟨x3_1,x4_1,rfl,rfl,HA,HK1,⟨m1,rfl⟩⟩ := hrel
  cases gk with
  | zero => exact absurd HA.out (by simp [passepartoutref05_power.l0])
  | succ k1 =>
   have H := HA.out
   clear HA
   simp only [passepartoutref05_power.l0] at H
   by_cases c2 : x4_1 < a0
   ·rw [if_pos c2] at H
    have c2b0 : decide (x4_1 < a0) = true := decide_eq_true c2
    clear c2
    have H' := Aside0.mk H
    clear H
    go_wp2
    go_roundg k1
    case measure => have := HK1.out;omega
    case rel => exact ⟨(IntKind.u64.wrap (x3_1 * 256)),(wrap64 (x4_1 + 1)),(by first | rfl | (simp;done) | (simp [*];done)),(by first | rfl | (simp;done) | (simp [*];done)),H',⟨by have := HK1.out;omega⟩,by repeat (first | exact Drawn0.refl _ | apply Drawn0.step)⟩
   ·rw [if_neg c2] at H
    have c2b0 : decide (x4_1 < a0) = false := decide_eq_false c2
    clear c2
    obtain rfl := Option.some.inj H
    go_wp2
    go_ret
    exact ⟨by first | rfl | (simp;done) | (simp [*];done),by repeat (first | exact Drawn0.refl _ | apply Drawn0.step)⟩

end Go.Proofs.YtdhnfccgojgehaaDoor.QP

namespace Go.Proofs.YtdhnfccgojgehaaDoor.QP
open Go.RowKit Go.Proofs.YtdhnfccgojgehaaDoorW.PrintWords Go.Proofs.YtdhnfccgojgehaaDoorW.PrintLast Go.Proofs.YtdhnfccgojgehaaDoorW.PrintMore
attribute [local go_sem] max2_int min2_int max_two min_two max_three min_three max_four min_four   -- for this text's walks alone
set_option linter.unusedVariables false
set_option linter.unusedSimpArgs false

/-! ### passepartoutref05_between: function 45 -/
def passepartoutref05_between.f (a0 : Int) (a1 : Int) (a2 : Int) (a3 : Int) : Option (Bool) := if a0 ≥ a1 then (if a0 ≤ a2 then (if a3 = 0 then (none) else (some ((Int.tmod a0 a3) == 0))) else (some false)) else (some false)
set_option maxHeartbeats 8000000 in
set_option maxRecDepth 100000 in
theorem passepartoutref05_between.calls (a0 : Int) (a1 : Int) (a2 : Int) (a3 : Int) (r : Bool) (w : World) (h : passepartoutref05_between.f a0 a1 a2 a3 = some r) :
  Calls Tryd.prog 45 #[.int .i64 a0,.int .i64 a1,.int .i64 a2,.int .i64 a3] w fun e w' => e = .returned (.bool r) ∧ Drawn0 w w' := by
 have H : (if a0 ≥ a1 then (if a0 ≤ a2 then (if a3 = 0 then (none) else (some ((Int.tmod a0 a3) == 0))) else (some false)) else (some false)) = some r := h
 clear h
 by_cases c5 : a0 ≥ a1
 ·rw [if_pos c5] at H
  have c5b0 : decide (a1 ≤ a0) = true := decide_eq_true c5
  clear c5
  by_cases c6 : a0 ≤ a2
  ·rw [if_pos c6] at H
   have c6b0 : decide (a0 ≤ a2) = true := decide_eq_true c6
   clear c6
   by_cases c7 : a3 = 0
   ·rw [if_pos c7] at H
    exact absurd H (by simp)
   ·rw [if_neg c7] at H
    have c7b0 : (a3 == 0) = false := beq_eq_false_iff_ne.mpr c7
    have c7b1 : (a3 != 0) = true := bne_iff_ne.mpr c7
    obtain rfl := Option.some.inj H
    go_enter Tryd.func45,Tryd.ntmps45
    go_wp2
    go_ret
    exact ⟨by first | rfl | (simp;done) | (simp [*];done),by repeat (first | exact Drawn0.refl _ | apply Drawn0.step)⟩
  ·rw [if_neg c6] at H
   have c6b0 : decide (a0 ≤ a2) = false := decide_eq_false c6
   clear c6
   obtain rfl := Option.some.inj H
   go_enter Tryd.func45,Tryd.ntmps45
   go_wp2
   go_ret
   exact ⟨by first | rfl | (simp;done) | (simp [*];done),by repeat (first | exact Drawn0.refl _ | apply Drawn0.step)⟩
 ·rw [if_neg c5] at H
  have c5b0 : decide (a1 ≤ a0) = false := decide_eq_false c5
  clear c5
  obtain rfl := Option.some.inj H
  go_enter Tryd.func45,Tryd.ntmps45
  go_wp2
  go_ret
  exact ⟨by first | rfl | (simp;done) | (simp [*];done),by repeat (first | exact Drawn0.refl _ | apply Drawn0.step)⟩

end Go.Proofs.YtdhnfccgojgehaaDoor.QP

namespace Go.Proofs.YtdhnfccgojgehaaDoor.QP
open Go.RowKit Go.Proofs.YtdhnfccgojgehaaDoorW.PrintWords Go.Proofs.YtdhnfccgojgehaaDoorW.PrintLast Go.Proofs.YtdhnfccgojgehaaDoorW.PrintMore
attribute [local go_sem] max2_int min2_int max_two min_two max_three min_three max_four min_four   -- for this text's walks alone
set_option linter.unusedVariables false
set_option linter.unusedSimpArgs false

/-! ### passepartoutref05_fit: function 28 -/
mutual
def passepartoutref05_fit.j0 : Nat → Bool → Bool → Int → Int → Int → Int → Int → List (S24) → Int → List Int → List (S31) → Option (Int × Int)
 | 0,_,_,_,_,_,_,_,_,_,_,_ => none
 | k + 1,x6,x7,x134000,x134001,x134002,x134003,x134004,x134005,x135000,x135001,x135002 => if x6 = true then (if x7 = true then (passepartoutref05_fit.j1 k ((x135002.length : Int) != 0) x134000 x134001 x134002 x134003 x134004 x134005 x135000 x135001 x135002) else (if (x135001.length : Int) = 0 then (passepartoutref05_fit.j1 k ((x135002.length : Int) != 0) x134000 x134001 x134002 x134003 x134004 x134005 x135000 x135001 x135002) else (passepartoutref05_fit.j1 k true x134000 x134001 x134002 x134003 x134004 x134005 x135000 x135001 x135002))) else (if x135000 = 0 then (if x7 = true then (passepartoutref05_fit.j1 k ((x135002.length : Int) != 0) x134000 x134001 x134002 x134003 x134004 x134005 x135000 x135001 x135002) else (if (x135001.length : Int) = 0 then (passepartoutref05_fit.j1 k false x134000 x134001 x134002 x134003 x134004 x134005 x135000 x135001 x135002) else (passepartoutref05_fit.j1 k true x134000 x134001 x134002 x134003 x134004 x134005 x135000 x135001 x135002))) else (passepartoutref05_fit.j1 k true x134000 x134001 x134002 x134003 x134004 x134005 x135000 x135001 x135002))
def passepartoutref05_fit.j1 : Nat → Bool → Int → Int → Int → Int → Int → List (S24) → Int → List Int → List (S31) → Option (Int × Int)
 | 0,_,_,_,_,_,_,_,_,_,_ => none
 | k + 1,x57,x134000,x134001,x134002,x134003,x134004,x134005,x135000,x135001,x135002 => if x57 = true then (some (0,15)) else (if x134000 = 0 then (if x134001 < 8 then ((passepartoutref05_power.f k x134001).bind fun t135 => (if x135000 ≥ t135 then (some (0,3)) else (some (x134001,0)))) else (some (x134001,0))) else (if x134000 = 1 then ((passepartoutref05_between.f (x135001.length : Int) x134002 x134003 x134004).bind fun t136 => (if t136 = true then (some (wrap64 (x134001 + (x135001.length : Int)),0)) else (some (0,5)))) else (if x134000 = 4 then ((passepartoutref05_between.f (x135001.length : Int) x134002 x134003 1).bind fun t137 => (if t137 = true then (some ((x135001.length : Int),0)) else (some (0,5)))) else (if x134000 = 5 then (if (x135001.length : Int) = x134002 then (some (x134002,0)) else (some (0,5))) else (if x134000 = 3 then (passepartoutref05_fit.j2 k ((x135002.length : Int) != (x134005.length : Int)) x134000 x134001 x134002 x134003 x134004 x134005 x135000 x135001 x135002) else (passepartoutref05_fit.j2 k false x134000 x134001 x134002 x134003 x134004 x134005 x135000 x135001 x135002))))))
def passepartoutref05_fit.j2 : Nat → Bool → Int → Int → Int → Int → Int → List (S24) → Int → List Int → List (S31) → Option (Int × Int)
 | 0,_,_,_,_,_,_,_,_,_,_ => none
 | k + 1,x129,x134000,x134001,x134002,x134003,x134004,x134005,x135000,x135001,x135002 => if x129 = true then (some (0,15)) else (passepartoutref05_fit.l0 k 0 0 x134000 x134001 x134002 x134003 x134004 x134005 x135000 x135001 x135002)
def passepartoutref05_fit.l0 : Nat → Int → Int → Int → Int → Int → Int → Int → List (S24) → Int → List Int → List (S31) → Option (Int × Int)
 | 0,_,_,_,_,_,_,_,_,_,_,_ => none
 | k + 1,x8,x9,x134000,x134001,x134002,x134003,x134004,x134005,x135000,x135001,x135002 => if x9 < (x135002.length : Int) then (if x134000 = 3 then (if 0 ≤ x9 then (if x9 < (x134005.length : Int) then ((passepartoutref05_fit.f k ((rd_T24 x134005 x9).f0) ((rd_T24 x134005 x9).f1) ((rd_T24 x134005 x9).f2) ((rd_T24 x134005 x9).f3) ((rd_T24 x134005 x9).f4) ((rd_T24 x134005 x9).f5) ((rd_T31 x135002 x9).f0) ((rd_T31 x135002 x9).f1) ((rd_T31 x135002 x9).f2)).bind fun bt140 => (if bt140.2 = 0 then (passepartoutref05_fit.l0 k (wrap64 (x8 + bt140.1)) (wrap64 (x9 + 1)) x134000 x134001 x134002 x134003 x134004 x134005 x135000 x135001 x135002) else (some (0,bt140.2)))) else (none)) else (none)) else (if 0 < (x134005.length : Int) then (if 0 ≤ x9 then ((passepartoutref05_fit.f k ((rd_T24 x134005 0).f0) ((rd_T24 x134005 0).f1) ((rd_T24 x134005 0).f2) ((rd_T24 x134005 0).f3) ((rd_T24 x134005 0).f4) ((rd_T24 x134005 0).f5) ((rd_T31 x135002 x9).f0) ((rd_T31 x135002 x9).f1) ((rd_T31 x135002 x9).f2)).bind fun bt144 => (if bt144.2 = 0 then (passepartoutref05_fit.l0 k (wrap64 (x8 + bt144.1)) (wrap64 (x9 + 1)) x134000 x134001 x134002 x134003 x134004 x134005 x135000 x135001 x135002) else (some (0,bt144.2)))) else (none)) else (none))) else (if x134000 = 3 then (some (x8,0)) else ((passepartoutref05_between.f x8 x134002 x134003 x134004).bind fun t146 => (if t146 = true then (some (wrap64 (x134001 + x8),0)) else (some (0,5)))))
def passepartoutref05_fit.f : Nat → Int → Int → Int → Int → Int → List (S24) → Int → List Int → List (S31) → Option (Int × Int)
 | 0,_,_,_,_,_,_,_,_,_ => none
 | k + 1,a0_0,a0_1,a0_2,a0_3,a0_4,l0_5,a1_0,l1_1,l1_2 => if a0_0 = 1 then (passepartoutref05_fit.j0 k (a0_0 == 0) true a0_0 a0_1 a0_2 a0_3 a0_4 l0_5 a1_0 l1_1 l1_2) else (if a0_0 = 4 then (passepartoutref05_fit.j0 k (a0_0 == 0) true a0_0 a0_1 a0_2 a0_3 a0_4 l0_5 a1_0 l1_1 l1_2) else (passepartoutref05_fit.j0 k (a0_0 == 0) (a0_0 == 5) a0_0 a0_1 a0_2 a0_3 a0_4 l0_5 a1_0 l1_1 l1_2))
end
theorem passepartoutref05_fit.mono_l : ∀ k,(∀ y0 y1 y2 y3 y4 y5 y6 y7 y8,LeO (passepartoutref05_fit.f k y0 y1 y2 y3 y4 y5 y6 y7 y8) (passepartoutref05_fit.f (k + 1) y0 y1 y2 y3 y4 y5 y6 y7 y8)) ∧ (∀ y0 y1 y2 y3 y4 y5 y6 y7 y8 y9 y10,LeO (passepartoutref05_fit.j0 k y0 y1 y2 y3 y4 y5 y6 y7 y8 y9 y10) (passepartoutref05_fit.j0 (k + 1) y0 y1 y2 y3 y4 y5 y6 y7 y8 y9 y10)) ∧ (∀ y0 y1 y2 y3 y4 y5 y6 y7 y8 y9,LeO (passepartoutref05_fit.j1 k y0 y1 y2 y3 y4 y5 y6 y7 y8 y9) (passepartoutref05_fit.j1 (k + 1) y0 y1 y2 y3 y4 y5 y6 y7 y8 y9)) ∧ (∀ y0 y1 y2 y3 y4 y5 y6 y7 y8 y9,LeO (passepartoutref05_fit.j2 k y0 y1 y2 y3 y4 y5 y6 y7 y8 y9) (passepartoutref05_fit.j2 (k + 1) y0 y1 y2 y3 y4 y5 y6 y7 y8 y9)) ∧ (∀ y0 y1 y2 y3 y4 y5 y6 y7 y8 y9 y10,LeO (passepartoutref05_fit.l0 k y0 y1 y2 y3 y4 y5 y6 y7 y8 y9 y10) (passepartoutref05_fit.l0 (k + 1) y0 y1 y2 y3 y4 y5 y6 y7 y8 y9 y10))
 | 0 => ⟨fun _ _ _ _ _ _ _ _ _ r h => by simp [passepartoutref05_fit.f] at h,fun _ _ _ _ _ _ _ _ _ _ _ r h => by simp [passepartoutref05_fit.j0] at h,fun _ _ _ _ _ _ _ _ _ _ r h => by simp [passepartoutref05_fit.j1] at h,fun _ _ _ _ _ _ _ _ _ _ r h => by simp [passepartoutref05_fit.j2] at h,fun _ _ _ _ _ _ _ _ _ _ _ r h => by simp [passepartoutref05_fit.l0] at h⟩
 | k + 1 => by
  obtain ⟨ih0,ih1,ih2,ih3,ih4⟩ := passepartoutref05_fit.mono_l k
  refine ⟨?_,?_,?_,?_,?_⟩
  ·intro y0 y1 y2 y3 y4 y5 y6 y7 y8
   unfold passepartoutref05_fit.f
   repeat' first
   | (with_reducible exact ih0 _ _ _ _ _ _ _ _ _)
   | (with_reducible exact ih1 _ _ _ _ _ _ _ _ _ _ _)
   | (with_reducible exact ih2 _ _ _ _ _ _ _ _ _ _)
   | (with_reducible exact ih3 _ _ _ _ _ _ _ _ _ _)
   | (with_reducible exact ih4 _ _ _ _ _ _ _ _ _ _ _)
   | (with_reducible exact passepartoutref05_power.mono _ _)
   | (with_reducible exact LeO.refl _)
   | (with_reducible exact LeO.none _)
   | (with_reducible refine LeO.ite ?_ ?_)
   | (with_reducible refine LeO.bind ?_ (fun _ => ?_))
   | exact ih0 _ _ _ _ _ _ _ _ _
   | exact ih1 _ _ _ _ _ _ _ _ _ _ _
   | exact ih2 _ _ _ _ _ _ _ _ _ _
   | exact ih3 _ _ _ _ _ _ _ _ _ _
   | exact ih4 _ _ _ _ _ _ _ _ _ _ _
   | exact passepartoutref05_power.mono _ _
   | exact LeO.none _
   | refine LeO.ite ?_ ?_
   | refine LeO.bind ?_ (fun _ => ?_)
  ·intro y0 y1 y2 y3 y4 y5 y6 y7 y8 y9 y10
   unfold passepartoutref05_fit.j0
   repeat' first
   | (with_reducible exact ih0 _ _ _ _ _ _ _ _ _)
   | (with_reducible exact ih1 _ _ _ _ _ _ _ _ _ _ _)
   | (with_reducible exact ih2 _ _ _ _ _ _ _ _ _ _)
   | (with_reducible exact ih3 _ _ _ _ _ _ _ _ _ _)
   | (with_reducible exact ih4 _ _ _ _ _ _ _ _ _ _ _)
   | (with_reducible exact passepartoutref05_power.mono _ _)
   | (with_reducible exact LeO.refl _)
   | (with_reducible exact LeO.none _)
   | (with_reducible refine LeO.ite ?_ ?_)
   | (with_reducible refine LeO.bind ?_ (fun _ => ?_))
   | exact ih0 _ _ _ _ _ _ _ _ _
   | exact ih1 _ _ _ _ _ _ _ _ _ _ _
   | exact ih2 _ _ _ _ _ _ _ _ _ _
   | exact ih3 _ _ _ _ _ _ _ _ _ _
   | exact ih4 _ _ _ _ _ _ _ _ _ _ _
   | exact passepartoutref05_power.mono _ _
   | exact LeO.none _
   | refine LeO.ite ?_ ?_
   | refine LeO.bind ?_ (fun _ => ?_)
  ·intro y0 y1 y2 y3 y4 y5 y6 y7 y8 y9
   unfold passepartoutref05_fit.j1
   repeat' first
   | (with_reducible exact ih0 _ _ _ _ _ _ _ _ _)
   | (with_reducible exact ih1 _ _ _ _ _ _ _ _ _ _ _)
   | (with_reducible exact ih2 _ _ _ _ _ _ _ _ _ _)
   | (with_reducible exact ih3 _ _ _ _ _ _ _ _ _ _)
   | (with_reducible exact ih4 _ _ _ _ _ _ _ _ _ _ _)
   | (with_reducible exact passepartoutref05_power.mono _ _)
   | (with_reducible exact LeO.refl _)
   | (with_reducible exact LeO.none _)
   | (with_reducible refine LeO.ite ?_ ?_)
   | (with_reducible refine LeO.bind ?_ (fun _ => ?_))
   | exact ih0 _ _ _ _ _ _ _ _ _
   | exact ih1 _ _ _ _ _ _ _ _ _ _ _
   | exact ih2 _ _ _ _ _ _ _ _ _ _
   | exact ih3 _ _ _ _ _ _ _ _ _ _
   | exact ih4 _ _ _ _ _ _ _ _ _ _ _
   | exact passepartoutref05_power.mono _ _
   | exact LeO.none _
   | refine LeO.ite ?_ ?_
   | refine LeO.bind ?_ (fun _ => ?_)
  ·intro y0 y1 y2 y3 y4 y5 y6 y7 y8 y9
   unfold passepartoutref05_fit.j2
   repeat' first
   | (with_reducible exact ih0 _ _ _ _ _ _ _ _ _)
   | (with_reducible exact ih1 _ _ _ _ _ _ _ _ _ _ _)
   | (with_reducible exact ih2 _ _ _ _ _ _ _ _ _ _)
   | (with_reducible exact ih3 _ _ _ _ _ _ _ _ _ _)
   | (with_reducible exact ih4 _ _ _ _ _ _ _ _ _ _ _)
   | (with_reducible exact passepartoutref05_power.mono _ _)
   | (with_reducible exact LeO.refl _)
   | (with_reducible exact LeO.none _)
   | (with_reducible refine LeO.ite ?_ ?_)
   | (with_reducible refine LeO.bind ?_ (fun _ => ?_))
   | exact ih0 _ _ _ _ _ _ _ _ _
   | exact ih1 _ _ _ _ _ _ _ _ _ _ _
   | exact ih2 _ _ _ _ _ _ _ _ _ _
   | exact ih3 _ _ _ _ _ _ _ _ _ _
   | exact ih4 _ _ _ _ _ _ _ _ _ _ _
   | exact passepartoutref05_power.mono _ _
   | exact LeO.none _
   | refine LeO.ite ?_ ?_
   | refine LeO.bind ?_ (fun _ => ?_)
  ·intro y0 y1 y2 y3 y4 y5 y6 y7 y8 y9 y10
   unfold passepartoutref05_fit.l0
   repeat' first
   | (with_reducible exact ih0 _ _ _ _ _ _ _ _ _)
   | (with_reducible exact ih1 _ _ _ _ _ _ _ _ _ _ _)
   | (with_reducible exact ih2 _ _ _ _ _ _ _ _ _ _)
   | (with_reducible exact ih3 _ _ _ _ _ _ _ _ _ _)
   | (with_reducible exact ih4 _ _ _ _ _ _ _ _ _ _ _)
   | (with_reducible exact passepartoutref05_power.mono _ _)
   | (with_reducible exact LeO.refl _)
   | (with_reducible exact LeO.none _)
   | (with_reducible refine LeO.ite ?_ ?_)
   | (with_reducible refine LeO.bind ?_ (fun _ => ?_))
   | exact ih0 _ _ _ _ _ _ _ _ _
   | exact ih1 _ _ _ _ _ _ _ _ _ _ _
   | exact ih2 _ _ _ _ _ _ _ _ _ _
   | exact ih3 _ _ _ _ _ _ _ _ _ _
   | exact ih4 _ _ _ _ _ _ _ _ _ _ _
   | exact passepartoutref05_power.mono _ _
   | exact LeO.none _
   | refine LeO.ite ?_ ?_
   | refine LeO.bind ?_ (fun _ => ?_)
theorem passepartoutref05_fit.mono : ∀ a0 a1 a2 a3 a4 a5 a6 a7 a8 k,LeO (passepartoutref05_fit.f k a0 a1 a2 a3 a4 a5 a6 a7 a8) (passepartoutref05_fit.f (k + 1) a0 a1 a2 a3 a4 a5 a6 a7 a8) := by
 intro a0 a1 a2 a3 a4 a5 a6 a7 a8 k
 obtain ⟨ih0,ih1,ih2,ih3,ih4⟩ := passepartoutref05_fit.mono_l k
 exact ih0 a0 a1 a2 a3 a4 a5 a6 a7 a8
def passepartoutref05_fit.T7 : Bool × List (List Nat × List Nat) := (true,[([],[]),([0],[0]),([1],[1]),([2],[2]),([3],[3]),([4,3],[3,4]),([3],[3]),([6,3],[3,6]),([7,3,3],[3,7]),([5,8,3],[3,5,8]),([3,9],[3,9])])
def passepartoutref05_fit.B7 : List Nat := [0,1,3,7,15,31,15,79,207,511,1023]
theorem passepartoutref05_fit.tab7 : rtab .any (opsOf Tryd.f28 7) = passepartoutref05_fit.T7 := by kernel_rfl
theorem passepartoutref05_fit.bits7 : waitsOk passepartoutref05_fit.T7.2 passepartoutref05_fit.B7 = true := by kernel_rfl
def passepartoutref05_fit.T31 : Bool × List (List Nat × List Nat) := (true,[([],[]),([0],[0]),([],[]),([1,2],[1,2]),([3],[3]),([],[]),([5],[5]),([],[]),([6,7],[6,7]),([8],[8]),([4,9],[4,9]),([10],[10]),([11],[11]),([11],[11]),([12,10,0,1,2,3,4,5,6,7,8,9,10,11,12],[12]),([13,14,0,1,2,3,4,5,6,7,8,9,10,11,12,13,14],[13])])
def passepartoutref05_fit.B31 : List Nat := [0,1,0,7,15,0,32,0,224,480,1023,2047,4095,4095,8191,32767]
theorem passepartoutref05_fit.tab31 : rtab .any (opsOf Tryd.f28 31) = passepartoutref05_fit.T31 := by kernel_rfl
theorem passepartoutref05_fit.bits31 : waitsOk passepartoutref05_fit.T31.2 passepartoutref05_fit.B31 = true := by kernel_rfl
set_option maxHeartbeats 8000000 in
set_option maxRecDepth 100000 in
theorem passepartoutref05_fit.calls (k : Nat) : ∀ (a0_0 : Int) (a0_1 : Int) (a0_2 : Int) (a0_3 : Int) (a0_4 : Int) (A0_5 : Option Addr) (c0_5 : Nat) (l0_5 : List (S24)) (a1_0 : Int) (A1_1 : Option Addr) (c1_1 : Nat) (l1_1 : List Int) (A1_2 : Option Addr) (c1_2 : Nat) (l1_2 : List (S31)) (r1 : Int) (r2 : Int) (w : World) (hr0_5 : Kd.C k24 w A0_5 l0_5.length l0_5) (hc0_5 : l0_5.length ≤ c0_5) (hr1_1 : Kd.C (Kd.int .u8) w A1_1 l1_1.length l1_1) (hc1_1 : l1_1.length ≤ c1_1) (hr1_2 : Kd.C k31 w A1_2 l1_2.length l1_2) (hc1_2 : l1_2.length ≤ c1_2) (h : passepartoutref05_fit.f k a0_0 a0_1 a0_2 a0_3 a0_4 l0_5 a1_0 l1_1 l1_2 = some (r1,r2)),
  Calls Tryd.prog 28 #[.agg #[.int .i64 a0_0,.int .i64 a0_1,.int .i64 a0_2,.int .i64 a0_3,.int .i64 a0_4,.slice A0_5 l0_5.length c0_5],.agg #[.int .u64 a1_0,.slice A1_1 l1_1.length c1_1,.slice A1_2 l1_2.length c1_2]] w fun e w' => e = .returned (.tuple #[.int .i64 r1,.int .i64 r2]) ∧ Below w.heap.size w w' := by
 induction k using Nat.strongRecOn with
 | _ k ih =>
 intro a0_0 a0_1 a0_2 a0_3 a0_4 A0_5 c0_5 l0_5 a1_0 A1_1 c1_1 l1_1 A1_2 c1_2 l1_2 r1 r2 w hr0_5 hc0_5 hr1_1 hc1_1 hr1_2 hc1_2 h
 cases k with
 | zero => exact absurd h (by simp [passepartoutref05_fit.f])
 | succ k =>
 simp only [passepartoutref05_fit.f] at h
 have hu24 := Tryd.underlying24
 have hu31 := Tryd.underlying31
 have HR0_5 := Aside0.mk hr0_5
 have HC0_5 := Aside0.mk hc0_5
 clear hr0_5 hc0_5
 have HR1_1 := Aside0.mk hr1_1
 have HC1_1 := Aside0.mk hc1_1
 clear hr1_1 hc1_1
 have HR1_2 := Aside0.mk hr1_2
 have HC1_2 := Aside0.mk hc1_2
 clear hr1_2 hc1_2
 have HB := Aside0.mk (Below.refl w.heap.size w)
 have H : (if a0_0 = 1 then (passepartoutref05_fit.j0 k (a0_0 == 0) true a0_0 a0_1 a0_2 a0_3 a0_4 l0_5 a1_0 l1_1 l1_2) else (if a0_0 = 4 then (passepartoutref05_fit.j0 k (a0_0 == 0) true a0_0 a0_1 a0_2 a0_3 a0_4 l0_5 a1_0 l1_1 l1_2) else (passepartoutref05_fit.j0 k (a0_0 == 0) (a0_0 == 5) a0_0 a0_1 a0_2 a0_3 a0_4 l0_5 a1_0 l1_1 l1_2))) = some (r1,r2) := h
 clear h
 have HC3 := Aside0.mk H
 clear H
 go_enter Tryd.func28,Tryd.ntmps28
 go_upto_region 2 with (first | ((with_reducible refine gate_dst (N := 2) rfl ?_);(try (refine gate_guard (by rfl) ?_;dsimp only));refine box_event ?hg (N := 2) ?hd (cs := #[.int .i64 a0_0,.int .i64 a0_1,.int .i64 a0_2,.int .i64 a0_3,.int .i64 a0_4,.slice A0_5 l0_5.length c0_5]) (t := 24) ?hr ?_;(case hd => rfl);(case hg => rfl);(case hr => first | (go_simp;done) | (go_simp;rfl));intro gb133 hg w4 hbox hb;have n0_ := Aside0.mk (below_step (by repeat (first | (with_reducible first | exact HB.out | apply below_alloc | apply pw_below_drewN | apply below_drew1) | exact HB.out)) hb);have n1_ := Aside0.mk (hbox);have n2_ := Aside0.mk ((by rw [hg];exact (below_size (by repeat (first | (with_reducible first | exact HB.out | apply below_alloc | apply pw_below_drewN | apply below_drew1) | exact HB.out))) : w.heap.size ≤ gb133));have n3_ := Aside0.mk ((by rw [hg];exact (below_size (by repeat (first | (with_reducible first | exact HB.out | apply below_alloc | apply pw_below_drewN | apply below_drew1) | exact HB.out))) : w.heap.size ≤ gb133));clear HB;have HB := n0_;have BK133 := n1_;have GW133 := n2_;have GE133 := n3_;clear n0_ n1_ n2_ n3_;clear hb hbox hg) | ((with_reducible refine gate_dst (N := 3) rfl ?_);(try (refine gate_guard (by rfl) ?_;dsimp only));refine box_event ?hg (N := 3) ?hd (cs := #[.int .u64 a1_0,.slice A1_1 l1_1.length c1_1,.slice A1_2 l1_2.length c1_2]) (t := 31) ?hr ?_;(case hd => rfl);(case hg => rfl);(case hr => first | (go_simp;done) | (go_simp;rfl));intro gb134 hg w5 hbox hb;have n0_ := Aside0.mk (blk_below (g := gb133) (o := .cells #[.int .i64 a0_0,.int .i64 a0_1,.int .i64 a0_2,.int .i64 a0_3,.int .i64 a0_4,.slice A0_5 l0_5.length c0_5] 24 (0,0)) (by (with_reducible repeat (first | refine blk_drewN ?_ _ | refine blk_drew ?_ | refine blk_alloc ?_ _));exact BK133.out) hb);have n1_ := Aside0.mk (below_step (by repeat (first | (with_reducible first | exact HB.out | apply below_alloc | apply pw_below_drewN | apply below_drew1 | refine below_set ?_ GE133.out) | exact HB.out)) hb);have n2_ := Aside0.mk (hbox);have n3_ := Aside0.mk ((by rw [hg];exact (below_size (by repeat (first | (with_reducible first | exact HB.out | apply below_alloc | apply pw_below_drewN | apply below_drew1 | refine below_set ?_ GE133.out) | exact HB.out))) : w.heap.size ≤ gb134));have n4_ := Aside0.mk ((by rw [hg];exact (below_size (by repeat (first | (with_reducible first | exact HB.out | apply below_alloc | apply pw_below_drewN | apply below_drew1 | refine below_set ?_ GE133.out) | exact HB.out))) : w.heap.size ≤ gb134));have n5_ := Aside0.mk ((by rw [hg];exact Nat.ne_of_lt (blk_lt (g := gb133) (o := .cells #[.int .i64 a0_0,.int .i64 a0_1,.int .i64 a0_2,.int .i64 a0_3,.int .i64 a0_4,.slice A0_5 l0_5.length c0_5] 24 (0,0)) (by (with_reducible repeat (first | refine blk_drewN ?_ _ | refine blk_drew ?_ | refine blk_alloc ?_ _));exact BK133.out)) : gb133 ≠ gb134));have n6_ := Aside0.mk ((by rw [hg];exact Nat.ne_of_gt (blk_lt (g := gb133) (o := .cells #[.int .i64 a0_0,.int .i64 a0_1,.int .i64 a0_2,.int .i64 a0_3,.int .i64 a0_4,.slice A0_5 l0_5.length c0_5] 24 (0,0)) (by (with_reducible repeat (first | refine blk_drewN ?_ _ | refine blk_drew ?_ | refine blk_alloc ?_ _));exact BK133.out)) : gb134 ≠ gb133));clear BK133;clear HB;have BK133 := n0_;have HB := n1_;have BK134 := n2_;have GW134 := n3_;have GE134 := n4_;have NB133_134 := n5_;have NB134_133 := n6_;clear n0_ n1_ n2_ n3_ n4_ n5_ n6_;clear hb hbox hg;have hnb6 := NB133_134.out;have hnc6 := NB134_133.out;have hcz7_0 : w5.cell? ⟨gb133,0,none⟩ = some (.int .i64 a0_0) := (blk_cell BK133.out 0).trans rfl;have hcz7_1 : w5.cell? ⟨gb133,1,none⟩ = some (.int .i64 a0_1) := (blk_cell BK133.out 1).trans rfl;have hcz7_2 : w5.cell? ⟨gb133,2,none⟩ = some (.int .i64 a0_2) := (blk_cell BK133.out 2).trans rfl;have hcz7_3 : w5.cell? ⟨gb133,3,none⟩ = some (.int .i64 a0_3) := (blk_cell BK133.out 3).trans rfl;have hcz7_4 : w5.cell? ⟨gb133,4,none⟩ = some (.int .i64 a0_4) := (blk_cell BK133.out 4).trans rfl;have hcz7_5 : w5.cell? ⟨gb133,5,none⟩ = some (.slice A0_5 l0_5.length c0_5) := (blk_cell BK133.out 5).trans rfl;have hfz7_0 := blk_frozen BK133.out 0;have hfz7_1 := blk_frozen BK133.out 1;have hfz7_2 := blk_frozen BK133.out 2;have hfz7_3 := blk_frozen BK133.out 3;have hfz7_4 := blk_frozen BK133.out 4;have hfz7_5 := blk_frozen BK133.out 5))
 (try simp only [Act.put,List.setIfInBounds_toArray,List.set_cons_zero,List.set_cons_succ])
 go_cut [7] (fun v7 wc => ∃ (kq : Nat) (x7_2 : Bool),v7 = .bool x7_2 ∧ Aside0 (passepartoutref05_fit.j0 kq (a0_0 == 0) x7_2 a0_0 a0_1 a0_2 a0_3 a0_4 l0_5 a1_0 l1_1 l1_2 = some (r1,r2)) ∧ Aside0 (kq ≤ k) ∧ Aside0 (wc.heap[gb133]? = some (.cells #[.int .i64 a0_0,.int .i64 a0_1,.int .i64 a0_2,.int .i64 a0_3,.int .i64 a0_4,(.slice A0_5 l0_5.length c0_5)] 24 (0,0))) ∧ Aside0 (wc.heap[gb134]? = some (.cells #[.int .u64 a1_0,(.slice A1_1 l1_1.length c1_1),(.slice A1_2 l1_2.length c1_2)] 31 (0,0))) ∧ Aside0 (Below w.heap.size w wc))
 case first =>
  have H := HC3.out
  clear HC3
  by_cases c8 : a0_0 = 1
  ·rw [if_pos c8] at H
   have c8b0 : (a0_0 == 1) = true := beq_iff_eq.mpr c8
   have c8b1 : (a0_0 != 1) = false := bne_eq_false_iff_eq.mpr c8
   clear c8
   (first | rw [c8b0] | (simp only [i64_w,i32_w];rw [c8b0]) | skip)
   have H' := Aside0.mk H
   clear H
   have hnb9 := NB133_134.out
   have hnc9 := NB134_133.out
   have hcz10_0 : w5.cell? ⟨gb133,0,none⟩ = some (.int .i64 a0_0) := (blk_cell BK133.out 0).trans rfl
   have hcz10_1 : w5.cell? ⟨gb133,1,none⟩ = some (.int .i64 a0_1) := (blk_cell BK133.out 1).trans rfl
   have hcz10_2 : w5.cell? ⟨gb133,2,none⟩ = some (.int .i64 a0_2) := (blk_cell BK133.out 2).trans rfl
   have hcz10_3 : w5.cell? ⟨gb133,3,none⟩ = some (.int .i64 a0_3) := (blk_cell BK133.out 3).trans rfl
   have hcz10_4 : w5.cell? ⟨gb133,4,none⟩ = some (.int .i64 a0_4) := (blk_cell BK133.out 4).trans rfl
   have hcz10_5 : w5.cell? ⟨gb133,5,none⟩ = some (.slice A0_5 l0_5.length c0_5) := (blk_cell BK133.out 5).trans rfl
   have hfz10_0 := blk_frozen BK133.out 0
   have hfz10_1 := blk_frozen BK133.out 1
   have hfz10_2 := blk_frozen BK133.out 2
   have hfz10_3 := blk_frozen BK133.out 3
   have hfz10_4 := blk_frozen BK133.out 4
   have hfz10_5 := blk_frozen BK133.out 5
   go_wp2
   go_meet
   case rel => exact ⟨_,(true),(by first | rfl | (simp;done) | (simp [*];done)),H',⟨by first | omega | exact Nat.le_refl _⟩,⟨by (with_reducible repeat (first | refine blk_drewN ?_ _ | refine blk_drew ?_ | refine blk_alloc ?_ _));exact BK133.out⟩,⟨by (with_reducible repeat (first | refine blk_drewN ?_ _ | refine blk_drew ?_ | refine blk_alloc ?_ _));exact BK134.out⟩,⟨by repeat (first | (with_reducible first | exact HB.out | apply below_alloc | apply pw_below_drewN | apply below_drew1 | refine below_set ?_ GE133.out | refine below_set ?_ GE134.out) | exact HB.out)⟩⟩
  ·rw [if_neg c8] at H
   have c8b0 : (a0_0 == 1) = false := beq_eq_false_iff_ne.mpr c8
   have c8b1 : (a0_0 != 1) = true := bne_iff_ne.mpr c8
   (first | rw [c8b0] | (simp only [i64_w,i32_w];rw [c8b0]) | skip)
   by_cases c11 : a0_0 = 4
   ·rw [if_pos c11] at H
    have c11b0 : (a0_0 == 4) = true := beq_iff_eq.mpr c11
    have c11b1 : (a0_0 != 4) = false := bne_eq_false_iff_eq.mpr c11
    clear c11
    have H' := Aside0.mk H
    clear H
    have hnb12 := NB133_134.out
    have hnc12 := NB134_133.out
    have hcz13_0 : w5.cell? ⟨gb133,0,none⟩ = some (.int .i64 a0_0) := (blk_cell BK133.out 0).trans rfl
    have hcz13_1 : w5.cell? ⟨gb133,1,none⟩ = some (.int .i64 a0_1) := (blk_cell BK133.out 1).trans rfl
    have hcz13_2 : w5.cell? ⟨gb133,2,none⟩ = some (.int .i64 a0_2) := (blk_cell BK133.out 2).trans rfl
    have hcz13_3 : w5.cell? ⟨gb133,3,none⟩ = some (.int .i64 a0_3) := (blk_cell BK133.out 3).trans rfl
    have hcz13_4 : w5.cell? ⟨gb133,4,none⟩ = some (.int .i64 a0_4) := (blk_cell BK133.out 4).trans rfl
    have hcz13_5 : w5.cell? ⟨gb133,5,none⟩ = some (.slice A0_5 l0_5.length c0_5) := (blk_cell BK133.out 5).trans rfl
    have hfz13_0 := blk_frozen BK133.out 0
    have hfz13_1 := blk_frozen BK133.out 1
    have hfz13_2 := blk_frozen BK133.out 2
    have hfz13_3 := blk_frozen BK133.out 3
    have hfz13_4 := blk_frozen BK133.out 4
    have hfz13_5 := blk_frozen BK133.out 5
    go_wp2
    go_meet
    case rel => exact ⟨_,(true),(by first | rfl | (simp;done) | (simp [*];done)),H',⟨by first | omega | exact Nat.le_refl _⟩,⟨by (with_reducible repeat (first | refine blk_drewN ?_ _ | refine blk_drew ?_ | refine blk_alloc ?_ _));exact BK133.out⟩,⟨by (with_reducible repeat (first | refine blk_drewN ?_ _ | refine blk_drew ?_ | refine blk_alloc ?_ _));exact BK134.out⟩,⟨by repeat (first | (with_reducible first | exact HB.out | apply below_alloc | apply pw_below_drewN | apply below_drew1 | refine below_set ?_ GE133.out | refine below_set ?_ GE134.out) | exact HB.out)⟩⟩
   ·rw [if_neg c11] at H
    have c11b0 : (a0_0 == 4) = false := beq_eq_false_iff_ne.mpr c11
    have c11b1 : (a0_0 != 4) = true := bne_iff_ne.mpr c11
    have H' := Aside0.mk H
    clear H
    have hnb14 := NB133_134.out
    have hnc14 := NB134_133.out
    have hcz15_0 : w5.cell? ⟨gb133,0,none⟩ = some (.int .i64 a0_0) := (blk_cell BK133.out 0).trans rfl
    have hcz15_1 : w5.cell? ⟨gb133,1,none⟩ = some (.int .i64 a0_1) := (blk_cell BK133.out 1).trans rfl
    have hcz15_2 : w5.cell? ⟨gb133,2,none⟩ = some (.int .i64 a0_2) := (blk_cell BK133.out 2).trans rfl
    have hcz15_3 : w5.cell? ⟨gb133,3,none⟩ = some (.int .i64 a0_3) := (blk_cell BK133.out 3).trans rfl
    have hcz15_4 : w5.cell? ⟨gb133,4,none⟩ = some (.int .i64 a0_4) := (blk_cell BK133.out 4).trans rfl
    have hcz15_5 : w5.cell? ⟨gb133,5,none⟩ = some (.slice A0_5 l0_5.length c0_5) := (blk_cell BK133.out 5).trans rfl
    have hfz15_0 := blk_frozen BK133.out 0
    have hfz15_1 := blk_frozen BK133.out 1
    have hfz15_2 := blk_frozen BK133.out 2
    have hfz15_3 := blk_frozen BK133.out 3
    have hfz15_4 := blk_frozen BK133.out 4
    have hfz15_5 := blk_frozen BK133.out 5
    go_wp2
    go_meet
    case rel => exact ⟨_,((a0_0 == 5)),(by first | rfl | (simp;done) | (simp [*];done)),H',⟨by first | omega | exact Nat.le_refl _⟩,⟨by (with_reducible repeat (first | refine blk_drewN ?_ _ | refine blk_drew ?_ | refine blk_alloc ?_ _));exact BK133.out⟩,⟨by (with_reducible repeat (first | refine blk_drewN ?_ _ | refine blk_drew ?_ | refine blk_alloc ?_ _));exact BK134.out⟩,⟨by repeat (first | (with_reducible first | exact HB.out | apply below_alloc | apply pw_below_drewN | apply below_drew1 | refine below_set ?_ GE133.out | refine below_set ?_ GE134.out) | exact HB.out)⟩⟩
 case rest =>
  clear HC3
  try clear c1
  try clear c2
  try clear p2
  try clear c6
  try clear c8
  try clear c8b0
  try clear c8b1
  try clear c9
  try clear c11
  try clear c11b0
  try clear c11b1
  try clear c12
  try clear c14
  try clear hcz10_0
  try clear hcz10_1
  try clear hcz10_2
  try clear hcz10_3
  try clear hcz10_4
  try clear hcz10_5
  try clear hcz13_0
  try clear hcz13_1
  try clear hcz13_2
  try clear hcz13_3
  try clear hcz13_4
  try clear hcz13_5
  try clear hcz15_0
  try clear hcz15_1
  try clear hcz15_2
  try clear hcz15_3
  try clear hcz15_4
  try clear hcz15_5
  try clear hcz7_0
  try clear hcz7_1
  try clear hcz7_2
  try clear hcz7_3
  try clear hcz7_4
  try clear hcz7_5
  try clear hfz10_0
  try clear hfz10_1
  try clear hfz10_2
  try clear hfz10_3
  try clear hfz10_4
  try clear hfz10_5
  try clear hfz13_0
  try clear hfz13_1
  try clear hfz13_2
  try clear hfz13_3
  try clear hfz13_4
  try clear hfz13_5
  try clear hfz15_0
  try clear hfz15_1
  try clear hfz15_2
  try clear hfz15_3
  try clear hfz15_4
  try clear hfz15_5
  try clear hfz7_0
  try clear hfz7_1
  try clear hfz7_2
  try clear hfz7_3
  try clear hfz7_4
  try clear hfz7_5
  obtain ⟨kq,x7_2,rfl,HA,HJ2,BK133,BK134,HB⟩ := hcut
  cases kq with
  | zero => exact absurd HA.out (by simp [passepartoutref05_fit.j0])
  | succ kj2 =>
   have H := HA.out
   clear HA
   simp only [passepartoutref05_fit.j0] at H
   have HC16 := Aside0.mk H
   clear H
   go_upto_region 3 with (fail)
   go_cut [57] (fun v57 wc => ∃ (kq : Nat) (x57_15 : Bool),v57 = .bool x57_15 ∧ Aside0 (passepartoutref05_fit.j1 kq x57_15 a0_0 a0_1 a0_2 a0_3 a0_4 l0_5 a1_0 l1_1 l1_2 = some (r1,r2)) ∧ Aside0 (kq ≤ kj2) ∧ Aside0 (wc.heap[gb133]? = some (.cells #[.int .i64 a0_0,.int .i64 a0_1,.int .i64 a0_2,.int .i64 a0_3,.int .i64 a0_4,(.slice A0_5 l0_5.length c0_5)] 24 (0,0))) ∧ Aside0 (wc.heap[gb134]? = some (.cells #[.int .u64 a1_0,(.slice A1_1 l1_1.length c1_1),(.slice A1_2 l1_2.length c1_2)] 31 (0,0))) ∧ Aside0 (Below w.heap.size w wc))
   case first =>
    have H := HC16.out
    clear HC16
    by_cases c17 : (a0_0 == 0) = true
    ·rw [if_pos c17] at H
     have c17b0 : (a0_0 == 0) = true := c17
     (try (have c17b1 : decide (a0_0 = 0) = true := by simpa using c17))
     (try (have c17b2 : (a0_0 == 0) = true := by simpa using c17))
     clear c17
     (first | rw [c17b0] | (simp only [i64_w,i32_w];rw [c17b0]) | skip)
     by_cases c18 : x7_2 = true
     ·subst c18
      have H1 : (passepartoutref05_fit.j1 kj2 ((l1_2.length : Int) != 0) a0_0 a0_1 a0_2 a0_3 a0_4 l0_5 a1_0 l1_1 l1_2) = some (r1,r2) := by rw [if_pos rfl] at H;exact H
      clear H
      have H := H1
      clear H1
      have H' := Aside0.mk H
      clear H
      have hnb19 := NB134_133.out
      have hnc19 := NB133_134.out
      have hcz20_0 : wc.cell? ⟨gb134,0,none⟩ = some (.int .u64 a1_0) := (blk_cell BK134.out 0).trans rfl
      have hcz20_1 : wc.cell? ⟨gb134,1,none⟩ = some (.slice A1_1 l1_1.length c1_1) := (blk_cell BK134.out 1).trans rfl
      have hcz20_2 : wc.cell? ⟨gb134,2,none⟩ = some (.slice A1_2 l1_2.length c1_2) := (blk_cell BK134.out 2).trans rfl
      have hfz20_0 := blk_frozen BK134.out 0
      have hfz20_1 := blk_frozen BK134.out 1
      have hfz20_2 := blk_frozen BK134.out 2
      go_wp2
      (refine Met.intro ?_;go_step;(repeat apply Exists.intro);first | refine ⟨?rel,rfl⟩ | refine ⟨?rel,by rw [c17b0]⟩)
      case rel => exact ⟨_,(((l1_2.length : Int) != 0)),(by first | rfl | (simp;done) | (simp [*];done)),H',⟨by have := HJ2.out;first | omega | exact Nat.le_refl _⟩,⟨by (with_reducible repeat (first | refine blk_drewN ?_ _ | refine blk_drew ?_ | refine blk_alloc ?_ _));exact BK133.out⟩,⟨by (with_reducible repeat (first | refine blk_drewN ?_ _ | refine blk_drew ?_ | refine blk_alloc ?_ _));exact BK134.out⟩,⟨by repeat (first | (with_reducible first | exact HB.out | apply below_alloc | apply pw_below_drewN | apply below_drew1 | refine below_set ?_ GE133.out | refine below_set ?_ GE134.out) | exact HB.out)⟩⟩
     ·replace c18 := Bool.eq_false_iff.mpr c18
      subst c18
      have H1 : (if (l1_1.length : Int) = 0 then (passepartoutref05_fit.j1 kj2 ((l1_2.length : Int) != 0) a0_0 a0_1 a0_2 a0_3 a0_4 l0_5 a1_0 l1_1 l1_2) else (passepartoutref05_fit.j1 kj2 true a0_0 a0_1 a0_2 a0_3 a0_4 l0_5 a1_0 l1_1 l1_2)) = some (r1,r2) := by rw [if_neg (show ¬ (false = true) by decide)] at H;exact H
      clear H
      have H := H1
      clear H1
      by_cases c21 : (l1_1.length : Int) = 0
      ·rw [if_pos c21] at H
       have c21b0 : ((l1_1.length : Int) == 0) = true := beq_iff_eq.mpr c21
       have c21b1 : ((l1_1.length : Int) != 0) = false := bne_eq_false_iff_eq.mpr c21
       clear c21
       have H' := Aside0.mk H
       clear H
       have hnb22 := NB134_133.out
       have hnc22 := NB133_134.out
       have hcz23_0 : wc.cell? ⟨gb134,0,none⟩ = some (.int .u64 a1_0) := (blk_cell BK134.out 0).trans rfl
       have hcz23_1 : wc.cell? ⟨gb134,1,none⟩ = some (.slice A1_1 l1_1.length c1_1) := (blk_cell BK134.out 1).trans rfl
       have hcz23_2 : wc.cell? ⟨gb134,2,none⟩ = some (.slice A1_2 l1_2.length c1_2) := (blk_cell BK134.out 2).trans rfl
       have hfz23_0 := blk_frozen BK134.out 0
       have hfz23_1 := blk_frozen BK134.out 1
       have hfz23_2 := blk_frozen BK134.out 2
       go_wp2
       (refine Met.intro ?_;go_step;(repeat apply Exists.intro);first | refine ⟨?rel,rfl⟩ | refine ⟨?rel,by rw [c17b0]⟩)
       case rel => exact ⟨_,(((l1_2.length : Int) != 0)),(by first | rfl | (simp;done) | (simp [*];done)),H',⟨by have := HJ2.out;first | omega | exact Nat.le_refl _⟩,⟨by (with_reducible repeat (first | refine blk_drewN ?_ _ | refine blk_drew ?_ | refine blk_alloc ?_ _));exact BK133.out⟩,⟨by (with_reducible repeat (first | refine blk_drewN ?_ _ | refine blk_drew ?_ | refine blk_alloc ?_ _));exact BK134.out⟩,⟨by repeat (first | (with_reducible first | exact HB.out | apply below_alloc | apply pw_below_drewN | apply below_drew1 | refine below_set ?_ GE133.out | refine below_set ?_ GE134.out) | exact HB.out)⟩⟩
      ·rw [if_neg c21] at H
       have c21b0 : ((l1_1.length : Int) == 0) = false := beq_eq_false_iff_ne.mpr c21
       have c21b1 : ((l1_1.length : Int) != 0) = true := bne_iff_ne.mpr c21
       have c21b2 : ¬ (l1_1 = []) := fun h_ => c21 (by rw [h_];rfl)
       have H' := Aside0.mk H
       clear H
       have hnb24 := NB134_133.out
       have hnc24 := NB133_134.out
       have hcz25_0 : wc.cell? ⟨gb134,0,none⟩ = some (.int .u64 a1_0) := (blk_cell BK134.out 0).trans rfl
       have hcz25_1 : wc.cell? ⟨gb134,1,none⟩ = some (.slice A1_1 l1_1.length c1_1) := (blk_cell BK134.out 1).trans rfl
       have hcz25_2 : wc.cell? ⟨gb134,2,none⟩ = some (.slice A1_2 l1_2.length c1_2) := (blk_cell BK134.out 2).trans rfl
       have hfz25_0 := blk_frozen BK134.out 0
       have hfz25_1 := blk_frozen BK134.out 1
       have hfz25_2 := blk_frozen BK134.out 2
       go_wp2
       (refine Met.intro ?_;go_step;(repeat apply Exists.intro);first | refine ⟨?rel,rfl⟩ | refine ⟨?rel,by rw [c17b0]⟩)
       case rel => exact ⟨_,(true),(by first | rfl | (simp;done) | (simp [*];done)),H',⟨by have := HJ2.out;first | omega | exact Nat.le_refl _⟩,⟨by (with_reducible repeat (first | refine blk_drewN ?_ _ | refine blk_drew ?_ | refine blk_alloc ?_ _));exact BK133.out⟩,⟨by (with_reducible repeat (first | refine blk_drewN ?_ _ | refine blk_drew ?_ | refine blk_alloc ?_ _));exact BK134.out⟩,⟨by repeat (first | (with_reducible first | exact HB.out | apply below_alloc | apply pw_below_drewN | apply below_drew1 | refine below_set ?_ GE133.out | refine below_set ?_ GE134.out) | exact HB.out)⟩⟩
    ·rw [if_neg c17] at H
     have c17b0 : (a0_0 == 0) = false := by simpa using c17
     (try (have c17b1 : decide (a0_0 = 0) = false := by simpa using c17))
     (try (have c17b2 : (a0_0 == 0) = false := by simpa using c17))
     (try (have c17b3 : ¬ (a0_0 = 0) := by simpa using c17))
     clear c17
     (first | rw [c17b0] | (simp only [i64_w,i32_w];rw [c17b0]) | skip)
     by_cases c26 : a1_0 = 0
     ·rw [if_pos c26] at H
      have c26b0 : (a1_0 == 0) = true := beq_iff_eq.mpr c26
      have c26b1 : (a1_0 != 0) = false := bne_eq_false_iff_eq.mpr c26
      clear c26
      by_cases c27 : x7_2 = true
      ·subst c27
       have H1 : (passepartoutref05_fit.j1 kj2 ((l1_2.length : Int) != 0) a0_0 a0_1 a0_2 a0_3 a0_4 l0_5 a1_0 l1_1 l1_2) = some (r1,r2) := by rw [if_pos rfl] at H;exact H
       clear H
       have H := H1
       clear H1
       have H' := Aside0.mk H
       clear H
       have hnb28 := NB134_133.out
       have hnc28 := NB133_134.out
       have hcz29_0 : wc.cell? ⟨gb134,0,none⟩ = some (.int .u64 a1_0) := (blk_cell BK134.out 0).trans rfl
       have hcz29_1 : wc.cell? ⟨gb134,1,none⟩ = some (.slice A1_1 l1_1.length c1_1) := (blk_cell BK134.out 1).trans rfl
       have hcz29_2 : wc.cell? ⟨gb134,2,none⟩ = some (.slice A1_2 l1_2.length c1_2) := (blk_cell BK134.out 2).trans rfl
       have hfz29_0 := blk_frozen BK134.out 0
       have hfz29_1 := blk_frozen BK134.out 1
       have hfz29_2 := blk_frozen BK134.out 2
       go_wp2
       (refine Met.intro ?_;go_step;(repeat apply Exists.intro);first | refine ⟨?rel,rfl⟩ | refine ⟨?rel,by rw [c17b0]⟩)
       case rel => exact ⟨_,(((l1_2.length : Int) != 0)),(by first | rfl | (simp;done) | (simp [*];done)),H',⟨by have := HJ2.out;first | omega | exact Nat.le_refl _⟩,⟨by (with_reducible repeat (first | refine blk_drewN ?_ _ | refine blk_drew ?_ | refine blk_alloc ?_ _));exact BK133.out⟩,⟨by (with_reducible repeat (first | refine blk_drewN ?_ _ | refine blk_drew ?_ | refine blk_alloc ?_ _));exact BK134.out⟩,⟨by repeat (first | (with_reducible first | exact HB.out | apply below_alloc | apply pw_below_drewN | apply below_drew1 | refine below_set ?_ GE133.out | refine below_set ?_ GE134.out) | exact HB.out)⟩⟩
      ·replace c27 := Bool.eq_false_iff.mpr c27
       subst c27
       have H1 : (if (l1_1.length : Int) = 0 then (passepartoutref05_fit.j1 kj2 false a0_0 a0_1 a0_2 a0_3 a0_4 l0_5 a1_0 l1_1 l1_2) else (passepartoutref05_fit.j1 kj2 true a0_0 a0_1 a0_2 a0_3 a0_4 l0_5 a1_0 l1_1 l1_2)) = some (r1,r2) := by rw [if_neg (show ¬ (false = true) by decide)] at H;exact H
       clear H
       have H := H1
       clear H1
       by_cases c30 : (l1_1.length : Int) = 0
       ·rw [if_pos c30] at H
        have c30b0 : ((l1_1.length : Int) == 0) = true := beq_iff_eq.mpr c30
        have c30b1 : ((l1_1.length : Int) != 0) = false := bne_eq_false_iff_eq.mpr c30
        clear c30
        have H' := Aside0.mk H
        clear H
        have hnb31 := NB134_133.out
        have hnc31 := NB133_134.out
        have hcz32_0 : wc.cell? ⟨gb134,0,none⟩ = some (.int .u64 a1_0) := (blk_cell BK134.out 0).trans rfl
        have hcz32_1 : wc.cell? ⟨gb134,1,none⟩ = some (.slice A1_1 l1_1.length c1_1) := (blk_cell BK134.out 1).trans rfl
        have hcz32_2 : wc.cell? ⟨gb134,2,none⟩ = some (.slice A1_2 l1_2.length c1_2) := (blk_cell BK134.out 2).trans rfl
        have hfz32_0 := blk_frozen BK134.out 0
        have hfz32_1 := blk_frozen BK134.out 1
        have hfz32_2 := blk_frozen BK134.out 2
        go_wp2
        (refine Met.intro ?_;go_step;(repeat apply Exists.intro);first | refine ⟨?rel,rfl⟩ | refine ⟨?rel,by rw [c17b0]⟩)
        case rel => exact ⟨_,(false),(by first | rfl | (simp;done) | (simp [*];done)),H',⟨by have := HJ2.out;first | omega | exact Nat.le_refl _⟩,⟨by (with_reducible repeat (first | refine blk_drewN ?_ _ | refine blk_drew ?_ | refine blk_alloc ?_ _));exact BK133.out⟩,⟨by (with_reducible repeat (first | refine blk_drewN ?_ _ | refine blk_drew ?_ | refine blk_alloc ?_ _));exact BK134.out⟩,⟨by repeat (first | (with_reducible first | exact HB.out | apply below_alloc | apply pw_below_drewN | apply below_drew1 | refine below_set ?_ GE133.out | refine below_set ?_ GE134.out) | exact HB.out)⟩⟩
       ·rw [if_neg c30] at H
        have c30b0 : ((l1_1.length : Int) == 0) = false := beq_eq_false_iff_ne.mpr c30
        have c30b1 : ((l1_1.length : Int) != 0) = true := bne_iff_ne.mpr c30
        have c30b2 : ¬ (l1_1 = []) := fun h_ => c30 (by rw [h_];rfl)
        have H' := Aside0.mk H
        clear H
        have hnb33 := NB134_133.out
        have hnc33 := NB133_134.out
        have hcz34_0 : wc.cell? ⟨gb134,0,none⟩ = some (.int .u64 a1_0) := (blk_cell BK134.out 0).trans rfl
        have hcz34_1 : wc.cell? ⟨gb134,1,none⟩ = some (.slice A1_1 l1_1.length c1_1) := (blk_cell BK134.out 1).trans rfl
        have hcz34_2 : wc.cell? ⟨gb134,2,none⟩ = some (.slice A1_2 l1_2.length c1_2) := (blk_cell BK134.out 2).trans rfl
        have hfz34_0 := blk_frozen BK134.out 0
        have hfz34_1 := blk_frozen BK134.out 1
        have hfz34_2 := blk_frozen BK134.out 2
        go_wp2
        (refine Met.intro ?_;go_step;(repeat apply Exists.intro);first | refine ⟨?rel,rfl⟩ | refine ⟨?rel,by rw [c17b0]⟩)
        case rel => exact ⟨_,(true),(by first | rfl | (simp;done) | (simp [*];done)),H',⟨by have := HJ2.out;first | omega | exact Nat.le_refl _⟩,⟨by (with_reducible repeat (first | refine blk_drewN ?_ _ | refine blk_drew ?_ | refine blk_alloc ?_ _));exact BK133.out⟩,⟨by (with_reducible repeat (first | refine blk_drewN ?_ _ | refine blk_drew ?_ | refine blk_alloc ?_ _));exact BK134.out⟩,⟨by repeat (first | (with_reducible first | exact HB.out | apply below_alloc | apply pw_below_drewN | apply below_drew1 | refine below_set ?_ GE133.out | refine below_set ?_ GE134.out) | exact HB.out)⟩⟩
     ·rw [if_neg c26] at H
      have c26b0 : (a1_0 == 0) = false := beq_eq_false_iff_ne.mpr c26
      have c26b1 : (a1_0 != 0) = true := bne_iff_ne.mpr c26
      have H' := Aside0.mk H
      clear H
      have hnb35 := NB134_133.out
      have hnc35 := NB133_134.out
      have hcz36_0 : wc.cell? ⟨gb134,0,none⟩ = some (.int .u64 a1_0) := (blk_cell BK134.out 0).trans rfl
      have hcz36_1 : wc.cell? ⟨gb134,1,none⟩ = some (.slice A1_1 l1_1.length c1_1) := (blk_cell BK134.out 1).trans rfl
      have hcz36_2 : wc.cell? ⟨gb134,2,none⟩ = some (.slice A1_2 l1_2.length c1_2) := (blk_cell BK134.out 2).trans rfl
      have hfz36_0 := blk_frozen BK134.out 0
      have hfz36_1 := blk_frozen BK134.out 1
      have hfz36_2 := blk_frozen BK134.out 2
      go_wp2
      (refine Met.intro ?_;go_step;(repeat apply Exists.intro);first | refine ⟨?rel,rfl⟩ | refine ⟨?rel,by rw [c17b0]⟩)
      case rel => exact ⟨_,(true),(by first | rfl | (simp;done) | (simp [*];done)),H',⟨by have := HJ2.out;first | omega | exact Nat.le_refl _⟩,⟨by (with_reducible repeat (first | refine blk_drewN ?_ _ | refine blk_drew ?_ | refine blk_alloc ?_ _));exact BK133.out⟩,⟨by (with_reducible repeat (first | refine blk_drewN ?_ _ | refine blk_drew ?_ | refine blk_alloc ?_ _));exact BK134.out⟩,⟨by repeat (first | (with_reducible first | exact HB.out | apply below_alloc | apply pw_below_drewN | apply below_drew1 | refine below_set ?_ GE133.out | refine below_set ?_ GE134.out) | exact HB.out)⟩⟩
   case rest =>
    clear HC16
    try clear c1
    try clear c2
    try clear p2
    try clear c3
    try clear c6
    try clear c8
    try clear c8b0
    try clear c8b1
    try clear c9
    try clear c11
    try clear c11b0
    try clear c11b1
    try clear c12
    try clear c14
    try clear c17
    try clear c17b0
    try clear c17b1
    try clear c17b2
    try clear c18
    try clear c19
    try clear c21
    try clear c21b0
    try clear c21b1
    try clear c21b2
    try clear c22
    try clear c24
    try clear c26
    try clear c26b0
    try clear c26b1
    try clear c27
    try clear c28
    try clear c30
    try clear c30b0
    try clear c30b1
    try clear c30b2
    try clear c31
    try clear c33
    try clear c35
    try clear hcz10_0
    try clear hcz10_1
    try clear hcz10_2
    try clear hcz10_3
    try clear hcz10_4
    try clear hcz10_5
    try clear hcz13_0
    try clear hcz13_1
    try clear hcz13_2
    try clear hcz13_3
    try clear hcz13_4
    try clear hcz13_5
    try clear hcz15_0
    try clear hcz15_1
    try clear hcz15_2
    try clear hcz15_3
    try clear hcz15_4
    try clear hcz15_5
    try clear hcz20_0
    try clear hcz20_1
    try clear hcz20_2
    try clear hcz23_0
    try clear hcz23_1
    try clear hcz23_2
    try clear hcz25_0
    try clear hcz25_1
    try clear hcz25_2
    try clear hcz29_0
    try clear hcz29_1
    try clear hcz29_2
    try clear hcz32_0
    try clear hcz32_1
    try clear hcz32_2
    try clear hcz34_0
    try clear hcz34_1
    try clear hcz34_2
    try clear hcz36_0
    try clear hcz36_1
    try clear hcz36_2
    try clear hcz7_0
    try clear hcz7_1
    try clear hcz7_2
    try clear hcz7_3
    try clear hcz7_4
    try clear hcz7_5
    try clear hfz10_0
    try clear hfz10_1
    try clear hfz10_2
    try clear hfz10_3
    try clear hfz10_4
    try clear hfz10_5
    try clear hfz13_0
    try clear hfz13_1
    try clear hfz13_2
    try clear hfz13_3
    try clear hfz13_4
    try clear hfz13_5
    try clear hfz15_0
    try clear hfz15_1
    try clear hfz15_2
    try clear hfz15_3
    try clear hfz15_4
    try clear hfz15_5
    try clear hfz20_0
    try clear hfz20_1
    try clear hfz20_2
    try clear hfz23_0
    try clear hfz23_1
    try clear hfz23_2
    try clear hfz25_0
    try clear hfz25_1
    try clear hfz25_2
    try clear hfz29_0
    try clear hfz29_1
    try clear hfz29_2
    try clear hfz32_0
    try clear hfz32_1
    try clear hfz32_2
    try clear hfz34_0
    try clear hfz34_1
    try clear hfz34_2
    try clear hfz36_0
    try clear hfz36_1
    try clear hfz36_2
    try clear hfz7_0
    try clear hfz7_1
    try clear hfz7_2
    try clear hfz7_3
    try clear hfz7_4
    try clear hfz7_5
    try clear p2
    obtain ⟨kq,x57_15,rfl,HA,HJ15,BK133,BK134,HB⟩ := hcut
    cases kq with
    | zero => exact absurd HA.out (by simp [passepartoutref05_fit.j1])
    | succ kj15 =>
     have H := HA.out
     clear HA
     simp only [passepartoutref05_fit.j1] at H
     by_cases c37 : x57_15 = true
     ·subst c37
      have H1 : (some (0,15)) = some (r1,r2) := by rw [if_pos rfl] at H;exact H
      clear H
      have H := H1
      clear H1
      simp only [Option.some.injEq,Prod.mk.injEq] at H
      obtain ⟨rfl,rfl⟩ := H
      go_wp2
      go_ret2
      exact ⟨by first | rfl | (simp [errW_none,errW_some] <;> rfl) | (simp [*,errW_none,errW_some] <;> rfl),by repeat (first | (with_reducible first | exact HB.out | apply below_alloc | apply pw_below_drewN | apply below_drew1 | refine below_set ?_ GE133.out | refine below_set ?_ GE134.out) | exact HB.out)⟩
     ·replace c37 := Bool.eq_false_iff.mpr c37
      subst c37
      have H1 : (if a0_0 = 0 then (if a0_1 < 8 then ((passepartoutref05_power.f kj15 a0_1).bind fun t135 => (if a1_0 ≥ t135 then (some (0,3)) else (some (a0_1,0)))) else (some (a0_1,0))) else (if a0_0 = 1 then ((passepartoutref05_between.f (l1_1.length : Int) a0_2 a0_3 a0_4).bind fun t136 => (if t136 = true then (some (wrap64 (a0_1 + (l1_1.length : Int)),0)) else (some (0,5)))) else (if a0_0 = 4 then ((passepartoutref05_between.f (l1_1.length : Int) a0_2 a0_3 1).bind fun t137 => (if t137 = true then (some ((l1_1.length : Int),0)) else (some (0,5)))) else (if a0_0 = 5 then (if (l1_1.length : Int) = a0_2 then (some (a0_2,0)) else (some (0,5))) else (if a0_0 = 3 then (passepartoutref05_fit.j2 kj15 ((l1_2.length : Int) != (l0_5.length : Int)) a0_0 a0_1 a0_2 a0_3 a0_4 l0_5 a1_0 l1_1 l1_2) else (passepartoutref05_fit.j2 kj15 false a0_0 a0_1 a0_2 a0_3 a0_4 l0_5 a1_0 l1_1 l1_2)))))) = some (r1,r2) := by rw [if_neg (show ¬ (false = true) by decide)] at H;exact H
      clear H
      have H := H1
      clear H1
      by_cases c38 : a0_0 = 0
      ·rw [if_pos c38] at H
       have c38b0 : (a0_0 == 0) = true := beq_iff_eq.mpr c38
       have c38b1 : (a0_0 != 0) = false := bne_eq_false_iff_eq.mpr c38
       clear c38
       by_cases c39 : a0_1 < 8
       ·rw [if_pos c39] at H
        have c39b0 : decide (a0_1 < 8) = true := decide_eq_true c39
        clear c39
        replace H := Option.bind_eq_some_iff.mp H
        obtain ⟨t135,A400,H⟩ := H
        replace H : (if a1_0 ≥ t135 then (some (0,3)) else (some (a0_1,0))) = some (r1,r2) := H
        have A40 := Aside0.mk A400
        clear A400
        by_cases c41 : a1_0 ≥ t135
        ·rw [if_pos c41] at H
         have c41b0 : decide (t135 ≤ a1_0) = true := decide_eq_true c41
         clear c41
         simp only [Option.some.injEq,Prod.mk.injEq] at H
         obtain ⟨rfl,rfl⟩ := H
         have hnb42 := NB133_134.out
         have hnc42 := NB134_133.out
         have hcz43_0 : wc.cell? ⟨gb133,0,none⟩ = some (.int .i64 a0_0) := (blk_cell BK133.out 0).trans rfl
         have hcz43_1 : wc.cell? ⟨gb133,1,none⟩ = some (.int .i64 a0_1) := (blk_cell BK133.out 1).trans rfl
         have hcz43_2 : wc.cell? ⟨gb133,2,none⟩ = some (.int .i64 a0_2) := (blk_cell BK133.out 2).trans rfl
         have hcz43_3 : wc.cell? ⟨gb133,3,none⟩ = some (.int .i64 a0_3) := (blk_cell BK133.out 3).trans rfl
         have hcz43_4 : wc.cell? ⟨gb133,4,none⟩ = some (.int .i64 a0_4) := (blk_cell BK133.out 4).trans rfl
         have hcz43_5 : wc.cell? ⟨gb133,5,none⟩ = some (.slice A0_5 l0_5.length c0_5) := (blk_cell BK133.out 5).trans rfl
         have hfz43_0 := blk_frozen BK133.out 0
         have hfz43_1 := blk_frozen BK133.out 1
         have hfz43_2 := blk_frozen BK133.out 2
         have hfz43_3 := blk_frozen BK133.out 3
         have hfz43_4 := blk_frozen BK133.out 4
         have hfz43_5 := blk_frozen BK133.out 5
         try go_wp2
         have n0_ := Aside0.mk (blk_drew BK133.out)
         have n1_ := Aside0.mk (blk_drew BK134.out)
         have n2_ := Aside0.mk (below_drew1 HB.out)
         clear BK133
         clear BK134
         clear HB
         have BK133 := n0_
         have BK134 := n1_
         have HB := n2_
         clear n0_ n1_ n2_
         refine start_ (n := 11) (S := fun w' => w'.cell? ⟨gb133,0,none⟩ = some (.int .i64 a0_0) ∧ w'.cell? ⟨gb133,1,none⟩ = some (.int .i64 a0_1) ∧ w'.cell? ⟨gb133,2,none⟩ = some (.int .i64 a0_2) ∧ w'.cell? ⟨gb133,3,none⟩ = some (.int .i64 a0_3) ∧ w'.cell? ⟨gb133,4,none⟩ = some (.int .i64 a0_4) ∧ w'.cell? ⟨gb133,5,none⟩ = some (.slice A0_5 l0_5.length c0_5) ∧ w'.cell? ⟨gb134,0,none⟩ = some (.int .u64 a1_0) ∧ w'.cell? ⟨gb134,1,none⟩ = some (.slice A1_1 l1_1.length c1_1) ∧ w'.cell? ⟨gb134,2,none⟩ = some (.slice A1_2 l1_2.length c1_2)) (ds := []) #[false,false,false,false,false,false,false,false,false,false,false] (by kernel_rfl) rfl rfl ⟨(blk_cell BK133.out 0).trans rfl,(blk_cell BK133.out 1).trans rfl,(blk_cell BK133.out 2).trans rfl,(blk_cell BK133.out 3).trans rfl,(blk_cell BK133.out 4).trans rfl,(blk_cell BK133.out 5).trans rfl,(blk_cell BK134.out 0).trans rfl,(blk_cell BK134.out 1).trans rfl,(blk_cell BK134.out 2).trans rfl⟩ (fun hHeld => ?_);refine with_tabW passepartoutref05_fit.tab7 passepartoutref05_fit.bits7 (fun HT_ HW_ => ?_)
         generalize wc.drew = w44 at BK133 BK134 HB hHeld ⊢
         refine pure_ (i := 0) (N := some 62) (v := ?_) (a' := ?_) #[true,false,false,false,false,false,false,false,false,false,false] rfl rfl (any_of HT_.out (by kernel_rfl)) (fun _ _ _ h => h) (Or.inl ⟨by rfl,?_⟩) ?_ ?_
         rotate_left
         ·intro w'
          go_simp
          with_reducible rfl
         rotate_left
         ·simp only [Act.put,List.setIfInBounds_toArray,List.set_cons_zero,List.set_cons_succ,i64_w,i32_w]
          rfl
         refine take_ (i := 1) (N := some 63) (v := ?_) (a' := ?_) #[true,true,false,false,false,false,false,false,false,false,false] rfl rfl (take_ofW HT_.out HW_.out (by kernel_rfl)) (fun _ _ _ h => h) (Or.inl ⟨by rfl,?_⟩) hHeld ?_ ?_
         rotate_left
         ·rintro w' ⟨s0,s1,s2,s3,s4,s5,s6,s7,s8⟩
          go_simp
          with_reducible rfl
         rotate_left
         ·simp only [Act.put,List.setIfInBounds_toArray,List.set_cons_zero,List.set_cons_succ,i64_w,i32_w]
          rfl
         refine pure_ (i := 2) (N := some 64) (v := ?_) (a' := ?_) #[true,true,true,false,false,false,false,false,false,false,false] rfl rfl (any_of HT_.out (by kernel_rfl)) (fun _ _ _ h => h) (Or.inl ⟨by rfl,?_⟩) ?_ ?_
         rotate_left
         ·intro w'
          go_simp
          with_reducible rfl
         rotate_left
         ·simp only [Act.put,List.setIfInBounds_toArray,List.set_cons_zero,List.set_cons_succ,i64_w,i32_w]
          rfl
         refine pure_ (i := 3) (N := some 65) (v := ?_) (a' := ?_) #[true,true,true,true,false,false,false,false,false,false,false] rfl rfl (any_of HT_.out (by kernel_rfl)) (fun _ _ _ h => h) (Or.inl ⟨by rfl,?_⟩) ?_ ?_
         rotate_left
         ·intro w'
          go_simp
          with_reducible rfl
         rotate_left
         ·simp only [Act.put,List.setIfInBounds_toArray,List.set_cons_zero,List.set_cons_succ,i64_w,i32_w]
          rfl
         refine pure_ (i := 4) (N := some 66) (v := ?_) (a' := ?_) #[true,true,true,true,true,false,false,false,false,false,false] rfl rfl (any_of HT_.out (by kernel_rfl)) (fun _ _ _ h => h) (Or.inl ⟨by rfl,?_⟩) ?_ ?_
         rotate_left
         ·intro w'
          go_simp
          with_reducible rfl
         rotate_left
         ·simp only [Act.put,List.setIfInBounds_toArray,List.set_cons_zero,List.set_cons_succ,i64_w,i32_w]
          rfl
         refine pure_ (i := 6) (N := some 68) (v := ?_) (a' := ?_) #[true,true,true,true,true,false,true,false,false,false,false] rfl rfl (any_of HT_.out (by kernel_rfl)) (fun _ _ _ h => h) (Or.inl ⟨by rfl,?_⟩) ?_ ?_
         rotate_left
         ·intro w'
          go_simp
          with_reducible rfl
         rotate_left
         ·simp only [Act.put,List.setIfInBounds_toArray,List.set_cons_zero,List.set_cons_succ,i64_w,i32_w]
          rfl
         refine take_ (i := 5) (N := some 67) (v := ?_) (a' := ?_) #[true,true,true,true,true,true,true,false,false,false,false] rfl rfl (take_ofW HT_.out HW_.out (by kernel_rfl)) (fun _ _ _ h => h) (Or.inl ⟨by rfl,?_⟩) hHeld ?_ ?_
         rotate_left
         ·rintro w' ⟨s0,s1,s2,s3,s4,s5,s6,s7,s8⟩
          go_simp
          with_reducible rfl
         rotate_left
         ·simp only [Act.put,List.setIfInBounds_toArray,List.set_cons_zero,List.set_cons_succ,i64_w,i32_w]
          rfl
         refine take_ (i := 7) (N := some 69) (v := ?_) (a' := ?_) #[true,true,true,true,true,true,true,true,false,false,false] rfl rfl (take_ofW HT_.out HW_.out (by kernel_rfl)) (fun _ _ _ h => h) (Or.inl ⟨by rfl,?_⟩) hHeld ?_ ?_
         rotate_left
         ·rintro w' ⟨s0,s1,s2,s3,s4,s5,s6,s7,s8⟩
          go_simp
          with_reducible rfl
         rotate_left
         ·simp only [Act.put,List.setIfInBounds_toArray,List.set_cons_zero,List.set_cons_succ,i64_w,i32_w]
          rfl
         refine one_ (i := 8) (N := some 70) #[true,true,true,true,true,true,true,true,true,false,false] rfl rfl (one_of HT_.out (by kernel_rfl)) (by decide) (fun K hK => ?_)
         refine goes_ Tryd.func44 (by kernel_rfl) rfl #[.int .i64 a0_1] (by rfl) rfl rfl (by (try simp only [List.map_toArray,List.map_cons,List.map_nil]);first | done | rfl | (simp only [List.length_drop,List.length_take];rfl)) ?_
         with_reducible refine (passepartoutref05_power.calls kj15 a0_1 t135 _ A40.out).mono ?_
         rintro e w' ⟨rfl,⟨nd,rfl⟩⟩
         refine ⟨_,rfl,?_⟩
         refine hK.out _ _ ⟨(blk_cell BK133.out 0).trans rfl,(blk_cell BK133.out 1).trans rfl,(blk_cell BK133.out 2).trans rfl,(blk_cell BK133.out 3).trans rfl,(blk_cell BK133.out 4).trans rfl,(blk_cell BK133.out 5).trans rfl,(blk_cell BK134.out 0).trans rfl,(blk_cell BK134.out 1).trans rfl,(blk_cell BK134.out 2).trans rfl⟩ (fun hHeld => ?_)
         clear hK K
         refine norm_ (a' := ?_) ?_ ?_
         rotate_left
         ·show Act.put _ (some 70) _ = _
          simp only [Act.put,List.setIfInBounds_toArray,List.set_cons_zero,List.set_cons_succ,i64_w,i32_w]
          rfl
         refine pure_ (i := 9) (N := some 71) (v := ?_) (a' := ?_) #[true,true,true,true,true,true,true,true,true,true,false] rfl rfl (any_of HT_.out (by kernel_rfl)) (fun _ _ _ h => h) (Or.inl ⟨by rfl,?_⟩) ?_ ?_
         rotate_left
         ·intro w'
          go_simp
          with_reducible rfl
         rotate_left
         ·simp only [Act.put,List.setIfInBounds_toArray,List.set_cons_zero,List.set_cons_succ,i64_w,i32_w]
          rfl
         refine pure_ (i := 10) (N := some 72) (v := ?_) (a' := ?_) #[true,true,true,true,true,true,true,true,true,true,true] rfl rfl (any_of HT_.out (by kernel_rfl)) (fun _ _ _ h => h) (Or.inl ⟨by rfl,?_⟩) ?_ ?_
         rotate_left
         ·intro w'
          go_simp
          with_reducible rfl
         rotate_left
         ·simp only [Act.put,List.setIfInBounds_toArray,List.set_cons_zero,List.set_cons_succ,i64_w,i32_w]
          rfl
         refine done_ (done_of HT_.out (by kernel_rfl)) ?_
         try go_wp2
         go_ret2
         exact ⟨by first | rfl | (simp [errW_none,errW_some] <;> rfl) | (simp [*,errW_none,errW_some] <;> rfl),by repeat (first | (with_reducible first | exact HB.out | apply below_alloc | apply pw_below_drewN | apply below_drew1 | refine below_set ?_ GE133.out | refine below_set ?_ GE134.out) | exact HB.out)⟩
        ·rw [if_neg c41] at H
         have c41b0 : decide (t135 ≤ a1_0) = false := decide_eq_false c41
         clear c41
         simp only [Option.some.injEq,Prod.mk.injEq] at H
         obtain ⟨rfl,rfl⟩ := H
         have hnb45 := NB133_134.out
         have hnc45 := NB134_133.out
         have hcz46_0 : wc.cell? ⟨gb133,0,none⟩ = some (.int .i64 a0_0) := (blk_cell BK133.out 0).trans rfl
         have hcz46_1 : wc.cell? ⟨gb133,1,none⟩ = some (.int .i64 a0_1) := (blk_cell BK133.out 1).trans rfl
         have hcz46_2 : wc.cell? ⟨gb133,2,none⟩ = some (.int .i64 a0_2) := (blk_cell BK133.out 2).trans rfl
         have hcz46_3 : wc.cell? ⟨gb133,3,none⟩ = some (.int .i64 a0_3) := (blk_cell BK133.out 3).trans rfl
         have hcz46_4 : wc.cell? ⟨gb133,4,none⟩ = some (.int .i64 a0_4) := (blk_cell BK133.out 4).trans rfl
         have hcz46_5 : wc.cell? ⟨gb133,5,none⟩ = some (.slice A0_5 l0_5.length c0_5) := (blk_cell BK133.out 5).trans rfl
         have hfz46_0 := blk_frozen BK133.out 0
         have hfz46_1 := blk_frozen BK133.out 1
         have hfz46_2 := blk_frozen BK133.out 2
         have hfz46_3 := blk_frozen BK133.out 3
         have hfz46_4 := blk_frozen BK133.out 4
         have hfz46_5 := blk_frozen BK133.out 5
         try go_wp2
         have n0_ := Aside0.mk (blk_drew BK133.out)
         have n1_ := Aside0.mk (blk_drew BK134.out)
         have n2_ := Aside0.mk (below_drew1 HB.out)
         clear BK133
         clear BK134
         clear HB
         have BK133 := n0_
         have BK134 := n1_
         have HB := n2_
         clear n0_ n1_ n2_
         refine start_ (n := 11) (S := fun w' => w'.cell? ⟨gb133,0,none⟩ = some (.int .i64 a0_0) ∧ w'.cell? ⟨gb133,1,none⟩ = some (.int .i64 a0_1) ∧ w'.cell? ⟨gb133,2,none⟩ = some (.int .i64 a0_2) ∧ w'.cell? ⟨gb133,3,none⟩ = some (.int .i64 a0_3) ∧ w'.cell? ⟨gb133,4,none⟩ = some (.int .i64 a0_4) ∧ w'.cell? ⟨gb133,5,none⟩ = some (.slice A0_5 l0_5.length c0_5) ∧ w'.cell? ⟨gb134,0,none⟩ = some (.int .u64 a1_0) ∧ w'.cell? ⟨gb134,1,none⟩ = some (.slice A1_1 l1_1.length c1_1) ∧ w'.cell? ⟨gb134,2,none⟩ = some (.slice A1_2 l1_2.length c1_2)) (ds := []) #[false,false,false,false,false,false,false,false,false,false,false] (by kernel_rfl) rfl rfl ⟨(blk_cell BK133.out 0).trans rfl,(blk_cell BK133.out 1).trans rfl,(blk_cell BK133.out 2).trans rfl,(blk_cell BK133.out 3).trans rfl,(blk_cell BK133.out 4).trans rfl,(blk_cell BK133.out 5).trans rfl,(blk_cell BK134.out 0).trans rfl,(blk_cell BK134.out 1).trans rfl,(blk_cell BK134.out 2).trans rfl⟩ (fun hHeld => ?_);refine with_tabW passepartoutref05_fit.tab7 passepartoutref05_fit.bits7 (fun HT_ HW_ => ?_)
         generalize wc.drew = w47 at BK133 BK134 HB hHeld ⊢
         refine pure_ (i := 0) (N := some 62) (v := ?_) (a' := ?_) #[true,false,false,false,false,false,false,false,false,false,false] rfl rfl (any_of HT_.out (by kernel_rfl)) (fun _ _ _ h => h) (Or.inl ⟨by rfl,?_⟩) ?_ ?_
         rotate_left
         ·intro w'
          go_simp
          with_reducible rfl
         rotate_left
         ·simp only [Act.put,List.setIfInBounds_toArray,List.set_cons_zero,List.set_cons_succ,i64_w,i32_w]
          rfl
         refine take_ (i := 1) (N := some 63) (v := ?_) (a' := ?_) #[true,true,false,false,false,false,false,false,false,false,false] rfl rfl (take_ofW HT_.out HW_.out (by kernel_rfl)) (fun _ _ _ h => h) (Or.inl ⟨by rfl,?_⟩) hHeld ?_ ?_
         rotate_left
         ·rintro w' ⟨s0,s1,s2,s3,s4,s5,s6,s7,s8⟩
          go_simp
          with_reducible rfl
         rotate_left
         ·simp only [Act.put,List.setIfInBounds_toArray,List.set_cons_zero,List.set_cons_succ,i64_w,i32_w]
          rfl
         refine pure_ (i := 2) (N := some 64) (v := ?_) (a' := ?_) #[true,true,true,false,false,false,false,false,false,false,false] rfl rfl (any_of HT_.out (by kernel_rfl)) (fun _ _ _ h => h) (Or.inl ⟨by rfl,?_⟩) ?_ ?_
         rotate_left
         ·intro w'
          go_simp
          with_reducible rfl
         rotate_left
         ·simp only [Act.put,List.setIfInBounds_toArray,List.set_cons_zero,List.set_cons_succ,i64_w,i32_w]
          rfl
         refine pure_ (i := 3) (N := some 65) (v := ?_) (a' := ?_) #[true,true,true,true,false,false,false,false,false,false,false] rfl rfl (any_of HT_.out (by kernel_rfl)) (fun _ _ _ h => h) (Or.inl ⟨by rfl,?_⟩) ?_ ?_
         rotate_left
         ·intro w'
          go_simp
          with_reducible rfl
         rotate_left
         ·simp only [Act.put,List.setIfInBounds_toArray,List.set_cons_zero,List.set_cons_succ,i64_w,i32_w]
          rfl
         refine pure_ (i := 4) (N := some 66) (v := ?_) (a' := ?_) #[true,true,true,true,true,false,false,false,false,false,false] rfl rfl (any_of HT_.out (by kernel_rfl)) (fun _ _ _ h => h) (Or.inl ⟨by rfl,?_⟩) ?_ ?_
         rotate_left
         ·intro w'
          go_simp
          with_reducible rfl
         rotate_left
         ·simp only [Act.put,List.setIfInBounds_toArray,List.set_cons_zero,List.set_cons_succ,i64_w,i32_w]
          rfl
         refine pure_ (i := 6) (N := some 68) (v := ?_) (a' := ?_) #[true,true,true,true,true,false,true,false,false,false,false] rfl rfl (any_of HT_.out (by kernel_rfl)) (fun _ _ _ h => h) (Or.inl ⟨by rfl,?_⟩) ?_ ?_
         rotate_left
         ·intro w'
          go_simp
          with_reducible rfl
         rotate_left
         ·simp only [Act.put,List.setIfInBounds_toArray,List.set_cons_zero,List.set_cons_succ,i64_w,i32_w]
          rfl
         refine take_ (i := 5) (N := some 67) (v := ?_) (a' := ?_) #[true,true,true,true,true,true,true,false,false,false,false] rfl rfl (take_ofW HT_.out HW_.out (by kernel_rfl)) (fun _ _ _ h => h) (Or.inl ⟨by rfl,?_⟩) hHeld ?_ ?_
         rotate_left
         ·rintro w' ⟨s0,s1,s2,s3,s4,s5,s6,s7,s8⟩
          go_simp
          with_reducible rfl
         rotate_left
         ·simp only [Act.put,List.setIfInBounds_toArray,List.set_cons_zero,List.set_cons_succ,i64_w,i32_w]
          rfl
         refine take_ (i := 7) (N := some 69) (v := ?_) (a' := ?_) #[true,true,true,true,true,true,true,true,false,false,false] rfl rfl (take_ofW HT_.out HW_.out (by kernel_rfl)) (fun _ _ _ h => h) (Or.inl ⟨by rfl,?_⟩) hHeld ?_ ?_
         rotate_left
         ·rintro w' ⟨s0,s1,s2,s3,s4,s5,s6,s7,s8⟩
          go_simp
          with_reducible rfl
         rotate_left
         ·simp only [Act.put,List.setIfInBounds_toArray,List.set_cons_zero,List.set_cons_succ,i64_w,i32_w]
          rfl
         refine one_ (i := 8) (N := some 70) #[true,true,true,true,true,true,true,true,true,false,false] rfl rfl (one_of HT_.out (by kernel_rfl)) (by decide) (fun K hK => ?_)
         refine goes_ Tryd.func44 (by kernel_rfl) rfl #[.int .i64 a0_1] (by rfl) rfl rfl (by (try simp only [List.map_toArray,List.map_cons,List.map_nil]);first | done | rfl | (simp only [List.length_drop,List.length_take];rfl)) ?_
         with_reducible refine (passepartoutref05_power.calls kj15 a0_1 t135 _ A40.out).mono ?_
         rintro e w' ⟨rfl,⟨nd,rfl⟩⟩
         refine ⟨_,rfl,?_⟩
         refine hK.out _ _ ⟨(blk_cell BK133.out 0).trans rfl,(blk_cell BK133.out 1).trans rfl,(blk_cell BK133.out 2).trans rfl,(blk_cell BK133.out 3).trans rfl,(blk_cell BK133.out 4).trans rfl,(blk_cell BK133.out 5).trans rfl,(blk_cell BK134.out 0).trans rfl,(blk_cell BK134.out 1).trans rfl,(blk_cell BK134.out 2).trans rfl⟩ (fun hHeld => ?_)
         clear hK K
         refine norm_ (a' := ?_) ?_ ?_
         rotate_left
         ·show Act.put _ (some 70) _ = _
          simp only [Act.put,List.setIfInBounds_toArray,List.set_cons_zero,List.set_cons_succ,i64_w,i32_w]
          rfl
         refine pure_ (i := 9) (N := some 71) (v := ?_) (a' := ?_) #[true,true,true,true,true,true,true,true,true,true,false] rfl rfl (any_of HT_.out (by kernel_rfl)) (fun _ _ _ h => h) (Or.inl ⟨by rfl,?_⟩) ?_ ?_
         rotate_left
         ·intro w'
          go_simp
          with_reducible rfl
         rotate_left
         ·simp only [Act.put,List.setIfInBounds_toArray,List.set_cons_zero,List.set_cons_succ,i64_w,i32_w]
          rfl
         refine pure_ (i := 10) (N := some 72) (v := ?_) (a' := ?_) #[true,true,true,true,true,true,true,true,true,true,true] rfl rfl (any_of HT_.out (by kernel_rfl)) (fun _ _ _ h => h) (Or.inl ⟨by rfl,?_⟩) ?_ ?_
         rotate_left
         ·intro w'
          go_simp
          with_reducible rfl
         rotate_left
         ·simp only [Act.put,List.setIfInBounds_toArray,List.set_cons_zero,List.set_cons_succ,i64_w,i32_w]
          rfl
         refine done_ (done_of HT_.out (by kernel_rfl)) ?_
         have hcz48_0 : w47.cell? ⟨gb133,0,none⟩ = some (.int .i64 a0_0) := (blk_cell BK133.out 0).trans rfl
         have hcz48_1 : w47.cell? ⟨gb133,1,none⟩ = some (.int .i64 a0_1) := (blk_cell BK133.out 1).trans rfl
         have hcz48_2 : w47.cell? ⟨gb133,2,none⟩ = some (.int .i64 a0_2) := (blk_cell BK133.out 2).trans rfl
         have hcz48_3 : w47.cell? ⟨gb133,3,none⟩ = some (.int .i64 a0_3) := (blk_cell BK133.out 3).trans rfl
         have hcz48_4 : w47.cell? ⟨gb133,4,none⟩ = some (.int .i64 a0_4) := (blk_cell BK133.out 4).trans rfl
         have hcz48_5 : w47.cell? ⟨gb133,5,none⟩ = some (.slice A0_5 l0_5.length c0_5) := (blk_cell BK133.out 5).trans rfl
         have hfz48_0 := blk_frozen BK133.out 0
         have hfz48_1 := blk_frozen BK133.out 1
         have hfz48_2 := blk_frozen BK133.out 2
         have hfz48_3 := blk_frozen BK133.out 3
         have hfz48_4 := blk_frozen BK133.out 4
         have hfz48_5 := blk_frozen BK133.out 5
         try go_wp2
         go_ret2
         exact ⟨by first | rfl | (simp [errW_none,errW_some] <;> rfl) | (simp [*,errW_none,errW_some] <;> rfl),by repeat (first | (with_reducible first | exact HB.out | apply below_alloc | apply pw_below_drewN | apply below_drew1 | refine below_set ?_ GE133.out | refine below_set ?_ GE134.out) | exact HB.out)⟩
       ·rw [if_neg c39] at H
        have c39b0 : decide (a0_1 < 8) = false := decide_eq_false c39
        clear c39
        simp only [Option.some.injEq,Prod.mk.injEq] at H
        obtain ⟨rfl,rfl⟩ := H
        have hnb49 := NB133_134.out
        have hnc49 := NB134_133.out
        have hcz50_0 : wc.cell? ⟨gb133,0,none⟩ = some (.int .i64 a0_0) := (blk_cell BK133.out 0).trans rfl
        have hcz50_1 : wc.cell? ⟨gb133,1,none⟩ = some (.int .i64 a0_1) := (blk_cell BK133.out 1).trans rfl
        have hcz50_2 : wc.cell? ⟨gb133,2,none⟩ = some (.int .i64 a0_2) := (blk_cell BK133.out 2).trans rfl
        have hcz50_3 : wc.cell? ⟨gb133,3,none⟩ = some (.int .i64 a0_3) := (blk_cell BK133.out 3).trans rfl
        have hcz50_4 : wc.cell? ⟨gb133,4,none⟩ = some (.int .i64 a0_4) := (blk_cell BK133.out 4).trans rfl
        have hcz50_5 : wc.cell? ⟨gb133,5,none⟩ = some (.slice A0_5 l0_5.length c0_5) := (blk_cell BK133.out 5).trans rfl
        have hfz50_0 := blk_frozen BK133.out 0
        have hfz50_1 := blk_frozen BK133.out 1
        have hfz50_2 := blk_frozen BK133.out 2
        have hfz50_3 := blk_frozen BK133.out 3
        have hfz50_4 := blk_frozen BK133.out 4
        have hfz50_5 := blk_frozen BK133.out 5
        try go_wp2
        have n0_ := Aside0.mk (blk_drew BK133.out)
        have n1_ := Aside0.mk (blk_drew BK134.out)
        have n2_ := Aside0.mk (below_drew1 HB.out)
        clear BK133
        clear BK134
        clear HB
        have BK133 := n0_
        have BK134 := n1_
        have HB := n2_
        clear n0_ n1_ n2_
        refine start_ (n := 11) (S := fun w' => w'.cell? ⟨gb133,0,none⟩ = some (.int .i64 a0_0) ∧ w'.cell? ⟨gb133,1,none⟩ = some (.int .i64 a0_1) ∧ w'.cell? ⟨gb133,2,none⟩ = some (.int .i64 a0_2) ∧ w'.cell? ⟨gb133,3,none⟩ = some (.int .i64 a0_3) ∧ w'.cell? ⟨gb133,4,none⟩ = some (.int .i64 a0_4) ∧ w'.cell? ⟨gb133,5,none⟩ = some (.slice A0_5 l0_5.length c0_5)) (ds := []) #[false,false,false,false,false,false,false,false,false,false,false] (by kernel_rfl) rfl rfl ⟨(blk_cell BK133.out 0).trans rfl,(blk_cell BK133.out 1).trans rfl,(blk_cell BK133.out 2).trans rfl,(blk_cell BK133.out 3).trans rfl,(blk_cell BK133.out 4).trans rfl,(blk_cell BK133.out 5).trans rfl⟩ (fun hHeld => ?_);refine with_tabW passepartoutref05_fit.tab7 passepartoutref05_fit.bits7 (fun HT_ HW_ => ?_)
        generalize wc.drew = w51 at BK133 BK134 HB hHeld ⊢
        refine pure_ (i := 0) (N := some 62) (v := ?_) (a' := ?_) #[true,false,false,false,false,false,false,false,false,false,false] rfl rfl (any_of HT_.out (by kernel_rfl)) (fun _ _ _ h => h) (Or.inl ⟨by rfl,?_⟩) ?_ ?_
        rotate_left
        ·intro w'
         go_simp
         with_reducible rfl
        rotate_left
        ·simp only [Act.put,List.setIfInBounds_toArray,List.set_cons_zero,List.set_cons_succ,i64_w,i32_w]
         rfl
        refine take_ (i := 1) (N := some 63) (v := ?_) (a' := ?_) #[true,true,false,false,false,false,false,false,false,false,false] rfl rfl (take_ofW HT_.out HW_.out (by kernel_rfl)) (fun _ _ _ h => h) (Or.inl ⟨by rfl,?_⟩) hHeld ?_ ?_
        rotate_left
        ·rintro w' ⟨s0,s1,s2,s3,s4,s5⟩
         go_simp
         with_reducible rfl
        rotate_left
        ·simp only [Act.put,List.setIfInBounds_toArray,List.set_cons_zero,List.set_cons_succ,i64_w,i32_w]
         rfl
        refine pure_ (i := 2) (N := some 64) (v := ?_) (a' := ?_) #[true,true,true,false,false,false,false,false,false,false,false] rfl rfl (any_of HT_.out (by kernel_rfl)) (fun _ _ _ h => h) (Or.inl ⟨by rfl,?_⟩) ?_ ?_
        rotate_left
        ·intro w'
         go_simp
         with_reducible rfl
        rotate_left
        ·simp only [Act.put,List.setIfInBounds_toArray,List.set_cons_zero,List.set_cons_succ,i64_w,i32_w]
         rfl
        refine pure_ (i := 3) (N := some 65) (v := ?_) (a' := ?_) #[true,true,true,true,false,false,false,false,false,false,false] rfl rfl (any_of HT_.out (by kernel_rfl)) (fun _ _ _ h => h) (Or.inl ⟨by rfl,?_⟩) ?_ ?_
        rotate_left
        ·intro w'
         go_simp
         with_reducible rfl
        rotate_left
        ·simp only [Act.put,List.setIfInBounds_toArray,List.set_cons_zero,List.set_cons_succ,i64_w,i32_w]
         rfl
        refine pure_ (i := 4) (N := some 66) (v := undef) (a' := ?_) #[true,true,true,true,true,false,false,false,false,false,false] rfl rfl (any_of HT_.out (by kernel_rfl)) (fun _ _ _ h => h) (Or.inr ⟨by rfl,rfl⟩) ?_ ?_
        rotate_left
        ·simp only [Act.put,List.setIfInBounds_toArray,List.set_cons_zero,List.set_cons_succ,i64_w,i32_w]
         rfl
        refine pure_ (i := 5) (N := some 67) (v := undef) (a' := ?_) #[true,true,true,true,true,true,false,false,false,false,false] rfl rfl (any_of HT_.out (by kernel_rfl)) (fun _ _ _ h => h) (Or.inr ⟨by rfl,rfl⟩) ?_ ?_
        rotate_left
        ·simp only [Act.put,List.setIfInBounds_toArray,List.set_cons_zero,List.set_cons_succ,i64_w,i32_w]
         rfl
        refine pure_ (i := 6) (N := some 68) (v := undef) (a' := ?_) #[true,true,true,true,true,true,true,false,false,false,false] rfl rfl (any_of HT_.out (by kernel_rfl)) (fun _ _ _ h => h) (Or.inr ⟨by rfl,rfl⟩) ?_ ?_
        rotate_left
        ·simp only [Act.put,List.setIfInBounds_toArray,List.set_cons_zero,List.set_cons_succ,i64_w,i32_w]
         rfl
        refine pure_ (i := 7) (N := some 69) (v := undef) (a' := ?_) #[true,true,true,true,true,true,true,true,false,false,false] rfl rfl (any_of HT_.out (by kernel_rfl)) (fun _ _ _ h => h) (Or.inr ⟨by rfl,rfl⟩) ?_ ?_
        rotate_left
        ·simp only [Act.put,List.setIfInBounds_toArray,List.set_cons_zero,List.set_cons_succ,i64_w,i32_w]
         rfl
        refine pure_ (i := 8) (N := some 70) (v := undef) (a' := ?_) #[true,true,true,true,true,true,true,true,true,false,false] rfl rfl (any_of HT_.out (by kernel_rfl)) (fun _ _ _ h => h) (Or.inr ⟨by rfl,rfl⟩) ?_ ?_
        rotate_left
        ·simp only [Act.put,List.setIfInBounds_toArray,List.set_cons_zero,List.set_cons_succ,i64_w,i32_w]
         rfl
        refine pure_ (i := 9) (N := some 71) (v := undef) (a' := ?_) #[true,true,true,true,true,true,true,true,true,true,false] rfl rfl (any_of HT_.out (by kernel_rfl)) (fun _ _ _ h => h) (Or.inr ⟨by rfl,rfl⟩) ?_ ?_
        rotate_left
        ·simp only [Act.put,List.setIfInBounds_toArray,List.set_cons_zero,List.set_cons_succ,i64_w,i32_w]
         rfl
        refine pure_ (i := 10) (N := some 72) (v := ?_) (a' := ?_) #[true,true,true,true,true,true,true,true,true,true,true] rfl rfl (any_of HT_.out (by kernel_rfl)) (fun _ _ _ h => h) (Or.inl ⟨by rfl,?_⟩) ?_ ?_
        rotate_left
        ·intro w'
         go_simp
         with_reducible rfl
        rotate_left
        ·simp only [Act.put,List.setIfInBounds_toArray,List.set_cons_zero,List.set_cons_succ,i64_w,i32_w]
         rfl
        refine done_ (done_of HT_.out (by kernel_rfl)) ?_
        have hcz52_0 : w51.cell? ⟨gb133,0,none⟩ = some (.int .i64 a0_0) := (blk_cell BK133.out 0).trans rfl
        have hcz52_1 : w51.cell? ⟨gb133,1,none⟩ = some (.int .i64 a0_1) := (blk_cell BK133.out 1).trans rfl
        have hcz52_2 : w51.cell? ⟨gb133,2,none⟩ = some (.int .i64 a0_2) := (blk_cell BK133.out 2).trans rfl
        have hcz52_3 : w51.cell? ⟨gb133,3,none⟩ = some (.int .i64 a0_3) := (blk_cell BK133.out 3).trans rfl
        have hcz52_4 : w51.cell? ⟨gb133,4,none⟩ = some (.int .i64 a0_4) := (blk_cell BK133.out 4).trans rfl
        have hcz52_5 : w51.cell? ⟨gb133,5,none⟩ = some (.slice A0_5 l0_5.length c0_5) := (blk_cell BK133.out 5).trans rfl
        have hfz52_0 := blk_frozen BK133.out 0
        have hfz52_1 := blk_frozen BK133.out 1
        have hfz52_2 := blk_frozen BK133.out 2
        have hfz52_3 := blk_frozen BK133.out 3
        have hfz52_4 := blk_frozen BK133.out 4
        have hfz52_5 := blk_frozen BK133.out 5
        try go_wp2
        go_ret2
        exact ⟨by first | rfl | (simp [errW_none,errW_some] <;> rfl) | (simp [*,errW_none,errW_some] <;> rfl),by repeat (first | (with_reducible first | exact HB.out | apply below_alloc | apply pw_below_drewN | apply below_drew1 | refine below_set ?_ GE133.out | refine below_set ?_ GE134.out) | exact HB.out)⟩
      ·rw [if_neg c38] at H
       have c38b0 : (a0_0 == 0) = false := beq_eq_false_iff_ne.mpr c38
       have c38b1 : (a0_0 != 0) = true := bne_iff_ne.mpr c38
       by_cases c53 : a0_0 = 1
       ·rw [if_pos c53] at H
        have c53b0 : (a0_0 == 1) = true := beq_iff_eq.mpr c53
        have c53b1 : (a0_0 != 1) = false := bne_eq_false_iff_eq.mpr c53
        clear c53
        replace H := Option.bind_eq_some_iff.mp H
        obtain ⟨t136,A540,H⟩ := H
        replace H : (if t136 = true then (some (wrap64 (a0_1 + (l1_1.length : Int)),0)) else (some (0,5))) = some (r1,r2) := H
        have A54 := Aside0.mk A540
        clear A540
        by_cases c55 : t136 = true
        ·subst c55
         have H1 : (some (wrap64 (a0_1 + (l1_1.length : Int)),0)) = some (r1,r2) := by rw [if_pos rfl] at H;exact H
         clear H
         have H := H1
         clear H1
         simp only [Option.some.injEq,Prod.mk.injEq] at H
         obtain ⟨rfl,rfl⟩ := H
         have hnb56 := NB133_134.out
         have hnc56 := NB134_133.out
         have hcz57_0 : wc.cell? ⟨gb133,0,none⟩ = some (.int .i64 a0_0) := (blk_cell BK133.out 0).trans rfl
         have hcz57_1 : wc.cell? ⟨gb133,1,none⟩ = some (.int .i64 a0_1) := (blk_cell BK133.out 1).trans rfl
         have hcz57_2 : wc.cell? ⟨gb133,2,none⟩ = some (.int .i64 a0_2) := (blk_cell BK133.out 2).trans rfl
         have hcz57_3 : wc.cell? ⟨gb133,3,none⟩ = some (.int .i64 a0_3) := (blk_cell BK133.out 3).trans rfl
         have hcz57_4 : wc.cell? ⟨gb133,4,none⟩ = some (.int .i64 a0_4) := (blk_cell BK133.out 4).trans rfl
         have hcz57_5 : wc.cell? ⟨gb133,5,none⟩ = some (.slice A0_5 l0_5.length c0_5) := (blk_cell BK133.out 5).trans rfl
         have hfz57_0 := blk_frozen BK133.out 0
         have hfz57_1 := blk_frozen BK133.out 1
         have hfz57_2 := blk_frozen BK133.out 2
         have hfz57_3 := blk_frozen BK133.out 3
         have hfz57_4 := blk_frozen BK133.out 4
         have hfz57_5 := blk_frozen BK133.out 5
         have hcz58_0 : wc.cell? ⟨gb134,0,none⟩ = some (.int .u64 a1_0) := (blk_cell BK134.out 0).trans rfl
         have hcz58_1 : wc.cell? ⟨gb134,1,none⟩ = some (.slice A1_1 l1_1.length c1_1) := (blk_cell BK134.out 1).trans rfl
         have hcz58_2 : wc.cell? ⟨gb134,2,none⟩ = some (.slice A1_2 l1_2.length c1_2) := (blk_cell BK134.out 2).trans rfl
         have hfz58_0 := blk_frozen BK134.out 0
         have hfz58_1 := blk_frozen BK134.out 1
         have hfz58_2 := blk_frozen BK134.out 2
         go_wp2_with (first | ((with_reducible refine gate_callee (f := 45) rfl ?_);refine goesL_ (some 86) rfl rfl Tryd.func45 (by kernel_rfl) rfl #[.int .i64 (l1_1.length : Int),.int .i64 a0_2,.int .i64 a0_3,.int .i64 a0_4] rfl (by (try simp only [List.map_toArray,List.map_cons,List.map_nil]);first | done | rfl | (simp only [List.length_drop,List.length_take];rfl)) ?_;(with_reducible refine (passepartoutref05_between.calls (l1_1.length : Int) a0_2 a0_3 a0_4 true _ A54.out).mono ?_);rintro e w' ⟨rfl,⟨nd,rfl⟩⟩;refine ⟨_,rfl,?_⟩))
         go_ret2
         exact ⟨by first | rfl | (simp [errW_none,errW_some] <;> rfl) | (simp [*,errW_none,errW_some] <;> rfl),by repeat (first | (with_reducible first | exact HB.out | apply below_alloc | apply pw_below_drewN | apply below_drew1 | refine below_set ?_ GE133.out | refine below_set ?_ GE134.out) | exact HB.out)⟩
        ·replace c55 := Bool.eq_false_iff.mpr c55
         subst c55
         have H1 : (some (0,5)) = some (r1,r2) := by rw [if_neg (show ¬ (false = true) by decide)] at H;exact H
         clear H
         have H := H1
         clear H1
         simp only [Option.some.injEq,Prod.mk.injEq] at H
         obtain ⟨rfl,rfl⟩ := H
         have hnb59 := NB133_134.out
         have hnc59 := NB134_133.out
         have hcz60_0 : wc.cell? ⟨gb133,0,none⟩ = some (.int .i64 a0_0) := (blk_cell BK133.out 0).trans rfl
         have hcz60_1 : wc.cell? ⟨gb133,1,none⟩ = some (.int .i64 a0_1) := (blk_cell BK133.out 1).trans rfl
         have hcz60_2 : wc.cell? ⟨gb133,2,none⟩ = some (.int .i64 a0_2) := (blk_cell BK133.out 2).trans rfl
         have hcz60_3 : wc.cell? ⟨gb133,3,none⟩ = some (.int .i64 a0_3) := (blk_cell BK133.out 3).trans rfl
         have hcz60_4 : wc.cell? ⟨gb133,4,none⟩ = some (.int .i64 a0_4) := (blk_cell BK133.out 4).trans rfl
         have hcz60_5 : wc.cell? ⟨gb133,5,none⟩ = some (.slice A0_5 l0_5.length c0_5) := (blk_cell BK133.out 5).trans rfl
         have hfz60_0 := blk_frozen BK133.out 0
         have hfz60_1 := blk_frozen BK133.out 1
         have hfz60_2 := blk_frozen BK133.out 2
         have hfz60_3 := blk_frozen BK133.out 3
         have hfz60_4 := blk_frozen BK133.out 4
         have hfz60_5 := blk_frozen BK133.out 5
         have hcz61_0 : wc.cell? ⟨gb134,0,none⟩ = some (.int .u64 a1_0) := (blk_cell BK134.out 0).trans rfl
         have hcz61_1 : wc.cell? ⟨gb134,1,none⟩ = some (.slice A1_1 l1_1.length c1_1) := (blk_cell BK134.out 1).trans rfl
         have hcz61_2 : wc.cell? ⟨gb134,2,none⟩ = some (.slice A1_2 l1_2.length c1_2) := (blk_cell BK134.out 2).trans rfl
         have hfz61_0 := blk_frozen BK134.out 0
         have hfz61_1 := blk_frozen BK134.out 1
         have hfz61_2 := blk_frozen BK134.out 2
         go_wp2_with (first | ((with_reducible refine gate_callee (f := 45) rfl ?_);refine goesL_ (some 86) rfl rfl Tryd.func45 (by kernel_rfl) rfl #[.int .i64 (l1_1.length : Int),.int .i64 a0_2,.int .i64 a0_3,.int .i64 a0_4] rfl (by (try simp only [List.map_toArray,List.map_cons,List.map_nil]);first | done | rfl | (simp only [List.length_drop,List.length_take];rfl)) ?_;(with_reducible refine (passepartoutref05_between.calls (l1_1.length : Int) a0_2 a0_3 a0_4 false _ A54.out).mono ?_);rintro e w' ⟨rfl,⟨nd,rfl⟩⟩;refine ⟨_,rfl,?_⟩))
         go_ret2
         exact ⟨by first | rfl | (simp [errW_none,errW_some] <;> rfl) | (simp [*,errW_none,errW_some] <;> rfl),by repeat (first | (with_reducible first | exact HB.out | apply below_alloc | apply pw_below_drewN | apply below_drew1 | refine below_set ?_ GE133.out | refine below_set ?_ GE134.out) | exact HB.out)⟩
       ·rw [if_neg c53] at H
        have c53b0 : (a0_0 == 1) = false := beq_eq_false_iff_ne.mpr c53
        have c53b1 : (a0_0 != 1) = true := bne_iff_ne.mpr c53
        by_cases c62 : a0_0 = 4
        ·rw [if_pos c62] at H
         have c62b0 : (a0_0 == 4) = true := beq_iff_eq.mpr c62
         have c62b1 : (a0_0 != 4) = false := bne_eq_false_iff_eq.mpr c62
         clear c62
         replace H := Option.bind_eq_some_iff.mp H
         obtain ⟨t137,A630,H⟩ := H
         replace H : (if t137 = true then (some ((l1_1.length : Int),0)) else (some (0,5))) = some (r1,r2) := H
         have A63 := Aside0.mk A630
         clear A630
         by_cases c64 : t137 = true
         ·subst c64
          have H1 : (some ((l1_1.length : Int),0)) = some (r1,r2) := by rw [if_pos rfl] at H;exact H
          clear H
          have H := H1
          clear H1
          simp only [Option.some.injEq,Prod.mk.injEq] at H
          obtain ⟨rfl,rfl⟩ := H
          have hnb65 := NB133_134.out
          have hnc65 := NB134_133.out
          have hcz66_0 : wc.cell? ⟨gb133,0,none⟩ = some (.int .i64 a0_0) := (blk_cell BK133.out 0).trans rfl
          have hcz66_1 : wc.cell? ⟨gb133,1,none⟩ = some (.int .i64 a0_1) := (blk_cell BK133.out 1).trans rfl
          have hcz66_2 : wc.cell? ⟨gb133,2,none⟩ = some (.int .i64 a0_2) := (blk_cell BK133.out 2).trans rfl
          have hcz66_3 : wc.cell? ⟨gb133,3,none⟩ = some (.int .i64 a0_3) := (blk_cell BK133.out 3).trans rfl
          have hcz66_4 : wc.cell? ⟨gb133,4,none⟩ = some (.int .i64 a0_4) := (blk_cell BK133.out 4).trans rfl
          have hcz66_5 : wc.cell? ⟨gb133,5,none⟩ = some (.slice A0_5 l0_5.length c0_5) := (blk_cell BK133.out 5).trans rfl
          have hfz66_0 := blk_frozen BK133.out 0
          have hfz66_1 := blk_frozen BK133.out 1
          have hfz66_2 := blk_frozen BK133.out 2
          have hfz66_3 := blk_frozen BK133.out 3
          have hfz66_4 := blk_frozen BK133.out 4
          have hfz66_5 := blk_frozen BK133.out 5
          have hcz67_0 : wc.cell? ⟨gb134,0,none⟩ = some (.int .u64 a1_0) := (blk_cell BK134.out 0).trans rfl
          have hcz67_1 : wc.cell? ⟨gb134,1,none⟩ = some (.slice A1_1 l1_1.length c1_1) := (blk_cell BK134.out 1).trans rfl
          have hcz67_2 : wc.cell? ⟨gb134,2,none⟩ = some (.slice A1_2 l1_2.length c1_2) := (blk_cell BK134.out 2).trans rfl
          have hfz67_0 := blk_frozen BK134.out 0
          have hfz67_1 := blk_frozen BK134.out 1
          have hfz67_2 := blk_frozen BK134.out 2
          go_wp2_with (first | ((with_reducible refine gate_callee (f := 45) rfl ?_);refine goesL_ (some 103) rfl rfl Tryd.func45 (by kernel_rfl) rfl #[.int .i64 (l1_1.length : Int),.int .i64 a0_2,.int .i64 a0_3,.int .i64 1] rfl (by (try simp only [List.map_toArray,List.map_cons,List.map_nil]);first | done | rfl | (simp only [List.length_drop,List.length_take];rfl)) ?_;(with_reducible refine (passepartoutref05_between.calls (l1_1.length : Int) a0_2 a0_3 1 true _ A63.out).mono ?_);rintro e w' ⟨rfl,⟨nd,rfl⟩⟩;refine ⟨_,rfl,?_⟩))
          go_ret2
          exact ⟨by first | rfl | (simp [errW_none,errW_some] <;> rfl) | (simp [*,errW_none,errW_some] <;> rfl),by repeat (first | (with_reducible first | exact HB.out | apply below_alloc | apply pw_below_drewN | apply below_drew1 | refine below_set ?_ GE133.out | refine below_set ?_ GE134.out) | exact HB.out)⟩
         ·replace c64 := Bool.eq_false_iff.mpr c64
          subst c64
          have H1 : (some (0,5)) = some (r1,r2) := by rw [if_neg (show ¬ (false = true) by decide)] at H;exact H
          clear H
          have H := H1
          clear H1
          simp only [Option.some.injEq,Prod.mk.injEq] at H
          obtain ⟨rfl,rfl⟩ := H
          have hnb68 := NB133_134.out
          have hnc68 := NB134_133.out
          have hcz69_0 : wc.cell? ⟨gb133,0,none⟩ = some (.int .i64 a0_0) := (blk_cell BK133.out 0).trans rfl
          have hcz69_1 : wc.cell? ⟨gb133,1,none⟩ = some (.int .i64 a0_1) := (blk_cell BK133.out 1).trans rfl
          have hcz69_2 : wc.cell? ⟨gb133,2,none⟩ = some (.int .i64 a0_2) := (blk_cell BK133.out 2).trans rfl
          have hcz69_3 : wc.cell? ⟨gb133,3,none⟩ = some (.int .i64 a0_3) := (blk_cell BK133.out 3).trans rfl
          have hcz69_4 : wc.cell? ⟨gb133,4,none⟩ = some (.int .i64 a0_4) := (blk_cell BK133.out 4).trans rfl
          have hcz69_5 : wc.cell? ⟨gb133,5,none⟩ = some (.slice A0_5 l0_5.length c0_5) := (blk_cell BK133.out 5).trans rfl
          have hfz69_0 := blk_frozen BK133.out 0
          have hfz69_1 := blk_frozen BK133.out 1
          have hfz69_2 := blk_frozen BK133.out 2
          have hfz69_3 := blk_frozen BK133.out 3
          have hfz69_4 := blk_frozen BK133.out 4
          have hfz69_5 := blk_frozen BK133.out 5
          have hcz70_0 : wc.cell? ⟨gb134,0,none⟩ = some (.int .u64 a1_0) := (blk_cell BK134.out 0).trans rfl
          have hcz70_1 : wc.cell? ⟨gb134,1,none⟩ = some (.slice A1_1 l1_1.length c1_1) := (blk_cell BK134.out 1).trans rfl
          have hcz70_2 : wc.cell? ⟨gb134,2,none⟩ = some (.slice A1_2 l1_2.length c1_2) := (blk_cell BK134.out 2).trans rfl
          have hfz70_0 := blk_frozen BK134.out 0
          have hfz70_1 := blk_frozen BK134.out 1
          have hfz70_2 := blk_frozen BK134.out 2
          go_wp2_with (first | ((with_reducible refine gate_callee (f := 45) rfl ?_);refine goesL_ (some 103) rfl rfl Tryd.func45 (by kernel_rfl) rfl #[.int .i64 (l1_1.length : Int),.int .i64 a0_2,.int .i64 a0_3,.int .i64 1] rfl (by (try simp only [List.map_toArray,List.map_cons,List.map_nil]);first | done | rfl | (simp only [List.length_drop,List.length_take];rfl)) ?_;(with_reducible refine (passepartoutref05_between.calls (l1_1.length : Int) a0_2 a0_3 1 false _ A63.out).mono ?_);rintro e w' ⟨rfl,⟨nd,rfl⟩⟩;refine ⟨_,rfl,?_⟩))
          go_ret2
          exact ⟨by first | rfl | (simp [errW_none,errW_some] <;> rfl) | (simp [*,errW_none,errW_some] <;> rfl),by repeat (first | (with_reducible first | exact HB.out | apply below_alloc | apply pw_below_drewN | apply below_drew1 | refine below_set ?_ GE133.out | refine below_set ?_ GE134.out) | exact HB.out)⟩
        ·rw [if_neg c62] at H
         have c62b0 : (a0_0 == 4) = false := beq_eq_false_iff_ne.mpr c62
         have c62b1 : (a0_0 != 4) = true := bne_iff_ne.mpr c62
         by_cases c71 : a0_0 = 5
         ·rw [if_pos c71] at H
          have c71b0 : (a0_0 == 5) = true := beq_iff_eq.mpr c71
          have c71b1 : (a0_0 != 5) = false := bne_eq_false_iff_eq.mpr c71
          clear c71
          by_cases c72 : (l1_1.length : Int) = a0_2
          ·rw [if_pos c72] at H
           have c72b0 : ((l1_1.length : Int) == a0_2) = true := beq_iff_eq.mpr c72
           have c72b1 : ((l1_1.length : Int) != a0_2) = false := bne_eq_false_iff_eq.mpr c72
           clear c72
           simp only [Option.some.injEq,Prod.mk.injEq] at H
           obtain ⟨rfl,rfl⟩ := H
           have hnb73 := NB133_134.out
           have hnc73 := NB134_133.out
           have hcz74_0 : wc.cell? ⟨gb133,0,none⟩ = some (.int .i64 a0_0) := (blk_cell BK133.out 0).trans rfl
           have hcz74_1 : wc.cell? ⟨gb133,1,none⟩ = some (.int .i64 a0_1) := (blk_cell BK133.out 1).trans rfl
           have hcz74_2 : wc.cell? ⟨gb133,2,none⟩ = some (.int .i64 a0_2) := (blk_cell BK133.out 2).trans rfl
           have hcz74_3 : wc.cell? ⟨gb133,3,none⟩ = some (.int .i64 a0_3) := (blk_cell BK133.out 3).trans rfl
           have hcz74_4 : wc.cell? ⟨gb133,4,none⟩ = some (.int .i64 a0_4) := (blk_cell BK133.out 4).trans rfl
           have hcz74_5 : wc.cell? ⟨gb133,5,none⟩ = some (.slice A0_5 l0_5.length c0_5) := (blk_cell BK133.out 5).trans rfl
           have hfz74_0 := blk_frozen BK133.out 0
           have hfz74_1 := blk_frozen BK133.out 1
           have hfz74_2 := blk_frozen BK133.out 2
           have hfz74_3 := blk_frozen BK133.out 3
           have hfz74_4 := blk_frozen BK133.out 4
           have hfz74_5 := blk_frozen BK133.out 5
           have hcz75_0 : wc.cell? ⟨gb134,0,none⟩ = some (.int .u64 a1_0) := (blk_cell BK134.out 0).trans rfl
           have hcz75_1 : wc.cell? ⟨gb134,1,none⟩ = some (.slice A1_1 l1_1.length c1_1) := (blk_cell BK134.out 1).trans rfl
           have hcz75_2 : wc.cell? ⟨gb134,2,none⟩ = some (.slice A1_2 l1_2.length c1_2) := (blk_cell BK134.out 2).trans rfl
           have hfz75_0 := blk_frozen BK134.out 0
           have hfz75_1 := blk_frozen BK134.out 1
           have hfz75_2 := blk_frozen BK134.out 2
           go_wp2
           go_ret2
           exact ⟨by first | rfl | (simp [errW_none,errW_some] <;> rfl) | (simp [*,errW_none,errW_some] <;> rfl),by repeat (first | (with_reducible first | exact HB.out | apply below_alloc | apply pw_below_drewN | apply below_drew1 | refine below_set ?_ GE133.out | refine below_set ?_ GE134.out) | exact HB.out)⟩
          ·rw [if_neg c72] at H
           have c72b0 : ((l1_1.length : Int) == a0_2) = false := beq_eq_false_iff_ne.mpr c72
           have c72b1 : ((l1_1.length : Int) != a0_2) = true := bne_iff_ne.mpr c72
           simp only [Option.some.injEq,Prod.mk.injEq] at H
           obtain ⟨rfl,rfl⟩ := H
           have hnb76 := NB133_134.out
           have hnc76 := NB134_133.out
           have hcz77_0 : wc.cell? ⟨gb133,0,none⟩ = some (.int .i64 a0_0) := (blk_cell BK133.out 0).trans rfl
           have hcz77_1 : wc.cell? ⟨gb133,1,none⟩ = some (.int .i64 a0_1) := (blk_cell BK133.out 1).trans rfl
           have hcz77_2 : wc.cell? ⟨gb133,2,none⟩ = some (.int .i64 a0_2) := (blk_cell BK133.out 2).trans rfl
           have hcz77_3 : wc.cell? ⟨gb133,3,none⟩ = some (.int .i64 a0_3) := (blk_cell BK133.out 3).trans rfl
           have hcz77_4 : wc.cell? ⟨gb133,4,none⟩ = some (.int .i64 a0_4) := (blk_cell BK133.out 4).trans rfl
           have hcz77_5 : wc.cell? ⟨gb133,5,none⟩ = some (.slice A0_5 l0_5.length c0_5) := (blk_cell BK133.out 5).trans rfl
           have hfz77_0 := blk_frozen BK133.out 0
           have hfz77_1 := blk_frozen BK133.out 1
           have hfz77_2 := blk_frozen BK133.out 2
           have hfz77_3 := blk_frozen BK133.out 3
           have hfz77_4 := blk_frozen BK133.out 4
           have hfz77_5 := blk_frozen BK133.out 5
           have hcz78_0 : wc.cell? ⟨gb134,0,none⟩ = some (.int .u64 a1_0) := (blk_cell BK134.out 0).trans rfl
           have hcz78_1 : wc.cell? ⟨gb134,1,none⟩ = some (.slice A1_1 l1_1.length c1_1) := (blk_cell BK134.out 1).trans rfl
           have hcz78_2 : wc.cell? ⟨gb134,2,none⟩ = some (.slice A1_2 l1_2.length c1_2) := (blk_cell BK134.out 2).trans rfl
           have hfz78_0 := blk_frozen BK134.out 0
           have hfz78_1 := blk_frozen BK134.out 1
           have hfz78_2 := blk_frozen BK134.out 2
           go_wp2
           go_ret2
           exact ⟨by first | rfl | (simp [errW_none,errW_some] <;> rfl) | (simp [*,errW_none,errW_some] <;> rfl),by repeat (first | (with_reducible first | exact HB.out | apply below_alloc | apply pw_below_drewN | apply below_drew1 | refine below_set ?_ GE133.out | refine below_set ?_ GE134.out) | exact HB.out)⟩
         ·rw [if_neg c71] at H
          have c71b0 : (a0_0 == 5) = false := beq_eq_false_iff_ne.mpr c71
          have c71b1 : (a0_0 != 5) = true := bne_iff_ne.mpr c71
          have HC79 := Aside0.mk H
          clear H
          have hnb80 := NB133_134.out
          have hnc80 := NB134_133.out
          have hcz81_0 : wc.cell? ⟨gb133,0,none⟩ = some (.int .i64 a0_0) := (blk_cell BK133.out 0).trans rfl
          have hcz81_1 : wc.cell? ⟨gb133,1,none⟩ = some (.int .i64 a0_1) := (blk_cell BK133.out 1).trans rfl
          have hcz81_2 : wc.cell? ⟨gb133,2,none⟩ = some (.int .i64 a0_2) := (blk_cell BK133.out 2).trans rfl
          have hcz81_3 : wc.cell? ⟨gb133,3,none⟩ = some (.int .i64 a0_3) := (blk_cell BK133.out 3).trans rfl
          have hcz81_4 : wc.cell? ⟨gb133,4,none⟩ = some (.int .i64 a0_4) := (blk_cell BK133.out 4).trans rfl
          have hcz81_5 : wc.cell? ⟨gb133,5,none⟩ = some (.slice A0_5 l0_5.length c0_5) := (blk_cell BK133.out 5).trans rfl
          have hfz81_0 := blk_frozen BK133.out 0
          have hfz81_1 := blk_frozen BK133.out 1
          have hfz81_2 := blk_frozen BK133.out 2
          have hfz81_3 := blk_frozen BK133.out 3
          have hfz81_4 := blk_frozen BK133.out 4
          have hfz81_5 := blk_frozen BK133.out 5
          go_upto_region 22 with (fail)
          go_cut [129] (fun v129 wc => ∃ (kq : Nat) (x129_78 : Bool),v129 = .bool x129_78 ∧ Aside0 (passepartoutref05_fit.j2 kq x129_78 a0_0 a0_1 a0_2 a0_3 a0_4 l0_5 a1_0 l1_1 l1_2 = some (r1,r2)) ∧ Aside0 (kq ≤ kj15) ∧ Aside0 (wc.heap[gb133]? = some (.cells #[.int .i64 a0_0,.int .i64 a0_1,.int .i64 a0_2,.int .i64 a0_3,.int .i64 a0_4,(.slice A0_5 l0_5.length c0_5)] 24 (0,0))) ∧ Aside0 (wc.heap[gb134]? = some (.cells #[.int .u64 a1_0,(.slice A1_1 l1_1.length c1_1),(.slice A1_2 l1_2.length c1_2)] 31 (0,0))) ∧ Aside0 (Below w.heap.size w wc))
          case first =>
           have H := HC79.out
           clear HC79
           by_cases c82 : a0_0 = 3
           ·rw [if_pos c82] at H
            have c82b0 : (a0_0 == 3) = true := beq_iff_eq.mpr c82
            have c82b1 : (a0_0 != 3) = false := bne_eq_false_iff_eq.mpr c82
            clear c82
            (first | rw [c82b0] | (simp only [i64_w,i32_w];rw [c82b0]) | skip)
            have H' := Aside0.mk H
            clear H
            have hnb83 := NB133_134.out
            have hnc83 := NB134_133.out
            have hcz84_0 : wc.cell? ⟨gb133,0,none⟩ = some (.int .i64 a0_0) := (blk_cell BK133.out 0).trans rfl
            have hcz84_1 : wc.cell? ⟨gb133,1,none⟩ = some (.int .i64 a0_1) := (blk_cell BK133.out 1).trans rfl
            have hcz84_2 : wc.cell? ⟨gb133,2,none⟩ = some (.int .i64 a0_2) := (blk_cell BK133.out 2).trans rfl
            have hcz84_3 : wc.cell? ⟨gb133,3,none⟩ = some (.int .i64 a0_3) := (blk_cell BK133.out 3).trans rfl
            have hcz84_4 : wc.cell? ⟨gb133,4,none⟩ = some (.int .i64 a0_4) := (blk_cell BK133.out 4).trans rfl
            have hcz84_5 : wc.cell? ⟨gb133,5,none⟩ = some (.slice A0_5 l0_5.length c0_5) := (blk_cell BK133.out 5).trans rfl
            have hfz84_0 := blk_frozen BK133.out 0
            have hfz84_1 := blk_frozen BK133.out 1
            have hfz84_2 := blk_frozen BK133.out 2
            have hfz84_3 := blk_frozen BK133.out 3
            have hfz84_4 := blk_frozen BK133.out 4
            have hfz84_5 := blk_frozen BK133.out 5
            have hcz85_0 : wc.cell? ⟨gb134,0,none⟩ = some (.int .u64 a1_0) := (blk_cell BK134.out 0).trans rfl
            have hcz85_1 : wc.cell? ⟨gb134,1,none⟩ = some (.slice A1_1 l1_1.length c1_1) := (blk_cell BK134.out 1).trans rfl
            have hcz85_2 : wc.cell? ⟨gb134,2,none⟩ = some (.slice A1_2 l1_2.length c1_2) := (blk_cell BK134.out 2).trans rfl
            have hfz85_0 := blk_frozen BK134.out 0
            have hfz85_1 := blk_frozen BK134.out 1
            have hfz85_2 := blk_frozen BK134.out 2
            go_wp2
            go_meet
            case rel => exact ⟨_,(((l1_2.length : Int) != (l0_5.length : Int))),(by first | rfl | (simp;done) | (simp [*];done)),H',⟨by have := HJ2.out;have := HJ15.out;first | omega | exact Nat.le_refl _⟩,⟨by (with_reducible repeat (first | refine blk_drewN ?_ _ | refine blk_drew ?_ | refine blk_alloc ?_ _));exact BK133.out⟩,⟨by (with_reducible repeat (first | refine blk_drewN ?_ _ | refine blk_drew ?_ | refine blk_alloc ?_ _));exact BK134.out⟩,⟨by repeat (first | (with_reducible first | exact HB.out | apply below_alloc | apply pw_below_drewN | apply below_drew1 | refine below_set ?_ GE133.out | refine below_set ?_ GE134.out) | exact HB.out)⟩⟩
           ·rw [if_neg c82] at H
            have c82b0 : (a0_0 == 3) = false := beq_eq_false_iff_ne.mpr c82
            have c82b1 : (a0_0 != 3) = true := bne_iff_ne.mpr c82
            (first | rw [c82b0] | (simp only [i64_w,i32_w];rw [c82b0]) | skip)
            have H' := Aside0.mk H
            clear H
            have hnb86 := NB133_134.out
            have hnc86 := NB134_133.out
            have hcz87_0 : wc.cell? ⟨gb133,0,none⟩ = some (.int .i64 a0_0) := (blk_cell BK133.out 0).trans rfl
            have hcz87_1 : wc.cell? ⟨gb133,1,none⟩ = some (.int .i64 a0_1) := (blk_cell BK133.out 1).trans rfl
            have hcz87_2 : wc.cell? ⟨gb133,2,none⟩ = some (.int .i64 a0_2) := (blk_cell BK133.out 2).trans rfl
            have hcz87_3 : wc.cell? ⟨gb133,3,none⟩ = some (.int .i64 a0_3) := (blk_cell BK133.out 3).trans rfl
            have hcz87_4 : wc.cell? ⟨gb133,4,none⟩ = some (.int .i64 a0_4) := (blk_cell BK133.out 4).trans rfl
            have hcz87_5 : wc.cell? ⟨gb133,5,none⟩ = some (.slice A0_5 l0_5.length c0_5) := (blk_cell BK133.out 5).trans rfl
            have hfz87_0 := blk_frozen BK133.out 0
            have hfz87_1 := blk_frozen BK133.out 1
            have hfz87_2 := blk_frozen BK133.out 2
            have hfz87_3 := blk_frozen BK133.out 3
            have hfz87_4 := blk_frozen BK133.out 4
            have hfz87_5 := blk_frozen BK133.out 5
            go_wp2
            go_meet
            case rel => exact ⟨_,(false),(by first | rfl | (simp;done) | (simp [*];done)),H',⟨by have := HJ2.out;have := HJ15.out;first | omega | exact Nat.le_refl _⟩,⟨by (with_reducible repeat (first | refine blk_drewN ?_ _ | refine blk_drew ?_ | refine blk_alloc ?_ _));exact BK133.out⟩,⟨by (with_reducible repeat (first | refine blk_drewN ?_ _ | refine blk_drew ?_ | refine blk_alloc ?_ _));exact BK134.out⟩,⟨by repeat (first | (with_reducible first | exact HB.out | apply below_alloc | apply pw_below_drewN | apply below_drew1 | refine below_set ?_ GE133.out | refine below_set ?_ GE134.out) | exact HB.out)⟩⟩
          case rest =>
           clear HC79
           try clear c1
           try clear p2
           try clear c3
           try clear c4
           try clear c5
           try clear c6
           try clear p6
           try clear c7
           try clear c8
           try clear c38
           try clear c38b0
           try clear c38b1
           try clear c39
           try clear c39b0
           try clear c41
           try clear c41b0
           try clear c44
           try clear c45
           try clear c49
           try clear c53
           try clear c53b0
           try clear c53b1
           try clear c55
           try clear c56
           try clear c59
           try clear c62
           try clear c62b0
           try clear c62b1
           try clear c64
           try clear p64
           try clear c65
           try clear c68
           try clear c71
           try clear c71b0
           try clear c71b1
           try clear c72
           try clear c72b0
           try clear c72b1
           try clear c73
           try clear c76
           try clear c80
           try clear c82
           try clear c82b0
           try clear c82b1
           try clear c83
           try clear c86
           try clear hcz46_0
           try clear hcz46_1
           try clear hcz46_2
           try clear hcz46_3
           try clear hcz46_4
           try clear hcz46_5
           try clear hcz48_0
           try clear hcz48_1
           try clear hcz48_2
           try clear hcz48_3
           try clear hcz48_4
           try clear hcz48_5
           try clear hcz50_0
           try clear hcz50_1
           try clear hcz50_2
           try clear hcz50_3
           try clear hcz50_4
           try clear hcz50_5
           try clear hcz52_0
           try clear hcz52_1
           try clear hcz52_2
           try clear hcz52_3
           try clear hcz52_4
           try clear hcz52_5
           try clear hcz57_0
           try clear hcz57_1
           try clear hcz57_2
           try clear hcz57_3
           try clear hcz57_4
           try clear hcz57_5
           try clear hcz58_0
           try clear hcz58_1
           try clear hcz58_2
           try clear hcz60_0
           try clear hcz60_1
           try clear hcz60_2
           try clear hcz60_3
           try clear hcz60_4
           try clear hcz60_5
           try clear hcz61_0
           try clear hcz61_1
           try clear hcz61_2
           try clear hcz66_0
           try clear hcz66_1
           try clear hcz66_2
           try clear hcz66_3
           try clear hcz66_4
           try clear hcz66_5
           try clear hcz67_0
           try clear hcz67_1
           try clear hcz67_2
           try clear hcz69_0
           try clear hcz69_1
           try clear hcz69_2
           try clear hcz69_3
           try clear hcz69_4
           try clear hcz69_5
           try clear hcz70_0
           try clear hcz70_1
           try clear hcz70_2
           try clear hcz74_0
           try clear hcz74_1
           try clear hcz74_2
           try clear hcz74_3
           try clear hcz74_4
           try clear hcz74_5
           try clear hcz75_0
           try clear hcz75_1
           try clear hcz75_2
           try clear hcz77_0
           try clear hcz77_1
           try clear hcz77_2
           try clear hcz77_3
           try clear hcz77_4
           try clear hcz77_5
           try clear hcz78_0
           try clear hcz78_1
           try clear hcz78_2
           try clear hcz81_0
           try clear hcz81_1
           try clear hcz81_2
           try clear hcz81_3
           try clear hcz81_4
           try clear hcz81_5
           try clear hcz84_0
           try clear hcz84_1
           try clear hcz84_2
           try clear hcz84_3
           try clear hcz84_4
           try clear hcz84_5
           try clear hcz85_0
           try clear hcz85_1
           try clear hcz85_2
           try clear hcz87_0
           try clear hcz87_1
           try clear hcz87_2
           try clear hcz87_3
           try clear hcz87_4
           try clear hcz87_5
           try clear hfz46_0
           try clear hfz46_1
           try clear hfz46_2
           try clear hfz46_3
           try clear hfz46_4
           try clear hfz46_5
           try clear hfz48_0
           try clear hfz48_1
           try clear hfz48_2
           try clear hfz48_3
           try clear hfz48_4
           try clear hfz48_5
           try clear hfz50_0
           try clear hfz50_1
           try clear hfz50_2
           try clear hfz50_3
           try clear hfz50_4
           try clear hfz50_5
           try clear hfz52_0
           try clear hfz52_1
           try clear hfz52_2
           try clear hfz52_3
           try clear hfz52_4
           try clear hfz52_5
           try clear hfz57_0
           try clear hfz57_1
           try clear hfz57_2
           try clear hfz57_3
           try clear hfz57_4
           try clear hfz57_5
           try clear hfz58_0
           try clear hfz58_1
           try clear hfz58_2
           try clear hfz60_0
           try clear hfz60_1
           try clear hfz60_2
           try clear hfz60_3
           try clear hfz60_4
           try clear hfz60_5
           try clear hfz61_0
           try clear hfz61_1
           try clear hfz61_2
           try clear hfz66_0
           try clear hfz66_1
           try clear hfz66_2
           try clear hfz66_3
           try clear hfz66_4
           try clear hfz66_5
           try clear hfz67_0
           try clear hfz67_1
           try clear hfz67_2
           try clear hfz69_0
           try clear hfz69_1
           try clear hfz69_2
           try clear hfz69_3
           try clear hfz69_4
           try clear hfz69_5
           try clear hfz70_0
           try clear hfz70_1
           try clear hfz70_2
           try clear hfz74_0
           try clear hfz74_1
           try clear hfz74_2
           try clear hfz74_3
           try clear hfz74_4
           try clear hfz74_5
           try clear hfz75_0
           try clear hfz75_1
           try clear hfz75_2
           try clear hfz77_0
           try clear hfz77_1
           try clear hfz77_2
           try clear hfz77_3
           try clear hfz77_4
           try clear hfz77_5
           try clear hfz78_0
           try clear hfz78_1
           try clear hfz78_2
           try clear hfz81_0
           try clear hfz81_1
           try clear hfz81_2
           try clear hfz81_3
           try clear hfz81_4
           try clear hfz81_5
           try clear hfz84_0
           try clear hfz84_1
           try clear hfz84_2
           try clear hfz84_3
           try clear hfz84_4
           try clear hfz84_5
           try clear hfz85_0
           try clear hfz85_1
           try clear hfz85_2
           try clear hfz87_0
           try clear hfz87_1
           try clear hfz87_2
           try clear hfz87_3
           try clear hfz87_4
           try clear hfz87_5
           obtain ⟨kq,x129_78,rfl,HA,HJ78,BK133,BK134,HB⟩ := hcut
           cases kq with
           | zero => exact absurd HA.out (by simp [passepartoutref05_fit.j2])
           | succ kj78 =>
            have H := HA.out
            clear HA
            simp only [passepartoutref05_fit.j2] at H
            by_cases c88 : x129_78 = true
            ·subst c88
             have H1 : (some (0,15)) = some (r1,r2) := by rw [if_pos rfl] at H;exact H
             clear H
             have H := H1
             clear H1
             simp only [Option.some.injEq,Prod.mk.injEq] at H
             obtain ⟨rfl,rfl⟩ := H
             go_wp2
             go_ret2
             exact ⟨by first | rfl | (simp [errW_none,errW_some] <;> rfl) | (simp [*,errW_none,errW_some] <;> rfl),by repeat (first | (with_reducible first | exact HB.out | apply below_alloc | apply pw_below_drewN | apply below_drew1 | refine below_set ?_ GE133.out | refine below_set ?_ GE134.out) | exact HB.out)⟩
            ·replace c88 := Bool.eq_false_iff.mpr c88
             subst c88
             have H1 : (passepartoutref05_fit.l0 kj78 0 0 a0_0 a0_1 a0_2 a0_3 a0_4 l0_5 a1_0 l1_1 l1_2) = some (r1,r2) := by rw [if_neg (show ¬ (false = true) by decide)] at H;exact H
             clear H
             have H := H1
             clear H1
             have H' := Aside0.mk H
             clear H
             go_wp2
             go_loopg [8,9] kj78 (fun kq v8 v9 w' => ∃ (x8_4 : Int) (x9_4 : Int),v8 = .int .i64 x8_4 ∧ v9 = .int .i64 x9_4 ∧ Aside0 (passepartoutref05_fit.l0 kq x8_4 x9_4 a0_0 a0_1 a0_2 a0_3 a0_4 l0_5 a1_0 l1_1 l1_2 = some (r1,r2)) ∧ Aside0 (kq ≤ kj78) ∧ Aside0 (w'.heap[gb133]? = some (.cells #[.int .i64 a0_0,.int .i64 a0_1,.int .i64 a0_2,.int .i64 a0_3,.int .i64 a0_4,(.slice A0_5 l0_5.length c0_5)] 24 (0,0))) ∧ Aside0 (w'.heap[gb134]? = some (.cells #[.int .u64 a1_0,(.slice A1_1 l1_1.length c1_1),(.slice A1_2 l1_2.length c1_2)] 31 (0,0))) ∧ Aside0 (Below w.heap.size w w'))
             case atStart => exact ⟨(0),(0),(by first | rfl | (simp;done) | (simp [*];done)),(by first | rfl | (simp;done) | (simp [*];done)),H',⟨Nat.le_refl _⟩,⟨by (with_reducible repeat (first | refine blk_drewN ?_ _ | refine blk_drew ?_ | refine blk_alloc ?_ _));exact BK133.out⟩,⟨by (with_reducible repeat (first | refine blk_drewN ?_ _ | refine blk_drew ?_ | refine blk_alloc ?_ _));exact BK134.out⟩,⟨by repeat (first | (with_reducible first | exact HB.out | apply below_alloc | apply pw_below_drewN | apply below_drew1 | refine below_set ?_ GE133.out | refine below_set ?_ GE134.out) | exact HB.out)⟩⟩
             case round =>
              clear H'
              try clear c1
              try clear p2
              try clear c3
              try clear c4
              try clear c5
              try clear c6
              try clear p6
              try clear c7
              try clear c8
              try clear c38
              try clear c38b0
              try clear c38b1
              try clear c39
              try clear c39b0
              try clear c41
              try clear c41b0
              try clear c44
              try clear c45
              try clear c49
              try clear c53
              try clear c53b0
              try clear c53b1
              try clear c55
              try clear c56
              try clear c59
              try clear c62
              try clear c62b0
              try clear c62b1
              try clear c64
              try clear p64
              try clear c65
              try clear c68
              try clear c71
              try clear c71b0
              try clear c71b1
              try clear c72
              try clear c72b0
              try clear c72b1
              try clear c73
              try clear c76
              try clear c80
              try clear c82
              try clear c82b0
              try clear c82b1
              try clear c83
              try clear c86
              try clear c88
              try clear hcz46_0
              try clear hcz46_1
              try clear hcz46_2
              try clear hcz46_3
              try clear hcz46_4
              try clear hcz46_5
              try clear hcz48_0
              try clear hcz48_1
              try clear hcz48_2
              try clear hcz48_3
              try clear hcz48_4
              try clear hcz48_5
              try clear hcz50_0
              try clear hcz50_1
              try clear hcz50_2
              try clear hcz50_3
              try clear hcz50_4
              try clear hcz50_5
              try clear hcz52_0
              try clear hcz52_1
              try clear hcz52_2
              try clear hcz52_3
              try clear hcz52_4
              try clear hcz52_5
              try clear hcz57_0
              try clear hcz57_1
              try clear hcz57_2
              try clear hcz57_3
              try clear hcz57_4
              try clear hcz57_5
              try clear hcz58_0
              try clear hcz58_1
              try clear hcz58_2
              try clear hcz60_0
              try clear hcz60_1
              try clear hcz60_2
              try clear hcz60_3
              try clear hcz60_4
              try clear hcz60_5
              try clear hcz61_0
              try clear hcz61_1
              try clear hcz61_2
              try clear hcz66_0
              try clear hcz66_1
              try clear hcz66_2
              try clear hcz66_3
              try clear hcz66_4
              try clear hcz66_5
              try clear hcz67_0
              try clear hcz67_1
              try clear hcz67_2
              try clear hcz69_0
              try clear hcz69_1
              try clear hcz69_2
              try clear hcz69_3
              try clear hcz69_4
              try clear hcz69_5
              try clear hcz70_0
              try clear hcz70_1
              try clear hcz70_2
              try clear hcz74_0
              try clear hcz74_1
              try clear hcz74_2
              try clear hcz74_3
              try clear hcz74_4
              try clear hcz74_5
              try clear hcz75_0
              try clear hcz75_1
              try clear hcz75_2
              try clear hcz77_0
              try clear hcz77_1
              try clear hcz77_2
              try clear hcz77_3
              try clear hcz77_4
              try clear hcz77_5
              try clear hcz78_0
              try clear hcz78_1
              try clear hcz78_2
              try clear hcz81_0
              try clear hcz81_1
              try clear hcz81_2
              try clear hcz81_3
              try clear hcz81_4
              try clear hcz81_5
              try clear hcz84_0
              try clear hcz84_1
              try clear hcz84_2
              try clear hcz84_3
              try clear hcz84_4
              try clear hcz84_5
              try clear hcz85_0
              try clear hcz85_1
              try clear hcz85_2
              try clear hcz87_0
              try clear hcz87_1
              try clear hcz87_2
              try clear hcz87_3
              try clear hcz87_4
              try clear hcz87_5
              try clear hfz46_0
              try clear hfz46_1
              try clear hfz46_2
              try clear hfz46_3
              try clear hfz46_4
              try clear hfz46_5
              try clear hfz48_0
              try clear hfz48_1
              try clear hfz48_2
              try clear hfz48_3
              try clear hfz48_4
              try clear hfz48_5
              try clear hfz50_0
              try clear hfz50_1
              try clear hfz50_2
              try clear hfz50_3
              try clear hfz50_4
              try clear hfz50_5
              try clear hfz52_0
              try clear hfz52_1
              try clear hfz52_2
              try clear hfz52_3
              try clear hfz52_4
              try clear hfz52_5
              try clear hfz57_0
              try clear hfz57_1
              try clear hfz57_2
              try clear hfz57_3
              try clear hfz57_4
              try clear hfz57_5
              try clear hfz58_0
              try clear hfz58_1
              try clear hfz58_2
              try clear hfz60_0
              try clear hfz60_1
              try clear hfz60_2
              try clear hfz60_3
              try clear hfz60_4
              try clear hfz60_5
              try clear hfz61_0
              try clear hfz61_1
              try clear hfz61_2
              try clear hfz66_0
              try clear hfz66_1
              try clear hfz66_2
              try clear hfz66_3
              try clear hfz66_4
              try clear hfz66_5
              try clear hfz67_0
              try clear hfz67_1
              try clear hfz67_2
              try clear hfz69_0
              try clear hfz69_1
              try clear hfz69_2
              try clear hfz69_3
              try clear hfz69_4
              try clear hfz69_5
              try clear hfz70_0
              try clear hfz70_1
              try clear hfz70_2
              try clear hfz74_0
              try clear hfz74_1
              try clear hfz74_2
              try clear hfz74_3
              try clear hfz74_4
              try clear hfz74_5
              try clear hfz75_0
              try clear hfz75_1
              try clear hfz75_2
              try clear hfz77_0
              try clear hfz77_1
              try clear hfz77_2
              try clear hfz77_3
              try clear hfz77_4
              try clear hfz77_5
              try clear hfz78_0
              try clear hfz78_1
              try clear hfz78_2
              try clear hfz81_0
              try clear hfz81_1
              try clear hfz81_2
              try clear hfz81_3
              try clear hfz81_4
              try clear hfz81_5
              try clear hfz84_0
              try clear hfz84_1
              try clear hfz84_2
              try clear hfz84_3
              try clear hfz84_4
              try clear hfz84_5
              try clear hfz85_0
              try clear hfz85_1
              try clear hfz85_2
              try clear hfz87_0
              try clear hfz87_1
              try clear hfz87_2
              try clear hfz87_3
              try clear hfz87_4
              try clear hfz87_5
              try clear p2
              try clear p6
              try clear p64
              obtain ⟨x8_4,x9_4,rfl,rfl,HA,HK4,BK133,BK134,HB⟩ := hrel
              cases gk with
              | zero => exact absurd HA.out (by simp [passepartoutref05_fit.l0])
              | succ k4 =>
               have H := HA.out
               clear HA
               simp only [passepartoutref05_fit.l0] at H
               by_cases c89 : x9_4 < (l1_2.length : Int)
               ·rw [if_pos c89] at H
                have c89b0 : decide (x9_4 < (l1_2.length : Int)) = true := decide_eq_true c89
                clear c89
                by_cases c90 : a0_0 = 3
                ·rw [if_pos c90] at H
                 have c90b0 : (a0_0 == 3) = true := beq_iff_eq.mpr c90
                 have c90b1 : (a0_0 != 3) = false := bne_eq_false_iff_eq.mpr c90
                 clear c90
                 by_cases c91 : 0 ≤ x9_4
                 ·rw [if_pos c91] at H
                  have c91b0 : decide (0 ≤ x9_4) = true := decide_eq_true c91
                  clear c91
                  by_cases c92 : x9_4 < (l0_5.length : Int)
                  ·rw [if_pos c92] at H
                   have c92b0 : decide (x9_4 < (l0_5.length : Int)) = true := decide_eq_true c92
                   clear c92
                   replace H := Option.bind_eq_some_iff.mp H
                   obtain ⟨⟨t140,t141⟩,A930,H⟩ := H
                   replace H : (if t141 = 0 then (passepartoutref05_fit.l0 k4 (wrap64 (x8_4 + t140)) (wrap64 (x9_4 + 1)) a0_0 a0_1 a0_2 a0_3 a0_4 l0_5 a1_0 l1_1 l1_2) else (some (0,t141))) = some (r1,r2) := H
                   have A93 := Aside0.mk A930
                   clear A930
                   by_cases c94 : t141 = 0
                   ·rw [if_pos c94] at H
                    have c94b0 : (t141 == 0) = true := beq_iff_eq.mpr c94
                    have c94b1 : (t141 != 0) = false := bne_eq_false_iff_eq.mpr c94
                    clear c94
                    have H' := Aside0.mk H
                    clear H
                    have hnb95 := NB134_133.out
                    have hnc95 := NB133_134.out
                    have hcz96_0 : wr.cell? ⟨gb134,0,none⟩ = some (.int .u64 a1_0) := (blk_cell BK134.out 0).trans rfl
                    have hcz96_1 : wr.cell? ⟨gb134,1,none⟩ = some (.slice A1_1 l1_1.length c1_1) := (blk_cell BK134.out 1).trans rfl
                    have hcz96_2 : wr.cell? ⟨gb134,2,none⟩ = some (.slice A1_2 l1_2.length c1_2) := (blk_cell BK134.out 2).trans rfl
                    have hfz96_0 := blk_frozen BK134.out 0
                    have hfz96_1 := blk_frozen BK134.out 1
                    have hfz96_2 := blk_frozen BK134.out 2
                    have hcz97_0 : wr.cell? ⟨gb133,0,none⟩ = some (.int .i64 a0_0) := (blk_cell BK133.out 0).trans rfl
                    have hcz97_1 : wr.cell? ⟨gb133,1,none⟩ = some (.int .i64 a0_1) := (blk_cell BK133.out 1).trans rfl
                    have hcz97_2 : wr.cell? ⟨gb133,2,none⟩ = some (.int .i64 a0_2) := (blk_cell BK133.out 2).trans rfl
                    have hcz97_3 : wr.cell? ⟨gb133,3,none⟩ = some (.int .i64 a0_3) := (blk_cell BK133.out 3).trans rfl
                    have hcz97_4 : wr.cell? ⟨gb133,4,none⟩ = some (.int .i64 a0_4) := (blk_cell BK133.out 4).trans rfl
                    have hcz97_5 : wr.cell? ⟨gb133,5,none⟩ = some (.slice A0_5 l0_5.length c0_5) := (blk_cell BK133.out 5).trans rfl
                    have hfz97_0 := blk_frozen BK133.out 0
                    have hfz97_1 := blk_frozen BK133.out 1
                    have hfz97_2 := blk_frozen BK133.out 2
                    have hfz97_3 := blk_frozen BK133.out 3
                    have hfz97_4 := blk_frozen BK133.out 4
                    have hfz97_5 := blk_frozen BK133.out 5
                    try go_wp2
                    have n0_ := Aside0.mk (blk_drew BK133.out)
                    have n1_ := Aside0.mk (blk_drew BK134.out)
                    have n2_ := Aside0.mk (below_drew1 HB.out)
                    clear BK133
                    clear BK134
                    clear HB
                    have BK133 := n0_
                    have BK134 := n1_
                    have HB := n2_
                    clear n0_ n1_ n2_
                    have p138 : 0 ≤ (x9_4 : Int) := of_decide_eq_true (by first | (with_reducible assumption) | assumption)
                    have q138 : x9_4 < (l0_5.length : Int) := of_decide_eq_true (by first | (with_reducible assumption) | assumption)
                    obtain ⟨ad138,A138_5,c138_5,e138,hx138_0,hx138_1,hx138_2,hx138_3,hx138_4,hx138_5,hl138_5,hi138_5⟩ := at_T24 HR0_5.out x9_4 p138 q138
                    have hw138_5 := hx138_5
                    have hw138_4 := hx138_4
                    have hw138_3 := hx138_3
                    have hw138_2 := hx138_2
                    have hw138_1 := hx138_1
                    have hw138_0 := hx138_0
                    cases e138
                    replace hx138_0 := (HB.out.cell (World.block_lt_of_cell? w _ hx138_0)).trans hx138_0
                    replace hx138_1 := (HB.out.cell (World.block_lt_of_cell? w _ hx138_1)).trans hx138_1
                    replace hx138_2 := (HB.out.cell (World.block_lt_of_cell? w _ hx138_2)).trans hx138_2
                    replace hx138_3 := (HB.out.cell (World.block_lt_of_cell? w _ hx138_3)).trans hx138_3
                    replace hx138_4 := (HB.out.cell (World.block_lt_of_cell? w _ hx138_4)).trans hx138_4
                    replace hx138_5 := (HB.out.cell (World.block_lt_of_cell? w _ hx138_5)).trans hx138_5
                    have HR138_5 := Aside0.mk hi138_5
                    have HC138_5 := Aside0.mk hl138_5
                    clear hi138_5 hl138_5
                    replace p138 := eq_true p138
                    replace q138 := eq_true q138
                    have p139 : 0 ≤ (x9_4 : Int) := of_decide_eq_true (by first | (with_reducible assumption) | assumption)
                    have q139 : x9_4 < (l1_2.length : Int) := of_decide_eq_true (by first | (with_reducible assumption) | assumption)
                    obtain ⟨ad139,A139_1,c139_1,A139_2,c139_2,e139,hx139_0,hx139_1,hx139_2,hl139_1,hi139_1,hl139_2,hi139_2⟩ := at_T31 HR1_2.out x9_4 p139 q139
                    have hw139_2 := hx139_2
                    have hw139_1 := hx139_1
                    have hw139_0 := hx139_0
                    cases e139
                    replace hx139_0 := (HB.out.cell (World.block_lt_of_cell? w _ hx139_0)).trans hx139_0
                    replace hx139_1 := (HB.out.cell (World.block_lt_of_cell? w _ hx139_1)).trans hx139_1
                    replace hx139_2 := (HB.out.cell (World.block_lt_of_cell? w _ hx139_2)).trans hx139_2
                    have HR139_1 := Aside0.mk hi139_1
                    have HC139_1 := Aside0.mk hl139_1
                    clear hi139_1 hl139_1
                    have HR139_2 := Aside0.mk hi139_2
                    have HC139_2 := Aside0.mk hl139_2
                    clear hi139_2 hl139_2
                    replace p139 := eq_true p139
                    replace q139 := eq_true q139
                    refine start_ (n := 16) (S := fun w' => w'.cell? ⟨gb133,0,none⟩ = some (.int .i64 a0_0) ∧ w'.cell? ⟨gb133,1,none⟩ = some (.int .i64 a0_1) ∧ w'.cell? ⟨gb133,2,none⟩ = some (.int .i64 a0_2) ∧ w'.cell? ⟨gb133,3,none⟩ = some (.int .i64 a0_3) ∧ w'.cell? ⟨gb133,4,none⟩ = some (.int .i64 a0_4) ∧ w'.cell? ⟨gb133,5,none⟩ = some (.slice (some ad138) l0_5.length c0_5) ∧ w'.cell? ⟨gb134,0,none⟩ = some (.int .u64 a1_0) ∧ w'.cell? ⟨gb134,1,none⟩ = some (.slice A1_1 l1_1.length c1_1) ∧ w'.cell? ⟨gb134,2,none⟩ = some (.slice (some ad139) l1_2.length c1_2) ∧ w'.cell? (ad138.add ((x9_4).toNat * 6)) = some (.int .i64 ((rd_T24 l0_5 x9_4).f0)) ∧ w'.cell? ⟨(ad138.add ((x9_4).toNat * 6)).block,(ad138.add ((x9_4).toNat * 6)).off + 1,none⟩ = some (.int .i64 ((rd_T24 l0_5 x9_4).f1)) ∧ w'.cell? ⟨(ad138.add ((x9_4).toNat * 6)).block,(ad138.add ((x9_4).toNat * 6)).off + 2,none⟩ = some (.int .i64 ((rd_T24 l0_5 x9_4).f2)) ∧ w'.cell? ⟨(ad138.add ((x9_4).toNat * 6)).block,(ad138.add ((x9_4).toNat * 6)).off + 3,none⟩ = some (.int .i64 ((rd_T24 l0_5 x9_4).f3)) ∧ w'.cell? ⟨(ad138.add ((x9_4).toNat * 6)).block,(ad138.add ((x9_4).toNat * 6)).off + 4,none⟩ = some (.int .i64 ((rd_T24 l0_5 x9_4).f4)) ∧ w'.cell? ⟨(ad138.add ((x9_4).toNat * 6)).block,(ad138.add ((x9_4).toNat * 6)).off + 5,none⟩ = some (.slice A138_5 ((rd_T24 l0_5 x9_4).f5).length c138_5) ∧ w'.cell? (ad139.add ((x9_4).toNat * 3)) = some (.int .u64 ((rd_T31 l1_2 x9_4).f0)) ∧ w'.cell? ⟨(ad139.add ((x9_4).toNat * 3)).block,(ad139.add ((x9_4).toNat * 3)).off + 1,none⟩ = some (.slice A139_1 ((rd_T31 l1_2 x9_4).f1).length c139_1) ∧ w'.cell? ⟨(ad139.add ((x9_4).toNat * 3)).block,(ad139.add ((x9_4).toNat * 3)).off + 2,none⟩ = some (.slice A139_2 ((rd_T31 l1_2 x9_4).f2).length c139_2)) (ds := []) #[false,false,false,false,false,false,false,false,false,false,false,false,false,false,false,false] (by kernel_rfl) rfl rfl ⟨(blk_cell BK133.out 0).trans rfl,(blk_cell BK133.out 1).trans rfl,(blk_cell BK133.out 2).trans rfl,(blk_cell BK133.out 3).trans rfl,(blk_cell BK133.out 4).trans rfl,(blk_cell BK133.out 5).trans rfl,(blk_cell BK134.out 0).trans rfl,(blk_cell BK134.out 1).trans rfl,(blk_cell BK134.out 2).trans rfl,((HB.out.cell (World.block_lt_of_cell? w _ hw138_0)).trans hw138_0),((HB.out.cell (World.block_lt_of_cell? w _ hw138_1)).trans hw138_1),((HB.out.cell (World.block_lt_of_cell? w _ hw138_2)).trans hw138_2),((HB.out.cell (World.block_lt_of_cell? w _ hw138_3)).trans hw138_3),((HB.out.cell (World.block_lt_of_cell? w _ hw138_4)).trans hw138_4),((HB.out.cell (World.block_lt_of_cell? w _ hw138_5)).trans hw138_5),((HB.out.cell (World.block_lt_of_cell? w _ hw139_0)).trans hw139_0),((HB.out.cell (World.block_lt_of_cell? w _ hw139_1)).trans hw139_1),((HB.out.cell (World.block_lt_of_cell? w _ hw139_2)).trans hw139_2)⟩ (fun hHeld => ?_);refine with_tabW passepartoutref05_fit.tab31 passepartoutref05_fit.bits31 (fun HT_ HW_ => ?_)
                    generalize wr.drew = w98 at BK133 BK134 HB HR138_5 HR139_1 HR139_2 hx138_0 hx138_1 hx138_2 hx138_3 hx138_4 hx138_5 hx139_0 hx139_1 hx139_2 hHeld ⊢
                    refine pure_ (i := 0) (N := some 142) (v := ?_) (a' := ?_) #[true,false,false,false,false,false,false,false,false,false,false,false,false,false,false,false] rfl rfl (any_of HT_.out (by kernel_rfl)) (fun _ _ _ h => h) (Or.inl ⟨by rfl,?_⟩) ?_ ?_
                    rotate_left
                    ·intro w'
                     go_simp
                     with_reducible rfl
                    rotate_left
                    ·simp only [Act.put,List.setIfInBounds_toArray,List.set_cons_zero,List.set_cons_succ,i64_w,i32_w]
                     rfl
                    refine pure_ (i := 2) (N := some 144) (v := ?_) (a' := ?_) #[true,false,true,false,false,false,false,false,false,false,false,false,false,false,false,false] rfl rfl (any_of HT_.out (by kernel_rfl)) (fun _ _ _ h => h) (Or.inl ⟨by rfl,?_⟩) ?_ ?_
                    rotate_left
                    ·intro w'
                     go_simp
                     with_reducible rfl
                    rotate_left
                    ·simp only [Act.put,List.setIfInBounds_toArray,List.set_cons_zero,List.set_cons_succ,i64_w,i32_w]
                     rfl
                    refine pure_ (i := 5) (N := some 147) (v := ?_) (a' := ?_) #[true,false,true,false,false,true,false,false,false,false,false,false,false,false,false,false] rfl rfl (any_of HT_.out (by kernel_rfl)) (fun _ _ _ h => h) (Or.inl ⟨by rfl,?_⟩) ?_ ?_
                    rotate_left
                    ·intro w'
                     go_simp
                     with_reducible rfl
                    rotate_left
                    ·simp only [Act.put,List.setIfInBounds_toArray,List.set_cons_zero,List.set_cons_succ,i64_w,i32_w]
                     rfl
                    refine pure_ (i := 7) (N := some 149) (v := ?_) (a' := ?_) #[true,false,true,false,false,true,false,true,false,false,false,false,false,false,false,false] rfl rfl (any_of HT_.out (by kernel_rfl)) (fun _ _ _ h => h) (Or.inl ⟨by rfl,?_⟩) ?_ ?_
                    rotate_left
                    ·intro w'
                     go_simp
                     with_reducible rfl
                    rotate_left
                    ·simp only [Act.put,List.setIfInBounds_toArray,List.set_cons_zero,List.set_cons_succ,i64_w,i32_w]
                     rfl
                    refine take_ (i := 1) (N := some 143) (v := ?_) (a' := ?_) #[true,true,true,false,false,true,false,true,false,false,false,false,false,false,false,false] rfl rfl (take_ofW HT_.out HW_.out (by kernel_rfl)) (fun _ _ _ h => h) (Or.inl ⟨by rfl,?_⟩) hHeld ?_ ?_
                    rotate_left
                    ·rintro w' ⟨s0,s1,s2,s3,s4,s5,s6,s7,s8,s9,s10,s11,s12,s13,s14,s15,s16,s17⟩
                     go_simp
                     with_reducible rfl
                    rotate_left
                    ·simp only [Act.put,List.setIfInBounds_toArray,List.set_cons_zero,List.set_cons_succ,i64_w,i32_w]
                     rfl
                    refine pure_ (i := 3) (N := some 145) (v := ?_) (a' := ?_) #[true,true,true,true,false,true,false,true,false,false,false,false,false,false,false,false] rfl rfl (any_of HT_.out (by kernel_rfl)) (fun _ _ _ h => h) (Or.inl ⟨by rfl,?_⟩) ?_ ?_
                    rotate_left
                    ·intro w'
                     go_simp
                     with_reducible rfl
                    rotate_left
                    ·simp only [Act.put,List.setIfInBounds_toArray,List.set_cons_zero,List.set_cons_succ,i64_w,i32_w]
                     rfl
                    refine take_ (i := 4) (N := some 146) (v := ?_) (a' := ?_) #[true,true,true,true,true,true,false,true,false,false,false,false,false,false,false,false] rfl rfl (take_ofW HT_.out HW_.out (by kernel_rfl)) (fun _ _ _ h => h) (Or.inl ⟨by rfl,?_⟩) hHeld ?_ ?_
                    rotate_left
                    ·rintro w' ⟨s0,s1,s2,s3,s4,s5,s6,s7,s8,s9,s10,s11,s12,s13,s14,s15,s16,s17⟩
                     go_simp
                     with_reducible rfl
                    rotate_left
                    ·simp only [Act.put,List.setIfInBounds_toArray,List.set_cons_zero,List.set_cons_succ,i64_w,i32_w]
                     rfl
                    refine take_ (i := 6) (N := some 148) (v := ?_) (a' := ?_) #[true,true,true,true,true,true,true,true,false,false,false,false,false,false,false,false] rfl rfl (take_ofW HT_.out HW_.out (by kernel_rfl)) (fun _ _ _ h => h) (Or.inl ⟨by rfl,?_⟩) hHeld ?_ ?_
                    rotate_left
                    ·rintro w' ⟨s0,s1,s2,s3,s4,s5,s6,s7,s8,s9,s10,s11,s12,s13,s14,s15,s16,s17⟩
                     go_simp
                     with_reducible rfl
                    rotate_left
                    ·simp only [Act.put,List.setIfInBounds_toArray,List.set_cons_zero,List.set_cons_succ,i64_w,i32_w]
                     rfl
                    refine pure_ (i := 8) (N := some 150) (v := ?_) (a' := ?_) #[true,true,true,true,true,true,true,true,true,false,false,false,false,false,false,false] rfl rfl (any_of HT_.out (by kernel_rfl)) (fun _ _ _ h => h) (Or.inl ⟨by rfl,?_⟩) ?_ ?_
                    rotate_left
                    ·intro w'
                     go_simp
                     with_reducible rfl
                    rotate_left
                    ·simp only [Act.put,List.setIfInBounds_toArray,List.set_cons_zero,List.set_cons_succ,i64_w,i32_w]
                     rfl
                    refine take_ (i := 9) (N := some 151) (v := ?_) (a' := ?_) #[true,true,true,true,true,true,true,true,true,true,false,false,false,false,false,false] rfl rfl (take_ofW HT_.out HW_.out (by kernel_rfl)) (fun _ _ _ h => h) (Or.inl ⟨by rfl,?_⟩) hHeld ?_ ?_
                    rotate_left
                    ·rintro w' ⟨s0,s1,s2,s3,s4,s5,s6,s7,s8,s9,s10,s11,s12,s13,s14,s15,s16,s17⟩
                     go_simp
                     with_reducible rfl
                    rotate_left
                    ·simp only [Act.put,List.setIfInBounds_toArray,List.set_cons_zero,List.set_cons_succ,i64_w,i32_w]
                     rfl
                    refine one_ (i := 10) (N := some 152) #[true,true,true,true,true,true,true,true,true,true,true,false,false,false,false,false] rfl rfl (one_of HT_.out (by kernel_rfl)) (by decide) (fun K hK => ?_)
                    refine goes_ Tryd.func28 (by kernel_rfl) rfl #[.agg #[.int .i64 ((rd_T24 l0_5 x9_4).f0),.int .i64 ((rd_T24 l0_5 x9_4).f1),.int .i64 ((rd_T24 l0_5 x9_4).f2),.int .i64 ((rd_T24 l0_5 x9_4).f3),.int .i64 ((rd_T24 l0_5 x9_4).f4),.slice A138_5 ((rd_T24 l0_5 x9_4).f5).length c138_5],.agg #[.int .u64 ((rd_T31 l1_2 x9_4).f0),.slice A139_1 ((rd_T31 l1_2 x9_4).f1).length c139_1,.slice A139_2 ((rd_T31 l1_2 x9_4).f2).length c139_2]] (by rfl) rfl rfl (by (try simp only [List.map_toArray,List.map_cons,List.map_nil]);first | done | rfl | (simp only [List.length_drop,List.length_take];rfl)) ?_
                    with_reducible refine (ih k4 (by have := HJ2.out;have := HJ15.out;have := HJ78.out;have := HK4.out;omega) ((rd_T24 l0_5 x9_4).f0) ((rd_T24 l0_5 x9_4).f1) ((rd_T24 l0_5 x9_4).f2) ((rd_T24 l0_5 x9_4).f3) ((rd_T24 l0_5 x9_4).f4) _ _ ((rd_T24 l0_5 x9_4).f5) ((rd_T31 l1_2 x9_4).f0) _ _ ((rd_T31 l1_2 x9_4).f1) _ _ ((rd_T31 l1_2 x9_4).f2) t140 t141 _ ?side1 ?side2 ?side3 ?side4 ?side5 ?side6 A93.out).mono ?_
                    (case side1 => repeat (first | exact (Kd.C_below HR138_5.out HB.out) | (with_reducible refine Kd.C_alloc ?_ _) | (with_reducible refine Kd.C_drewN ?_ _) | (with_reducible refine Kd.C_drew ?_)))
                    (case side2 => exact HC138_5.out)
                    (case side3 => repeat (first | exact (Kd.C_below HR139_1.out HB.out) | (with_reducible refine Kd.C_alloc ?_ _) | (with_reducible refine Kd.C_drewN ?_ _) | (with_reducible refine Kd.C_drew ?_)))
                    (case side4 => exact HC139_1.out)
                    (case side5 => repeat (first | exact (Kd.C_below HR139_2.out HB.out) | (with_reducible refine Kd.C_alloc ?_ _) | (with_reducible refine Kd.C_drewN ?_ _) | (with_reducible refine Kd.C_drew ?_)))
                    (case side6 => exact HC139_2.out)
                    rintro e w99 ⟨rfl,hb⟩
                    refine ⟨_,rfl,?_⟩
                    have n0_ := Aside0.mk (blk_below (g := gb133) (o := .cells #[.int .i64 a0_0,.int .i64 a0_1,.int .i64 a0_2,.int .i64 a0_3,.int .i64 a0_4,.slice (some ad138) l0_5.length c0_5] 24 (0,0)) (by (with_reducible repeat (first | refine blk_drewN ?_ _ | refine blk_drew ?_ | refine blk_alloc ?_ _));exact BK133.out) hb)
                    have n1_ := Aside0.mk (blk_below (g := gb134) (o := .cells #[.int .u64 a1_0,.slice A1_1 l1_1.length c1_1,.slice (some ad139) l1_2.length c1_2] 31 (0,0)) (by (with_reducible repeat (first | refine blk_drewN ?_ _ | refine blk_drew ?_ | refine blk_alloc ?_ _));exact BK134.out) hb)
                    have n2_ := Aside0.mk (below_step (by repeat (first | (with_reducible first | exact HB.out | apply below_alloc | apply pw_below_drewN | apply below_drew1 | refine below_set ?_ GE133.out | refine below_set ?_ GE134.out) | exact HB.out)) hb)
                    clear BK133
                    clear BK134
                    clear HB
                    have BK133 := n0_
                    have BK134 := n1_
                    have HB := n2_
                    clear n0_ n1_ n2_
                    (try clear hb)
                    (try clear hb2)
                    (try clear hk)
                    (try clear hi)
                    refine hK.out _ _ ⟨(blk_cell BK133.out 0).trans rfl,(blk_cell BK133.out 1).trans rfl,(blk_cell BK133.out 2).trans rfl,(blk_cell BK133.out 3).trans rfl,(blk_cell BK133.out 4).trans rfl,(blk_cell BK133.out 5).trans rfl,(blk_cell BK134.out 0).trans rfl,(blk_cell BK134.out 1).trans rfl,(blk_cell BK134.out 2).trans rfl,((HB.out.cell (World.block_lt_of_cell? w _ hw138_0)).trans hw138_0),((HB.out.cell (World.block_lt_of_cell? w _ hw138_1)).trans hw138_1),((HB.out.cell (World.block_lt_of_cell? w _ hw138_2)).trans hw138_2),((HB.out.cell (World.block_lt_of_cell? w _ hw138_3)).trans hw138_3),((HB.out.cell (World.block_lt_of_cell? w _ hw138_4)).trans hw138_4),((HB.out.cell (World.block_lt_of_cell? w _ hw138_5)).trans hw138_5),((HB.out.cell (World.block_lt_of_cell? w _ hw139_0)).trans hw139_0),((HB.out.cell (World.block_lt_of_cell? w _ hw139_1)).trans hw139_1),((HB.out.cell (World.block_lt_of_cell? w _ hw139_2)).trans hw139_2)⟩ (fun hHeld => ?_)
                    clear hK K
                    refine norm_ (a' := ?_) ?_ ?_
                    rotate_left
                    ·show Act.put _ (some 152) _ = _
                     simp only [Act.put,List.setIfInBounds_toArray,List.set_cons_zero,List.set_cons_succ,i64_w,i32_w]
                     rfl
                    refine pure_ (i := 11) (N := some 141) (v := ?_) (a' := ?_) #[true,true,true,true,true,true,true,true,true,true,true,true,false,false,false,false] rfl rfl (any_of HT_.out (by kernel_rfl)) (fun _ _ _ h => h) (Or.inl ⟨by rfl,?_⟩) ?_ ?_
                    rotate_left
                    ·intro w'
                     go_simp
                     with_reducible rfl
                    rotate_left
                    ·simp only [Act.put,List.setIfInBounds_toArray,List.set_cons_zero,List.set_cons_succ,i64_w,i32_w]
                     rfl
                    refine pure_ (i := 12) (N := some 153) (v := ?_) (a' := ?_) #[true,true,true,true,true,true,true,true,true,true,true,true,true,false,false,false] rfl rfl (any_of HT_.out (by kernel_rfl)) (fun _ _ _ h => h) (Or.inl ⟨by rfl,?_⟩) ?_ ?_
                    rotate_left
                    ·intro w'
                     go_simp
                     with_reducible rfl
                    rotate_left
                    ·simp only [Act.put,List.setIfInBounds_toArray,List.set_cons_zero,List.set_cons_succ,i64_w,i32_w]
                     rfl
                    refine pure_ (i := 13) (N := some 154) (v := ?_) (a' := ?_) #[true,true,true,true,true,true,true,true,true,true,true,true,true,true,false,false] rfl rfl (any_of HT_.out (by kernel_rfl)) (fun _ _ _ h => h) (Or.inl ⟨by rfl,?_⟩) ?_ ?_
                    rotate_left
                    ·intro w'
                     go_simp
                     with_reducible rfl
                    rotate_left
                    ·simp only [Act.put,List.setIfInBounds_toArray,List.set_cons_zero,List.set_cons_succ,i64_w,i32_w]
                     rfl
                    refine pure_ (i := 14) (N := some 11) (v := ?_) (a' := ?_) #[true,true,true,true,true,true,true,true,true,true,true,true,true,true,true,false] rfl rfl (any_of HT_.out (by kernel_rfl)) (fun _ _ _ h => h) (Or.inl ⟨by rfl,?_⟩) ?_ ?_
                    rotate_left
                    ·intro w'
                     go_simp
                     with_reducible rfl
                    rotate_left
                    ·simp only [Act.put,List.setIfInBounds_toArray,List.set_cons_zero,List.set_cons_succ,i64_w,i32_w]
                     rfl
                    refine pure_ (i := 15) (N := some 12) (v := ?_) (a' := ?_) #[true,true,true,true,true,true,true,true,true,true,true,true,true,true,true,true] rfl rfl (any_of HT_.out (by kernel_rfl)) (fun _ _ _ h => h) (Or.inl ⟨by rfl,?_⟩) ?_ ?_
                    rotate_left
                    ·intro w'
                     go_simp
                     with_reducible rfl
                    rotate_left
                    ·simp only [Act.put,List.setIfInBounds_toArray,List.set_cons_zero,List.set_cons_succ,i64_w,i32_w]
                     rfl
                    refine done_ (done_of HT_.out (by kernel_rfl)) ?_
                    try go_wp2
                    go_roundg k4
                    case measure => have := HJ2.out;have := HJ15.out;have := HJ78.out;have := HK4.out;omega
                    case rel => exact ⟨(wrap64 (x8_4 + t140)),(wrap64 (x9_4 + 1)),(by first | rfl | (simp;done) | (simp [*];done)),(by first | rfl | (simp;done) | (simp [*];done)),H',⟨by have := HJ2.out;have := HJ15.out;have := HJ78.out;have := HK4.out;omega⟩,⟨by (with_reducible repeat (first | refine blk_drewN ?_ _ | refine blk_drew ?_ | refine blk_alloc ?_ _));exact BK133.out⟩,⟨by (with_reducible repeat (first | refine blk_drewN ?_ _ | refine blk_drew ?_ | refine blk_alloc ?_ _));exact BK134.out⟩,⟨by repeat (first | (with_reducible first | exact HB.out | apply below_alloc | apply pw_below_drewN | apply below_drew1 | refine below_set ?_ GE133.out | refine below_set ?_ GE134.out) | exact HB.out)⟩⟩
                   ·rw [if_neg c94] at H
                    have c94b0 : (t141 == 0) = false := beq_eq_false_iff_ne.mpr c94
                    have c94b1 : (t141 != 0) = true := bne_iff_ne.mpr c94
                    simp only [Option.some.injEq,Prod.mk.injEq] at H
                    obtain ⟨rfl,rfl⟩ := H
                    have hnb100 := NB134_133.out
                    have hnc100 := NB133_134.out
                    have hcz101_0 : wr.cell? ⟨gb134,0,none⟩ = some (.int .u64 a1_0) := (blk_cell BK134.out 0).trans rfl
                    have hcz101_1 : wr.cell? ⟨gb134,1,none⟩ = some (.slice A1_1 l1_1.length c1_1) := (blk_cell BK134.out 1).trans rfl
                    have hcz101_2 : wr.cell? ⟨gb134,2,none⟩ = some (.slice A1_2 l1_2.length c1_2) := (blk_cell BK134.out 2).trans rfl
                    have hfz101_0 := blk_frozen BK134.out 0
                    have hfz101_1 := blk_frozen BK134.out 1
                    have hfz101_2 := blk_frozen BK134.out 2
                    have hcz102_0 : wr.cell? ⟨gb133,0,none⟩ = some (.int .i64 a0_0) := (blk_cell BK133.out 0).trans rfl
                    have hcz102_1 : wr.cell? ⟨gb133,1,none⟩ = some (.int .i64 a0_1) := (blk_cell BK133.out 1).trans rfl
                    have hcz102_2 : wr.cell? ⟨gb133,2,none⟩ = some (.int .i64 a0_2) := (blk_cell BK133.out 2).trans rfl
                    have hcz102_3 : wr.cell? ⟨gb133,3,none⟩ = some (.int .i64 a0_3) := (blk_cell BK133.out 3).trans rfl
                    have hcz102_4 : wr.cell? ⟨gb133,4,none⟩ = some (.int .i64 a0_4) := (blk_cell BK133.out 4).trans rfl
                    have hcz102_5 : wr.cell? ⟨gb133,5,none⟩ = some (.slice A0_5 l0_5.length c0_5) := (blk_cell BK133.out 5).trans rfl
                    have hfz102_0 := blk_frozen BK133.out 0
                    have hfz102_1 := blk_frozen BK133.out 1
                    have hfz102_2 := blk_frozen BK133.out 2
                    have hfz102_3 := blk_frozen BK133.out 3
                    have hfz102_4 := blk_frozen BK133.out 4
                    have hfz102_5 := blk_frozen BK133.out 5
                    try go_wp2
                    have n0_ := Aside0.mk (blk_drew BK133.out)
                    have n1_ := Aside0.mk (blk_drew BK134.out)
                    have n2_ := Aside0.mk (below_drew1 HB.out)
                    clear BK133
                    clear BK134
                    clear HB
                    have BK133 := n0_
                    have BK134 := n1_
                    have HB := n2_
                    clear n0_ n1_ n2_
                    have p138 : 0 ≤ (x9_4 : Int) := of_decide_eq_true (by first | (with_reducible assumption) | assumption)
                    have q138 : x9_4 < (l0_5.length : Int) := of_decide_eq_true (by first | (with_reducible assumption) | assumption)
                    obtain ⟨ad138,A138_5,c138_5,e138,hx138_0,hx138_1,hx138_2,hx138_3,hx138_4,hx138_5,hl138_5,hi138_5⟩ := at_T24 HR0_5.out x9_4 p138 q138
                    have hw138_5 := hx138_5
                    have hw138_4 := hx138_4
                    have hw138_3 := hx138_3
                    have hw138_2 := hx138_2
                    have hw138_1 := hx138_1
                    have hw138_0 := hx138_0
                    cases e138
                    replace hx138_0 := (HB.out.cell (World.block_lt_of_cell? w _ hx138_0)).trans hx138_0
                    replace hx138_1 := (HB.out.cell (World.block_lt_of_cell? w _ hx138_1)).trans hx138_1
                    replace hx138_2 := (HB.out.cell (World.block_lt_of_cell? w _ hx138_2)).trans hx138_2
                    replace hx138_3 := (HB.out.cell (World.block_lt_of_cell? w _ hx138_3)).trans hx138_3
                    replace hx138_4 := (HB.out.cell (World.block_lt_of_cell? w _ hx138_4)).trans hx138_4
                    replace hx138_5 := (HB.out.cell (World.block_lt_of_cell? w _ hx138_5)).trans hx138_5
                    have HR138_5 := Aside0.mk hi138_5
                    have HC138_5 := Aside0.mk hl138_5
                    clear hi138_5 hl138_5
                    replace p138 := eq_true p138
                    replace q138 := eq_true q138
                    have p139 : 0 ≤ (x9_4 : Int) := of_decide_eq_true (by first | (with_reducible assumption) | assumption)
                    have q139 : x9_4 < (l1_2.length : Int) := of_decide_eq_true (by first | (with_reducible assumption) | assumption)
                    obtain ⟨ad139,A139_1,c139_1,A139_2,c139_2,e139,hx139_0,hx139_1,hx139_2,hl139_1,hi139_1,hl139_2,hi139_2⟩ := at_T31 HR1_2.out x9_4 p139 q139
                    have hw139_2 := hx139_2
                    have hw139_1 := hx139_1
                    have hw139_0 := hx139_0
                    cases e139
                    replace hx139_0 := (HB.out.cell (World.block_lt_of_cell? w _ hx139_0)).trans hx139_0
                    replace hx139_1 := (HB.out.cell (World.block_lt_of_cell? w _ hx139_1)).trans hx139_1
                    replace hx139_2 := (HB.out.cell (World.block_lt_of_cell? w _ hx139_2)).trans hx139_2
                    have HR139_1 := Aside0.mk hi139_1
                    have HC139_1 := Aside0.mk hl139_1
                    clear hi139_1 hl139_1
                    have HR139_2 := Aside0.mk hi139_2
                    have HC139_2 := Aside0.mk hl139_2
                    clear hi139_2 hl139_2
                    replace p139 := eq_true p139
                    replace q139 := eq_true q139
                    refine start_ (n := 16) (S := fun w' => w'.cell? ⟨gb133,0,none⟩ = some (.int .i64 a0_0) ∧ w'.cell? ⟨gb133,1,none⟩ = some (.int .i64 a0_1) ∧ w'.cell? ⟨gb133,2,none⟩ = some (.int .i64 a0_2) ∧ w'.cell? ⟨gb133,3,none⟩ = some (.int .i64 a0_3) ∧ w'.cell? ⟨gb133,4,none⟩ = some (.int .i64 a0_4) ∧ w'.cell? ⟨gb133,5,none⟩ = some (.slice (some ad138) l0_5.length c0_5) ∧ w'.cell? ⟨gb134,0,none⟩ = some (.int .u64 a1_0) ∧ w'.cell? ⟨gb134,1,none⟩ = some (.slice A1_1 l1_1.length c1_1) ∧ w'.cell? ⟨gb134,2,none⟩ = some (.slice (some ad139) l1_2.length c1_2) ∧ w'.cell? (ad138.add ((x9_4).toNat * 6)) = some (.int .i64 ((rd_T24 l0_5 x9_4).f0)) ∧ w'.cell? ⟨(ad138.add ((x9_4).toNat * 6)).block,(ad138.add ((x9_4).toNat * 6)).off + 1,none⟩ = some (.int .i64 ((rd_T24 l0_5 x9_4).f1)) ∧ w'.cell? ⟨(ad138.add ((x9_4).toNat * 6)).block,(ad138.add ((x9_4).toNat * 6)).off + 2,none⟩ = some (.int .i64 ((rd_T24 l0_5 x9_4).f2)) ∧ w'.cell? ⟨(ad138.add ((x9_4).toNat * 6)).block,(ad138.add ((x9_4).toNat * 6)).off + 3,none⟩ = some (.int .i64 ((rd_T24 l0_5 x9_4).f3)) ∧ w'.cell? ⟨(ad138.add ((x9_4).toNat * 6)).block,(ad138.add ((x9_4).toNat * 6)).off + 4,none⟩ = some (.int .i64 ((rd_T24 l0_5 x9_4).f4)) ∧ w'.cell? ⟨(ad138.add ((x9_4).toNat * 6)).block,(ad138.add ((x9_4).toNat * 6)).off + 5,none⟩ = some (.slice A138_5 ((rd_T24 l0_5 x9_4).f5).length c138_5) ∧ w'.cell? (ad139.add ((x9_4).toNat * 3)) = some (.int .u64 ((rd_T31 l1_2 x9_4).f0)) ∧ w'.cell? ⟨(ad139.add ((x9_4).toNat * 3)).block,(ad139.add ((x9_4).toNat * 3)).off + 1,none⟩ = some (.slice A139_1 ((rd_T31 l1_2 x9_4).f1).length c139_1) ∧ w'.cell? ⟨(ad139.add ((x9_4).toNat * 3)).block,(ad139.add ((x9_4).toNat * 3)).off + 2,none⟩ = some (.slice A139_2 ((rd_T31 l1_2 x9_4).f2).length c139_2)) (ds := []) #[false,false,false,false,false,false,false,false,false,false,false,false,false,false,false,false] (by kernel_rfl) rfl rfl ⟨(blk_cell BK133.out 0).trans rfl,(blk_cell BK133.out 1).trans rfl,(blk_cell BK133.out 2).trans rfl,(blk_cell BK133.out 3).trans rfl,(blk_cell BK133.out 4).trans rfl,(blk_cell BK133.out 5).trans rfl,(blk_cell BK134.out 0).trans rfl,(blk_cell BK134.out 1).trans rfl,(blk_cell BK134.out 2).trans rfl,((HB.out.cell (World.block_lt_of_cell? w _ hw138_0)).trans hw138_0),((HB.out.cell (World.block_lt_of_cell? w _ hw138_1)).trans hw138_1),((HB.out.cell (World.block_lt_of_cell? w _ hw138_2)).trans hw138_2),((HB.out.cell (World.block_lt_of_cell? w _ hw138_3)).trans hw138_3),((HB.out.cell (World.block_lt_of_cell? w _ hw138_4)).trans hw138_4),((HB.out.cell (World.block_lt_of_cell? w _ hw138_5)).trans hw138_5),((HB.out.cell (World.block_lt_of_cell? w _ hw139_0)).trans hw139_0),((HB.out.cell (World.block_lt_of_cell? w _ hw139_1)).trans hw139_1),((HB.out.cell (World.block_lt_of_cell? w _ hw139_2)).trans hw139_2)⟩ (fun hHeld => ?_);refine with_tabW passepartoutref05_fit.tab31 passepartoutref05_fit.bits31 (fun HT_ HW_ => ?_)
                    generalize wr.drew = w103 at BK133 BK134 HB HR138_5 HR139_1 HR139_2 hx138_0 hx138_1 hx138_2 hx138_3 hx138_4 hx138_5 hx139_0 hx139_1 hx139_2 hHeld ⊢
                    refine pure_ (i := 0) (N := some 142) (v := ?_) (a' := ?_) #[true,false,false,false,false,false,false,false,false,false,false,false,false,false,false,false] rfl rfl (any_of HT_.out (by kernel_rfl)) (fun _ _ _ h => h) (Or.inl ⟨by rfl,?_⟩) ?_ ?_
                    rotate_left
                    ·intro w'
                     go_simp
                     with_reducible rfl
                    rotate_left
                    ·simp only [Act.put,List.setIfInBounds_toArray,List.set_cons_zero,List.set_cons_succ,i64_w,i32_w]
                     rfl
                    refine pure_ (i := 2) (N := some 144) (v := ?_) (a' := ?_) #[true,false,true,false,false,false,false,false,false,false,false,false,false,false,false,false] rfl rfl (any_of HT_.out (by kernel_rfl)) (fun _ _ _ h => h) (Or.inl ⟨by rfl,?_⟩) ?_ ?_
                    rotate_left
                    ·intro w'
                     go_simp
                     with_reducible rfl
                    rotate_left
                    ·simp only [Act.put,List.setIfInBounds_toArray,List.set_cons_zero,List.set_cons_succ,i64_w,i32_w]
                     rfl
                    refine pure_ (i := 5) (N := some 147) (v := ?_) (a' := ?_) #[true,false,true,false,false,true,false,false,false,false,false,false,false,false,false,false] rfl rfl (any_of HT_.out (by kernel_rfl)) (fun _ _ _ h => h) (Or.inl ⟨by rfl,?_⟩) ?_ ?_
                    rotate_left
                    ·intro w'
                     go_simp
                     with_reducible rfl
                    rotate_left
                    ·simp only [Act.put,List.setIfInBounds_toArray,List.set_cons_zero,List.set_cons_succ,i64_w,i32_w]
                     rfl
                    refine pure_ (i := 7) (N := some 149) (v := ?_) (a' := ?_) #[true,false,true,false,false,true,false,true,false,false,false,false,false,false,false,false] rfl rfl (any_of HT_.out (by kernel_rfl)) (fun _ _ _ h => h) (Or.inl ⟨by rfl,?_⟩) ?_ ?_
                    rotate_left
                    ·intro w'
                     go_simp
                     with_reducible rfl
                    rotate_left
                    ·simp only [Act.put,List.setIfInBounds_toArray,List.set_cons_zero,List.set_cons_succ,i64_w,i32_w]
                     rfl
                    refine take_ (i := 1) (N := some 143) (v := ?_) (a' := ?_) #[true,true,true,false,false,true,false,true,false,false,false,false,false,false,false,false] rfl rfl (take_ofW HT_.out HW_.out (by kernel_rfl)) (fun _ _ _ h => h) (Or.inl ⟨by rfl,?_⟩) hHeld ?_ ?_
                    rotate_left
                    ·rintro w' ⟨s0,s1,s2,s3,s4,s5,s6,s7,s8,s9,s10,s11,s12,s13,s14,s15,s16,s17⟩
                     go_simp
                     with_reducible rfl
                    rotate_left
                    ·simp only [Act.put,List.setIfInBounds_toArray,List.set_cons_zero,List.set_cons_succ,i64_w,i32_w]
                     rfl
                    refine pure_ (i := 3) (N := some 145) (v := ?_) (a' := ?_) #[true,true,true,true,false,true,false,true,false,false,false,false,false,false,false,false] rfl rfl (any_of HT_.out (by kernel_rfl)) (fun _ _ _ h => h) (Or.inl ⟨by rfl,?_⟩) ?_ ?_
                    rotate_left
                    ·intro w'
                     go_simp
                     with_reducible rfl
                    rotate_left
                    ·simp only [Act.put,List.setIfInBounds_toArray,List.set_cons_zero,List.set_cons_succ,i64_w,i32_w]
                     rfl
                    refine take_ (i := 4) (N := some 146) (v := ?_) (a' := ?_) #[true,true,true,true,true,true,false,true,false,false,false,false,false,false,false,false] rfl rfl (take_ofW HT_.out HW_.out (by kernel_rfl)) (fun _ _ _ h => h) (Or.inl ⟨by rfl,?_⟩) hHeld ?_ ?_
                    rotate_left
                    ·rintro w' ⟨s0,s1,s2,s3,s4,s5,s6,s7,s8,s9,s10,s11,s12,s13,s14,s15,s16,s17⟩
                     go_simp
                     with_reducible rfl
                    rotate_left
                    ·simp only [Act.put,List.setIfInBounds_toArray,List.set_cons_zero,List.set_cons_succ,i64_w,i32_w]
                     rfl
                    refine take_ (i := 6) (N := some 148) (v := ?_) (a' := ?_) #[true,true,true,true,true,true,true,true,false,false,false,false,false,false,false,false] rfl rfl (take_ofW HT_.out HW_.out (by kernel_rfl)) (fun _ _ _ h => h) (Or.inl ⟨by rfl,?_⟩) hHeld ?_ ?_
                    rotate_left
                    ·rintro w' ⟨s0,s1,s2,s3,s4,s5,s6,s7,s8,s9,s10,s11,s12,s13,s14,s15,s16,s17⟩
                     go_simp
                     with_reducible rfl
                    rotate_left
                    ·simp only [Act.put,List.setIfInBounds_toArray,List.set_cons_zero,List.set_cons_succ,i64_w,i32_w]
                     rfl
                    refine pure_ (i := 8) (N := some 150) (v := ?_) (a' := ?_) #[true,true,true,true,true,true,true,true,true,false,false,false,false,false,false,false] rfl rfl (any_of HT_.out (by kernel_rfl)) (fun _ _ _ h => h) (Or.inl ⟨by rfl,?_⟩) ?_ ?_
                    rotate_left
                    ·intro w'
                     go_simp
                     with_reducible rfl
                    rotate_left
                    ·simp only [Act.put,List.setIfInBounds_toArray,List.set_cons_zero,List.set_cons_succ,i64_w,i32_w]
                     rfl
                    refine take_ (i := 9) (N := some 151) (v := ?_) (a' := ?_) #[true,true,true,true,true,true,true,true,true,true,false,false,false,false,false,false] rfl rfl (take_ofW HT_.out HW_.out (by kernel_rfl)) (fun _ _ _ h => h) (Or.inl ⟨by rfl,?_⟩) hHeld ?_ ?_
                    rotate_left
                    ·rintro w' ⟨s0,s1,s2,s3,s4,s5,s6,s7,s8,s9,s10,s11,s12,s13,s14,s15,s16,s17⟩
                     go_simp
                     with_reducible rfl
                    rotate_left
                    ·simp only [Act.put,List.setIfInBounds_toArray,List.set_cons_zero,List.set_cons_succ,i64_w,i32_w]
                     rfl
                    refine one_ (i := 10) (N := some 152) #[true,true,true,true,true,true,true,true,true,true,true,false,false,false,false,false] rfl rfl (one_of HT_.out (by kernel_rfl)) (by decide) (fun K hK => ?_)
                    refine goes_ Tryd.func28 (by kernel_rfl) rfl #[.agg #[.int .i64 ((rd_T24 l0_5 x9_4).f0),.int .i64 ((rd_T24 l0_5 x9_4).f1),.int .i64 ((rd_T24 l0_5 x9_4).f2),.int .i64 ((rd_T24 l0_5 x9_4).f3),.int .i64 ((rd_T24 l0_5 x9_4).f4),.slice A138_5 ((rd_T24 l0_5 x9_4).f5).length c138_5],.agg #[.int .u64 ((rd_T31 l1_2 x9_4).f0),.slice A139_1 ((rd_T31 l1_2 x9_4).f1).length c139_1,.slice A139_2 ((rd_T31 l1_2 x9_4).f2).length c139_2]] (by rfl) rfl rfl (by (try simp only [List.map_toArray,List.map_cons,List.map_nil]);first | done | rfl | (simp only [List.length_drop,List.length_take];rfl)) ?_
                    with_reducible refine (ih k4 (by have := HJ2.out;have := HJ15.out;have := HJ78.out;have := HK4.out;omega) ((rd_T24 l0_5 x9_4).f0) ((rd_T24 l0_5 x9_4).f1) ((rd_T24 l0_5 x9_4).f2) ((rd_T24 l0_5 x9_4).f3) ((rd_T24 l0_5 x9_4).f4) _ _ ((rd_T24 l0_5 x9_4).f5) ((rd_T31 l1_2 x9_4).f0) _ _ ((rd_T31 l1_2 x9_4).f1) _ _ ((rd_T31 l1_2 x9_4).f2) t140 t141 _ ?side1 ?side2 ?side3 ?side4 ?side5 ?side6 A93.out).mono ?_
                    (case side1 => repeat (first | exact (Kd.C_below HR138_5.out HB.out) | (with_reducible refine Kd.C_alloc ?_ _) | (with_reducible refine Kd.C_drewN ?_ _) | (with_reducible refine Kd.C_drew ?_)))
                    (case side2 => exact HC138_5.out)
                    (case side3 => repeat (first | exact (Kd.C_below HR139_1.out HB.out) | (with_reducible refine Kd.C_alloc ?_ _) | (with_reducible refine Kd.C_drewN ?_ _) | (with_reducible refine Kd.C_drew ?_)))
                    (case side4 => exact HC139_1.out)
                    (case side5 => repeat (first | exact (Kd.C_below HR139_2.out HB.out) | (with_reducible refine Kd.C_alloc ?_ _) | (with_reducible refine Kd.C_drewN ?_ _) | (with_reducible refine Kd.C_drew ?_)))
                    (case side6 => exact HC139_2.out)
                    rintro e w104 ⟨rfl,hb⟩
                    refine ⟨_,rfl,?_⟩
                    have n0_ := Aside0.mk (blk_below (g := gb133) (o := .cells #[.int .i64 a0_0,.int .i64 a0_1,.int .i64 a0_2,.int .i64 a0_3,.int .i64 a0_4,.slice (some ad138) l0_5.length c0_5] 24 (0,0)) (by (with_reducible repeat (first | refine blk_drewN ?_ _ | refine blk_drew ?_ | refine blk_alloc ?_ _));exact BK133.out) hb)
                    have n1_ := Aside0.mk (blk_below (g := gb134) (o := .cells #[.int .u64 a1_0,.slice A1_1 l1_1.length c1_1,.slice (some ad139) l1_2.length c1_2] 31 (0,0)) (by (with_reducible repeat (first | refine blk_drewN ?_ _ | refine blk_drew ?_ | refine blk_alloc ?_ _));exact BK134.out) hb)
                    have n2_ := Aside0.mk (below_step (by repeat (first | (with_reducible first | exact HB.out | apply below_alloc | apply pw_below_drewN | apply below_drew1 | refine below_set ?_ GE133.out | refine below_set ?_ GE134.out) | exact HB.out)) hb)
                    clear BK133
                    clear BK134
                    clear HB
                    have BK133 := n0_
                    have BK134 := n1_
                    have HB := n2_
                    clear n0_ n1_ n2_
                    (try clear hb)
                    (try clear hb2)
                    (try clear hk)
                    (try clear hi)
                    refine hK.out _ _ ⟨(blk_cell BK133.out 0).trans rfl,(blk_cell BK133.out 1).trans rfl,(blk_cell BK133.out 2).trans rfl,(blk_cell BK133.out 3).trans rfl,(blk_cell BK133.out 4).trans rfl,(blk_cell BK133.out 5).trans rfl,(blk_cell BK134.out 0).trans rfl,(blk_cell BK134.out 1).trans rfl,(blk_cell BK134.out 2).trans rfl,((HB.out.cell (World.block_lt_of_cell? w _ hw138_0)).trans hw138_0),((HB.out.cell (World.block_lt_of_cell? w _ hw138_1)).trans hw138_1),((HB.out.cell (World.block_lt_of_cell? w _ hw138_2)).trans hw138_2),((HB.out.cell (World.block_lt_of_cell? w _ hw138_3)).trans hw138_3),((HB.out.cell (World.block_lt_of_cell? w _ hw138_4)).trans hw138_4),((HB.out.cell (World.block_lt_of_cell? w _ hw138_5)).trans hw138_5),((HB.out.cell (World.block_lt_of_cell? w _ hw139_0)).trans hw139_0),((HB.out.cell (World.block_lt_of_cell? w _ hw139_1)).trans hw139_1),((HB.out.cell (World.block_lt_of_cell? w _ hw139_2)).trans hw139_2)⟩ (fun hHeld => ?_)
                    clear hK K
                    refine norm_ (a' := ?_) ?_ ?_
                    rotate_left
                    ·show Act.put _ (some 152) _ = _
                     simp only [Act.put,List.setIfInBounds_toArray,List.set_cons_zero,List.set_cons_succ,i64_w,i32_w]
                     rfl
                    refine pure_ (i := 11) (N := some 141) (v := ?_) (a' := ?_) #[true,true,true,true,true,true,true,true,true,true,true,true,false,false,false,false] rfl rfl (any_of HT_.out (by kernel_rfl)) (fun _ _ _ h => h) (Or.inl ⟨by rfl,?_⟩) ?_ ?_
                    rotate_left
                    ·intro w'
                     go_simp
                     with_reducible rfl
                    rotate_left
                    ·simp only [Act.put,List.setIfInBounds_toArray,List.set_cons_zero,List.set_cons_succ,i64_w,i32_w]
                     rfl
                    refine pure_ (i := 12) (N := some 153) (v := ?_) (a' := ?_) #[true,true,true,true,true,true,true,true,true,true,true,true,true,false,false,false] rfl rfl (any_of HT_.out (by kernel_rfl)) (fun _ _ _ h => h) (Or.inl ⟨by rfl,?_⟩) ?_ ?_
                    rotate_left
                    ·intro w'
                     go_simp
                     with_reducible rfl
                    rotate_left
                    ·simp only [Act.put,List.setIfInBounds_toArray,List.set_cons_zero,List.set_cons_succ,i64_w,i32_w]
                     rfl
                    refine pure_ (i := 13) (N := some 154) (v := ?_) (a' := ?_) #[true,true,true,true,true,true,true,true,true,true,true,true,true,true,false,false] rfl rfl (any_of HT_.out (by kernel_rfl)) (fun _ _ _ h => h) (Or.inl ⟨by rfl,?_⟩) ?_ ?_
                    rotate_left
                    ·intro w'
                     go_simp
                     with_reducible rfl
                    rotate_left
                    ·simp only [Act.put,List.setIfInBounds_toArray,List.set_cons_zero,List.set_cons_succ,i64_w,i32_w]
                     rfl
                    refine pure_ (i := 14) (N := some 11) (v := ?_) (a' := ?_) #[true,true,true,true,true,true,true,true,true,true,true,true,true,true,true,false] rfl rfl (any_of HT_.out (by kernel_rfl)) (fun _ _ _ h => h) (Or.inl ⟨by rfl,?_⟩) ?_ ?_
                    rotate_left
                    ·intro w'
                     go_simp
                     with_reducible rfl
                    rotate_left
                    ·simp only [Act.put,List.setIfInBounds_toArray,List.set_cons_zero,List.set_cons_succ,i64_w,i32_w]
                     rfl
                    refine pure_ (i := 15) (N := some 12) (v := ?_) (a' := ?_) #[true,true,true,true,true,true,true,true,true,true,true,true,true,true,true,true] rfl rfl (any_of HT_.out (by kernel_rfl)) (fun _ _ _ h => h) (Or.inl ⟨by rfl,?_⟩) ?_ ?_
                    rotate_left
                    ·intro w'
                     go_simp
                     with_reducible rfl
                    rotate_left
                    ·simp only [Act.put,List.setIfInBounds_toArray,List.set_cons_zero,List.set_cons_succ,i64_w,i32_w]
                     rfl
                    refine done_ (done_of HT_.out (by kernel_rfl)) ?_
                    try go_wp2
                    go_ret2
                    exact ⟨by first | rfl | (simp [errW_none,errW_some] <;> rfl) | (simp [*,errW_none,errW_some] <;> rfl),by repeat (first | (with_reducible first | exact HB.out | apply below_alloc | apply pw_below_drewN | apply below_drew1 | refine below_set ?_ GE133.out | refine below_set ?_ GE134.out) | exact HB.out)⟩
                  ·rw [if_neg c92] at H
                   exact absurd H (by simp)
                 ·rw [if_neg c91] at H
                  exact absurd H (by simp)
                ·rw [if_neg c90] at H
                 have c90b0 : (a0_0 == 3) = false := beq_eq_false_iff_ne.mpr c90
                 have c90b1 : (a0_0 != 3) = true := bne_iff_ne.mpr c90
                 by_cases c105 : 0 < (l0_5.length : Int)
                 ·rw [if_pos c105] at H
                  have c105b0 : decide (0 < (l0_5.length : Int)) = true := decide_eq_true c105
                  have c105b1 : decide (0 < l0_5.length) = true := decide_eq_true (by omega)
                  clear c105
                  by_cases c106 : 0 ≤ x9_4
                  ·rw [if_pos c106] at H
                   have c106b0 : decide (0 ≤ x9_4) = true := decide_eq_true c106
                   clear c106
                   replace H := Option.bind_eq_some_iff.mp H
                   obtain ⟨⟨t144,t145⟩,A1070,H⟩ := H
                   replace H : (if t145 = 0 then (passepartoutref05_fit.l0 k4 (wrap64 (x8_4 + t144)) (wrap64 (x9_4 + 1)) a0_0 a0_1 a0_2 a0_3 a0_4 l0_5 a1_0 l1_1 l1_2) else (some (0,t145))) = some (r1,r2) := H
                   have A107 := Aside0.mk A1070
                   clear A1070
                   by_cases c108 : t145 = 0
                   ·rw [if_pos c108] at H
                    have c108b0 : (t145 == 0) = true := beq_iff_eq.mpr c108
                    have c108b1 : (t145 != 0) = false := bne_eq_false_iff_eq.mpr c108
                    clear c108
                    have H' := Aside0.mk H
                    clear H
                    have hnb109 := NB134_133.out
                    have hnc109 := NB133_134.out
                    have hcz110_0 : wr.cell? ⟨gb134,0,none⟩ = some (.int .u64 a1_0) := (blk_cell BK134.out 0).trans rfl
                    have hcz110_1 : wr.cell? ⟨gb134,1,none⟩ = some (.slice A1_1 l1_1.length c1_1) := (blk_cell BK134.out 1).trans rfl
                    have hcz110_2 : wr.cell? ⟨gb134,2,none⟩ = some (.slice A1_2 l1_2.length c1_2) := (blk_cell BK134.out 2).trans rfl
                    have hfz110_0 := blk_frozen BK134.out 0
                    have hfz110_1 := blk_frozen BK134.out 1
                    have hfz110_2 := blk_frozen BK134.out 2
                    have hcz111_0 : wr.cell? ⟨gb133,0,none⟩ = some (.int .i64 a0_0) := (blk_cell BK133.out 0).trans rfl
                    have hcz111_1 : wr.cell? ⟨gb133,1,none⟩ = some (.int .i64 a0_1) := (blk_cell BK133.out 1).trans rfl
                    have hcz111_2 : wr.cell? ⟨gb133,2,none⟩ = some (.int .i64 a0_2) := (blk_cell BK133.out 2).trans rfl
                    have hcz111_3 : wr.cell? ⟨gb133,3,none⟩ = some (.int .i64 a0_3) := (blk_cell BK133.out 3).trans rfl
                    have hcz111_4 : wr.cell? ⟨gb133,4,none⟩ = some (.int .i64 a0_4) := (blk_cell BK133.out 4).trans rfl
                    have hcz111_5 : wr.cell? ⟨gb133,5,none⟩ = some (.slice A0_5 l0_5.length c0_5) := (blk_cell BK133.out 5).trans rfl
                    have hfz111_0 := blk_frozen BK133.out 0
                    have hfz111_1 := blk_frozen BK133.out 1
                    have hfz111_2 := blk_frozen BK133.out 2
                    have hfz111_3 := blk_frozen BK133.out 3
                    have hfz111_4 := blk_frozen BK133.out 4
                    have hfz111_5 := blk_frozen BK133.out 5
                    try go_wp2
                    have n0_ := Aside0.mk (blk_drew BK133.out)
                    have n1_ := Aside0.mk (blk_drew BK134.out)
                    have n2_ := Aside0.mk (below_drew1 HB.out)
                    clear BK133
                    clear BK134
                    clear HB
                    have BK133 := n0_
                    have BK134 := n1_
                    have HB := n2_
                    clear n0_ n1_ n2_
                    have p142 : 0 ≤ (0 : Int) := (by omega)
                    have q142 : 0 < (l0_5.length : Int) := of_decide_eq_true (by first | (with_reducible assumption) | assumption)
                    obtain ⟨ad142,A142_5,c142_5,e142,hx142_0,hx142_1,hx142_2,hx142_3,hx142_4,hx142_5,hl142_5,hi142_5⟩ := at_T24 HR0_5.out 0 p142 q142
                    have hw142_5 := hx142_5
                    (try rw [show ((0 : Int)).toNat = 0 from rfl] at hw142_5)
                    (try rw [show 0 * 6 = 0 from rfl] at hw142_5)
                    (try rw [Addr.add_zero'] at hw142_5)
                    have hw142_4 := hx142_4
                    (try rw [show ((0 : Int)).toNat = 0 from rfl] at hw142_4)
                    (try rw [show 0 * 6 = 0 from rfl] at hw142_4)
                    (try rw [Addr.add_zero'] at hw142_4)
                    have hw142_3 := hx142_3
                    (try rw [show ((0 : Int)).toNat = 0 from rfl] at hw142_3)
                    (try rw [show 0 * 6 = 0 from rfl] at hw142_3)
                    (try rw [Addr.add_zero'] at hw142_3)
                    have hw142_2 := hx142_2
                    (try rw [show ((0 : Int)).toNat = 0 from rfl] at hw142_2)
                    (try rw [show 0 * 6 = 0 from rfl] at hw142_2)
                    (try rw [Addr.add_zero'] at hw142_2)
                    have hw142_1 := hx142_1
                    (try rw [show ((0 : Int)).toNat = 0 from rfl] at hw142_1)
                    (try rw [show 0 * 6 = 0 from rfl] at hw142_1)
                    (try rw [Addr.add_zero'] at hw142_1)
                    have hw142_0 := hx142_0
                    (try rw [show ((0 : Int)).toNat = 0 from rfl] at hw142_0)
                    (try rw [show 0 * 6 = 0 from rfl] at hw142_0)
                    (try rw [Addr.add_zero'] at hw142_0)
                    cases e142
                    have qi142 : (0 < l0_5.length) = True := eq_true (by omega)
                    (try rw [show ((0 : Int)).toNat = 0 from rfl] at hx142_0)
                    (try rw [show 0 * 6 = 0 from rfl] at hx142_0)
                    (try rw [Addr.add_zero'] at hx142_0)
                    (try rw [show ((0 : Int)).toNat = 0 from rfl] at hx142_1)
                    (try rw [show 0 * 6 = 0 from rfl] at hx142_1)
                    (try rw [Addr.add_zero'] at hx142_1)
                    (try rw [show ((0 : Int)).toNat = 0 from rfl] at hx142_2)
                    (try rw [show 0 * 6 = 0 from rfl] at hx142_2)
                    (try rw [Addr.add_zero'] at hx142_2)
                    (try rw [show ((0 : Int)).toNat = 0 from rfl] at hx142_3)
                    (try rw [show 0 * 6 = 0 from rfl] at hx142_3)
                    (try rw [Addr.add_zero'] at hx142_3)
                    (try rw [show ((0 : Int)).toNat = 0 from rfl] at hx142_4)
                    (try rw [show 0 * 6 = 0 from rfl] at hx142_4)
                    (try rw [Addr.add_zero'] at hx142_4)
                    (try rw [show ((0 : Int)).toNat = 0 from rfl] at hx142_5)
                    (try rw [show 0 * 6 = 0 from rfl] at hx142_5)
                    (try rw [Addr.add_zero'] at hx142_5)
                    replace hx142_0 := (HB.out.cell (World.block_lt_of_cell? w _ hx142_0)).trans hx142_0
                    replace hx142_1 := (HB.out.cell (World.block_lt_of_cell? w _ hx142_1)).trans hx142_1
                    replace hx142_2 := (HB.out.cell (World.block_lt_of_cell? w _ hx142_2)).trans hx142_2
                    replace hx142_3 := (HB.out.cell (World.block_lt_of_cell? w _ hx142_3)).trans hx142_3
                    replace hx142_4 := (HB.out.cell (World.block_lt_of_cell? w _ hx142_4)).trans hx142_4
                    replace hx142_5 := (HB.out.cell (World.block_lt_of_cell? w _ hx142_5)).trans hx142_5
                    have HR142_5 := Aside0.mk hi142_5
                    have HC142_5 := Aside0.mk hl142_5
                    clear hi142_5 hl142_5
                    replace p142 := eq_true p142
                    replace q142 := eq_true q142
                    have p143 : 0 ≤ (x9_4 : Int) := of_decide_eq_true (by first | (with_reducible assumption) | assumption)
                    have q143 : x9_4 < (l1_2.length : Int) := of_decide_eq_true (by first | (with_reducible assumption) | assumption)
                    obtain ⟨ad143,A143_1,c143_1,A143_2,c143_2,e143,hx143_0,hx143_1,hx143_2,hl143_1,hi143_1,hl143_2,hi143_2⟩ := at_T31 HR1_2.out x9_4 p143 q143
                    have hw143_2 := hx143_2
                    have hw143_1 := hx143_1
                    have hw143_0 := hx143_0
                    cases e143
                    replace hx143_0 := (HB.out.cell (World.block_lt_of_cell? w _ hx143_0)).trans hx143_0
                    replace hx143_1 := (HB.out.cell (World.block_lt_of_cell? w _ hx143_1)).trans hx143_1
                    replace hx143_2 := (HB.out.cell (World.block_lt_of_cell? w _ hx143_2)).trans hx143_2
                    have HR143_1 := Aside0.mk hi143_1
                    have HC143_1 := Aside0.mk hl143_1
                    clear hi143_1 hl143_1
                    have HR143_2 := Aside0.mk hi143_2
                    have HC143_2 := Aside0.mk hl143_2
                    clear hi143_2 hl143_2
                    replace p143 := eq_true p143
                    replace q143 := eq_true q143
                    refine start_ (n := 16) (S := fun w' => w'.cell? ⟨gb133,0,none⟩ = some (.int .i64 a0_0) ∧ w'.cell? ⟨gb133,1,none⟩ = some (.int .i64 a0_1) ∧ w'.cell? ⟨gb133,2,none⟩ = some (.int .i64 a0_2) ∧ w'.cell? ⟨gb133,3,none⟩ = some (.int .i64 a0_3) ∧ w'.cell? ⟨gb133,4,none⟩ = some (.int .i64 a0_4) ∧ w'.cell? ⟨gb133,5,none⟩ = some (.slice (some ad142) l0_5.length c0_5) ∧ w'.cell? ⟨gb134,0,none⟩ = some (.int .u64 a1_0) ∧ w'.cell? ⟨gb134,1,none⟩ = some (.slice A1_1 l1_1.length c1_1) ∧ w'.cell? ⟨gb134,2,none⟩ = some (.slice (some ad143) l1_2.length c1_2) ∧ w'.cell? ad142 = some (.int .i64 ((rd_T24 l0_5 0).f0)) ∧ w'.cell? ⟨ad142.block,ad142.off + 1,none⟩ = some (.int .i64 ((rd_T24 l0_5 0).f1)) ∧ w'.cell? ⟨ad142.block,ad142.off + 2,none⟩ = some (.int .i64 ((rd_T24 l0_5 0).f2)) ∧ w'.cell? ⟨ad142.block,ad142.off + 3,none⟩ = some (.int .i64 ((rd_T24 l0_5 0).f3)) ∧ w'.cell? ⟨ad142.block,ad142.off + 4,none⟩ = some (.int .i64 ((rd_T24 l0_5 0).f4)) ∧ w'.cell? ⟨ad142.block,ad142.off + 5,none⟩ = some (.slice A142_5 ((rd_T24 l0_5 0).f5).length c142_5) ∧ w'.cell? (ad143.add ((x9_4).toNat * 3)) = some (.int .u64 ((rd_T31 l1_2 x9_4).f0)) ∧ w'.cell? ⟨(ad143.add ((x9_4).toNat * 3)).block,(ad143.add ((x9_4).toNat * 3)).off + 1,none⟩ = some (.slice A143_1 ((rd_T31 l1_2 x9_4).f1).length c143_1) ∧ w'.cell? ⟨(ad143.add ((x9_4).toNat * 3)).block,(ad143.add ((x9_4).toNat * 3)).off + 2,none⟩ = some (.slice A143_2 ((rd_T31 l1_2 x9_4).f2).length c143_2)) (ds := []) #[false,false,false,false,false,false,false,false,false,false,false,false,false,false,false,false] (by kernel_rfl) rfl rfl ⟨(blk_cell BK133.out 0).trans rfl,(blk_cell BK133.out 1).trans rfl,(blk_cell BK133.out 2).trans rfl,(blk_cell BK133.out 3).trans rfl,(blk_cell BK133.out 4).trans rfl,(blk_cell BK133.out 5).trans rfl,(blk_cell BK134.out 0).trans rfl,(blk_cell BK134.out 1).trans rfl,(blk_cell BK134.out 2).trans rfl,((HB.out.cell (World.block_lt_of_cell? w _ hw142_0)).trans hw142_0),((HB.out.cell (World.block_lt_of_cell? w _ hw142_1)).trans hw142_1),((HB.out.cell (World.block_lt_of_cell? w _ hw142_2)).trans hw142_2),((HB.out.cell (World.block_lt_of_cell? w _ hw142_3)).trans hw142_3),((HB.out.cell (World.block_lt_of_cell? w _ hw142_4)).trans hw142_4),((HB.out.cell (World.block_lt_of_cell? w _ hw142_5)).trans hw142_5),((HB.out.cell (World.block_lt_of_cell? w _ hw143_0)).trans hw143_0),((HB.out.cell (World.block_lt_of_cell? w _ hw143_1)).trans hw143_1),((HB.out.cell (World.block_lt_of_cell? w _ hw143_2)).trans hw143_2)⟩ (fun hHeld => ?_);refine with_tabW passepartoutref05_fit.tab31 passepartoutref05_fit.bits31 (fun HT_ HW_ => ?_)
                    generalize wr.drew = w112 at BK133 BK134 HB HR142_5 HR143_1 HR143_2 hx142_0 hx142_1 hx142_2 hx142_3 hx142_4 hx142_5 hx143_0 hx143_1 hx143_2 hHeld ⊢
                    refine pure_ (i := 0) (N := some 142) (v := ?_) (a' := ?_) #[true,false,false,false,false,false,false,false,false,false,false,false,false,false,false,false] rfl rfl (any_of HT_.out (by kernel_rfl)) (fun _ _ _ h => h) (Or.inl ⟨by rfl,?_⟩) ?_ ?_
                    rotate_left
                    ·intro w'
                     go_simp
                     with_reducible rfl
                    rotate_left
                    ·simp only [Act.put,List.setIfInBounds_toArray,List.set_cons_zero,List.set_cons_succ,i64_w,i32_w]
                     rfl
                    refine pure_ (i := 2) (N := some 144) (v := ?_) (a' := ?_) #[true,false,true,false,false,false,false,false,false,false,false,false,false,false,false,false] rfl rfl (any_of HT_.out (by kernel_rfl)) (fun _ _ _ h => h) (Or.inl ⟨by rfl,?_⟩) ?_ ?_
                    rotate_left
                    ·intro w'
                     go_simp
                     with_reducible rfl
                    rotate_left
                    ·simp only [Act.put,List.setIfInBounds_toArray,List.set_cons_zero,List.set_cons_succ,i64_w,i32_w]
                     rfl
                    refine pure_ (i := 5) (N := some 147) (v := ?_) (a' := ?_) #[true,false,true,false,false,true,false,false,false,false,false,false,false,false,false,false] rfl rfl (any_of HT_.out (by kernel_rfl)) (fun _ _ _ h => h) (Or.inl ⟨by rfl,?_⟩) ?_ ?_
                    rotate_left
                    ·intro w'
                     go_simp
                     with_reducible rfl
                    rotate_left
                    ·simp only [Act.put,List.setIfInBounds_toArray,List.set_cons_zero,List.set_cons_succ,i64_w,i32_w]
                     rfl
                    refine pure_ (i := 7) (N := some 149) (v := ?_) (a' := ?_) #[true,false,true,false,false,true,false,true,false,false,false,false,false,false,false,false] rfl rfl (any_of HT_.out (by kernel_rfl)) (fun _ _ _ h => h) (Or.inl ⟨by rfl,?_⟩) ?_ ?_
                    rotate_left
                    ·intro w'
                     go_simp
                     with_reducible rfl
                    rotate_left
                    ·simp only [Act.put,List.setIfInBounds_toArray,List.set_cons_zero,List.set_cons_succ,i64_w,i32_w]
                     rfl
                    refine take_ (i := 1) (N := some 143) (v := ?_) (a' := ?_) #[true,true,true,false,false,true,false,true,false,false,false,false,false,false,false,false] rfl rfl (take_ofW HT_.out HW_.out (by kernel_rfl)) (fun _ _ _ h => h) (Or.inl ⟨by rfl,?_⟩) hHeld ?_ ?_
                    rotate_left
                    ·rintro w' ⟨s0,s1,s2,s3,s4,s5,s6,s7,s8,s9,s10,s11,s12,s13,s14,s15,s16,s17⟩
                     go_simp
                     with_reducible rfl
                    rotate_left
                    ·simp only [Act.put,List.setIfInBounds_toArray,List.set_cons_zero,List.set_cons_succ,i64_w,i32_w]
                     rfl
                    refine pure_ (i := 3) (N := some 145) (v := ?_) (a' := ?_) #[true,true,true,true,false,true,false,true,false,false,false,false,false,false,false,false] rfl rfl (any_of HT_.out (by kernel_rfl)) (fun _ _ _ h => h) (Or.inl ⟨by rfl,?_⟩) ?_ ?_
                    rotate_left
                    ·intro w'
                     go_simp
                     with_reducible rfl
                    rotate_left
                    ·simp only [Act.put,List.setIfInBounds_toArray,List.set_cons_zero,List.set_cons_succ,i64_w,i32_w]
                     rfl
                    refine take_ (i := 4) (N := some 146) (v := ?_) (a' := ?_) #[true,true,true,true,true,true,false,true,false,false,false,false,false,false,false,false] rfl rfl (take_ofW HT_.out HW_.out (by kernel_rfl)) (fun _ _ _ h => h) (Or.inl ⟨by rfl,?_⟩) hHeld ?_ ?_
                    rotate_left
                    ·rintro w' ⟨s0,s1,s2,s3,s4,s5,s6,s7,s8,s9,s10,s11,s12,s13,s14,s15,s16,s17⟩
                     go_simp
                     with_reducible rfl
                    rotate_left
                    ·simp only [Act.put,List.setIfInBounds_toArray,List.set_cons_zero,List.set_cons_succ,i64_w,i32_w]
                     rfl
                    refine take_ (i := 6) (N := some 148) (v := ?_) (a' := ?_) #[true,true,true,true,true,true,true,true,false,false,false,false,false,false,false,false] rfl rfl (take_ofW HT_.out HW_.out (by kernel_rfl)) (fun _ _ _ h => h) (Or.inl ⟨by rfl,?_⟩) hHeld ?_ ?_
                    rotate_left
                    ·rintro w' ⟨s0,s1,s2,s3,s4,s5,s6,s7,s8,s9,s10,s11,s12,s13,s14,s15,s16,s17⟩
                     go_simp
                     with_reducible rfl
                    rotate_left
                    ·simp only [Act.put,List.setIfInBounds_toArray,List.set_cons_zero,List.set_cons_succ,i64_w,i32_w]
                     rfl
                    refine pure_ (i := 8) (N := some 150) (v := ?_) (a' := ?_) #[true,true,true,true,true,true,true,true,true,false,false,false,false,false,false,false] rfl rfl (any_of HT_.out (by kernel_rfl)) (fun _ _ _ h => h) (Or.inl ⟨by rfl,?_⟩) ?_ ?_
                    rotate_left
                    ·intro w'
                     go_simp
                     with_reducible rfl
                    rotate_left
                    ·simp only [Act.put,List.setIfInBounds_toArray,List.set_cons_zero,List.set_cons_succ,i64_w,i32_w]
                     rfl
                    refine take_ (i := 9) (N := some 151) (v := ?_) (a' := ?_) #[true,true,true,true,true,true,true,true,true,true,false,false,false,false,false,false] rfl rfl (take_ofW HT_.out HW_.out (by kernel_rfl)) (fun _ _ _ h => h) (Or.inl ⟨by rfl,?_⟩) hHeld ?_ ?_
                    rotate_left
                    ·rintro w' ⟨s0,s1,s2,s3,s4,s5,s6,s7,s8,s9,s10,s11,s12,s13,s14,s15,s16,s17⟩
                     go_simp
                     with_reducible rfl
                    rotate_left
                    ·simp only [Act.put,List.setIfInBounds_toArray,List.set_cons_zero,List.set_cons_succ,i64_w,i32_w]
                     rfl
                    refine one_ (i := 10) (N := some 152) #[true,true,true,true,true,true,true,true,true,true,true,false,false,false,false,false] rfl rfl (one_of HT_.out (by kernel_rfl)) (by decide) (fun K hK => ?_)
                    refine goes_ Tryd.func28 (by kernel_rfl) rfl #[.agg #[.int .i64 ((rd_T24 l0_5 0).f0),.int .i64 ((rd_T24 l0_5 0).f1),.int .i64 ((rd_T24 l0_5 0).f2),.int .i64 ((rd_T24 l0_5 0).f3),.int .i64 ((rd_T24 l0_5 0).f4),.slice A142_5 ((rd_T24 l0_5 0).f5).length c142_5],.agg #[.int .u64 ((rd_T31 l1_2 x9_4).f0),.slice A143_1 ((rd_T31 l1_2 x9_4).f1).length c143_1,.slice A143_2 ((rd_T31 l1_2 x9_4).f2).length c143_2]] (by rfl) rfl rfl (by (try simp only [List.map_toArray,List.map_cons,List.map_nil]);first | done | rfl | (simp only [List.length_drop,List.length_take];rfl)) ?_
                    with_reducible refine (ih k4 (by have := HJ2.out;have := HJ15.out;have := HJ78.out;have := HK4.out;omega) ((rd_T24 l0_5 0).f0) ((rd_T24 l0_5 0).f1) ((rd_T24 l0_5 0).f2) ((rd_T24 l0_5 0).f3) ((rd_T24 l0_5 0).f4) _ _ ((rd_T24 l0_5 0).f5) ((rd_T31 l1_2 x9_4).f0) _ _ ((rd_T31 l1_2 x9_4).f1) _ _ ((rd_T31 l1_2 x9_4).f2) t144 t145 _ ?side1 ?side2 ?side3 ?side4 ?side5 ?side6 A107.out).mono ?_
                    (case side1 => repeat (first | exact (Kd.C_below HR142_5.out HB.out) | (with_reducible refine Kd.C_alloc ?_ _) | (with_reducible refine Kd.C_drewN ?_ _) | (with_reducible refine Kd.C_drew ?_)))
                    (case side2 => exact HC142_5.out)
                    (case side3 => repeat (first | exact (Kd.C_below HR143_1.out HB.out) | (with_reducible refine Kd.C_alloc ?_ _) | (with_reducible refine Kd.C_drewN ?_ _) | (with_reducible refine Kd.C_drew ?_)))
                    (case side4 => exact HC143_1.out)
                    (case side5 => repeat (first | exact (Kd.C_below HR143_2.out HB.out) | (with_reducible refine Kd.C_alloc ?_ _) | (with_reducible refine Kd.C_drewN ?_ _) | (with_reducible refine Kd.C_drew ?_)))
                    (case side6 => exact HC143_2.out)
                    rintro e w113 ⟨rfl,hb⟩
                    refine ⟨_,rfl,?_⟩
                    have n0_ := Aside0.mk (blk_below (g := gb133) (o := .cells #[.int .i64 a0_0,.int .i64 a0_1,.int .i64 a0_2,.int .i64 a0_3,.int .i64 a0_4,.slice (some ad142) l0_5.length c0_5] 24 (0,0)) (by (with_reducible repeat (first | refine blk_drewN ?_ _ | refine blk_drew ?_ | refine blk_alloc ?_ _));exact BK133.out) hb)
                    have n1_ := Aside0.mk (blk_below (g := gb134) (o := .cells #[.int .u64 a1_0,.slice A1_1 l1_1.length c1_1,.slice (some ad143) l1_2.length c1_2] 31 (0,0)) (by (with_reducible repeat (first | refine blk_drewN ?_ _ | refine blk_drew ?_ | refine blk_alloc ?_ _));exact BK134.out) hb)
                    have n2_ := Aside0.mk (below_step (by repeat (first | (with_reducible first | exact HB.out | apply below_alloc | apply pw_below_drewN | apply below_drew1 | refine below_set ?_ GE133.out | refine below_set ?_ GE134.out) | exact HB.out)) hb)
                    clear BK133
                    clear BK134
                    clear HB
                    have BK133 := n0_
                    have BK134 := n1_
                    have HB := n2_
                    clear n0_ n1_ n2_
                    (try clear hb)
                    (try clear hb2)
                    (try clear hk)
                    (try clear hi)
                    refine hK.out _ _ ⟨(blk_cell BK133.out 0).trans rfl,(blk_cell BK133.out 1).trans rfl,(blk_cell BK133.out 2).trans rfl,(blk_cell BK133.out 3).trans rfl,(blk_cell BK133.out 4).trans rfl,(blk_cell BK133.out 5).trans rfl,(blk_cell BK134.out 0).trans rfl,(blk_cell BK134.out 1).trans rfl,(blk_cell BK134.out 2).trans rfl,((HB.out.cell (World.block_lt_of_cell? w _ hw142_0)).trans hw142_0),((HB.out.cell (World.block_lt_of_cell? w _ hw142_1)).trans hw142_1),((HB.out.cell (World.block_lt_of_cell? w _ hw142_2)).trans hw142_2),((HB.out.cell (World.block_lt_of_cell? w _ hw142_3)).trans hw142_3),((HB.out.cell (World.block_lt_of_cell? w _ hw142_4)).trans hw142_4),((HB.out.cell (World.block_lt_of_cell? w _ hw142_5)).trans hw142_5),((HB.out.cell (World.block_lt_of_cell? w _ hw143_0)).trans hw143_0),((HB.out.cell (World.block_lt_of_cell? w _ hw143_1)).trans hw143_1),((HB.out.cell (World.block_lt_of_cell? w _ hw143_2)).trans hw143_2)⟩ (fun hHeld => ?_)
                    clear hK K
                    refine norm_ (a' := ?_) ?_ ?_
                    rotate_left
                    ·show Act.put _ (some 152) _ = _
                     simp only [Act.put,List.setIfInBounds_toArray,List.set_cons_zero,List.set_cons_succ,i64_w,i32_w]
                     rfl
                    refine pure_ (i := 11) (N := some 141) (v := ?_) (a' := ?_) #[true,true,true,true,true,true,true,true,true,true,true,true,false,false,false,false] rfl rfl (any_of HT_.out (by kernel_rfl)) (fun _ _ _ h => h) (Or.inl ⟨by rfl,?_⟩) ?_ ?_
                    rotate_left
                    ·intro w'
                     go_simp
                     with_reducible rfl
                    rotate_left
                    ·simp only [Act.put,List.setIfInBounds_toArray,List.set_cons_zero,List.set_cons_succ,i64_w,i32_w]
                     rfl
                    refine pure_ (i := 12) (N := some 153) (v := ?_) (a' := ?_) #[true,true,true,true,true,true,true,true,true,true,true,true,true,false,false,false] rfl rfl (any_of HT_.out (by kernel_rfl)) (fun _ _ _ h => h) (Or.inl ⟨by rfl,?_⟩) ?_ ?_
                    rotate_left
                    ·intro w'
                     go_simp
                     with_reducible rfl
                    rotate_left
                    ·simp only [Act.put,List.setIfInBounds_toArray,List.set_cons_zero,List.set_cons_succ,i64_w,i32_w]
                     rfl
                    refine pure_ (i := 13) (N := some 154) (v := ?_) (a' := ?_) #[true,true,true,true,true,true,true,true,true,true,true,true,true,true,false,false] rfl rfl (any_of HT_.out (by kernel_rfl)) (fun _ _ _ h => h) (Or.inl ⟨by rfl,?_⟩) ?_ ?_
                    rotate_left
                    ·intro w'
                     go_simp
                     with_reducible rfl
                    rotate_left
                    ·simp only [Act.put,List.setIfInBounds_toArray,List.set_cons_zero,List.set_cons_succ,i64_w,i32_w]
                     rfl
                    refine pure_ (i := 14) (N := some 11) (v := ?_) (a' := ?_) #[true,true,true,true,true,true,true,true,true,true,true,true,true,true,true,false] rfl rfl (any_of HT_.out (by kernel_rfl)) (fun _ _ _ h => h) (Or.inl ⟨by rfl,?_⟩) ?_ ?_
                    rotate_left
                    ·intro w'
                     go_simp
                     with_reducible rfl
                    rotate_left
                    ·simp only [Act.put,List.setIfInBounds_toArray,List.set_cons_zero,List.set_cons_succ,i64_w,i32_w]
                     rfl
                    refine pure_ (i := 15) (N := some 12) (v := ?_) (a' := ?_) #[true,true,true,true,true,true,true,true,true,true,true,true,true,true,true,true] rfl rfl (any_of HT_.out (by kernel_rfl)) (fun _ _ _ h => h) (Or.inl ⟨by rfl,?_⟩) ?_ ?_
                    rotate_left
                    ·intro w'
                     go_simp
                     with_reducible rfl
                    rotate_left
                    ·simp only [Act.put,List.setIfInBounds_toArray,List.set_cons_zero,List.set_cons_succ,i64_w,i32_w]
                     rfl
                    refine done_ (done_of HT_.out (by kernel_rfl)) ?_
                    try go_wp2
                    go_roundg k4
                    case measure => have := HJ2.out;have := HJ15.out;have := HJ78.out;have := HK4.out;omega
                    case rel => exact ⟨(wrap64 (x8_4 + t144)),(wrap64 (x9_4 + 1)),(by first | rfl | (simp;done) | (simp [*];done)),(by first | rfl | (simp;done) | (simp [*];done)),H',⟨by have := HJ2.out;have := HJ15.out;have := HJ78.out;have := HK4.out;omega⟩,⟨by (with_reducible repeat (first | refine blk_drewN ?_ _ | refine blk_drew ?_ | refine blk_alloc ?_ _));exact BK133.out⟩,⟨by (with_reducible repeat (first | refine blk_drewN ?_ _ | refine blk_drew ?_ | refine blk_alloc ?_ _));exact BK134.out⟩,⟨by repeat (first | (with_reducible first | exact HB.out | apply below_alloc | apply pw_below_drewN | apply below_drew1 | refine below_set ?_ GE133.out | refine below_set ?_ GE134.out) | exact HB.out)⟩⟩
                   ·rw [if_neg c108] at H
                    have c108b0 : (t145 == 0) = false := beq_eq_false_iff_ne.mpr c108
                    have c108b1 : (t145 != 0) = true := bne_iff_ne.mpr c108
                    simp only [Option.some.injEq,Prod.mk.injEq] at H
                    obtain ⟨rfl,rfl⟩ := H
                    have hnb114 := NB134_133.out
                    have hnc114 := NB133_134.out
                    have hcz115_0 : wr.cell? ⟨gb134,0,none⟩ = some (.int .u64 a1_0) := (blk_cell BK134.out 0).trans rfl
                    have hcz115_1 : wr.cell? ⟨gb134,1,none⟩ = some (.slice A1_1 l1_1.length c1_1) := (blk_cell BK134.out 1).trans rfl
                    have hcz115_2 : wr.cell? ⟨gb134,2,none⟩ = some (.slice A1_2 l1_2.length c1_2) := (blk_cell BK134.out 2).trans rfl
                    have hfz115_0 := blk_frozen BK134.out 0
                    have hfz115_1 := blk_frozen BK134.out 1
                    have hfz115_2 := blk_frozen BK134.out 2
                    have hcz116_0 : wr.cell? ⟨gb133,0,none⟩ = some (.int .i64 a0_0) := (blk_cell BK133.out 0).trans rfl
                    have hcz116_1 : wr.cell? ⟨gb133,1,none⟩ = some (.int .i64 a0_1) := (blk_cell BK133.out 1).trans rfl
                    have hcz116_2 : wr.cell? ⟨gb133,2,none⟩ = some (.int .i64 a0_2) := (blk_cell BK133.out 2).trans rfl
                    have hcz116_3 : wr.cell? ⟨gb133,3,none⟩ = some (.int .i64 a0_3) := (blk_cell BK133.out 3).trans rfl
                    have hcz116_4 : wr.cell? ⟨gb133,4,none⟩ = some (.int .i64 a0_4) := (blk_cell BK133.out 4).trans rfl
                    have hcz116_5 : wr.cell? ⟨gb133,5,none⟩ = some (.slice A0_5 l0_5.length c0_5) := (blk_cell BK133.out 5).trans rfl
                    have hfz116_0 := blk_frozen BK133.out 0
                    have hfz116_1 := blk_frozen BK133.out 1
                    have hfz116_2 := blk_frozen BK133.out 2
                    have hfz116_3 := blk_frozen BK133.out 3
                    have hfz116_4 := blk_frozen BK133.out 4
                    have hfz116_5 := blk_frozen BK133.out 5
                    try go_wp2
                    have n0_ := Aside0.mk (blk_drew BK133.out)
                    have n1_ := Aside0.mk (blk_drew BK134.out)
                    have n2_ := Aside0.mk (below_drew1 HB.out)
                    clear BK133
                    clear BK134
                    clear HB
                    have BK133 := n0_
                    have BK134 := n1_
                    have HB := n2_
                    clear n0_ n1_ n2_
                    have p142 : 0 ≤ (0 : Int) := (by omega)
                    have q142 : 0 < (l0_5.length : Int) := of_decide_eq_true (by first | (with_reducible assumption) | assumption)
                    obtain ⟨ad142,A142_5,c142_5,e142,hx142_0,hx142_1,hx142_2,hx142_3,hx142_4,hx142_5,hl142_5,hi142_5⟩ := at_T24 HR0_5.out 0 p142 q142
                    have hw142_5 := hx142_5
                    (try rw [show ((0 : Int)).toNat = 0 from rfl] at hw142_5)
                    (try rw [show 0 * 6 = 0 from rfl] at hw142_5)
                    (try rw [Addr.add_zero'] at hw142_5)
                    have hw142_4 := hx142_4
                    (try rw [show ((0 : Int)).toNat = 0 from rfl] at hw142_4)
                    (try rw [show 0 * 6 = 0 from rfl] at hw142_4)
                    (try rw [Addr.add_zero'] at hw142_4)
                    have hw142_3 := hx142_3
                    (try rw [show ((0 : Int)).toNat = 0 from rfl] at hw142_3)
                    (try rw [show 0 * 6 = 0 from rfl] at hw142_3)
                    (try rw [Addr.add_zero'] at hw142_3)
                    have hw142_2 := hx142_2
                    (try rw [show ((0 : Int)).toNat = 0 from rfl] at hw142_2)
                    (try rw [show 0 * 6 = 0 from rfl] at hw142_2)
                    (try rw [Addr.add_zero'] at hw142_2)
                    have hw142_1 := hx142_1
                    (try rw [show ((0 : Int)).toNat = 0 from rfl] at hw142_1)
                    (try rw [show 0 * 6 = 0 from rfl] at hw142_1)
                    (try rw [Addr.add_zero'] at hw142_1)
                    have hw142_0 := hx142_0
                    (try rw [show ((0 : Int)).toNat = 0 from rfl] at hw142_0)
                    (try rw [show 0 * 6 = 0 from rfl] at hw142_0)
                    (try rw [Addr.add_zero'] at hw142_0)
                    cases e142
                    have qi142 : (0 < l0_5.length) = True := eq_true (by omega)
                    (try rw [show ((0 : Int)).toNat = 0 from rfl] at hx142_0)
                    (try rw [show 0 * 6 = 0 from rfl] at hx142_0)
                    (try rw [Addr.add_zero'] at hx142_0)
                    (try rw [show ((0 : Int)).toNat = 0 from rfl] at hx142_1)
                    (try rw [show 0 * 6 = 0 from rfl] at hx142_1)
                    (try rw [Addr.add_zero'] at hx142_1)
                    (try rw [show ((0 : Int)).toNat = 0 from rfl] at hx142_2)
                    (try rw [show 0 * 6 = 0 from rfl] at hx142_2)
                    (try rw [Addr.add_zero'] at hx142_2)
                    (try rw [show ((0 : Int)).toNat = 0 from rfl] at hx142_3)
                    (try rw [show 0 * 6 = 0 from rfl] at hx142_3)
                    (try rw [Addr.add_zero'] at hx142_3)
                    (try rw [show ((0 : Int)).toNat = 0 from rfl] at hx142_4)
                    (try rw [show 0 * 6 = 0 from rfl] at hx142_4)
                    (try rw [Addr.add_zero'] at hx142_4)
                    (try rw [show ((0 : Int)).toNat = 0 from rfl] at hx142_5)
                    (try rw [show 0 * 6 = 0 from rfl] at hx142_5)
                    (try rw [Addr.add_zero'] at hx142_5)
                    replace hx142_0 := (HB.out.cell (World.block_lt_of_cell? w _ hx142_0)).trans hx142_0
                    replace hx142_1 := (HB.out.cell (World.block_lt_of_cell? w _ hx142_1)).trans hx142_1
                    replace hx142_2 := (HB.out.cell (World.block_lt_of_cell? w _ hx142_2)).trans hx142_2
                    replace hx142_3 := (HB.out.cell (World.block_lt_of_cell? w _ hx142_3)).trans hx142_3
                    replace hx142_4 := (HB.out.cell (World.block_lt_of_cell? w _ hx142_4)).trans hx142_4
                    replace hx142_5 := (HB.out.cell (World.block_lt_of_cell? w _ hx142_5)).trans hx142_5
                    have HR142_5 := Aside0.mk hi142_5
                    have HC142_5 := Aside0.mk hl142_5
                    clear hi142_5 hl142_5
                    replace p142 := eq_true p142
                    replace q142 := eq_true q142
                    have p143 : 0 ≤ (x9_4 : Int) := of_decide_eq_true (by first | (with_reducible assumption) | assumption)
                    have q143 : x9_4 < (l1_2.length : Int) := of_decide_eq_true (by first | (with_reducible assumption) | assumption)
                    obtain ⟨ad143,A143_1,c143_1,A143_2,c143_2,e143,hx143_0,hx143_1,hx143_2,hl143_1,hi143_1,hl143_2,hi143_2⟩ := at_T31 HR1_2.out x9_4 p143 q143
                    have hw143_2 := hx143_2
                    have hw143_1 := hx143_1
                    have hw143_0 := hx143_0
                    cases e143
                    replace hx143_0 := (HB.out.cell (World.block_lt_of_cell? w _ hx143_0)).trans hx143_0
                    replace hx143_1 := (HB.out.cell (World.block_lt_of_cell? w _ hx143_1)).trans hx143_1
                    replace hx143_2 := (HB.out.cell (World.block_lt_of_cell? w _ hx143_2)).trans hx143_2
                    have HR143_1 := Aside0.mk hi143_1
                    have HC143_1 := Aside0.mk hl143_1
                    clear hi143_1 hl143_1
                    have HR143_2 := Aside0.mk hi143_2
                    have HC143_2 := Aside0.mk hl143_2
                    clear hi143_2 hl143_2
                    replace p143 := eq_true p143
                    replace q143 := eq_true q143
                    refine start_ (n := 16) (S := fun w' => w'.cell? ⟨gb133,0,none⟩ = some (.int .i64 a0_0) ∧ w'.cell? ⟨gb133,1,none⟩ = some (.int .i64 a0_1) ∧ w'.cell? ⟨gb133,2,none⟩ = some (.int .i64 a0_2) ∧ w'.cell? ⟨gb133,3,none⟩ = some (.int .i64 a0_3) ∧ w'.cell? ⟨gb133,4,none⟩ = some (.int .i64 a0_4) ∧ w'.cell? ⟨gb133,5,none⟩ = some (.slice (some ad142) l0_5.length c0_5) ∧ w'.cell? ⟨gb134,0,none⟩ = some (.int .u64 a1_0) ∧ w'.cell? ⟨gb134,1,none⟩ = some (.slice A1_1 l1_1.length c1_1) ∧ w'.cell? ⟨gb134,2,none⟩ = some (.slice (some ad143) l1_2.length c1_2) ∧ w'.cell? ad142 = some (.int .i64 ((rd_T24 l0_5 0).f0)) ∧ w'.cell? ⟨ad142.block,ad142.off + 1,none⟩ = some (.int .i64 ((rd_T24 l0_5 0).f1)) ∧ w'.cell? ⟨ad142.block,ad142.off + 2,none⟩ = some (.int .i64 ((rd_T24 l0_5 0).f2)) ∧ w'.cell? ⟨ad142.block,ad142.off + 3,none⟩ = some (.int .i64 ((rd_T24 l0_5 0).f3)) ∧ w'.cell? ⟨ad142.block,ad142.off + 4,none⟩ = some (.int .i64 ((rd_T24 l0_5 0).f4)) ∧ w'.cell? ⟨ad142.block,ad142.off + 5,none⟩ = some (.slice A142_5 ((rd_T24 l0_5 0).f5).length c142_5) ∧ w'.cell? (ad143.add ((x9_4).toNat * 3)) = some (.int .u64 ((rd_T31 l1_2 x9_4).f0)) ∧ w'.cell? ⟨(ad143.add ((x9_4).toNat * 3)).block,(ad143.add ((x9_4).toNat * 3)).off + 1,none⟩ = some (.slice A143_1 ((rd_T31 l1_2 x9_4).f1).length c143_1) ∧ w'.cell? ⟨(ad143.add ((x9_4).toNat * 3)).block,(ad143.add ((x9_4).toNat * 3)).off + 2,none⟩ = some (.slice A143_2 ((rd_T31 l1_2 x9_4).f2).length c143_2)) (ds := []) #[false,false,false,false,false,false,false,false,false,false,false,false,false,false,false,false] (by kernel_rfl) rfl rfl ⟨(blk_cell BK133.out 0).trans rfl,(blk_cell BK133.out 1).trans rfl,(blk_cell BK133.out 2).trans rfl,(blk_cell BK133.out 3).trans rfl,(blk_cell BK133.out 4).trans rfl,(blk_cell BK133.out 5).trans rfl,(blk_cell BK134.out 0).trans rfl,(blk_cell BK134.out 1).trans rfl,(blk_cell BK134.out 2).trans rfl,((HB.out.cell (World.block_lt_of_cell? w _ hw142_0)).trans hw142_0),((HB.out.cell (World.block_lt_of_cell? w _ hw142_1)).trans hw142_1),((HB.out.cell (World.block_lt_of_cell? w _ hw142_2)).trans hw142_2),((HB.out.cell (World.block_lt_of_cell? w _ hw142_3)).trans hw142_3),((HB.out.cell (World.block_lt_of_cell? w _ hw142_4)).trans hw142_4),((HB.out.cell (World.block_lt_of_cell? w _ hw142_5)).trans hw142_5),((HB.out.cell (World.block_lt_of_cell? w _ hw143_0)).trans hw143_0),((HB.out.cell (World.block_lt_of_cell? w _ hw143_1)).trans hw143_1),((HB.out.cell (World.block_lt_of_cell? w _ hw143_2)).trans hw143_2)⟩ (fun hHeld => ?_);refine with_tabW passepartoutref05_fit.tab31 passepartoutref05_fit.bits31 (fun HT_ HW_ => ?_)
                    generalize wr.drew = w117 at BK133 BK134 HB HR142_5 HR143_1 HR143_2 hx142_0 hx142_1 hx142_2 hx142_3 hx142_4 hx142_5 hx143_0 hx143_1 hx143_2 hHeld ⊢
                    refine pure_ (i := 0) (N := some 142) (v := ?_) (a' := ?_) #[true,false,false,false,false,false,false,false,false,false,false,false,false,false,false,false] rfl rfl (any_of HT_.out (by kernel_rfl)) (fun _ _ _ h => h) (Or.inl ⟨by rfl,?_⟩) ?_ ?_
                    rotate_left
                    ·intro w'
                     go_simp
                     with_reducible rfl
                    rotate_left
                    ·simp only [Act.put,List.setIfInBounds_toArray,List.set_cons_zero,List.set_cons_succ,i64_w,i32_w]
                     rfl
                    refine pure_ (i := 2) (N := some 144) (v := ?_) (a' := ?_) #[true,false,true,false,false,false,false,false,false,false,false,false,false,false,false,false] rfl rfl (any_of HT_.out (by kernel_rfl)) (fun _ _ _ h => h) (Or.inl ⟨by rfl,?_⟩) ?_ ?_
                    rotate_left
                    ·intro w'
                     go_simp
                     with_reducible rfl
                    rotate_left
                    ·simp only [Act.put,List.setIfInBounds_toArray,List.set_cons_zero,List.set_cons_succ,i64_w,i32_w]
                     rfl
                    refine pure_ (i := 5) (N := some 147) (v := ?_) (a' := ?_) #[true,false,true,false,false,true,false,false,false,false,false,false,false,false,false,false] rfl rfl (any_of HT_.out (by kernel_rfl)) (fun _ _ _ h => h) (Or.inl ⟨by rfl,?_⟩) ?_ ?_
                    rotate_left
                    ·intro w'
                     go_simp
                     with_reducible rfl
                    rotate_left
                    ·simp only [Act.put,List.setIfInBounds_toArray,List.set_cons_zero,List.set_cons_succ,i64_w,i32_w]
                     rfl
                    refine pure_ (i := 7) (N := some 149) (v := ?_) (a' := ?_) #[true,false,true,false,false,true,false,true,false,false,false,false,false,false,false,false] rfl rfl (any_of HT_.out (by kernel_rfl)) (fun _ _ _ h => h) (Or.inl ⟨by rfl,?_⟩) ?_ ?_
                    rotate_left
                    ·intro w'
                     go_simp
                     with_reducible rfl
                    rotate_left
                    ·simp only [Act.put,List.setIfInBounds_toArray,List.set_cons_zero,List.set_cons_succ,i64_w,i32_w]
                     rfl
                    refine take_ (i := 1) (N := some 143) (v := ?_) (a' := ?_) #[true,true,true,false,false,true,false,true,false,false,false,false,false,false,false,false] rfl rfl (take_ofW HT_.out HW_.out (by kernel_rfl)) (fun _ _ _ h => h) (Or.inl ⟨by rfl,?_⟩) hHeld ?_ ?_
                    rotate_left
                    ·rintro w' ⟨s0,s1,s2,s3,s4,s5,s6,s7,s8,s9,s10,s11,s12,s13,s14,s15,s16,s17⟩
                     go_simp
                     with_reducible rfl
                    rotate_left
                    ·simp only [Act.put,List.setIfInBounds_toArray,List.set_cons_zero,List.set_cons_succ,i64_w,i32_w]
                     rfl
                    refine pure_ (i := 3) (N := some 145) (v := ?_) (a' := ?_) #[true,true,true,true,false,true,false,true,false,false,false,false,false,false,false,false] rfl rfl (any_of HT_.out (by kernel_rfl)) (fun _ _ _ h => h) (Or.inl ⟨by rfl,?_⟩) ?_ ?_
                    rotate_left
                    ·intro w'
                     go_simp
                     with_reducible rfl
                    rotate_left
                    ·simp only [Act.put,List.setIfInBounds_toArray,List.set_cons_zero,List.set_cons_succ,i64_w,i32_w]
                     rfl
                    refine take_ (i := 4) (N := some 146) (v := ?_) (a' := ?_) #[true,true,true,true,true,true,false,true,false,false,false,false,false,false,false,false] rfl rfl (take_ofW HT_.out HW_.out (by kernel_rfl)) (fun _ _ _ h => h) (Or.inl ⟨by rfl,?_⟩) hHeld ?_ ?_
                    rotate_left
                    ·rintro w' ⟨s0,s1,s2,s3,s4,s5,s6,s7,s8,s9,s10,s11,s12,s13,s14,s15,s16,s17⟩
                     go_simp
                     with_reducible rfl
                    rotate_left
                    ·simp only [Act.put,List.setIfInBounds_toArray,List.set_cons_zero,List.set_cons_succ,i64_w,i32_w]
                     rfl
                    refine take_ (i := 6) (N := some 148) (v := ?_) (a' := ?_) #[true,true,true,true,true,true,true,true,false,false,false,false,false,false,false,false] rfl rfl (take_ofW HT_.out HW_.out (by kernel_rfl)) (fun _ _ _ h => h) (Or.inl ⟨by rfl,?_⟩) hHeld ?_ ?_
                    rotate_left
                    ·rintro w' ⟨s0,s1,s2,s3,s4,s5,s6,s7,s8,s9,s10,s11,s12,s13,s14,s15,s16,s17⟩
                     go_simp
                     with_reducible rfl
                    rotate_left
                    ·simp only [Act.put,List.setIfInBounds_toArray,List.set_cons_zero,List.set_cons_succ,i64_w,i32_w]
                     rfl
                    refine pure_ (i := 8) (N := some 150) (v := ?_) (a' := ?_) #[true,true,true,true,true,true,true,true,true,false,false,false,false,false,false,false] rfl rfl (any_of HT_.out (by kernel_rfl)) (fun _ _ _ h => h) (Or.inl ⟨by rfl,?_⟩) ?_ ?_
                    rotate_left
                    ·intro w'
                     go_simp
                     with_reducible rfl
                    rotate_left
                    ·simp only [Act.put,List.setIfInBounds_toArray,List.set_cons_zero,List.set_cons_succ,i64_w,i32_w]
                     rfl
                    refine take_ (i := 9) (N := some 151) (v := ?_) (a' := ?_) #[true,true,true,true,true,true,true,true,true,true,false,false,false,false,false,false] rfl rfl (take_ofW HT_.out HW_.out (by kernel_rfl)) (fun _ _ _ h => h) (Or.inl ⟨by rfl,?_⟩) hHeld ?_ ?_
                    rotate_left
                    ·rintro w' ⟨s0,s1,s2,s3,s4,s5,s6,s7,s8,s9,s10,s11,s12,s13,s14,s15,s16,s17⟩
                     go_simp
                     with_reducible rfl
                    rotate_left
                    ·simp only [Act.put,List.setIfInBounds_toArray,List.set_cons_zero,List.set_cons_succ,i64_w,i32_w]
                     rfl
                    refine one_ (i := 10) (N := some 152) #[true,true,true,true,true,true,true,true,true,true,true,false,false,false,false,false] rfl rfl (one_of HT_.out (by kernel_rfl)) (by decide) (fun K hK => ?_)
                    refine goes_ Tryd.func28 (by kernel_rfl) rfl #[.agg #[.int .i64 ((rd_T24 l0_5 0).f0),.int .i64 ((rd_T24 l0_5 0).f1),.int .i64 ((rd_T24 l0_5 0).f2),.int .i64 ((rd_T24 l0_5 0).f3),.int .i64 ((rd_T24 l0_5 0).f4),.slice A142_5 ((rd_T24 l0_5 0).f5).length c142_5],.agg #[.int .u64 ((rd_T31 l1_2 x9_4).f0),.slice A143_1 ((rd_T31 l1_2 x9_4).f1).length c143_1,.slice A143_2 ((rd_T31 l1_2 x9_4).f2).length c143_2]] (by rfl) rfl rfl (by (try simp only [List.map_toArray,List.map_cons,List.map_nil]);first | done | rfl | (simp only [List.length_drop,List.length_take];rfl)) ?_
                    with_reducible refine (ih k4 (by have := HJ2.out;have := HJ15.out;have := HJ78.out;have := HK4.out;omega) ((rd_T24 l0_5 0).f0) ((rd_T24 l0_5 0).f1) ((rd_T24 l0_5 0).f2) ((rd_T24 l0_5 0).f3) ((rd_T24 l0_5 0).f4) _ _ ((rd_T24 l0_5 0).f5) ((rd_T31 l1_2 x9_4).f0) _ _ ((rd_T31 l1_2 x9_4).f1) _ _ ((rd_T31 l1_2 x9_4).f2) t144 t145 _ ?side1 ?side2 ?side3 ?side4 ?side5 ?side6 A107.out).mono ?_
                    (case side1 => repeat (first | exact (Kd.C_below HR142_5.out HB.out) | (with_reducible refine Kd.C_alloc ?_ _) | (with_reducible refine Kd.C_drewN ?_ _) | (with_reducible refine Kd.C_drew ?_)))
                    (case side2 => exact HC142_5.out)
                    (case side3 => repeat (first | exact (Kd.C_below HR143_1.out HB.out) | (with_reducible refine Kd.C_alloc ?_ _) | (with_reducible refine Kd.C_drewN ?_ _) | (with_reducible refine Kd.C_drew ?_)))
                    (case side4 => exact HC143_1.out)
                    (case side5 => repeat (first | exact (Kd.C_below HR143_2.out HB.out) | (with_reducible refine Kd.C_alloc ?_ _) | (with_reducible refine Kd.C_drewN ?_ _) | (with_reducible refine Kd.C_drew ?_)))
                    (case side6 => exact HC143_2.out)
                    rintro e w118 ⟨rfl,hb⟩
                    refine ⟨_,rfl,?_⟩
                    have n0_ := Aside0.mk (blk_below (g := gb133) (o := .cells #[.int .i64 a0_0,.int .i64 a0_1,.int .i64 a0_2,.int .i64 a0_3,.int .i64 a0_4,.slice (some ad142) l0_5.length c0_5] 24 (0,0)) (by (with_reducible repeat (first | refine blk_drewN ?_ _ | refine blk_drew ?_ | refine blk_alloc ?_ _));exact BK133.out) hb)
                    have n1_ := Aside0.mk (blk_below (g := gb134) (o := .cells #[.int .u64 a1_0,.slice A1_1 l1_1.length c1_1,.slice (some ad143) l1_2.length c1_2] 31 (0,0)) (by (with_reducible repeat (first | refine blk_drewN ?_ _ | refine blk_drew ?_ | refine blk_alloc ?_ _));exact BK134.out) hb)
                    have n2_ := Aside0.mk (below_step (by repeat (first | (with_reducible first | exact HB.out | apply below_alloc | apply pw_below_drewN | apply below_drew1 | refine below_set ?_ GE133.out | refine below_set ?_ GE134.out) | exact HB.out)) hb)
                    clear BK133
                    clear BK134
                    clear HB
                    have BK133 := n0_
                    have BK134 := n1_
                    have HB := n2_
                    clear n0_ n1_ n2_
                    (try clear hb)
                    (try clear hb2)
                    (try clear hk)
                    (try clear hi)
                    refine hK.out _ _ ⟨(blk_cell BK133.out 0).trans rfl,(blk_cell BK133.out 1).trans rfl,(blk_cell BK133.out 2).trans rfl,(blk_cell BK133.out 3).trans rfl,(blk_cell BK133.out 4).trans rfl,(blk_cell BK133.out 5).trans rfl,(blk_cell BK134.out 0).trans rfl,(blk_cell BK134.out 1).trans rfl,(blk_cell BK134.out 2).trans rfl,((HB.out.cell (World.block_lt_of_cell? w _ hw142_0)).trans hw142_0),((HB.out.cell (World.block_lt_of_cell? w _ hw142_1)).trans hw142_1),((HB.out.cell (World.block_lt_of_cell? w _ hw142_2)).trans hw142_2),((HB.out.cell (World.block_lt_of_cell? w _ hw142_3)).trans hw142_3),((HB.out.cell (World.block_lt_of_cell? w _ hw142_4)).trans hw142_4),((HB.out.cell (World.block_lt_of_cell? w _ hw142_5)).trans hw142_5),((HB.out.cell (World.block_lt_of_cell? w _ hw143_0)).trans hw143_0),((HB.out.cell (World.block_lt_of_cell? w _ hw143_1)).trans hw143_1),((HB.out.cell (World.block_lt_of_cell? w _ hw143_2)).trans hw143_2)⟩ (fun hHeld => ?_)
                    clear hK K
                    refine norm_ (a' := ?_) ?_ ?_
                    rotate_left
                    ·show Act.put _ (some 152) _ = _
                     simp only [Act.put,List.setIfInBounds_toArray,List.set_cons_zero,List.set_cons_succ,i64_w,i32_w]
                     rfl
                    refine pure_ (i := 11) (N := some 141) (v := ?_) (a' := ?_) #[true,true,true,true,true,true,true,true,true,true,true,true,false,false,false,false] rfl rfl (any_of HT_.out (by kernel_rfl)) (fun _ _ _ h => h) (Or.inl ⟨by rfl,?_⟩) ?_ ?_
                    rotate_left
                    ·intro w'
                     go_simp
                     with_reducible rfl
                    rotate_left
                    ·simp only [Act.put,List.setIfInBounds_toArray,List.set_cons_zero,List.set_cons_succ,i64_w,i32_w]
                     rfl
                    refine pure_ (i := 12) (N := some 153) (v := ?_) (a' := ?_) #[true,true,true,true,true,true,true,true,true,true,true,true,true,false,false,false] rfl rfl (any_of HT_.out (by kernel_rfl)) (fun _ _ _ h => h) (Or.inl ⟨by rfl,?_⟩) ?_ ?_
                    rotate_left
                    ·intro w'
                     go_simp
                     with_reducible rfl
                    rotate_left
                    ·simp only [Act.put,List.setIfInBounds_toArray,List.set_cons_zero,List.set_cons_succ,i64_w,i32_w]
                     rfl
                    refine pure_ (i := 13) (N := some 154) (v := ?_) (a' := ?_) #[true,true,true,true,true,true,true,true,true,true,true,true,true,true,false,false] rfl rfl (any_of HT_.out (by kernel_rfl)) (fun _ _ _ h => h) (Or.inl ⟨by rfl,?_⟩) ?_ ?_
                    rotate_left
                    ·intro w'
                     go_simp
                     with_reducible rfl
                    rotate_left
                    ·simp only [Act.put,List.setIfInBounds_toArray,List.set_cons_zero,List.set_cons_succ,i64_w,i32_w]
                     rfl
                    refine pure_ (i := 14) (N := some 11) (v := ?_) (a' := ?_) #[true,true,true,true,true,true,true,true,true,true,true,true,true,true,true,false] rfl rfl (any_of HT_.out (by kernel_rfl)) (fun _ _ _ h => h) (Or.inl ⟨by rfl,?_⟩) ?_ ?_
                    rotate_left
                    ·intro w'
                     go_simp
                     with_reducible rfl
                    rotate_left
                    ·simp only [Act.put,List.setIfInBounds_toArray,List.set_cons_zero,List.set_cons_succ,i64_w,i32_w]
                     rfl
                    refine pure_ (i := 15) (N := some 12) (v := ?_) (a' := ?_) #[true,true,true,true,true,true,true,true,true,true,true,true,true,true,true,true] rfl rfl (any_of HT_.out (by kernel_rfl)) (fun _ _ _ h => h) (Or.inl ⟨by rfl,?_⟩) ?_ ?_
                    rotate_left
                    ·intro w'
                     go_simp
                     with_reducible rfl
                    rotate_left
                    ·simp only [Act.put,List.setIfInBounds_toArray,List.set_cons_zero,List.set_cons_succ,i64_w,i32_w]
                     rfl
                    refine done_ (done_of HT_.out (by kernel_rfl)) ?_
                    try go_wp2
                    go_ret2
                    exact ⟨by first | rfl | (simp [errW_none,errW_some] <;> rfl) | (simp [*,errW_none,errW_some] <;> rfl),by repeat (first | (with_reducible first | exact HB.out | apply below_alloc | apply pw_below_drewN | apply below_drew1 | refine below_set ?_ GE133.out | refine below_set ?_ GE134.out) | exact HB.out)⟩
                  ·rw [if_neg c106] at H
                   exact absurd H (by simp)
                 ·rw [if_neg c105] at H
                  exact absurd H (by simp)
               ·rw [if_neg c89] at H
                have c89b0 : decide (x9_4 < (l1_2.length : Int)) = false := decide_eq_false c89
                clear c89
                by_cases c119 : a0_0 = 3
                ·rw [if_pos c119] at H
                 have c119b0 : (a0_0 == 3) = true := beq_iff_eq.mpr c119
                 have c119b1 : (a0_0 != 3) = false := bne_eq_false_iff_eq.mpr c119
                 clear c119
                 simp only [Option.some.injEq,Prod.mk.injEq] at H
                 obtain ⟨rfl,rfl⟩ := H
                 have hnb120 := NB134_133.out
                 have hnc120 := NB133_134.out
                 have hcz121_0 : wr.cell? ⟨gb134,0,none⟩ = some (.int .u64 a1_0) := (blk_cell BK134.out 0).trans rfl
                 have hcz121_1 : wr.cell? ⟨gb134,1,none⟩ = some (.slice A1_1 l1_1.length c1_1) := (blk_cell BK134.out 1).trans rfl
                 have hcz121_2 : wr.cell? ⟨gb134,2,none⟩ = some (.slice A1_2 l1_2.length c1_2) := (blk_cell BK134.out 2).trans rfl
                 have hfz121_0 := blk_frozen BK134.out 0
                 have hfz121_1 := blk_frozen BK134.out 1
                 have hfz121_2 := blk_frozen BK134.out 2
                 have hcz122_0 : wr.cell? ⟨gb133,0,none⟩ = some (.int .i64 a0_0) := (blk_cell BK133.out 0).trans rfl
                 have hcz122_1 : wr.cell? ⟨gb133,1,none⟩ = some (.int .i64 a0_1) := (blk_cell BK133.out 1).trans rfl
                 have hcz122_2 : wr.cell? ⟨gb133,2,none⟩ = some (.int .i64 a0_2) := (blk_cell BK133.out 2).trans rfl
                 have hcz122_3 : wr.cell? ⟨gb133,3,none⟩ = some (.int .i64 a0_3) := (blk_cell BK133.out 3).trans rfl
                 have hcz122_4 : wr.cell? ⟨gb133,4,none⟩ = some (.int .i64 a0_4) := (blk_cell BK133.out 4).trans rfl
                 have hcz122_5 : wr.cell? ⟨gb133,5,none⟩ = some (.slice A0_5 l0_5.length c0_5) := (blk_cell BK133.out 5).trans rfl
                 have hfz122_0 := blk_frozen BK133.out 0
                 have hfz122_1 := blk_frozen BK133.out 1
                 have hfz122_2 := blk_frozen BK133.out 2
                 have hfz122_3 := blk_frozen BK133.out 3
                 have hfz122_4 := blk_frozen BK133.out 4
                 have hfz122_5 := blk_frozen BK133.out 5
                 go_wp2
                 go_ret2
                 exact ⟨by first | rfl | (simp [errW_none,errW_some] <;> rfl) | (simp [*,errW_none,errW_some] <;> rfl),by repeat (first | (with_reducible first | exact HB.out | apply below_alloc | apply pw_below_drewN | apply below_drew1 | refine below_set ?_ GE133.out | refine below_set ?_ GE134.out) | exact HB.out)⟩
                ·rw [if_neg c119] at H
                 have c119b0 : (a0_0 == 3) = false := beq_eq_false_iff_ne.mpr c119
                 have c119b1 : (a0_0 != 3) = true := bne_iff_ne.mpr c119
                 replace H := Option.bind_eq_some_iff.mp H
                 obtain ⟨t146,A1230,H⟩ := H
                 replace H : (if t146 = true then (some (wrap64 (a0_1 + x8_4),0)) else (some (0,5))) = some (r1,r2) := H
                 have A123 := Aside0.mk A1230
                 clear A1230
                 by_cases c124 : t146 = true
                 ·subst c124
                  have H1 : (some (wrap64 (a0_1 + x8_4),0)) = some (r1,r2) := by rw [if_pos rfl] at H;exact H
                  clear H
                  have H := H1
                  clear H1
                  simp only [Option.some.injEq,Prod.mk.injEq] at H
                  obtain ⟨rfl,rfl⟩ := H
                  have hnb125 := NB134_133.out
                  have hnc125 := NB133_134.out
                  have hcz126_0 : wr.cell? ⟨gb134,0,none⟩ = some (.int .u64 a1_0) := (blk_cell BK134.out 0).trans rfl
                  have hcz126_1 : wr.cell? ⟨gb134,1,none⟩ = some (.slice A1_1 l1_1.length c1_1) := (blk_cell BK134.out 1).trans rfl
                  have hcz126_2 : wr.cell? ⟨gb134,2,none⟩ = some (.slice A1_2 l1_2.length c1_2) := (blk_cell BK134.out 2).trans rfl
                  have hfz126_0 := blk_frozen BK134.out 0
                  have hfz126_1 := blk_frozen BK134.out 1
                  have hfz126_2 := blk_frozen BK134.out 2
                  have hcz127_0 : wr.cell? ⟨gb133,0,none⟩ = some (.int .i64 a0_0) := (blk_cell BK133.out 0).trans rfl
                  have hcz127_1 : wr.cell? ⟨gb133,1,none⟩ = some (.int .i64 a0_1) := (blk_cell BK133.out 1).trans rfl
                  have hcz127_2 : wr.cell? ⟨gb133,2,none⟩ = some (.int .i64 a0_2) := (blk_cell BK133.out 2).trans rfl
                  have hcz127_3 : wr.cell? ⟨gb133,3,none⟩ = some (.int .i64 a0_3) := (blk_cell BK133.out 3).trans rfl
                  have hcz127_4 : wr.cell? ⟨gb133,4,none⟩ = some (.int .i64 a0_4) := (blk_cell BK133.out 4).trans rfl
                  have hcz127_5 : wr.cell? ⟨gb133,5,none⟩ = some (.slice A0_5 l0_5.length c0_5) := (blk_cell BK133.out 5).trans rfl
                  have hfz127_0 := blk_frozen BK133.out 0
                  have hfz127_1 := blk_frozen BK133.out 1
                  have hfz127_2 := blk_frozen BK133.out 2
                  have hfz127_3 := blk_frozen BK133.out 3
                  have hfz127_4 := blk_frozen BK133.out 4
                  have hfz127_5 := blk_frozen BK133.out 5
                  go_wp2_with (first | ((with_reducible refine gate_callee (f := 45) rfl ?_);refine goesL_ (some 172) rfl rfl Tryd.func45 (by kernel_rfl) rfl #[.int .i64 x8_4,.int .i64 a0_2,.int .i64 a0_3,.int .i64 a0_4] rfl (by (try simp only [List.map_toArray,List.map_cons,List.map_nil]);first | done | rfl | (simp only [List.length_drop,List.length_take];rfl)) ?_;(with_reducible refine (passepartoutref05_between.calls x8_4 a0_2 a0_3 a0_4 true _ A123.out).mono ?_);rintro e w' ⟨rfl,⟨nd,rfl⟩⟩;refine ⟨_,rfl,?_⟩))
                  go_ret2
                  exact ⟨by first | rfl | (simp [errW_none,errW_some] <;> rfl) | (simp [*,errW_none,errW_some] <;> rfl),by repeat (first | (with_reducible first | exact HB.out | apply below_alloc | apply pw_below_drewN | apply below_drew1 | refine below_set ?_ GE133.out | refine below_set ?_ GE134.out) | exact HB.out)⟩
                 ·replace c124 := Bool.eq_false_iff.mpr c124
                  subst c124
                  have H1 : (some (0,5)) = some (r1,r2) := by rw [if_neg (show ¬ (false = true) by decide)] at H;exact H
                  clear H
                  have H := H1
                  clear H1
                  simp only [Option.some.injEq,Prod.mk.injEq] at H
                  obtain ⟨rfl,rfl⟩ := H
                  have hnb128 := NB134_133.out
                  have hnc128 := NB133_134.out
                  have hcz129_0 : wr.cell? ⟨gb134,0,none⟩ = some (.int .u64 a1_0) := (blk_cell BK134.out 0).trans rfl
                  have hcz129_1 : wr.cell? ⟨gb134,1,none⟩ = some (.slice A1_1 l1_1.length c1_1) := (blk_cell BK134.out 1).trans rfl
                  have hcz129_2 : wr.cell? ⟨gb134,2,none⟩ = some (.slice A1_2 l1_2.length c1_2) := (blk_cell BK134.out 2).trans rfl
                  have hfz129_0 := blk_frozen BK134.out 0
                  have hfz129_1 := blk_frozen BK134.out 1
                  have hfz129_2 := blk_frozen BK134.out 2
                  have hcz130_0 : wr.cell? ⟨gb133,0,none⟩ = some (.int .i64 a0_0) := (blk_cell BK133.out 0).trans rfl
                  have hcz130_1 : wr.cell? ⟨gb133,1,none⟩ = some (.int .i64 a0_1) := (blk_cell BK133.out 1).trans rfl
                  have hcz130_2 : wr.cell? ⟨gb133,2,none⟩ = some (.int .i64 a0_2) := (blk_cell BK133.out 2).trans rfl
                  have hcz130_3 : wr.cell? ⟨gb133,3,none⟩ = some (.int .i64 a0_3) := (blk_cell BK133.out 3).trans rfl
                  have hcz130_4 : wr.cell? ⟨gb133,4,none⟩ = some (.int .i64 a0_4) := (blk_cell BK133.out 4).trans rfl
                  have hcz130_5 : wr.cell? ⟨gb133,5,none⟩ = some (.slice A0_5 l0_5.length c0_5) := (blk_cell BK133.out 5).trans rfl
                  have hfz130_0 := blk_frozen BK133.out 0
                  have hfz130_1 := blk_frozen BK133.out 1
                  have hfz130_2 := blk_frozen BK133.out 2
                  have hfz130_3 := blk_frozen BK133.out 3
                  have hfz130_4 := blk_frozen BK133.out 4
                  have hfz130_5 := blk_frozen BK133.out 5
                  go_wp2_with (first | ((with_reducible refine gate_callee (f := 45) rfl ?_);refine goesL_ (some 172) rfl rfl Tryd.func45 (by kernel_rfl) rfl #[.int .i64 x8_4,.int .i64 a0_2,.int .i64 a0_3,.int .i64 a0_4] rfl (by (try simp only [List.map_toArray,List.map_cons,List.map_nil]);first | done | rfl | (simp only [List.length_drop,List.length_take];rfl)) ?_;(with_reducible refine (passepartoutref05_between.calls x8_4 a0_2 a0_3 a0_4 false _ A123.out).mono ?_);rintro e w' ⟨rfl,⟨nd,rfl⟩⟩;refine ⟨_,rfl,?_⟩))
                  go_ret2
                  exact ⟨by first | rfl | (simp [errW_none,errW_some] <;> rfl) | (simp [*,errW_none,errW_some] <;> rfl),by repeat (first | (with_reducible first | exact HB.out | apply below_alloc | apply pw_below_drewN | apply below_drew1 | refine below_set ?_ GE133.out | refine below_set ?_ GE134.out) | exact HB.out)⟩

end Go.Proofs.YtdhnfccgojgehaaDoor.QP
