/-
  Texts for the law ReadFits: part 4.
-/
import Derived.Deep.LoopGhost
import Derived.Deep.RegionHeld3
import Derived.Deep.RegionLaw
import Derived.Deep.DeepCutAuto
import Derived.Test.YtdhnfccgojgehaaDoorMReadFits1
import Derived.Test.YtdhnfccgojgehaaDoorMReadFits2
import Derived.Test.YtdhnfccgojgehaaDoorMReadFits3

set_option linter.unusedVariables false
set_option linter.unusedSimpArgs false
namespace Go.Proofs.YtdhnfccgojgehaaDoor
open Go.RowKit

theorem iter_end {f : List UInt8 → RdT} {n : Nat} {b : List UInt8} {d q : Nat} {acc : List Vt} (h : b.length = 0) : iterR f n b d q acc = .got (.mk ⟨0, []⟩ acc) b q := by
  cases n with
  | zero => rw [iterR]
  | succ n => rw [iterR, if_pos h]
theorem iter_step {f : List UInt8 → RdT} {n : Nat} {b : List UInt8} {d q : Nat} {acc : List Vt} (h : b.length ≠ 0) : iterR f (n + 1) b d q acc = match f b with
    | .bad a e s => .bad (d + a) e (q + s)
    | .got x r s => iterR f n r (d + (b.length - r.length)) (q + s) (acc ++ [x]) := by
  rw [iterR, if_neg h]
  rfl
theorem iter_steps {f : List UInt8 → RdT} : ∀ (n : Nat) (b : List UInt8) (d q : Nat) (acc : List Vt), q ≤ (iterR f n b d q acc).steps
  | 0, b, d, q, acc => by rw [iterR]; exact Nat.le_refl _
  | n + 1, b, d, q, acc => by
    rw [iterR]
    split
    · exact Nat.le_refl _
    · split
      · simp only [RdT.steps]; omega
      · exact Nat.le_trans (by omega) (iter_steps n _ _ _ _)
theorem read_less {f : Fm} {b : List UInt8} (hz : szF f ≤ 100000) (hc : checkR f = 0) (hl : leastR f ≠ 0) (hb : b.length ≤ 140737488351232) {x : Vt} {r : List UInt8} {s : Nat} (h : readR f b = .got x r s) : r.length < b.length := by
  obtain ⟨u, e, _, h1, _⟩ := read_got f hz hc b hb x r s h
  have h2 := (span_sz FH.lo (.inl rfl) f hz hc).1
  have h3 : leastR f = spanR FH.lo f := rfl
  rw [e, List.length_append]
  omega

/-- A list's loop: what holds at each round. 'gs': the cursor of its own; 'N': behind the last of its bytes. -/
def ListI (ok : Nat → Prop) (rg cg gs : Nat) (t : Value) (h : FH) (A0 : Option Addr) (c0 : Nat) (f : List UInt8 → RdT) (N : Nat) (rest : List UInt8) (a : Int) (q : Nat) (R : RdT) (w : World) (gh : Nat) (wr : World) : Prop :=
  ∃ (acc : List Vt) (v : Value), acc.length ≤ N ∧ Kp (S3 rg cg t) w wr ∧ Blk wr w.heap.size 24 #[.int .i64 h.k, .int .i64 h.s, .int .i64 h.lo, .int .i64 h.hi, .int .i64 h.st, .slice A0 1 c0] ∧
    Blk wr (w.heap.size + 1) 31 #[.int .u64 0, .slice none 0 0, .slice none 0 0] ∧ Blk wr (w.heap.size + 2) 31 #[.int .u64 0, .slice none 0 0, v] ∧ OwnT VHd 3 31 wr (fun j => w.heap.size + 3 ≤ j ∧ j ≠ gs) v acc ∧ w.heap.size + 3 ≤ wr.heap.size ∧ gs < wr.heap.size ∧ Cur wr ok cg rest (a + N) ∧
    ((∃ (b' : List UInt8) (d q' fuel : Nat), gh = b'.length + 1 ∧ b'.length ≤ fuel ∧ iterR f fuel b' d q' acc = R ∧ d + b'.length = N ∧ acc.length ≤ d ∧ RdB wr rg t 0 0 ∧ Cur wr ok gs b' (a + d) ∧ Tl wr t (q + q') ∧ q' ≤ R.steps) ∨
     (gh = 0 ∧ ∃ o er s, R = .bad o er s ∧ er ≠ 0 ∧ RdB wr rg t (a + o) er ∧ Tl wr t (q + s)))

/-- One thing more. -/
theorem list_next {ok : Nat → Prop} {rg cg gs : Nat} {t : Value} {h : FH} {A0 : Option Addr} {c0 : Nat} {g : Fm} {N : Nat} {rest : List UInt8} {a : Int} {q : Nat} {R : RdT} {w wr : World} {acc : List Vt} {v : Value} {b' : List UInt8} {d q' fuel : Nat}
    (hz : szF g ≤ 100000) (hc : checkR g = 0) (hl : leastR g ≠ 0) (hbm : b'.length ≤ 140737488351232) (h0 : b'.length ≠ 0) (hfu : b'.length ≤ fuel)
    (E : RdEnv ok rg gs t b' (a + d) wr) (hcg : cg < w.heap.size) (hokl : ∀ i, ok i → i < w.heap.size) (hrc : rg ≠ cg) (hrw : rg < w.heap.size) (htc : ∀ g, t = .pointer (some ⟨g, 0, none⟩) → g < w.heap.size ∧ g ≠ cg) (hgs : w.heap.size + 3 ≤ gs)
    (hk : Kp (S3 rg cg t) w wr) (hbf : Blk wr w.heap.size 24 #[.int .i64 h.k, .int .i64 h.s, .int .i64 h.lo, .int .i64 h.hi, .int .i64 h.st, .slice A0 1 c0])
    (hb1 : Blk wr (w.heap.size + 1) 31 #[.int .u64 0, .slice none 0 0, .slice none 0 0]) (hbv : Blk wr (w.heap.size + 2) 31 #[.int .u64 0, .slice none 0 0, v]) (ho : OwnT VHd 3 31 wr (fun j => w.heap.size + 3 ≤ j ∧ j ≠ gs) v acc) 
    (hcur : Cur wr ok cg rest (a + N)) (hdn : d + b'.length = N) (hacc : acc.length ≤ d) (hrow : iterR (readR g) fuel b' d q' acc = R)
    {w2 w3 : World} {x : Vt} {v2 : Value} {o : Obj} (hk2 : Kp (S3 rg gs t) wr w2) (hq : EndQ ok rg gs t b' (a + d) w2 x (readR g b')) (ht : Tl w2 t (q + q' + (readR g b').steps))
    (ho3 : OwnT VHd 3 31 w3 (fun j => w.heap.size + 3 ≤ j ∧ j ≠ gs) v2 (acc ++ [x])) (hk3 : Kp (fun j => v.ownBlock = some j) (w2.alloc o) w3) :
    ∃ gn, gn < b'.length + 1 ∧ ListI ok rg cg gs t h A0 c0 (readR g) N rest a q R w gn (w3.setCell ⟨w.heap.size + 2, 2, none⟩ v2) := by
  have hw := hk.size
  have hz2 := hk2.size
  have hvl : ∀ j, v.ownBlock = some j → w.heap.size + 3 ≤ j ∧ j ≠ gs := fun j hj => by
    obtain ⟨xs, h1, _⟩ := ho
    exact h1.2 j hj
  have hvl2 : ∀ j, v.ownBlock = some j → j < wr.heap.size := fun j hj => ho.lt hj
  have hka : Kp (fun j => v.ownBlock = some j) w2 w3 := ((Kp.refl _ w2).alloc o).then_ hk3 (fun j hj => .inl hj)
  have hks : Kp (fun j => j = w.heap.size + 2) w3 (w3.setCell ⟨w.heap.size + 2, 2, none⟩ v2) := (Kp.refl (fun j => j = w.heap.size + 2) w3).setCell (p := ⟨w.heap.size + 2, 2, none⟩) (.inl rfl) v2
  have hz3 := hka.size
  have nS : ∀ j, w.heap.size ≤ j → j ≠ gs → ¬ S3 rg gs t j := fun j hj hg hs => by
    rcases hs with rfl | rfl | hs
    · omega
    · exact hg rfl
    · have := (htc j hs).1; omega
  have hk4 : Kp (S3 rg cg t) w w3 := (hk.then_ hk2 (fun j hj => by
    rcases hj with rfl | rfl | hs
    · exact .inl (.inl rfl)
    · exact .inr (by omega)
    · exact .inl (.inr (.inr hs)))).then_ hka (fun j hj => .inr (by have := (hvl j hj).1; omega))
  have g1 : ∀ {T : TypeId} {cs : Array Value} (g : Nat), w.heap.size ≤ g → g < w.heap.size + 2 → Blk wr g T cs → Blk (w3.setCell ⟨w.heap.size + 2, 2, none⟩ v2) g T cs := fun g h1 h2 hb =>
    ((hb.kp hk2 (nS g h1 (by omega))).kp hka (fun he => by have := (hvl g he).1; omega)).kp hks (by omega)
  have hv3 : Blk w3 (w.heap.size + 2) 31 #[.int .u64 0, .slice none 0 0, v] := (hbv.kp hk2 (nS _ (by omega) (by omega))).kp hka (fun he => by have := (hvl _ he).1; omega)
  have keepOk : ∀ j, ok j → ¬ v.ownBlock = some j := fun j hj he => by have := hokl j hj; have := (hvl j he).1; omega
  have hc4 : Cur (w3.setCell ⟨w.heap.size + 2, 2, none⟩ v2) ok cg rest (a + N) := ((hcur.kp hk2 (fun j hj => E.ok_S j hj) (fun hs => by
    rcases hs with rfl | rfl | hs
    · exact hrc rfl
    · omega
    · exact (htc _ hs).2 rfl)).kp hka keepOk (fun he => by have := (hvl cg he).1; omega)).kp hks (fun j hj he => by have := hokl j hj; omega) (by omega)
  have hrg : ∀ {a1 e1 : Int}, RdB w2 rg t a1 e1 → RdB (w3.setCell ⟨w.heap.size + 2, 2, none⟩ v2) rg t a1 e1 := fun h1 => (h1.kp hka (fun he => by have := (hvl rg he).1; omega)).kp hks (by omega)
  have htl : Tl (w3.setCell ⟨w.heap.size + 2, 2, none⟩ v2) t (q + q' + (readR g b').steps) := (ht.kp hka (fun g hg he => by have := (htc g hg).1; have := (hvl g he).1; omega)).kp hks (fun g hg he => by have := (htc g hg).1; omega)
  have hv4 : Blk (w3.setCell ⟨w.heap.size + 2, 2, none⟩ v2) (w.heap.size + 2) 31 #[.int .u64 0, .slice none 0 0, v2] := by
    have := hv3.set_ 2 v2
    simpa using this
  have ho4 := ho3.kp_ VHd_kp hks (fun j hj he => by have := hj.1; omega)
  have hgl := E.hcl
  have hlen : (acc ++ [x]).length = acc.length + 1 := by simp
  have hzk := hks.size
  obtain ⟨fl, rfl⟩ : ∃ fl, fuel = fl + 1 := ⟨fuel - 1, by omega⟩
  rw [iter_step h0] at hrow
  cases hg : readR g b' with
  | bad o2 er s2 =>
    rw [hg] at hq htl hrow
    obtain ⟨hq1, hq2⟩ := hq
    simp only at hrow
    refine ⟨0, by omega, acc ++ [x], v2, by omega, hk4.then_ hks (fun j hj => .inr (by omega)), g1 _ (by omega) (by omega) hbf, g1 _ (by omega) (by omega) hb1, hv4, ho4, by omega, by omega, hc4, .inr ⟨rfl, d + o2, er, q' + s2, hrow.symm, hq2, ?_, ?_⟩⟩
    · have := hrg hq1
      rw [show a + (d : Int) + o2 = a + (d + o2) by omega] at this
      exact this
    · rw [show q + (q' + s2) = q + q' + s2 by omega]
      exact htl
  | got y r s2 =>
    rw [hg] at hq htl hrow
    obtain ⟨rfl, hq2, hq3⟩ := hq
    simp only at hrow
    have hlt := read_less hz hc hl hbm hg
    refine ⟨r.length + 1, by omega, acc ++ [x], v2, by omega, hk4.then_ hks (fun j hj => .inr (by omega)), g1 _ (by omega) (by omega) hbf, g1 _ (by omega) (by omega) hb1, hv4, ho4, by omega, by omega, hc4, .inl ⟨r, d + (b'.length - r.length), q' + s2, fl, rfl, by omega, hrow, by omega, by omega, hrg hq2, ?_, ?_, by rw [← hrow]; exact iter_steps _ _ _ _ _⟩⟩
    · have := (hq3.kp hka keepOk (fun he => (hvl gs he).2 rfl)).kp hks (fun j hj he => by have := hokl j hj; omega) (by omega)
      rw [show a + ((d + (b'.length - r.length) : Nat) : Int) = a + (d : Int) + ((b'.length - r.length : Nat) : Int) by omega]
      exact this
    · rw [show q + (q' + s2) = q + q' + s2 by omega]
      exact htl

set_option maxRecDepth 100000 in
set_option maxHeartbeats 3200000 in
theorem list_rd (ok : Nat → Prop) (rg cg : Nat) (t : Value) (h : FH) (g : Fm) (A0 : Option Addr) (c0 : Nat) (b : List UInt8) (a : Int) (q : Nat) (w : World) (k2 : h.k = 2) (hs : 1 ≤ h.s ∧ h.s ≤ 3) (hst : 1 ≤ h.st ∧ h.st ≤ 65536) (hz : szF g ≤ 100000) (hck : checkR g = 0) (hl : leastR g ≠ 0) (ih : FormC ok rg t g) (E : RdEnv ok rg cg t b a w)
    (hv : FmR w ok (fv h A0 1 c0) (.mk h [g])) (hr : RdB w rg t 0 0) (hc : Cur w ok cg b a) (ht : Tl w t (q + 1)) (hroom : t = .pointer none ∨ q + (readR (.mk h [g]) b).steps ≤ 1073741824) (tab : Tab06 w) :
    Calls Tryd.prog 59 #[.pointer (some ⟨rg, 0, none⟩), .pointer (some ⟨cg, 0, none⟩), fv h A0 1 c0] w (FormQ ok rg cg t b a q w (readR (.mk h [g]) b)) := by
  have hR : readR (.mk h [g]) b = if (lenE h b).2.1 ≠ 0 then .bad (lenE h b).1 (lenE h b).2.1 1
    else match iterR (readR g) (lenE h b).2.2 ((b.drop h.s.toNat).take (lenE h b).2.2) h.s.toNat 1 [] with
      | .bad a e q => .bad a e q
      | .got x _ q => .got x (b.drop (h.s.toNat + (lenE h b).2.2)) q := by
    rw [readR_mk, if_neg (by omega), if_neg (by omega), if_neg (by omega), if_neg (by omega), if_neg (by omega), readHd_one]
    rfl
  have hsub := fun (W : World) h1 h2 => sub_rd ok rg cg t h 1 A0 c0 b a W hs hst h1 h2 E.hoc E.hrc (by have := E.hl; omega) E.ha E.hal
  have hLn : (lenE h b).2.1 = 0 → h.s.toNat + (lenE h b).2.2 ≤ b.length := fun he => (lenE_ok he).2.2.2.2.1
  generalize readR (.mk h [g]) b = R at hR hroom
  generalize lenE h b = L at hR hsub hLn
  obtain ⟨k, s, lo, hi, st⟩ := h
  simp only at k2 hs hst hR hsub hLn
  subst k2
  have ka : Kp (fun _ => False) w (((w.alloc (.cells #[.int .i64 2, .int .i64 s, .int .i64 lo, .int .i64 hi, .int .i64 st, .slice A0 1 c0] 24)).alloc (.cells #[.int .u64 0, .slice none 0 0, .slice none 0 0] 31)).alloc (.cells #[.int .u64 0, .slice none 0 0, .slice none 0 0] 31)) := (((Kp.refl _ w).alloc _).alloc _).alloc _
  have hsz : (((w.alloc (.cells #[.int .i64 2, .int .i64 s, .int .i64 lo, .int .i64 hi, .int .i64 st, .slice A0 1 c0] 24)).alloc (.cells #[.int .u64 0, .slice none 0 0, .slice none 0 0] 31)).alloc (.cells #[.int .u64 0, .slice none 0 0, .slice none 0 0] 31)).heap.size = w.heap.size + 3 := by rw [World.size_alloc, World.size_alloc, World.size_alloc]
  have hb0 := ((Blk.new w 24 #[.int .i64 2, .int .i64 s, .int .i64 lo, .int .i64 hi, .int .i64 st, .slice A0 1 c0]).alloc (.cells #[.int .u64 0, .slice none 0 0, .slice none 0 0] 31)).alloc (.cells #[.int .u64 0, .slice none 0 0, .slice none 0 0] 31)
  have hb1 := (Blk.new (w.alloc (.cells #[.int .i64 2, .int .i64 s, .int .i64 lo, .int .i64 hi, .int .i64 st, .slice A0 1 c0] 24)) 31 #[.int .u64 0, .slice none 0 0, .slice none 0 0]).alloc (.cells #[.int .u64 0, .slice none 0 0, .slice none 0 0] 31)
  have hb2 := Blk.new ((w.alloc (.cells #[.int .i64 2, .int .i64 s, .int .i64 lo, .int .i64 hi, .int .i64 st, .slice A0 1 c0] 24)).alloc (.cells #[.int .u64 0, .slice none 0 0, .slice none 0 0] 31)) 31 #[.int .u64 0, .slice none 0 0, .slice none 0 0]
  rw [World.size_alloc] at hb1
  rw [World.size_alloc, World.size_alloc] at hb2
  have HS := Lib.hid (hsub _ (hr.kp ka (fun h => h)) (hc.kp ka (fun _ _ h => h) (fun h => h)))
  have HB0 := Lib.hid hb0
  have HB1 := Lib.hid hb1
  have HB2 := Lib.hid hb2
  have HKA := Lib.hid ka
  have HV := Lib.hid hv
  have HIH := Lib.hid ih
  have HE := Lib.hid E
  have HT := Lib.hid tab
  have HTL := Lib.hid (ht.kp ka (fun _ _ h => h))
  have HRM := Lib.hid hroom
  have HRR := Lib.hid hR
  have HLN := Lib.hid hLn
  have hrl := E.hrl
  have hcl := E.hcl
  clear ka hb0 hb1 hb2 hr hc ht hv ih E tab hroom hR hLn hsub
  go_enter Tryd.func59, Tryd.ntmps59
  go_wp2_with fail
  generalize (((w.alloc (.cells #[.int .i64 2, .int .i64 s, .int .i64 lo, .int .i64 hi, .int .i64 st, .slice A0 1 c0] 24)).alloc (.cells #[.int .u64 0, .slice none 0 0, .slice none 0 0] 31)).alloc (.cells #[.int .u64 0, .slice none 0 0, .slice none 0 0] 31)) = W0 at HS HB0 HB1 HB2 HKA HTL hsz ⊢
  refine HS.out.mono ?_
  rintro e w1 ⟨hk1, hres⟩
  have HBF1 := Lib.hid (HB0.out.kp hk1 (by unfold S2; omega))
  have HB11 := Lib.hid (HB1.out.kp hk1 (by unfold S2; omega))
  have HBV1 := Lib.hid (HB2.out.kp hk1 (by unfold S2; omega))
  have HK1 := Lib.hid (show Kp (S3 rg cg t) w w1 from (HKA.out.mono (fun _ _ h => h.elim)).then_ hk1 (fun i hi => .inl (hi.imp id .inl)))
  have HTL1 := Lib.hid (HTL.out.kp hk1 (fun gg hgg hs => hs.elim (fun e => HE.out.htr gg hgg e) (fun e => HE.out.htc gg hgg e)))
  have hz1 := hk1.size
  rw [hsz] at hz1
  clear hk1 HS HB0 HB1 HB2 HKA HTL
  rcases hres with ⟨he, rfl, hr1⟩ | ⟨he, gs, rfl, hgs, hc1, hc2, hr1⟩
  · have e2 := Blk.cell hr1 2
    simp at e2
    have e2b : (L.2.1 == 0) = false := by simpa using he
    have hb2 := HB11.out
    have z0 := hb2.frozen 0
    have z1 := hb2.frozen 1
    have z2 := hb2.frozen 2
    have y0 := hb2.cell 0
    have y1 := hb2.cell 1
    have y2 := hb2.cell 2
    have hb3 := HBV1.out
    have g0 := hb3.cell 0
    have g1 := hb3.cell 1
    have g2 := hb3.cell 2
    simp at y0 y1 y2 g0 g1 g2
    have hF : FormQ ok rg cg t b a q w R (.returned (.agg #[.int .u64 0, .slice none 0 0, .slice none 0 0])) (((w1.setCell ⟨w.heap.size + 1, 0, none⟩ (.int .u64 0)).setCell ⟨w.heap.size + 1, 1, none⟩ (.slice none 0 0)).setCell ⟨w.heap.size + 1, 2, none⟩ (.slice none 0 0)) := by
      have hR := HRR.out
      rw [if_pos he] at hR
      refine ⟨form_end (okn := fun _ => False) HK1.out (by omega) VtR.zero (fun i hi => hi.elim) (by omega) (by omega) (fun i hi => by have := HE.out.hokl i hi; omega) ?_, ?_⟩
      · rw [hR]
        exact ⟨hr1, he⟩
      · rw [hR]
        exact HTL1.out.kp ((Kp.refl (fun i => i = w.heap.size + 1) w1).put3 (B := w.heap.size + 1) (.inl rfl) _ _ _) (fun g hg he => by have := HE.out.htl g hg; omega)
    have HF := Lib.hid hF
    clear hF hb2 hb3 hr1 he
    go_wp2_with fail
    refine wp_loop_rounds 1 ?_
    rw [rounds_succ]
    go_wp2_with fail
    exact bodyPost_ret (v := .agg #[.int .u64 0, .slice none 0 0, .slice none 0 0]) (by simp [results, Tryd.results59, go_sem, y0, y1, y2]) rfl HF.out
  · have hl2 := HLN.out he
    have hR := HRR.out
    rw [if_neg (by simp [he])] at hR
    generalize L.2.2 = n at hR hl2 hc1 hc2
    have hdl : ((b.drop s.toNat).take n).length = n := by rw [List.length_take, List.length_drop]; omega
    have hits := iter_steps (f := readR g) n ((b.drop s.toNat).take n) s.toNat 1 []
    obtain ⟨Rit, hit⟩ : ∃ Rit, iterR (readR g) n ((b.drop s.toNat).take n) s.toNat 1 [] = Rit := ⟨_, rfl⟩
    rw [hit] at hR hits
    have hrst : R.steps = Rit.steps := by rw [hR]; cases Rit <;> rfl
    have HI0 := Lib.hid (show ListI ok rg cg gs t ⟨2, s, lo, hi, st⟩ A0 c0 (readR g) (s.toNat + n) (b.drop (s.toNat + n)) a q Rit w (n + 1) w1 from
      ⟨[], .slice none 0 0, Nat.zero_le _, HK1.out, HBF1.out, HB11.out, HBV1.out, OwnT.nil, by omega, hc1.lt, hc2, .inl ⟨_, s.toNat, 1, n, by rw [hdl], by omega, hit, by omega, Nat.zero_le _, hr1, hc1, HTL1.out, hits⟩⟩)
    have HRX := Lib.hid hR
    have HRS := Lib.hid hrst
    clear hc1 hc2 hr1 he hR hrst hit hits HTL1 HBF1 HB11 HBV1 HRR HLN HK1
    rw [hsz] at hgs
    go_wp2_with fail
    go_loopg [] (n + 1) (fun gh wr => ListI ok rg cg gs t ⟨2, s, lo, hi, st⟩ A0 c0 (readR g) (s.toNat + n) (b.drop (s.toNat + n)) a q Rit w gh wr)
    case atStart => exact HI0.out
    case round =>
      clear HI0
      obtain ⟨acc, v, hacc, hk, hbf, hb1, hbv, ho, hzz, hgl, hco, hst2⟩ := hrel
      obtain ⟨A, c, rfl, hlc⟩ := ho.shape
      have f5 := hbf.cell 5
      have g0 := hbv.cell 0
      have g1 := hbv.cell 1
      have g2 := hbv.cell 2
      have z0 := hb1.frozen 0
      have z1 := hb1.frozen 1
      have z2 := hb1.frozen 2
      have y0 := hb1.cell 0
      have y1 := hb1.cell 1
      have y2 := hb1.cell 2
      simp at f5 g0 g1 g2 y0 y1 y2
      have HK := Lib.hid hk
      have HBF := Lib.hid hbf
      have HB1 := Lib.hid hb1
      have HBV := Lib.hid hbv
      have HO := Lib.hid ho
      have HCO := Lib.hid hco
      have HX := Lib.hid (show EndQ ok rg cg t b a wr (.mk ⟨0, []⟩ acc) R → Tl wr t (q + R.steps) →
        FormQ ok rg cg t b a q w R (.returned (.agg #[.int .u64 0, .slice none 0 0, .slice A acc.length c])) (((wr.setCell ⟨w.heap.size + 1, 0, none⟩ (.int .u64 0)).setCell ⟨w.heap.size + 1, 1, none⟩ (.slice none 0 0)).setCell ⟨w.heap.size + 1, 2, none⟩ (.slice A acc.length c)) from fun hm htl => by
        have E := HE.out
        have e1 := E.hrl
        have e2 := E.hcl
        have e3 := E.hl
        obtain ⟨_, htl2⟩ := OwnT.tl VHd_kp HO.out
        refine ⟨form_end (okn := fun j => w.heap.size + 3 ≤ j ∧ j ≠ gs) (x := .mk ⟨0, []⟩ acc) HK.out (by omega) ⟨_, _, rfl, by unfold u64B; simp only [RT.a]; omega, BR.nil, by simp [RT.a], A, c, rfl, hlc, by simp only [RT.l]; omega, htl2⟩ (fun i hi => by omega) (by omega) (by omega) (fun i hi => by have := E.hokl i hi; omega) hm, ?_⟩
        exact htl.kp ((Kp.refl (fun i => i = w.heap.size + 1) wr).put3 (B := w.heap.size + 1) (.inl rfl) _ _ _) (fun g hg he => by have := E.htl g hg; omega))
      clear hk hbf hb1 hbv ho hco
      rcases hst2 with ⟨b', d, q', fuel, rfl, hfu, hrow, hdn, had, hr, hc, ht, hqs⟩ | ⟨rfl, o, er, s2, hRb, her, hr, ht⟩
      · have e2 := Blk.cell hr 2
        simp at e2
        have e2b : ((0 : Int) == 0) = true := rfl
        have HLF := Lib.hid (left_any ok gs b' (a + d) wr hc)
        by_cases h0 : b'.length = 0
        · have e4 : decide (0 < b'.length) = false := decide_eq_false (by omega)
          have hF : FormQ ok rg cg t b a q w R (.returned (.agg #[.int .u64 0, .slice none 0 0, .slice A acc.length c])) (((wr.setCell ⟨w.heap.size + 1, 0, none⟩ (.int .u64 0)).setCell ⟨w.heap.size + 1, 1, none⟩ (.slice none 0 0)).setCell ⟨w.heap.size + 1, 2, none⟩ (.slice A acc.length c)) := by
            rw [iter_end h0] at hrow
            have hR := HRX.out
            rw [← hrow] at hR
            simp only at hR
            refine HX.out ?_ ?_
            · rw [hR]
              refine ⟨rfl, hr, ?_⟩
              rw [show b.length - (b.drop (s.toNat + n)).length = s.toNat + n by rw [List.length_drop]; omega]
              exact HCO.out
            · rw [hR]
              exact ht
          have HF := Lib.hid hF
          clear hF hr hc ht hrow HX hqs h0
          go_wp2_with (go_at_call 42; refine HLF.out.mono ?_; rintro e w2 ⟨rfl, rfl⟩)
          exact bodyPost_ret (v := .agg #[.int .u64 0, .slice none 0 0, .slice A acc.length c]) (by simp [results, Tryd.results59, go_sem, y0, y1, y2]) rfl HF.out
        have e4 : decide (0 < b'.length) = true := decide_eq_true (by omega)
        have hfs := FsR.kp (FmR.row (P := [g]) HV.out) HK.out HE.out.ok_S
        obtain ⟨b1, off, A2, c2, rfl, hok1, hfm, m0, m1, m2, m3, m4, m5⟩ := hfs.at_ (i := 0) (by simp)
        simp only [List.getElem_cons_zero, Nat.zero_mul, Nat.add_zero] at hfm m0 m1 m2 m3 m4 m5
        have hD : Kp (fun _ => False) wr wr.drew := (Kp.refl _ wr).drew
        have hkD := HK.out.then_ hD (fun _ h => h.elim)
        have E := HE.out
        have E2 : RdEnv ok rg gs t b' (a + d) wr.drew := ⟨E.hor, fun h => by have := E.hokl gs h; omega, E.hot, by omega, E.htr, fun gg hgg => by have := E.htl gg hgg; omega, Nat.lt_of_lt_of_le E.hrl hkD.size, hgl, fun gg hgg => Nat.lt_of_lt_of_le (E.htl gg hgg) hkD.size, fun i hi => Nat.lt_of_lt_of_le (E.hokl i hi) hkD.size, E.hok0, by have := E.hl; omega, by have := E.ha; omega, by have := E.hal; omega⟩
        have hms : q' + (readR g b').steps ≤ Rit.steps := by
          obtain ⟨fl, rfl⟩ : ∃ fl, fuel = fl + 1 := ⟨fuel - 1, by omega⟩
          rw [iter_step h0] at hrow
          rw [← hrow]
          cases hg : readR g b' with
          | bad o er s2 => simp only [RdT.steps]; omega
          | got y r s2 => simp only [RdT.steps]; exact iter_steps _ _ _ _ _
        have HC := Lib.hid (HIH.out gs b' (a + d) (q + q') _ wr.drew E2 (hfm.kp hD (fun _ _ h => h)) (hr.kp hD (fun h => h)) (hc.kp hD (fun _ _ h => h) (fun h => h)) (ht.kp hD (fun _ _ h => h)) (HRM.out.imp id (fun h => by have := HRS.out; omega)) (HT.out.kp hkD (E.ok_S _ E.hok0)))
        have hBF2 := HBF.out.kp hD (fun h => h)
        have hB12 := HB1.out.kp hD (fun h => h)
        have HBV2 := Lib.hid (HBV.out.kp hD (fun h => h))
        have HO2 := Lib.hid (HO.out.kp_ VHd_kp hD (fun _ _ h => h))
        have HZ2 := Lib.hid (show w.heap.size + 3 ≤ wr.drew.heap.size ∧ gs < wr.drew.heap.size from ⟨hzz, hgl⟩)
        -- what the loads read holds as long as the form's blocks do
        have hSK : ∀ (T : Nat → Prop) (W : World), Kp T wr W → ¬ T w.heap.size → ¬ T b1 → (fun w' : World => w'.cell? ⟨w.heap.size, 5, none⟩ = some (.slice (some ⟨b1, off, none⟩) 1 c0) ∧ w'.cell? ⟨b1, off, none⟩ = some (.int .i64 g.a.k) ∧ w'.cell? ⟨b1, off + 1, none⟩ = some (.int .i64 g.a.s) ∧ w'.cell? ⟨b1, off + 2, none⟩ = some (.int .i64 g.a.lo) ∧ w'.cell? ⟨b1, off + 3, none⟩ = some (.int .i64 g.a.hi) ∧ w'.cell? ⟨b1, off + 4, none⟩ = some (.int .i64 g.a.st) ∧ w'.cell? ⟨b1, off + 5, none⟩ = some (.slice A2 g.l.length c2)) W := fun T W hk h1 h2 =>
          ⟨hk.cell f5 h1, hk.cell m0 h2, hk.cell m1 h2, hk.cell m2 h2, hk.cell m3 h2, hk.cell m4 h2, hk.cell m5 h2⟩
        have hS0 := hSK (fun _ => False) wr.drew hD (fun h => h) (fun h => h)
        have HSK := Lib.hid hSK
        have hb1l := E.hokl b1 hok1
        have g2D : wr.drew.cell? ⟨w.heap.size + 2, 2, none⟩ = some (.slice A acc.length c) := g2
        have gfD : wr.drew.frozen? ⟨w.heap.size + 2, 2, none⟩ = false := HBV2.out.frozen 2
        have hnS : ∀ j, w.heap.size ≤ j → j ≠ gs → ¬ S3 rg gs t j := fun j hj hg hs => by
          rcases hs with rfl | rfl | hs
          · omega
          · exact hg rfl
          · have := E.htl j hs; omega
        have HNF := Lib.hid (hnS w.heap.size (Nat.le_refl _) (by omega))
        have HNV := Lib.hid (hnS (w.heap.size + 2) (by omega) (by omega))
        have HNO := Lib.hid (fun j (hj : w.heap.size + 3 ≤ j) hg => hnS j (by omega) hg)
        have HAL := Lib.hid (show acc.length + 1 ≤ 2513169434916 from by have := E.hl; omega)
        obtain ⟨i0, hi0, hj0, hj1, hj2⟩ := info_parts value_info
        have HNX := Lib.hid (fun w2 w3 x v2 o => list_next (ok := ok) (rg := rg) (cg := cg) (gs := gs) (t := t) (h := ⟨2, s, lo, hi, st⟩) (A0 := some ⟨b1, off, none⟩) (c0 := c0) (g := g) (N := s.toNat + n) (rest := b.drop (s.toNat + n)) (a := a) (q := q) (R := Rit) (w := w) (wr := wr.drew) hz hck hl (by have := E2.hl; omega) h0 hfu E2 hcl E.hokl E.hrc hrl (fun gg hgg => ⟨E.htl gg hgg, E.htc gg hgg⟩) (by omega) hkD hBF2 hB12 HBV2.out HO2.out (HCO.out.kp hD (fun _ _ h => h) (fun h => h)) hdn had hrow (w2 := w2) (w3 := w3) (x := x) (v2 := v2) (o := o))
        have HE2 := Lib.hid E2
        clear HE
        have HE := HE2
        clear HE2 hD hkD E E2 hms hrow hqs hr hc ht hfs hfm HBF HB1 HBV HO HK HX HV z0 z1 z2 y0 y1 y2 hSK hnS hBF2 hB12 HCO HIH HRM
        go_upto_region 4 with (go_at_call 42; refine HLF.out.mono ?_; rintro e w2 ⟨rfl, rfl⟩)
        refine wp_region_noPanic ?_
        refine wp_region_held_drew (S := (fun w' : World => w'.cell? ⟨w.heap.size, 5, none⟩ = some (.slice (some ⟨b1, off, none⟩) 1 c0) ∧ w'.cell? ⟨b1, off, none⟩ = some (.int .i64 g.a.k) ∧ w'.cell? ⟨b1, off + 1, none⟩ = some (.int .i64 g.a.s) ∧ w'.cell? ⟨b1, off + 2, none⟩ = some (.int .i64 g.a.lo) ∧ w'.cell? ⟨b1, off + 3, none⟩ = some (.int .i64 g.a.hi) ∧ w'.cell? ⟨b1, off + 4, none⟩ = some (.int .i64 g.a.st) ∧ w'.cell? ⟨b1, off + 5, none⟩ = some (.slice A2 g.l.length c2))) (by kernel_rfl) hS0 (fun hHeld => ?_)
        refine wpAnyH_take (i := 0) (v := ?v0) (by simp only [List.getElem?_toArray, List.getElem?_cons_zero]; rfl) (by kernel_rfl) (by kernel_rfl) (by kernel_rfl) (fun _ _ _ h => h) (Or.inl ⟨by rfl, ?hy0⟩) (by assumption) ?rest0
        case hy0 => (intro w hSw; (try dsimp only at hSw); go_simp; (try with_reducible rfl))
        try simp only [Act.put, List.setIfInBounds_toArray, List.set_cons_zero, List.set_cons_succ]
        refine wpAnyH_take (i := 2) (v := ?v2) (by simp only [List.getElem?_toArray, List.getElem?_cons_succ, List.getElem?_cons_zero]; rfl) (by kernel_rfl) (by kernel_rfl) (by kernel_rfl) (fun _ _ _ h => h) (Or.inl ⟨by rfl, ?hy2⟩) (by assumption) ?rest2
        case hy2 => (intro w hSw; (try dsimp only at hSw); go_simp; (try with_reducible rfl))
        try simp only [Act.put, List.setIfInBounds_toArray, List.set_cons_zero, List.set_cons_succ]
        refine wpAnyH_take (i := 3) (v := ?v3) (by simp only [List.getElem?_toArray, List.getElem?_cons_succ, List.getElem?_cons_zero]; rfl) (by kernel_rfl) (by kernel_rfl) (by kernel_rfl) (fun _ _ _ h => h) (Or.inl ⟨by rfl, ?hy3⟩) (by assumption) ?rest3
        case hy3 => (intro w hSw; (try dsimp only at hSw); go_simp; (try with_reducible rfl))
        try simp only [Act.put, List.setIfInBounds_toArray, List.set_cons_zero, List.set_cons_succ]
        refine wpAnyH_take (i := 4) (v := ?v4) (by simp only [List.getElem?_toArray, List.getElem?_cons_succ, List.getElem?_cons_zero]; rfl) (by kernel_rfl) (by kernel_rfl) (by kernel_rfl) (fun _ _ _ h => h) (Or.inl ⟨by rfl, ?hy4⟩) (by assumption) ?rest4
        case hy4 => (intro w hSw; (try dsimp only at hSw); go_simp; (try with_reducible rfl))
        try simp only [Act.put, List.setIfInBounds_toArray, List.set_cons_zero, List.set_cons_succ]
        refine wpAnyH_take (i := 5) (v := ?v5) (by simp only [List.getElem?_toArray, List.getElem?_cons_succ, List.getElem?_cons_zero]; rfl) (by kernel_rfl) (by kernel_rfl) (by kernel_rfl) (fun _ _ _ h => h) (Or.inl ⟨by rfl, ?hy5⟩) (by assumption) ?rest5
        case hy5 => (intro w hSw; (try dsimp only at hSw); go_simp; (try with_reducible rfl))
        try simp only [Act.put, List.setIfInBounds_toArray, List.set_cons_zero, List.set_cons_succ]
        refine wpAnyH_take (i := 6) (v := ?v6) (by simp only [List.getElem?_toArray, List.getElem?_cons_succ, List.getElem?_cons_zero]; rfl) (by kernel_rfl) (by kernel_rfl) (by kernel_rfl) (fun _ _ _ h => h) (Or.inl ⟨by rfl, ?hy6⟩) (by assumption) ?rest6
        case hy6 => (intro w hSw; (try dsimp only at hSw); go_simp; (try with_reducible rfl))
        try simp only [Act.put, List.setIfInBounds_toArray, List.set_cons_zero, List.set_cons_succ]
        refine wpAnyH_take (i := 7) (v := ?v7) (by simp only [List.getElem?_toArray, List.getElem?_cons_succ, List.getElem?_cons_zero]; rfl) (by kernel_rfl) (by kernel_rfl) (by kernel_rfl) (fun _ _ _ h => h) (Or.inl ⟨by rfl, ?hy7⟩) (by assumption) ?rest7
        case hy7 => (intro w hSw; (try dsimp only at hSw); go_simp; (try with_reducible rfl))
        try simp only [Act.put, List.setIfInBounds_toArray, List.set_cons_zero, List.set_cons_succ]
        refine wpAnyH_ready (rs := [1, 8]) (by kernel_rfl) (by simp) ?_
        refine (AllReadyH.cons (o := _) rfl (fun K hK => ?_) (AllReadyH.cons (o := _) rfl (fun K hK => ?_) AllReadyH.nil))
        · go_simp
          refine hK.out _ _ (by assumption) (fun hHeld => ?_)
          clear hK K
          refine wpAnyH_ready (rs := [8]) (by kernel_rfl) (by simp) ?_
          refine (AllReadyH.cons (o := _) rfl (fun K hK => ?_) AllReadyH.nil)
          go_simp
          refine HC.out.mono ?_
          rintro e w2 ⟨hfp, htl⟩
          obtain ⟨v3, x, rfl, hvx, hk2, hen⟩ := hfp.parts
          obtain ⟨A5, c5, A6, c6, rfl, htr5⟩ := hvx.shape
          have hS2 := HSK.out (S3 rg gs t) w2 (((Kp.refl (fun _ => False) wr).drew.mono (fun _ _ h => h.elim)).then_ hk2 (fun j hj => .inl hj)) HNF.out (HE.out.ok_S _ hok1)
          have gV2 := hk2.cell g2D HNV.out
          have gF2 := (HBV2.out.kp hk2 HNV.out).frozen 2
          have HQ := Lib.hid (And.intro hk2 (And.intro hen (And.intro htl (And.intro hvx htr5))))
          clear hvx hen htl htr5 hfp
          try dsimp only
          refine hK.out _ _ hS2 (fun hHeld => ?_)
          clear hK K
          refine wpAnyH_ready (rs := [9]) (by kernel_rfl) (by simp) ?_
          refine (AllReadyH.cons (o := _) rfl (fun K hK => ?_) AllReadyH.nil)
          go_simp
          have hS3 := HSK.out (S3 rg gs t) (w2.alloc (.cells #[.int .u64 x.a.n, .slice A5 x.a.b.length c5, .slice A6 x.l.length c6] 31)) ((((Kp.refl (fun _ => False) wr).drew.mono (fun _ _ h => h.elim)).then_ hk2 (fun j hj => .inl hj)).alloc _) HNF.out (HE.out.ok_S _ hok1)
          have gV3 := ((Kp.refl (fun _ => False) w2).alloc (.cells #[.int .u64 x.a.n, .slice A5 x.a.b.length c5, .slice A6 x.l.length c6] 31)).cell gV2 (fun h => h)
          try dsimp only
          refine hK.out _ _ hS3 (fun hHeld => ?_)
          clear hK K
          refine wpAnyH_ready (rs := [10]) (by kernel_rfl) (by simp) ?_
          refine (AllReadyH.cons (o := _) rfl (fun K hK => ?_) AllReadyH.nil)
          refine step_push VHd_kp VHd_lt rfl (.tmp 24) (.tmp 32) _ rfl 31 i0 _ 3 56 Tryd.underlying29 hi0 hj0 hj1 hj2 rfl (by omega) (fun j => w.heap.size + 3 ≤ j ∧ j ≠ gs) (fun j => wr.drew.heap.size ≤ j) (.slice A acc.length c) acc (by simp [Act.eval]) (HO2.out.kp_ VHd_kp (HQ.out.1.alloc _) (fun j hj => HNO.out j hj.1 hj.2)) w2.heap.size 1 (by simp [Act.eval]) [.int .u64 x.a.n, .slice A5 x.a.b.length c5, .slice A6 x.l.length c6] rfl (Blk.new w2 _ _) x (TR.kp_ VHd_kp ((Kp.refl (fun _ => False) w2).alloc _) (fun _ _ h => h) (fun _ h => h) x _ HQ.out.2.2.2.2) (by intro u hu; simp at hu; rcases hu with rfl | rfl | rfl <;> rfl) (fun j hj => ⟨⟨Nat.le_trans HZ2.out.1 hj, fun he => by have := HZ2.out.2; omega⟩, fun he => by have := HO2.out.lt he; omega⟩) (fun j hj => by have := HQ.out.1.size; have := HZ2.out; rw [World.size_alloc] at hj; omega) (by have := HAL.out; omega) (by have := HAL.out; omega) ?_
          intro v4 w3 ho3 hk3 _
          obtain ⟨A4, c4, rfl, _⟩ := ho3.shape
          generalize hal4 : (acc ++ [x]).length = n4 at ho3 ⊢
          have hS4 := HSK.out (fun j => S3 rg gs t j ∨ Value.ownBlock (.slice A acc.length c) = some j) w3 (((((((Kp.refl (fun _ => False) wr).drew.mono (fun _ _ h => h.elim)).then_ HQ.out.1 (fun j hj => .inl (.inl hj))).alloc (.cells #[.int .u64 x.a.n, .slice A5 x.a.b.length c5, .slice A6 x.l.length c6] 31)).then_ hk3 (fun j hj => .inl (.inr hj))))) (fun hh => hh.elim HNF.out (fun he => by obtain ⟨xs9, ho9, _⟩ := HO2.out; have := (ho9.2 _ he).1; omega)) (fun hh => hh.elim (HE.out.ok_S _ hok1) (fun he => by obtain ⟨xs9, ho9, _⟩ := HO2.out; have := (ho9.2 _ he).1; omega))
          have hown9 : ¬ Value.ownBlock (.slice A acc.length c) = some (w.heap.size + 2) := (fun he => by obtain ⟨xs9, ho9, _⟩ := HO2.out; have := (ho9.2 _ he).1; omega)
          have gV4 := hk3.cell gV3 hown9
          have gF4 := (((HBV2.out.kp HQ.out.1 HNV.out).alloc _).kp hk3 hown9).frozen 2
          have HQ3 := Lib.hid (HNX.out w2 w3 x (.slice A4 n4 c4) _ HQ.out.1 HQ.out.2.1 HQ.out.2.2.1 ho3 hk3)
          clear ho3 hk3 hown9
          refine hK.out _ _ hS4 (fun hHeld => ?_)
          clear hK K
          refine wpAnyH_ready (rs := [11]) (by kernel_rfl) (by simp) ?_
          refine (AllReadyH.cons (o := _) rfl (fun K hK => ?_) AllReadyH.nil)
          go_simp
          refine hK.out _ _ (by assumption) (fun hHeld => ?_)
          clear hK K
          refine wpAnyH_ready (rs := [12]) (by kernel_rfl) (by simp) ?_
          refine (AllReadyH.cons (o := _) rfl (fun K hK => ?_) AllReadyH.nil)
          go_simp
          have hS5 := (show (fun w' : World => w'.cell? ⟨w.heap.size, 5, none⟩ = some (.slice (some ⟨b1, off, none⟩) 1 c0) ∧ w'.cell? ⟨b1, off, none⟩ = some (.int .i64 g.a.k) ∧ w'.cell? ⟨b1, off + 1, none⟩ = some (.int .i64 g.a.s) ∧ w'.cell? ⟨b1, off + 2, none⟩ = some (.int .i64 g.a.lo) ∧ w'.cell? ⟨b1, off + 3, none⟩ = some (.int .i64 g.a.hi) ∧ w'.cell? ⟨b1, off + 4, none⟩ = some (.int .i64 g.a.st) ∧ w'.cell? ⟨b1, off + 5, none⟩ = some (.slice A2 g.l.length c2)) (w3.setCell ⟨w.heap.size + 2, 2, none⟩ (.slice A4 n4 c4)) from by obtain ⟨s1, s2, s3, s4, s5, s6, s7⟩ := hS4; have hks : Kp (fun j => j = w.heap.size + 2) w3 (w3.setCell ⟨w.heap.size + 2, 2, none⟩ (.slice A4 n4 c4)) := (Kp.refl (fun j => j = w.heap.size + 2) w3).setCell (p := ⟨w.heap.size + 2, 2, none⟩) (.inl rfl) _; exact ⟨hks.cell s1 (by show w.heap.size ≠ w.heap.size + 2; omega), hks.cell s2 (by show b1 ≠ _; omega), hks.cell s3 (by show b1 ≠ _; omega), hks.cell s4 (by show b1 ≠ _; omega), hks.cell s5 (by show b1 ≠ _; omega), hks.cell s6 (by show b1 ≠ _; omega), hks.cell s7 (by show b1 ≠ _; omega)⟩)
          try dsimp only
          refine hK.out _ _ hS5 (fun hHeld => ?_)
          clear hK K
          refine wpAnyH_done (by kernel_rfl) ?_ _
          refine NoPanic.normal ?_
          go_wp2_with fail
          obtain ⟨gn, hgn, hli⟩ := HQ3.out
          go_roundg gn
          case rel => exact hli
          case measure => exact hgn
        · go_simp
          refine HC.out.mono ?_
          rintro e w2 ⟨hfp, htl⟩
          obtain ⟨v3, x, rfl, hvx, hk2, hen⟩ := hfp.parts
          obtain ⟨A5, c5, A6, c6, rfl, htr5⟩ := hvx.shape
          have hS2 := HSK.out (S3 rg gs t) w2 (((Kp.refl (fun _ => False) wr).drew.mono (fun _ _ h => h.elim)).then_ hk2 (fun j hj => .inl hj)) HNF.out (HE.out.ok_S _ hok1)
          have gV2 := hk2.cell g2D HNV.out
          have gF2 := (HBV2.out.kp hk2 HNV.out).frozen 2
          have HQ := Lib.hid (And.intro hk2 (And.intro hen (And.intro htl (And.intro hvx htr5))))
          clear hvx hen htl htr5 hfp
          try dsimp only
          refine hK.out _ _ hS2 (fun hHeld => ?_)
          clear hK K
          refine wpAnyH_ready (rs := [1, 9]) (by kernel_rfl) (by simp) ?_
          refine (AllReadyH.cons (o := _) rfl (fun K hK => ?_) (AllReadyH.cons (o := _) rfl (fun K hK => ?_) AllReadyH.nil))
          · go_simp
            refine hK.out _ _ (by assumption) (fun hHeld => ?_)
            clear hK K
            refine wpAnyH_ready (rs := [9]) (by kernel_rfl) (by simp) ?_
            refine (AllReadyH.cons (o := _) rfl (fun K hK => ?_) AllReadyH.nil)
            go_simp
            have hS3 := HSK.out (S3 rg gs t) (w2.alloc (.cells #[.int .u64 x.a.n, .slice A5 x.a.b.length c5, .slice A6 x.l.length c6] 31)) ((((Kp.refl (fun _ => False) wr).drew.mono (fun _ _ h => h.elim)).then_ hk2 (fun j hj => .inl hj)).alloc _) HNF.out (HE.out.ok_S _ hok1)
            have gV3 := ((Kp.refl (fun _ => False) w2).alloc (.cells #[.int .u64 x.a.n, .slice A5 x.a.b.length c5, .slice A6 x.l.length c6] 31)).cell gV2 (fun h => h)
            try dsimp only
            refine hK.out _ _ hS3 (fun hHeld => ?_)
            clear hK K
            refine wpAnyH_ready (rs := [10]) (by kernel_rfl) (by simp) ?_
            refine (AllReadyH.cons (o := _) rfl (fun K hK => ?_) AllReadyH.nil)
            refine step_push VHd_kp VHd_lt rfl (.tmp 24) (.tmp 32) _ rfl 31 i0 _ 3 56 Tryd.underlying29 hi0 hj0 hj1 hj2 rfl (by omega) (fun j => w.heap.size + 3 ≤ j ∧ j ≠ gs) (fun j => wr.drew.heap.size ≤ j) (.slice A acc.length c) acc (by simp [Act.eval]) (HO2.out.kp_ VHd_kp (HQ.out.1.alloc _) (fun j hj => HNO.out j hj.1 hj.2)) w2.heap.size 1 (by simp [Act.eval]) [.int .u64 x.a.n, .slice A5 x.a.b.length c5, .slice A6 x.l.length c6] rfl (Blk.new w2 _ _) x (TR.kp_ VHd_kp ((Kp.refl (fun _ => False) w2).alloc _) (fun _ _ h => h) (fun _ h => h) x _ HQ.out.2.2.2.2) (by intro u hu; simp at hu; rcases hu with rfl | rfl | rfl <;> rfl) (fun j hj => ⟨⟨Nat.le_trans HZ2.out.1 hj, fun he => by have := HZ2.out.2; omega⟩, fun he => by have := HO2.out.lt he; omega⟩) (fun j hj => by have := HQ.out.1.size; have := HZ2.out; rw [World.size_alloc] at hj; omega) (by have := HAL.out; omega) (by have := HAL.out; omega) ?_
            intro v4 w3 ho3 hk3 _
            obtain ⟨A4, c4, rfl, _⟩ := ho3.shape
            generalize hal4 : (acc ++ [x]).length = n4 at ho3 ⊢
            have hS4 := HSK.out (fun j => S3 rg gs t j ∨ Value.ownBlock (.slice A acc.length c) = some j) w3 (((((((Kp.refl (fun _ => False) wr).drew.mono (fun _ _ h => h.elim)).then_ HQ.out.1 (fun j hj => .inl (.inl hj))).alloc (.cells #[.int .u64 x.a.n, .slice A5 x.a.b.length c5, .slice A6 x.l.length c6] 31)).then_ hk3 (fun j hj => .inl (.inr hj))))) (fun hh => hh.elim HNF.out (fun he => by obtain ⟨xs9, ho9, _⟩ := HO2.out; have := (ho9.2 _ he).1; omega)) (fun hh => hh.elim (HE.out.ok_S _ hok1) (fun he => by obtain ⟨xs9, ho9, _⟩ := HO2.out; have := (ho9.2 _ he).1; omega))
            have hown9 : ¬ Value.ownBlock (.slice A acc.length c) = some (w.heap.size + 2) := (fun he => by obtain ⟨xs9, ho9, _⟩ := HO2.out; have := (ho9.2 _ he).1; omega)
            have gV4 := hk3.cell gV3 hown9
            have gF4 := (((HBV2.out.kp HQ.out.1 HNV.out).alloc _).kp hk3 hown9).frozen 2
            have HQ3 := Lib.hid (HNX.out w2 w3 x (.slice A4 n4 c4) _ HQ.out.1 HQ.out.2.1 HQ.out.2.2.1 ho3 hk3)
            clear ho3 hk3 hown9
            refine hK.out _ _ hS4 (fun hHeld => ?_)
            clear hK K
            refine wpAnyH_ready (rs := [11]) (by kernel_rfl) (by simp) ?_
            refine (AllReadyH.cons (o := _) rfl (fun K hK => ?_) AllReadyH.nil)
            go_simp
            refine hK.out _ _ (by assumption) (fun hHeld => ?_)
            clear hK K
            refine wpAnyH_ready (rs := [12]) (by kernel_rfl) (by simp) ?_
            refine (AllReadyH.cons (o := _) rfl (fun K hK => ?_) AllReadyH.nil)
            go_simp
            have hS5 := (show (fun w' : World => w'.cell? ⟨w.heap.size, 5, none⟩ = some (.slice (some ⟨b1, off, none⟩) 1 c0) ∧ w'.cell? ⟨b1, off, none⟩ = some (.int .i64 g.a.k) ∧ w'.cell? ⟨b1, off + 1, none⟩ = some (.int .i64 g.a.s) ∧ w'.cell? ⟨b1, off + 2, none⟩ = some (.int .i64 g.a.lo) ∧ w'.cell? ⟨b1, off + 3, none⟩ = some (.int .i64 g.a.hi) ∧ w'.cell? ⟨b1, off + 4, none⟩ = some (.int .i64 g.a.st) ∧ w'.cell? ⟨b1, off + 5, none⟩ = some (.slice A2 g.l.length c2)) (w3.setCell ⟨w.heap.size + 2, 2, none⟩ (.slice A4 n4 c4)) from by obtain ⟨s1, s2, s3, s4, s5, s6, s7⟩ := hS4; have hks : Kp (fun j => j = w.heap.size + 2) w3 (w3.setCell ⟨w.heap.size + 2, 2, none⟩ (.slice A4 n4 c4)) := (Kp.refl (fun j => j = w.heap.size + 2) w3).setCell (p := ⟨w.heap.size + 2, 2, none⟩) (.inl rfl) _; exact ⟨hks.cell s1 (by show w.heap.size ≠ w.heap.size + 2; omega), hks.cell s2 (by show b1 ≠ _; omega), hks.cell s3 (by show b1 ≠ _; omega), hks.cell s4 (by show b1 ≠ _; omega), hks.cell s5 (by show b1 ≠ _; omega), hks.cell s6 (by show b1 ≠ _; omega), hks.cell s7 (by show b1 ≠ _; omega)⟩)
            try dsimp only
            refine hK.out _ _ hS5 (fun hHeld => ?_)
            clear hK K
            refine wpAnyH_done (by kernel_rfl) ?_ _
            refine NoPanic.normal ?_
            go_wp2_with fail
            obtain ⟨gn, hgn, hli⟩ := HQ3.out
            go_roundg gn
            case rel => exact hli
            case measure => exact hgn
          · go_simp
            have hS3 := HSK.out (S3 rg gs t) (w2.alloc (.cells #[.int .u64 x.a.n, .slice A5 x.a.b.length c5, .slice A6 x.l.length c6] 31)) ((((Kp.refl (fun _ => False) wr).drew.mono (fun _ _ h => h.elim)).then_ hk2 (fun j hj => .inl hj)).alloc _) HNF.out (HE.out.ok_S _ hok1)
            have gV3 := ((Kp.refl (fun _ => False) w2).alloc (.cells #[.int .u64 x.a.n, .slice A5 x.a.b.length c5, .slice A6 x.l.length c6] 31)).cell gV2 (fun h => h)
            try dsimp only
            refine hK.out _ _ hS3 (fun hHeld => ?_)
            clear hK K
            refine wpAnyH_ready (rs := [1]) (by kernel_rfl) (by simp) ?_
            refine (AllReadyH.cons (o := _) rfl (fun K hK => ?_) AllReadyH.nil)
            go_simp
            refine hK.out _ _ (by assumption) (fun hHeld => ?_)
            clear hK K
            refine wpAnyH_ready (rs := [10]) (by kernel_rfl) (by simp) ?_
            refine (AllReadyH.cons (o := _) rfl (fun K hK => ?_) AllReadyH.nil)
            refine step_push VHd_kp VHd_lt rfl (.tmp 24) (.tmp 32) _ rfl 31 i0 _ 3 56 Tryd.underlying29 hi0 hj0 hj1 hj2 rfl (by omega) (fun j => w.heap.size + 3 ≤ j ∧ j ≠ gs) (fun j => wr.drew.heap.size ≤ j) (.slice A acc.length c) acc (by simp [Act.eval]) (HO2.out.kp_ VHd_kp (HQ.out.1.alloc _) (fun j hj => HNO.out j hj.1 hj.2)) w2.heap.size 1 (by simp [Act.eval]) [.int .u64 x.a.n, .slice A5 x.a.b.length c5, .slice A6 x.l.length c6] rfl (Blk.new w2 _ _) x (TR.kp_ VHd_kp ((Kp.refl (fun _ => False) w2).alloc _) (fun _ _ h => h) (fun _ h => h) x _ HQ.out.2.2.2.2) (by intro u hu; simp at hu; rcases hu with rfl | rfl | rfl <;> rfl) (fun j hj => ⟨⟨Nat.le_trans HZ2.out.1 hj, fun he => by have := HZ2.out.2; omega⟩, fun he => by have := HO2.out.lt he; omega⟩) (fun j hj => by have := HQ.out.1.size; have := HZ2.out; rw [World.size_alloc] at hj; omega) (by have := HAL.out; omega) (by have := HAL.out; omega) ?_
            intro v4 w3 ho3 hk3 _
            obtain ⟨A4, c4, rfl, _⟩ := ho3.shape
            generalize hal4 : (acc ++ [x]).length = n4 at ho3 ⊢
            have hS4 := HSK.out (fun j => S3 rg gs t j ∨ Value.ownBlock (.slice A acc.length c) = some j) w3 (((((((Kp.refl (fun _ => False) wr).drew.mono (fun _ _ h => h.elim)).then_ HQ.out.1 (fun j hj => .inl (.inl hj))).alloc (.cells #[.int .u64 x.a.n, .slice A5 x.a.b.length c5, .slice A6 x.l.length c6] 31)).then_ hk3 (fun j hj => .inl (.inr hj))))) (fun hh => hh.elim HNF.out (fun he => by obtain ⟨xs9, ho9, _⟩ := HO2.out; have := (ho9.2 _ he).1; omega)) (fun hh => hh.elim (HE.out.ok_S _ hok1) (fun he => by obtain ⟨xs9, ho9, _⟩ := HO2.out; have := (ho9.2 _ he).1; omega))
            have hown9 : ¬ Value.ownBlock (.slice A acc.length c) = some (w.heap.size + 2) := (fun he => by obtain ⟨xs9, ho9, _⟩ := HO2.out; have := (ho9.2 _ he).1; omega)
            have gV4 := hk3.cell gV3 hown9
            have gF4 := (((HBV2.out.kp HQ.out.1 HNV.out).alloc _).kp hk3 hown9).frozen 2
            have HQ3 := Lib.hid (HNX.out w2 w3 x (.slice A4 n4 c4) _ HQ.out.1 HQ.out.2.1 HQ.out.2.2.1 ho3 hk3)
            clear ho3 hk3 hown9
            refine hK.out _ _ hS4 (fun hHeld => ?_)
            clear hK K
            refine wpAnyH_ready (rs := [11]) (by kernel_rfl) (by simp) ?_
            refine (AllReadyH.cons (o := _) rfl (fun K hK => ?_) AllReadyH.nil)
            go_simp
            refine hK.out _ _ (by assumption) (fun hHeld => ?_)
            clear hK K
            refine wpAnyH_ready (rs := [12]) (by kernel_rfl) (by simp) ?_
            refine (AllReadyH.cons (o := _) rfl (fun K hK => ?_) AllReadyH.nil)
            go_simp
            have hS5 := (show (fun w' : World => w'.cell? ⟨w.heap.size, 5, none⟩ = some (.slice (some ⟨b1, off, none⟩) 1 c0) ∧ w'.cell? ⟨b1, off, none⟩ = some (.int .i64 g.a.k) ∧ w'.cell? ⟨b1, off + 1, none⟩ = some (.int .i64 g.a.s) ∧ w'.cell? ⟨b1, off + 2, none⟩ = some (.int .i64 g.a.lo) ∧ w'.cell? ⟨b1, off + 3, none⟩ = some (.int .i64 g.a.hi) ∧ w'.cell? ⟨b1, off + 4, none⟩ = some (.int .i64 g.a.st) ∧ w'.cell? ⟨b1, off + 5, none⟩ = some (.slice A2 g.l.length c2)) (w3.setCell ⟨w.heap.size + 2, 2, none⟩ (.slice A4 n4 c4)) from by obtain ⟨s1, s2, s3, s4, s5, s6, s7⟩ := hS4; have hks : Kp (fun j => j = w.heap.size + 2) w3 (w3.setCell ⟨w.heap.size + 2, 2, none⟩ (.slice A4 n4 c4)) := (Kp.refl (fun j => j = w.heap.size + 2) w3).setCell (p := ⟨w.heap.size + 2, 2, none⟩) (.inl rfl) _; exact ⟨hks.cell s1 (by show w.heap.size ≠ w.heap.size + 2; omega), hks.cell s2 (by show b1 ≠ _; omega), hks.cell s3 (by show b1 ≠ _; omega), hks.cell s4 (by show b1 ≠ _; omega), hks.cell s5 (by show b1 ≠ _; omega), hks.cell s6 (by show b1 ≠ _; omega), hks.cell s7 (by show b1 ≠ _; omega)⟩)
            try dsimp only
            refine hK.out _ _ hS5 (fun hHeld => ?_)
            clear hK K
            refine wpAnyH_done (by kernel_rfl) ?_ _
            refine NoPanic.normal ?_
            go_wp2_with fail
            obtain ⟨gn, hgn, hli⟩ := HQ3.out
            go_roundg gn
            case rel => exact hli
            case measure => exact hgn
      · have e2 := Blk.cell hr 2
        simp at e2
        have e2b : (er == 0) = false := by simpa using her
        have hR := HRX.out
        rw [hRb] at hR
        simp only at hR
        have HF := Lib.hid (HX.out (by rw [hR]; exact ⟨hr, her⟩) (by rw [hR]; exact ht))
        clear hr ht HX hRb her hR
        go_wp2_with fail
        exact bodyPost_ret (v := .agg #[.int .u64 0, .slice none 0 0, .slice A acc.length c]) (by simp [results, Tryd.results59, go_sem, y0, y1, y2]) rfl HF.out
end Go.Proofs.YtdhnfccgojgehaaDoor

namespace Go.Proofs.YtdhnfccgojgehaaDoor
open Go.RowKit

theorem read_pos (f : Fm) (b : List UInt8) : 1 ≤ (readR f b).steps := by
 obtain ⟨h, P⟩ := f
 rw [readR_mk]
 split
 ·split <;> exact Nat.le_refl _
 ·split
  ·split <;> exact Nat.le_refl _
  ·split
   ·split
    ·exact Nat.le_refl _
    ·split <;> exact Nat.le_refl _
   ·split
    ·split <;> exact Nat.le_refl _
    ·split
     ·exact row_steps _ _ _ _ _
     ·split
      ·exact Nat.le_refl _
      ·have := iter_steps (f := readHd P) (lenE h b).2.2 ((b.drop h.s.toNat).take (lenE h b).2.2) h.s.toNat 1 []
       split
       ·rename_i h1; rw [h1] at this; exact this
       ·rename_i h1; rw [h1] at this; exact this
/-- Behind the step that is spent. -/
structure FormW (ok : Nat → Prop) (rg cg : Nat) (t : Value) (h : FH) (A0 : Option Addr) (n0 c0 : Nat) (b : List UInt8) (a : Int) (q : Nat) (w W : World) : Prop where
 hk : Kp (S3 rg cg t) w W
 hz : w.heap.size + 2 ≤ W.heap.size
 hbf : Blk W w.heap.size 24 #[.int .i64 h.k, .int .i64 h.s, .int .i64 h.lo, .int .i64 h.hi, .int .i64 h.st, .slice A0 n0 c0]
 hb1 : Blk W (w.heap.size + 1) 31 #[.int .u64 0, .slice none 0 0, .slice none 0 0]
 hr : RdB W rg t 0 0
 hc : Cur W ok cg b a
 ht : Tl W t (q + 1)
 tab : Tab06 W
theorem formW_pre {ok : Nat → Prop} {rg cg : Nat} {t : Value} {h : FH} {A0 : Option Addr} {n0 c0 : Nat} {b : List UInt8} {a : Int} {q : Nat} {w W : World} (hr : RdB w rg t 0 0) (hc : Cur w ok cg b a) (tab : Tab06 w)
  (hW : (w.alloc (.cells #[.int .i64 h.k, .int .i64 h.s, .int .i64 h.lo, .int .i64 h.hi, .int .i64 h.st, .slice A0 n0 c0] 24)).alloc (.cells #[.int .u64 0, .slice none 0 0, .slice none 0 0] 31) = W) (ht : Tl W t (q + 1)) : FormW ok rg cg t h A0 n0 c0 b a q w W := by
 have ka : Kp (fun _ => False) w ((w.alloc (.cells #[.int .i64 h.k, .int .i64 h.s, .int .i64 h.lo, .int .i64 h.hi, .int .i64 h.st, .slice A0 n0 c0] 24)).alloc (.cells #[.int .u64 0, .slice none 0 0, .slice none 0 0] 31)) := ((Kp.refl _ w).alloc _).alloc _
 have hb0 := Blk.new (w.alloc (.cells #[.int .i64 h.k, .int .i64 h.s, .int .i64 h.lo, .int .i64 h.hi, .int .i64 h.st, .slice A0 n0 c0] 24)) 31 #[.int .u64 0, .slice none 0 0, .slice none 0 0]
 rw [World.size_alloc] at hb0
 have hbf := (Blk.new w 24 #[.int .i64 h.k, .int .i64 h.s, .int .i64 h.lo, .int .i64 h.hi, .int .i64 h.st, .slice A0 n0 c0]).alloc (.cells #[.int .u64 0, .slice none 0 0, .slice none 0 0] 31)
 have hsz : ((w.alloc (.cells #[.int .i64 h.k, .int .i64 h.s, .int .i64 h.lo, .int .i64 h.hi, .int .i64 h.st, .slice A0 n0 c0] 24)).alloc (.cells #[.int .u64 0, .slice none 0 0, .slice none 0 0] 31)).heap.size = w.heap.size + 2 := by rw [World.size_alloc, World.size_alloc]
 rw [hW] at ka hb0 hbf hsz
 exact ⟨ka.mono (fun _ _ h => h.elim), by omega, hbf, hb0, hr.kp ka (fun h => h), hc.kp ka (fun _ _ h => h) (fun h => h), ht, tab.kp ka (fun h => h)⟩
/-- The tally turned alone. -/
theorem formW_spent {ok : Nat → Prop} {rg cg tg : Nat} {h : FH} {A0 : Option Addr} {n0 c0 : Nat} {b : List UInt8} {a : Int} {q : Nat} {w W W2 : World} (E : RdEnv ok rg cg (.pointer (some ⟨tg, 0, none⟩)) b a w) (hr : RdB w rg (.pointer (some ⟨tg, 0, none⟩)) 0 0) (hc : Cur w ok cg b a) (tab : Tab06 w)
  (hW : (w.alloc (.cells #[.int .i64 h.k, .int .i64 h.s, .int .i64 h.lo, .int .i64 h.hi, .int .i64 h.st, .slice A0 n0 c0] 24)).alloc (.cells #[.int .u64 0, .slice none 0 0, .slice none 0 0] 31) = W) (hk : Kp (· = tg) W W2) (ht : TalB W2 tg 1073741824 ((q : Int) + 1)) : FormW ok rg cg (.pointer (some ⟨tg, 0, none⟩)) h A0 n0 c0 b a q w W2 := by
 have ka : Kp (fun _ => False) w ((w.alloc (.cells #[.int .i64 h.k, .int .i64 h.s, .int .i64 h.lo, .int .i64 h.hi, .int .i64 h.st, .slice A0 n0 c0] 24)).alloc (.cells #[.int .u64 0, .slice none 0 0, .slice none 0 0] 31)) := ((Kp.refl _ w).alloc _).alloc _
 have hb0 := Blk.new (w.alloc (.cells #[.int .i64 h.k, .int .i64 h.s, .int .i64 h.lo, .int .i64 h.hi, .int .i64 h.st, .slice A0 n0 c0] 24)) 31 #[.int .u64 0, .slice none 0 0, .slice none 0 0]
 rw [World.size_alloc] at hb0
 have hbf := (Blk.new w 24 #[.int .i64 h.k, .int .i64 h.s, .int .i64 h.lo, .int .i64 h.hi, .int .i64 h.st, .slice A0 n0 c0]).alloc (.cells #[.int .u64 0, .slice none 0 0, .slice none 0 0] 31)
 have hsz : ((w.alloc (.cells #[.int .i64 h.k, .int .i64 h.s, .int .i64 h.lo, .int .i64 h.hi, .int .i64 h.st, .slice A0 n0 c0] 24)).alloc (.cells #[.int .u64 0, .slice none 0 0, .slice none 0 0] 31)).heap.size = w.heap.size + 2 := by rw [World.size_alloc, World.size_alloc]
 rw [hW] at ka hb0 hbf hsz
 have h1 := E.htl tg rfl
 have h2 := E.htr tg rfl
 have h3 := E.htc tg rfl
 have h4 := E.hot tg rfl
 have hz := hk.size
 refine ⟨(ka.mono (fun _ _ h => h.elim)).then_ hk (fun i hi => .inl (.inr (.inr (by rw [hi])))), by omega, hbf.kp hk (by omega), hb0.kp hk (by omega), (hr.kp ka (fun h => h)).kp hk (fun h => h2 h.symm), (hc.kp ka (fun _ _ h => h) (fun h => h)).kp hk (fun i hi he => h4 (he ▸ hi)) (fun h => h3 h.symm), fun g hg => ?_, (tab.kp ka (fun h => h)).kp hk (fun he => h4 (he ▸ E.hok0))⟩
 have : tg = g := by simpa using hg
 subst this
 have e : ((q + 1 : Nat) : Int) = (q : Int) + 1 := by omega
 rw [e]
 exact ht
/-- The result stored. -/
theorem form_done {ok : Nat → Prop} {rg cg : Nat} {t : Value} {h : FH} {A0 : Option Addr} {n0 c0 : Nat} {b : List UInt8} {a : Int} {q : Nat} {w W w2 : World} {R : RdT} {u0 u1 u2 : Value} {x : Vt} (E : RdEnv ok rg cg t b a w) (F : FormW ok rg cg t h A0 n0 c0 b a q w W)
  (hv : VtR w2 (W.heap.size ≤ ·) (.agg #[u0, u1, u2]) x) (hk : Kp (S3 rg cg t) W w2) (hq : EndQ ok rg cg t b a w2 x R) (ht : Tl w2 t (q + R.steps)) :
  FormQ ok rg cg t b a q w R (.returned (.agg #[u0, u1, u2])) (((w2.setCell ⟨w.heap.size + 1, 0, none⟩ u0).setCell ⟨w.heap.size + 1, 1, none⟩ u1).setCell ⟨w.heap.size + 1, 2, none⟩ u2) := by
 have h1 := E.hrl
 have h2 := E.hcl
 have h3 := F.hz
 exact ⟨form_end (okn := fun i => W.heap.size ≤ i) (F.hk.then_ hk (fun i hi => .inl hi)) (by omega) hv (fun i hi => by omega) (by omega) (by omega) (fun i hi => by have := E.hokl i hi; omega) hq,
  ht.kp ((Kp.refl (fun i => i = w.heap.size + 1) w2).put3 (B := w.heap.size + 1) (.inl rfl) _ _ _) (fun g hg he => by have := E.htl g hg; omega)⟩
theorem RdEnv.far {ok : Nat → Prop} {rg cg : Nat} {t : Value} {b : List UInt8} {a : Int} {w : World} (E : RdEnv ok rg cg t b a w) {w' : World} (hz : w.heap.size ≤ w'.heap.size) : RdEnv ok rg cg t b a w' := E.at_ hz E.ha (Nat.le_refl _) E.hal
/-- A leaf's contract, with the tally. -/
theorem leaf_up {ok : Nat → Prop} {rg cg : Nat} {t : Value} {b : List UInt8} {a : Int} {q : Nat} {w w' : World} {R : RdT} {e : Ending} (E : RdEnv ok rg cg t b a w) (h : FormP ok (S2 rg cg) rg cg t b a w R e w') (hs : R.steps = 1) (ht : Tl w t (q + 1)) : FormQ ok rg cg t b a q w R e w' := by
 obtain ⟨v, x, rfl, h1, h2, h3⟩ := h
 refine ⟨⟨v, x, rfl, h1, h2.mono (fun i _ hi => hi.imp id .inl), h3⟩, ?_⟩
 rw [hs]
 exact ht.kp h2 (fun g hg hx => hx.elim (fun e => E.htr g hg e) (fun e => E.htc g hg e))

set_option maxRecDepth 100000 in
set_option maxHeartbeats 3200000 in
theorem form_number (ok : Nat → Prop) (rg cg : Nat) (t : Value) (h : FH) (P : List Fm) (A0 : Option Addr) (c0 : Nat) (b : List UInt8) (a : Int) (q : Nat) (w : World) (hk : h.k = 0) (hT : IsT t) (hs : szB h.s = true) (E : RdEnv ok rg cg t b a w)
  (hv : FmR w ok (fv h A0 P.length c0) (.mk h P)) (hr : RdB w rg t 0 0) (hc : Cur w ok cg b a) (ht : Tl w t q) (hroom : t = .pointer none ∨ q + (readR (.mk h P) b).steps ≤ 1073741824) (tab : Tab06 w) :
  Calls Tryd.prog 41 #[.pointer (some ⟨rg, 0, none⟩), .pointer (some ⟨cg, 0, none⟩), fv h A0 P.length c0] w (FormQ ok rg cg t b a q w (readR (.mk h P) b)) := by
 have hpos := read_pos (.mk h P) b
 have HCW := Lib.hid (fun (W : World) (E2 : RdEnv ok rg cg t b a W) (hk2 : Kp (S3 rg cg t) w W) (hr : RdB W rg t 0 0) (hc : Cur W ok cg b a) (ht : Tl W t (q + 1)) (tab : Tab06 W) => show Calls Tryd.prog 104 #[.pointer (some ⟨rg, 0, none⟩), .pointer (some ⟨cg, 0, none⟩), fv h A0 P.length c0] W (FormQ ok rg cg t b a q W (readR (.mk h P) b)) from (number_rd ok rg cg t h P A0 c0 b a W hk hs hr hc E2.hoc E2.hrc E2.hokl (by have := E2.hl; omega) E2.ha E2.hal).mono fun e w' hq => leaf_up E2 hq (by rw [readR_mk, if_pos hk]; split <;> rfl) ht)
 generalize readR (.mk h P) b = R at hroom hpos HCW ⊢
 obtain ⟨k, s, lo, hi, st⟩ := h
 simp only at hk
 subst hk
 have HPRE := Lib.hid (fun W hW ht => formW_pre (h := ⟨0, s, lo, hi, st⟩) (A0 := A0) (n0 := P.length) (c0 := c0) (q := q) (W := W) hr hc tab hW ht)
 have hka : Kp (fun _ => False) w ((w.alloc (.cells #[.int .i64 0, .int .i64 s, .int .i64 lo, .int .i64 hi, .int .i64 st, .slice A0 P.length c0] 24)).alloc (.cells #[.int .u64 0, .slice none 0 0, .slice none 0 0] 31)) := ((Kp.refl _ w).alloc _).alloc _
 have hr0 := Blk.cell (hr.kp hka (fun h => h)) 0
 simp at hr0
 have HE := Lib.hid E
 obtain ⟨W, hW⟩ : ∃ W, (w.alloc (.cells #[.int .i64 0, .int .i64 s, .int .i64 lo, .int .i64 hi, .int .i64 st, .slice A0 P.length c0] 24)).alloc (.cells #[.int .u64 0, .slice none 0 0, .slice none 0 0] 31) = W := ⟨_, rfl⟩
 have HWE := Lib.hid hW
 rw [hW] at hr0 hka
 rcases hT with rfl | ⟨tg, rfl⟩
 ·have HF := Lib.hid (HPRE.out W hW (fun g hg => by cases hg))
  clear hr hc ht tab E hroom hv hW hpos HPRE hka
  go_enter Tryd.func41, Tryd.ntmps41
  go_upto_region 1 with fail
  rw [HWE.out]
  clear HWE
  go_upto_region 4 with fail
  have E2 := HE.out.far (w' := W) (by have := HF.out.hz; omega)
  have F := HF.out
  have t0 := F.hbf.cell 0
  have t1 := F.hbf.cell 1
  have t2 := F.hbf.cell 2
  have t3 := F.hbf.cell 3
  have t4 := F.hbf.cell 4
  have t5 := F.hbf.cell 5
  simp at t0 t1 t2 t3 t4 t5
  have tc := F.tab.c0
  have hSK : ∀ (T : Nat → Prop) (V : World), Kp T W V → ¬ T w.heap.size → ¬ T 0 → (fun w' : World => w'.cell? ⟨w.heap.size, 0, none⟩ = some (.int .i64 0) ∧ w'.cell? ⟨w.heap.size, 1, none⟩ = some (.int .i64 s) ∧ w'.cell? ⟨w.heap.size, 2, none⟩ = some (.int .i64 lo) ∧ w'.cell? ⟨w.heap.size, 3, none⟩ = some (.int .i64 hi) ∧ w'.cell? ⟨w.heap.size, 4, none⟩ = some (.int .i64 st) ∧ w'.cell? ⟨w.heap.size, 5, none⟩ = some (.slice A0 P.length c0) ∧ w'.cell? ⟨0, 0, none⟩ = some (.func (.func 104) #[] #[])) V := fun T V hk h1 h2 => ⟨hk.cell t0 h1, hk.cell t1 h1, hk.cell t2 h1, hk.cell t3 h1, hk.cell t4 h1, hk.cell t5 h1, hk.cell tc h2⟩
  have hD : Kp (fun _ => False) W W.drew := (Kp.refl _ W).drew
  have HC := Lib.hid (HCW.out W.drew (E2.far hD.size) (F.hk.then_ hD (fun _ h => h.elim)) (F.hr.kp hD (fun h => h)) (F.hc.kp hD (fun _ _ h => h) (fun h => h)) (F.ht.kp hD (fun _ _ h => h)) (F.tab.kp hD (fun h => h)))
  have hS0 := hSK (fun _ => False) W.drew hD (fun h => h) (fun h => h)
  have HSK := Lib.hid hSK
  have HF2 := Lib.hid (show FormW ok rg cg _ ⟨0, s, lo, hi, st⟩ A0 P.length c0 b a q w W.drew from ⟨F.hk.then_ hD (fun _ h => h.elim), Nat.le_trans F.hz hD.size, F.hbf.kp hD (fun h => h), F.hb1.kp hD (fun h => h), F.hr.kp hD (fun h => h), F.hc.kp hD (fun _ _ h => h) (fun h => h), F.ht.kp hD (fun _ _ h => h), F.tab.kp hD (fun h => h)⟩)
  clear HCW E2 F hD hSK
  go_upto_region 9 with fail
  refine wp_region_noPanic ?_
  refine wp_region_held_drew (S := (fun w' : World => w'.cell? ⟨w.heap.size, 0, none⟩ = some (.int .i64 0) ∧ w'.cell? ⟨w.heap.size, 1, none⟩ = some (.int .i64 s) ∧ w'.cell? ⟨w.heap.size, 2, none⟩ = some (.int .i64 lo) ∧ w'.cell? ⟨w.heap.size, 3, none⟩ = some (.int .i64 hi) ∧ w'.cell? ⟨w.heap.size, 4, none⟩ = some (.int .i64 st) ∧ w'.cell? ⟨w.heap.size, 5, none⟩ = some (.slice A0 P.length c0) ∧ w'.cell? ⟨0, 0, none⟩ = some (.func (.func 104) #[] #[]))) (by kernel_rfl) hS0 (fun hHeld => ?_)
  refine wpAnyH_take (i := 0) (v := ?vW_0) (by simp only [List.getElem?_toArray, List.getElem?_cons_zero]; rfl) (by kernel_rfl) (by kernel_rfl) (by kernel_rfl) (fun _ _ _ h => h) (Or.inl ⟨by rfl, ?hyW_0⟩) (by assumption) ?restW_0
  case hyW_0 => (intro w hSw; (try dsimp only at hSw); go_simp; (try with_reducible rfl))
  try simp only [Act.put, List.setIfInBounds_toArray, List.set_cons_zero, List.set_cons_succ]
  refine wpAnyH_take (i := 1) (v := ?vW_1) (by simp only [List.getElem?_toArray, List.getElem?_cons_succ, List.getElem?_cons_zero]; rfl) (by kernel_rfl) (by kernel_rfl) (by kernel_rfl) (fun _ _ _ h => h) (Or.inl ⟨by rfl, ?hyW_1⟩) (by assumption) ?restW_1
  case hyW_1 => (intro w hSw; (try dsimp only at hSw); go_simp; (try with_reducible rfl))
  try simp only [Act.put, List.setIfInBounds_toArray, List.set_cons_zero, List.set_cons_succ]
  refine wpAnyH_take (i := 2) (v := ?vW_2) (by simp only [List.getElem?_toArray, List.getElem?_cons_succ, List.getElem?_cons_zero]; rfl) (by kernel_rfl) (by kernel_rfl) (by kernel_rfl) (fun _ _ _ h => h) (Or.inl ⟨by rfl, ?hyW_2⟩) (by assumption) ?restW_2
  case hyW_2 => (intro w hSw; (try dsimp only at hSw); go_simp; (try with_reducible rfl))
  try simp only [Act.put, List.setIfInBounds_toArray, List.set_cons_zero, List.set_cons_succ]
  refine wpAnyH_take (i := 3) (v := ?vW_3) (by simp only [List.getElem?_toArray, List.getElem?_cons_succ, List.getElem?_cons_zero]; rfl) (by kernel_rfl) (by kernel_rfl) (by kernel_rfl) (fun _ _ _ h => h) (Or.inl ⟨by rfl, ?hyW_3⟩) (by assumption) ?restW_3
  case hyW_3 => (intro w hSw; (try dsimp only at hSw); go_simp; (try with_reducible rfl))
  try simp only [Act.put, List.setIfInBounds_toArray, List.set_cons_zero, List.set_cons_succ]
  refine wpAnyH_take (i := 4) (v := ?vW_4) (by simp only [List.getElem?_toArray, List.getElem?_cons_succ, List.getElem?_cons_zero]; rfl) (by kernel_rfl) (by kernel_rfl) (by kernel_rfl) (fun _ _ _ h => h) (Or.inl ⟨by rfl, ?hyW_4⟩) (by assumption) ?restW_4
  case hyW_4 => (intro w hSw; (try dsimp only at hSw); go_simp; (try with_reducible rfl))
  try simp only [Act.put, List.setIfInBounds_toArray, List.set_cons_zero, List.set_cons_succ]
  refine wpAnyH_take (i := 5) (v := ?vW_5) (by simp only [List.getElem?_toArray, List.getElem?_cons_succ, List.getElem?_cons_zero]; rfl) (by kernel_rfl) (by kernel_rfl) (by kernel_rfl) (fun _ _ _ h => h) (Or.inl ⟨by rfl, ?hyW_5⟩) (by assumption) ?restW_5
  case hyW_5 => (intro w hSw; (try dsimp only at hSw); go_simp; (try with_reducible rfl))
  try simp only [Act.put, List.setIfInBounds_toArray, List.set_cons_zero, List.set_cons_succ]
  refine wpAnyH_take (i := 6) (v := ?vW_6) (by simp only [List.getElem?_toArray, List.getElem?_cons_succ, List.getElem?_cons_zero]; rfl) (by kernel_rfl) (by kernel_rfl) (by kernel_rfl) (fun _ _ _ h => h) (Or.inl ⟨by rfl, ?hyW_6⟩) (by assumption) ?restW_6
  case hyW_6 => (intro w hSw; (try dsimp only at hSw); go_simp; (try with_reducible rfl))
  try simp only [Act.put, List.setIfInBounds_toArray, List.set_cons_zero, List.set_cons_succ]
  refine wpAnyH_ready (rs := [7]) (by kernel_rfl) (by simp) ?_
  refine (AllReadyH.cons (o := _) rfl (fun K hK => ?_) AllReadyH.nil)
  go_simp
  refine HC.out.mono ?_
  rintro e w3 ⟨hfp, htl⟩
  obtain ⟨v3, x, rfl, hvx, hk3, hen⟩ := hfp.parts
  obtain ⟨A5, c5, A6, c6, rfl, _⟩ := hvx.shape
  have hn1 := HE.out.new_S w.heap.size (Nat.le_refl _)
  have hn2 := HE.out.ok_S _ HE.out.hok0
  have hb3 := HF2.out.hb1.kp hk3 (fun hs => (HE.out.new_S _ (by omega) hs))
  have z0 := hb3.frozen 0
  have z1 := hb3.frozen 1
  have z2 := hb3.frozen 2
  have y0 := hb3.cell 0
  have y1 := hb3.cell 1
  have y2 := hb3.cell 2
  simp at y0 y1 y2
  have HD := Lib.hid (form_done HE.out HF2.out hvx hk3 hen htl)
  have hk4 := ((Kp.refl (fun _ => False) W).drew.mono (fun _ _ h => h.elim)).then_ (S := S3 rg cg _) hk3 (fun j hj => .inl hj)
  have hS2 := HSK.out _ w3 hk4 hn1 hn2
  have hS3 := fun u0 u1 u2 => HSK.out (fun j => S3 rg cg _ j ∨ j = w.heap.size + 1) _ ((hk4.mono (fun _ _ h => .inl h)).put3 (B := w.heap.size + 1) (.inl (.inr rfl)) u0 u1 u2) (fun hh => hh.elim hn1 (fun e => by omega)) (fun hh => hh.elim hn2 (fun e => by have := HE.out.hokl _ HE.out.hok0; omega))
  clear hb3 hvx hk3 hen htl hfp hk4
  generalize hl5 : x.a.b.length = l5 at HD ⊢
  generalize hl6 : x.l.length = l6 at HD ⊢
  generalize hn5 : x.a.n = n5 at HD ⊢
  try dsimp only
  refine hK.out _ _ hS2 (fun hHeld => ?_)
  clear hK K
  refine wpAnyH_ready (rs := [8]) (by kernel_rfl) (by simp) ?_
  refine (AllReadyH.cons (o := _) rfl (fun K hK => ?_) AllReadyH.nil)
  go_simp
  try dsimp only
  refine hK.out _ _ (hS3 _ _ _) (fun hHeld => ?_)
  clear hK K
  refine wpAnyH_done (by kernel_rfl) ?_ _
  refine NoPanic.normal ?_
  go_wp2_with fail
  exact bodyPost_ret (v := .agg #[.int .u64 n5, .slice A5 l5 c5, .slice A6 l6 c6]) (by simp [results, Tryd.results41, go_sem, y0, y1, y2]) rfl HD.out
 ·have hT2 := ht tg rfl
  have HSP := Lib.hid (spend_any tg 1073741824 q W (hT2.kp hka (fun h => h)) (by omega) (by have := hroom.resolve_left (by simp); omega) (by omega))
  have HSW := Lib.hid (fun W2 hk ht => formW_spent (h := ⟨0, s, lo, hi, st⟩) (A0 := A0) (n0 := P.length) (c0 := c0) (q := q) (W := W) (W2 := W2) E hr hc tab hW hk ht)
  clear hr hc ht tab E hroom hv hW hpos HPRE hT2 hka
  go_enter Tryd.func41, Tryd.ntmps41
  go_upto_region 1 with fail
  rw [HWE.out]
  clear HWE
  go_upto_region 4 with (go_at_call 57; refine HSP.out.mono ?_; rintro e W2 ⟨rfl, ht2, hk2⟩)
  have HF := Lib.hid (HSW.out W2 hk2 ht2)
  clear HSP HSW ht2 hk2 hr0
  have E2 := HE.out.far (w' := W2) (by have := HF.out.hz; omega)
  have F := HF.out
  have t0 := F.hbf.cell 0
  have t1 := F.hbf.cell 1
  have t2 := F.hbf.cell 2
  have t3 := F.hbf.cell 3
  have t4 := F.hbf.cell 4
  have t5 := F.hbf.cell 5
  simp at t0 t1 t2 t3 t4 t5
  have tc := F.tab.c0
  have hSK : ∀ (T : Nat → Prop) (V : World), Kp T W2 V → ¬ T w.heap.size → ¬ T 0 → (fun w' : World => w'.cell? ⟨w.heap.size, 0, none⟩ = some (.int .i64 0) ∧ w'.cell? ⟨w.heap.size, 1, none⟩ = some (.int .i64 s) ∧ w'.cell? ⟨w.heap.size, 2, none⟩ = some (.int .i64 lo) ∧ w'.cell? ⟨w.heap.size, 3, none⟩ = some (.int .i64 hi) ∧ w'.cell? ⟨w.heap.size, 4, none⟩ = some (.int .i64 st) ∧ w'.cell? ⟨w.heap.size, 5, none⟩ = some (.slice A0 P.length c0) ∧ w'.cell? ⟨0, 0, none⟩ = some (.func (.func 104) #[] #[])) V := fun T V hk h1 h2 => ⟨hk.cell t0 h1, hk.cell t1 h1, hk.cell t2 h1, hk.cell t3 h1, hk.cell t4 h1, hk.cell t5 h1, hk.cell tc h2⟩
  have hD : Kp (fun _ => False) W2 W2.drew := (Kp.refl _ W2).drew
  have HC := Lib.hid (HCW.out W2.drew (E2.far hD.size) (F.hk.then_ hD (fun _ h => h.elim)) (F.hr.kp hD (fun h => h)) (F.hc.kp hD (fun _ _ h => h) (fun h => h)) (F.ht.kp hD (fun _ _ h => h)) (F.tab.kp hD (fun h => h)))
  have hS0 := hSK (fun _ => False) W2.drew hD (fun h => h) (fun h => h)
  have HSK := Lib.hid hSK
  have HF2 := Lib.hid (show FormW ok rg cg _ ⟨0, s, lo, hi, st⟩ A0 P.length c0 b a q w W2.drew from ⟨F.hk.then_ hD (fun _ h => h.elim), Nat.le_trans F.hz hD.size, F.hbf.kp hD (fun h => h), F.hb1.kp hD (fun h => h), F.hr.kp hD (fun h => h), F.hc.kp hD (fun _ _ h => h) (fun h => h), F.ht.kp hD (fun _ _ h => h), F.tab.kp hD (fun h => h)⟩)
  clear HCW E2 F hD hSK
  go_upto_region 9 with fail
  refine wp_region_noPanic ?_
  refine wp_region_held_drew (S := (fun w' : World => w'.cell? ⟨w.heap.size, 0, none⟩ = some (.int .i64 0) ∧ w'.cell? ⟨w.heap.size, 1, none⟩ = some (.int .i64 s) ∧ w'.cell? ⟨w.heap.size, 2, none⟩ = some (.int .i64 lo) ∧ w'.cell? ⟨w.heap.size, 3, none⟩ = some (.int .i64 hi) ∧ w'.cell? ⟨w.heap.size, 4, none⟩ = some (.int .i64 st) ∧ w'.cell? ⟨w.heap.size, 5, none⟩ = some (.slice A0 P.length c0) ∧ w'.cell? ⟨0, 0, none⟩ = some (.func (.func 104) #[] #[]))) (by kernel_rfl) hS0 (fun hHeld => ?_)
  refine wpAnyH_take (i := 0) (v := ?vW2_0) (by simp only [List.getElem?_toArray, List.getElem?_cons_zero]; rfl) (by kernel_rfl) (by kernel_rfl) (by kernel_rfl) (fun _ _ _ h => h) (Or.inl ⟨by rfl, ?hyW2_0⟩) (by assumption) ?restW2_0
  case hyW2_0 => (intro w hSw; (try dsimp only at hSw); go_simp; (try with_reducible rfl))
  try simp only [Act.put, List.setIfInBounds_toArray, List.set_cons_zero, List.set_cons_succ]
  refine wpAnyH_take (i := 1) (v := ?vW2_1) (by simp only [List.getElem?_toArray, List.getElem?_cons_succ, List.getElem?_cons_zero]; rfl) (by kernel_rfl) (by kernel_rfl) (by kernel_rfl) (fun _ _ _ h => h) (Or.inl ⟨by rfl, ?hyW2_1⟩) (by assumption) ?restW2_1
  case hyW2_1 => (intro w hSw; (try dsimp only at hSw); go_simp; (try with_reducible rfl))
  try simp only [Act.put, List.setIfInBounds_toArray, List.set_cons_zero, List.set_cons_succ]
  refine wpAnyH_take (i := 2) (v := ?vW2_2) (by simp only [List.getElem?_toArray, List.getElem?_cons_succ, List.getElem?_cons_zero]; rfl) (by kernel_rfl) (by kernel_rfl) (by kernel_rfl) (fun _ _ _ h => h) (Or.inl ⟨by rfl, ?hyW2_2⟩) (by assumption) ?restW2_2
  case hyW2_2 => (intro w hSw; (try dsimp only at hSw); go_simp; (try with_reducible rfl))
  try simp only [Act.put, List.setIfInBounds_toArray, List.set_cons_zero, List.set_cons_succ]
  refine wpAnyH_take (i := 3) (v := ?vW2_3) (by simp only [List.getElem?_toArray, List.getElem?_cons_succ, List.getElem?_cons_zero]; rfl) (by kernel_rfl) (by kernel_rfl) (by kernel_rfl) (fun _ _ _ h => h) (Or.inl ⟨by rfl, ?hyW2_3⟩) (by assumption) ?restW2_3
  case hyW2_3 => (intro w hSw; (try dsimp only at hSw); go_simp; (try with_reducible rfl))
  try simp only [Act.put, List.setIfInBounds_toArray, List.set_cons_zero, List.set_cons_succ]
  refine wpAnyH_take (i := 4) (v := ?vW2_4) (by simp only [List.getElem?_toArray, List.getElem?_cons_succ, List.getElem?_cons_zero]; rfl) (by kernel_rfl) (by kernel_rfl) (by kernel_rfl) (fun _ _ _ h => h) (Or.inl ⟨by rfl, ?hyW2_4⟩) (by assumption) ?restW2_4
  case hyW2_4 => (intro w hSw; (try dsimp only at hSw); go_simp; (try with_reducible rfl))
  try simp only [Act.put, List.setIfInBounds_toArray, List.set_cons_zero, List.set_cons_succ]
  refine wpAnyH_take (i := 5) (v := ?vW2_5) (by simp only [List.getElem?_toArray, List.getElem?_cons_succ, List.getElem?_cons_zero]; rfl) (by kernel_rfl) (by kernel_rfl) (by kernel_rfl) (fun _ _ _ h => h) (Or.inl ⟨by rfl, ?hyW2_5⟩) (by assumption) ?restW2_5
  case hyW2_5 => (intro w hSw; (try dsimp only at hSw); go_simp; (try with_reducible rfl))
  try simp only [Act.put, List.setIfInBounds_toArray, List.set_cons_zero, List.set_cons_succ]
  refine wpAnyH_take (i := 6) (v := ?vW2_6) (by simp only [List.getElem?_toArray, List.getElem?_cons_succ, List.getElem?_cons_zero]; rfl) (by kernel_rfl) (by kernel_rfl) (by kernel_rfl) (fun _ _ _ h => h) (Or.inl ⟨by rfl, ?hyW2_6⟩) (by assumption) ?restW2_6
  case hyW2_6 => (intro w hSw; (try dsimp only at hSw); go_simp; (try with_reducible rfl))
  try simp only [Act.put, List.setIfInBounds_toArray, List.set_cons_zero, List.set_cons_succ]
  refine wpAnyH_ready (rs := [7]) (by kernel_rfl) (by simp) ?_
  refine (AllReadyH.cons (o := _) rfl (fun K hK => ?_) AllReadyH.nil)
  go_simp
  refine HC.out.mono ?_
  rintro e w3 ⟨hfp, htl⟩
  obtain ⟨v3, x, rfl, hvx, hk3, hen⟩ := hfp.parts
  obtain ⟨A5, c5, A6, c6, rfl, _⟩ := hvx.shape
  have hn1 := HE.out.new_S w.heap.size (Nat.le_refl _)
  have hn2 := HE.out.ok_S _ HE.out.hok0
  have hb3 := HF2.out.hb1.kp hk3 (fun hs => (HE.out.new_S _ (by omega) hs))
  have z0 := hb3.frozen 0
  have z1 := hb3.frozen 1
  have z2 := hb3.frozen 2
  have y0 := hb3.cell 0
  have y1 := hb3.cell 1
  have y2 := hb3.cell 2
  simp at y0 y1 y2
  have HD := Lib.hid (form_done HE.out HF2.out hvx hk3 hen htl)
  have hk4 := ((Kp.refl (fun _ => False) W2).drew.mono (fun _ _ h => h.elim)).then_ (S := S3 rg cg _) hk3 (fun j hj => .inl hj)
  have hS2 := HSK.out _ w3 hk4 hn1 hn2
  have hS3 := fun u0 u1 u2 => HSK.out (fun j => S3 rg cg _ j ∨ j = w.heap.size + 1) _ ((hk4.mono (fun _ _ h => .inl h)).put3 (B := w.heap.size + 1) (.inl (.inr rfl)) u0 u1 u2) (fun hh => hh.elim hn1 (fun e => by omega)) (fun hh => hh.elim hn2 (fun e => by have := HE.out.hokl _ HE.out.hok0; omega))
  clear hb3 hvx hk3 hen htl hfp hk4
  generalize hl5 : x.a.b.length = l5 at HD ⊢
  generalize hl6 : x.l.length = l6 at HD ⊢
  generalize hn5 : x.a.n = n5 at HD ⊢
  try dsimp only
  refine hK.out _ _ hS2 (fun hHeld => ?_)
  clear hK K
  refine wpAnyH_ready (rs := [8]) (by kernel_rfl) (by simp) ?_
  refine (AllReadyH.cons (o := _) rfl (fun K hK => ?_) AllReadyH.nil)
  go_simp
  try dsimp only
  refine hK.out _ _ (hS3 _ _ _) (fun hHeld => ?_)
  clear hK K
  refine wpAnyH_done (by kernel_rfl) ?_ _
  refine NoPanic.normal ?_
  go_wp2_with fail
  exact bodyPost_ret (v := .agg #[.int .u64 n5, .slice A5 l5 c5, .slice A6 l6 c6]) (by simp [results, Tryd.results41, go_sem, y0, y1, y2]) rfl HD.out

set_option maxRecDepth 100000 in
set_option maxHeartbeats 3200000 in
theorem form_opaque (ok : Nat → Prop) (rg cg : Nat) (t : Value) (h : FH) (P : List Fm) (A0 : Option Addr) (c0 : Nat) (b : List UInt8) (a : Int) (q : Nat) (w : World) (hk : h.k = 1) (hT : IsT t) (hs : 1 ≤ h.s ∧ h.s ≤ 3) (hst : 1 ≤ h.st ∧ h.st ≤ 65536) (E : RdEnv ok rg cg t b a w)
  (hv : FmR w ok (fv h A0 P.length c0) (.mk h P)) (hr : RdB w rg t 0 0) (hc : Cur w ok cg b a) (ht : Tl w t q) (hroom : t = .pointer none ∨ q + (readR (.mk h P) b).steps ≤ 1073741824) (tab : Tab06 w) :
  Calls Tryd.prog 41 #[.pointer (some ⟨rg, 0, none⟩), .pointer (some ⟨cg, 0, none⟩), fv h A0 P.length c0] w (FormQ ok rg cg t b a q w (readR (.mk h P) b)) := by
 have hpos := read_pos (.mk h P) b
 have HCW := Lib.hid (fun (W : World) (E2 : RdEnv ok rg cg t b a W) (hk2 : Kp (S3 rg cg t) w W) (hr : RdB W rg t 0 0) (hc : Cur W ok cg b a) (ht : Tl W t (q + 1)) (tab : Tab06 W) => show Calls Tryd.prog 105 #[.pointer (some ⟨rg, 0, none⟩), .pointer (some ⟨cg, 0, none⟩), fv h A0 P.length c0] W (FormQ ok rg cg t b a q W (readR (.mk h P) b)) from (opaque_rd ok rg cg t h P A0 c0 b a W hk hs hst hr hc E2.hor E2.hoc E2.hrc E2.hokl (by have := E2.hl; omega) E2.ha E2.hal).mono fun e w' hq => leaf_up E2 hq (by rw [read_opq hk]; split <;> rfl) ht)
 generalize readR (.mk h P) b = R at hroom hpos HCW ⊢
 obtain ⟨k, s, lo, hi, st⟩ := h
 simp only at hk
 subst hk
 have HPRE := Lib.hid (fun W hW ht => formW_pre (h := ⟨1, s, lo, hi, st⟩) (A0 := A0) (n0 := P.length) (c0 := c0) (q := q) (W := W) hr hc tab hW ht)
 have hka : Kp (fun _ => False) w ((w.alloc (.cells #[.int .i64 1, .int .i64 s, .int .i64 lo, .int .i64 hi, .int .i64 st, .slice A0 P.length c0] 24)).alloc (.cells #[.int .u64 0, .slice none 0 0, .slice none 0 0] 31)) := ((Kp.refl _ w).alloc _).alloc _
 have hr0 := Blk.cell (hr.kp hka (fun h => h)) 0
 simp at hr0
 have HE := Lib.hid E
 obtain ⟨W, hW⟩ : ∃ W, (w.alloc (.cells #[.int .i64 1, .int .i64 s, .int .i64 lo, .int .i64 hi, .int .i64 st, .slice A0 P.length c0] 24)).alloc (.cells #[.int .u64 0, .slice none 0 0, .slice none 0 0] 31) = W := ⟨_, rfl⟩
 have HWE := Lib.hid hW
 rw [hW] at hr0 hka
 rcases hT with rfl | ⟨tg, rfl⟩
 ·have HF := Lib.hid (HPRE.out W hW (fun g hg => by cases hg))
  clear hr hc ht tab E hroom hv hW hpos HPRE hka
  go_enter Tryd.func41, Tryd.ntmps41
  go_upto_region 1 with fail
  rw [HWE.out]
  clear HWE
  go_upto_region 4 with fail
  have E2 := HE.out.far (w' := W) (by have := HF.out.hz; omega)
  have F := HF.out
  have t0 := F.hbf.cell 0
  have t1 := F.hbf.cell 1
  have t2 := F.hbf.cell 2
  have t3 := F.hbf.cell 3
  have t4 := F.hbf.cell 4
  have t5 := F.hbf.cell 5
  simp at t0 t1 t2 t3 t4 t5
  have tc := F.tab.c1
  have hSK : ∀ (T : Nat → Prop) (V : World), Kp T W V → ¬ T w.heap.size → ¬ T 0 → (fun w' : World => w'.cell? ⟨w.heap.size, 0, none⟩ = some (.int .i64 1) ∧ w'.cell? ⟨w.heap.size, 1, none⟩ = some (.int .i64 s) ∧ w'.cell? ⟨w.heap.size, 2, none⟩ = some (.int .i64 lo) ∧ w'.cell? ⟨w.heap.size, 3, none⟩ = some (.int .i64 hi) ∧ w'.cell? ⟨w.heap.size, 4, none⟩ = some (.int .i64 st) ∧ w'.cell? ⟨w.heap.size, 5, none⟩ = some (.slice A0 P.length c0) ∧ w'.cell? ⟨0, 1, none⟩ = some (.func (.func 105) #[] #[])) V := fun T V hk h1 h2 => ⟨hk.cell t0 h1, hk.cell t1 h1, hk.cell t2 h1, hk.cell t3 h1, hk.cell t4 h1, hk.cell t5 h1, hk.cell tc h2⟩
  have hD : Kp (fun _ => False) W W.drew := (Kp.refl _ W).drew
  have HC := Lib.hid (HCW.out W.drew (E2.far hD.size) (F.hk.then_ hD (fun _ h => h.elim)) (F.hr.kp hD (fun h => h)) (F.hc.kp hD (fun _ _ h => h) (fun h => h)) (F.ht.kp hD (fun _ _ h => h)) (F.tab.kp hD (fun h => h)))
  have hS0 := hSK (fun _ => False) W.drew hD (fun h => h) (fun h => h)
  have HSK := Lib.hid hSK
  have HF2 := Lib.hid (show FormW ok rg cg _ ⟨1, s, lo, hi, st⟩ A0 P.length c0 b a q w W.drew from ⟨F.hk.then_ hD (fun _ h => h.elim), Nat.le_trans F.hz hD.size, F.hbf.kp hD (fun h => h), F.hb1.kp hD (fun h => h), F.hr.kp hD (fun h => h), F.hc.kp hD (fun _ _ h => h) (fun h => h), F.ht.kp hD (fun _ _ h => h), F.tab.kp hD (fun h => h)⟩)
  clear HCW E2 F hD hSK
  go_upto_region 9 with fail
  refine wp_region_noPanic ?_
  refine wp_region_held_drew (S := (fun w' : World => w'.cell? ⟨w.heap.size, 0, none⟩ = some (.int .i64 1) ∧ w'.cell? ⟨w.heap.size, 1, none⟩ = some (.int .i64 s) ∧ w'.cell? ⟨w.heap.size, 2, none⟩ = some (.int .i64 lo) ∧ w'.cell? ⟨w.heap.size, 3, none⟩ = some (.int .i64 hi) ∧ w'.cell? ⟨w.heap.size, 4, none⟩ = some (.int .i64 st) ∧ w'.cell? ⟨w.heap.size, 5, none⟩ = some (.slice A0 P.length c0) ∧ w'.cell? ⟨0, 1, none⟩ = some (.func (.func 105) #[] #[]))) (by kernel_rfl) hS0 (fun hHeld => ?_)
  refine wpAnyH_take (i := 0) (v := ?vW_0) (by simp only [List.getElem?_toArray, List.getElem?_cons_zero]; rfl) (by kernel_rfl) (by kernel_rfl) (by kernel_rfl) (fun _ _ _ h => h) (Or.inl ⟨by rfl, ?hyW_0⟩) (by assumption) ?restW_0
  case hyW_0 => (intro w hSw; (try dsimp only at hSw); go_simp; (try with_reducible rfl))
  try simp only [Act.put, List.setIfInBounds_toArray, List.set_cons_zero, List.set_cons_succ]
  refine wpAnyH_take (i := 1) (v := ?vW_1) (by simp only [List.getElem?_toArray, List.getElem?_cons_succ, List.getElem?_cons_zero]; rfl) (by kernel_rfl) (by kernel_rfl) (by kernel_rfl) (fun _ _ _ h => h) (Or.inl ⟨by rfl, ?hyW_1⟩) (by assumption) ?restW_1
  case hyW_1 => (intro w hSw; (try dsimp only at hSw); go_simp; (try with_reducible rfl))
  try simp only [Act.put, List.setIfInBounds_toArray, List.set_cons_zero, List.set_cons_succ]
  refine wpAnyH_take (i := 2) (v := ?vW_2) (by simp only [List.getElem?_toArray, List.getElem?_cons_succ, List.getElem?_cons_zero]; rfl) (by kernel_rfl) (by kernel_rfl) (by kernel_rfl) (fun _ _ _ h => h) (Or.inl ⟨by rfl, ?hyW_2⟩) (by assumption) ?restW_2
  case hyW_2 => (intro w hSw; (try dsimp only at hSw); go_simp; (try with_reducible rfl))
  try simp only [Act.put, List.setIfInBounds_toArray, List.set_cons_zero, List.set_cons_succ]
  refine wpAnyH_take (i := 3) (v := ?vW_3) (by simp only [List.getElem?_toArray, List.getElem?_cons_succ, List.getElem?_cons_zero]; rfl) (by kernel_rfl) (by kernel_rfl) (by kernel_rfl) (fun _ _ _ h => h) (Or.inl ⟨by rfl, ?hyW_3⟩) (by assumption) ?restW_3
  case hyW_3 => (intro w hSw; (try dsimp only at hSw); go_simp; (try with_reducible rfl))
  try simp only [Act.put, List.setIfInBounds_toArray, List.set_cons_zero, List.set_cons_succ]
  refine wpAnyH_take (i := 4) (v := ?vW_4) (by simp only [List.getElem?_toArray, List.getElem?_cons_succ, List.getElem?_cons_zero]; rfl) (by kernel_rfl) (by kernel_rfl) (by kernel_rfl) (fun _ _ _ h => h) (Or.inl ⟨by rfl, ?hyW_4⟩) (by assumption) ?restW_4
  case hyW_4 => (intro w hSw; (try dsimp only at hSw); go_simp; (try with_reducible rfl))
  try simp only [Act.put, List.setIfInBounds_toArray, List.set_cons_zero, List.set_cons_succ]
  refine wpAnyH_take (i := 5) (v := ?vW_5) (by simp only [List.getElem?_toArray, List.getElem?_cons_succ, List.getElem?_cons_zero]; rfl) (by kernel_rfl) (by kernel_rfl) (by kernel_rfl) (fun _ _ _ h => h) (Or.inl ⟨by rfl, ?hyW_5⟩) (by assumption) ?restW_5
  case hyW_5 => (intro w hSw; (try dsimp only at hSw); go_simp; (try with_reducible rfl))
  try simp only [Act.put, List.setIfInBounds_toArray, List.set_cons_zero, List.set_cons_succ]
  refine wpAnyH_take (i := 6) (v := ?vW_6) (by simp only [List.getElem?_toArray, List.getElem?_cons_succ, List.getElem?_cons_zero]; rfl) (by kernel_rfl) (by kernel_rfl) (by kernel_rfl) (fun _ _ _ h => h) (Or.inl ⟨by rfl, ?hyW_6⟩) (by assumption) ?restW_6
  case hyW_6 => (intro w hSw; (try dsimp only at hSw); go_simp; (try with_reducible rfl))
  try simp only [Act.put, List.setIfInBounds_toArray, List.set_cons_zero, List.set_cons_succ]
  refine wpAnyH_ready (rs := [7]) (by kernel_rfl) (by simp) ?_
  refine (AllReadyH.cons (o := _) rfl (fun K hK => ?_) AllReadyH.nil)
  go_simp
  refine HC.out.mono ?_
  rintro e w3 ⟨hfp, htl⟩
  obtain ⟨v3, x, rfl, hvx, hk3, hen⟩ := hfp.parts
  obtain ⟨A5, c5, A6, c6, rfl, _⟩ := hvx.shape
  have hn1 := HE.out.new_S w.heap.size (Nat.le_refl _)
  have hn2 := HE.out.ok_S _ HE.out.hok0
  have hb3 := HF2.out.hb1.kp hk3 (fun hs => (HE.out.new_S _ (by omega) hs))
  have z0 := hb3.frozen 0
  have z1 := hb3.frozen 1
  have z2 := hb3.frozen 2
  have y0 := hb3.cell 0
  have y1 := hb3.cell 1
  have y2 := hb3.cell 2
  simp at y0 y1 y2
  have HD := Lib.hid (form_done HE.out HF2.out hvx hk3 hen htl)
  have hk4 := ((Kp.refl (fun _ => False) W).drew.mono (fun _ _ h => h.elim)).then_ (S := S3 rg cg _) hk3 (fun j hj => .inl hj)
  have hS2 := HSK.out _ w3 hk4 hn1 hn2
  have hS3 := fun u0 u1 u2 => HSK.out (fun j => S3 rg cg _ j ∨ j = w.heap.size + 1) _ ((hk4.mono (fun _ _ h => .inl h)).put3 (B := w.heap.size + 1) (.inl (.inr rfl)) u0 u1 u2) (fun hh => hh.elim hn1 (fun e => by omega)) (fun hh => hh.elim hn2 (fun e => by have := HE.out.hokl _ HE.out.hok0; omega))
  clear hb3 hvx hk3 hen htl hfp hk4
  generalize hl5 : x.a.b.length = l5 at HD ⊢
  generalize hl6 : x.l.length = l6 at HD ⊢
  generalize hn5 : x.a.n = n5 at HD ⊢
  try dsimp only
  refine hK.out _ _ hS2 (fun hHeld => ?_)
  clear hK K
  refine wpAnyH_ready (rs := [8]) (by kernel_rfl) (by simp) ?_
  refine (AllReadyH.cons (o := _) rfl (fun K hK => ?_) AllReadyH.nil)
  go_simp
  try dsimp only
  refine hK.out _ _ (hS3 _ _ _) (fun hHeld => ?_)
  clear hK K
  refine wpAnyH_done (by kernel_rfl) ?_ _
  refine NoPanic.normal ?_
  go_wp2_with fail
  exact bodyPost_ret (v := .agg #[.int .u64 n5, .slice A5 l5 c5, .slice A6 l6 c6]) (by simp [results, Tryd.results41, go_sem, y0, y1, y2]) rfl HD.out
 ·have hT2 := ht tg rfl
  have HSP := Lib.hid (spend_any tg 1073741824 q W (hT2.kp hka (fun h => h)) (by omega) (by have := hroom.resolve_left (by simp); omega) (by omega))
  have HSW := Lib.hid (fun W2 hk ht => formW_spent (h := ⟨1, s, lo, hi, st⟩) (A0 := A0) (n0 := P.length) (c0 := c0) (q := q) (W := W) (W2 := W2) E hr hc tab hW hk ht)
  clear hr hc ht tab E hroom hv hW hpos HPRE hT2 hka
  go_enter Tryd.func41, Tryd.ntmps41
  go_upto_region 1 with fail
  rw [HWE.out]
  clear HWE
  go_upto_region 4 with (go_at_call 57; refine HSP.out.mono ?_; rintro e W2 ⟨rfl, ht2, hk2⟩)
  have HF := Lib.hid (HSW.out W2 hk2 ht2)
  clear HSP HSW ht2 hk2 hr0
  have E2 := HE.out.far (w' := W2) (by have := HF.out.hz; omega)
  have F := HF.out
  have t0 := F.hbf.cell 0
  have t1 := F.hbf.cell 1
  have t2 := F.hbf.cell 2
  have t3 := F.hbf.cell 3
  have t4 := F.hbf.cell 4
  have t5 := F.hbf.cell 5
  simp at t0 t1 t2 t3 t4 t5
  have tc := F.tab.c1
  have hSK : ∀ (T : Nat → Prop) (V : World), Kp T W2 V → ¬ T w.heap.size → ¬ T 0 → (fun w' : World => w'.cell? ⟨w.heap.size, 0, none⟩ = some (.int .i64 1) ∧ w'.cell? ⟨w.heap.size, 1, none⟩ = some (.int .i64 s) ∧ w'.cell? ⟨w.heap.size, 2, none⟩ = some (.int .i64 lo) ∧ w'.cell? ⟨w.heap.size, 3, none⟩ = some (.int .i64 hi) ∧ w'.cell? ⟨w.heap.size, 4, none⟩ = some (.int .i64 st) ∧ w'.cell? ⟨w.heap.size, 5, none⟩ = some (.slice A0 P.length c0) ∧ w'.cell? ⟨0, 1, none⟩ = some (.func (.func 105) #[] #[])) V := fun T V hk h1 h2 => ⟨hk.cell t0 h1, hk.cell t1 h1, hk.cell t2 h1, hk.cell t3 h1, hk.cell t4 h1, hk.cell t5 h1, hk.cell tc h2⟩
  have hD : Kp (fun _ => False) W2 W2.drew := (Kp.refl _ W2).drew
  have HC := Lib.hid (HCW.out W2.drew (E2.far hD.size) (F.hk.then_ hD (fun _ h => h.elim)) (F.hr.kp hD (fun h => h)) (F.hc.kp hD (fun _ _ h => h) (fun h => h)) (F.ht.kp hD (fun _ _ h => h)) (F.tab.kp hD (fun h => h)))
  have hS0 := hSK (fun _ => False) W2.drew hD (fun h => h) (fun h => h)
  have HSK := Lib.hid hSK
  have HF2 := Lib.hid (show FormW ok rg cg _ ⟨1, s, lo, hi, st⟩ A0 P.length c0 b a q w W2.drew from ⟨F.hk.then_ hD (fun _ h => h.elim), Nat.le_trans F.hz hD.size, F.hbf.kp hD (fun h => h), F.hb1.kp hD (fun h => h), F.hr.kp hD (fun h => h), F.hc.kp hD (fun _ _ h => h) (fun h => h), F.ht.kp hD (fun _ _ h => h), F.tab.kp hD (fun h => h)⟩)
  clear HCW E2 F hD hSK
  go_upto_region 9 with fail
  refine wp_region_noPanic ?_
  refine wp_region_held_drew (S := (fun w' : World => w'.cell? ⟨w.heap.size, 0, none⟩ = some (.int .i64 1) ∧ w'.cell? ⟨w.heap.size, 1, none⟩ = some (.int .i64 s) ∧ w'.cell? ⟨w.heap.size, 2, none⟩ = some (.int .i64 lo) ∧ w'.cell? ⟨w.heap.size, 3, none⟩ = some (.int .i64 hi) ∧ w'.cell? ⟨w.heap.size, 4, none⟩ = some (.int .i64 st) ∧ w'.cell? ⟨w.heap.size, 5, none⟩ = some (.slice A0 P.length c0) ∧ w'.cell? ⟨0, 1, none⟩ = some (.func (.func 105) #[] #[]))) (by kernel_rfl) hS0 (fun hHeld => ?_)
  refine wpAnyH_take (i := 0) (v := ?vW2_0) (by simp only [List.getElem?_toArray, List.getElem?_cons_zero]; rfl) (by kernel_rfl) (by kernel_rfl) (by kernel_rfl) (fun _ _ _ h => h) (Or.inl ⟨by rfl, ?hyW2_0⟩) (by assumption) ?restW2_0
  case hyW2_0 => (intro w hSw; (try dsimp only at hSw); go_simp; (try with_reducible rfl))
  try simp only [Act.put, List.setIfInBounds_toArray, List.set_cons_zero, List.set_cons_succ]
  refine wpAnyH_take (i := 1) (v := ?vW2_1) (by simp only [List.getElem?_toArray, List.getElem?_cons_succ, List.getElem?_cons_zero]; rfl) (by kernel_rfl) (by kernel_rfl) (by kernel_rfl) (fun _ _ _ h => h) (Or.inl ⟨by rfl, ?hyW2_1⟩) (by assumption) ?restW2_1
  case hyW2_1 => (intro w hSw; (try dsimp only at hSw); go_simp; (try with_reducible rfl))
  try simp only [Act.put, List.setIfInBounds_toArray, List.set_cons_zero, List.set_cons_succ]
  refine wpAnyH_take (i := 2) (v := ?vW2_2) (by simp only [List.getElem?_toArray, List.getElem?_cons_succ, List.getElem?_cons_zero]; rfl) (by kernel_rfl) (by kernel_rfl) (by kernel_rfl) (fun _ _ _ h => h) (Or.inl ⟨by rfl, ?hyW2_2⟩) (by assumption) ?restW2_2
  case hyW2_2 => (intro w hSw; (try dsimp only at hSw); go_simp; (try with_reducible rfl))
  try simp only [Act.put, List.setIfInBounds_toArray, List.set_cons_zero, List.set_cons_succ]
  refine wpAnyH_take (i := 3) (v := ?vW2_3) (by simp only [List.getElem?_toArray, List.getElem?_cons_succ, List.getElem?_cons_zero]; rfl) (by kernel_rfl) (by kernel_rfl) (by kernel_rfl) (fun _ _ _ h => h) (Or.inl ⟨by rfl, ?hyW2_3⟩) (by assumption) ?restW2_3
  case hyW2_3 => (intro w hSw; (try dsimp only at hSw); go_simp; (try with_reducible rfl))
  try simp only [Act.put, List.setIfInBounds_toArray, List.set_cons_zero, List.set_cons_succ]
  refine wpAnyH_take (i := 4) (v := ?vW2_4) (by simp only [List.getElem?_toArray, List.getElem?_cons_succ, List.getElem?_cons_zero]; rfl) (by kernel_rfl) (by kernel_rfl) (by kernel_rfl) (fun _ _ _ h => h) (Or.inl ⟨by rfl, ?hyW2_4⟩) (by assumption) ?restW2_4
  case hyW2_4 => (intro w hSw; (try dsimp only at hSw); go_simp; (try with_reducible rfl))
  try simp only [Act.put, List.setIfInBounds_toArray, List.set_cons_zero, List.set_cons_succ]
  refine wpAnyH_take (i := 5) (v := ?vW2_5) (by simp only [List.getElem?_toArray, List.getElem?_cons_succ, List.getElem?_cons_zero]; rfl) (by kernel_rfl) (by kernel_rfl) (by kernel_rfl) (fun _ _ _ h => h) (Or.inl ⟨by rfl, ?hyW2_5⟩) (by assumption) ?restW2_5
  case hyW2_5 => (intro w hSw; (try dsimp only at hSw); go_simp; (try with_reducible rfl))
  try simp only [Act.put, List.setIfInBounds_toArray, List.set_cons_zero, List.set_cons_succ]
  refine wpAnyH_take (i := 6) (v := ?vW2_6) (by simp only [List.getElem?_toArray, List.getElem?_cons_succ, List.getElem?_cons_zero]; rfl) (by kernel_rfl) (by kernel_rfl) (by kernel_rfl) (fun _ _ _ h => h) (Or.inl ⟨by rfl, ?hyW2_6⟩) (by assumption) ?restW2_6
  case hyW2_6 => (intro w hSw; (try dsimp only at hSw); go_simp; (try with_reducible rfl))
  try simp only [Act.put, List.setIfInBounds_toArray, List.set_cons_zero, List.set_cons_succ]
  refine wpAnyH_ready (rs := [7]) (by kernel_rfl) (by simp) ?_
  refine (AllReadyH.cons (o := _) rfl (fun K hK => ?_) AllReadyH.nil)
  go_simp
  refine HC.out.mono ?_
  rintro e w3 ⟨hfp, htl⟩
  obtain ⟨v3, x, rfl, hvx, hk3, hen⟩ := hfp.parts
  obtain ⟨A5, c5, A6, c6, rfl, _⟩ := hvx.shape
  have hn1 := HE.out.new_S w.heap.size (Nat.le_refl _)
  have hn2 := HE.out.ok_S _ HE.out.hok0
  have hb3 := HF2.out.hb1.kp hk3 (fun hs => (HE.out.new_S _ (by omega) hs))
  have z0 := hb3.frozen 0
  have z1 := hb3.frozen 1
  have z2 := hb3.frozen 2
  have y0 := hb3.cell 0
  have y1 := hb3.cell 1
  have y2 := hb3.cell 2
  simp at y0 y1 y2
  have HD := Lib.hid (form_done HE.out HF2.out hvx hk3 hen htl)
  have hk4 := ((Kp.refl (fun _ => False) W2).drew.mono (fun _ _ h => h.elim)).then_ (S := S3 rg cg _) hk3 (fun j hj => .inl hj)
  have hS2 := HSK.out _ w3 hk4 hn1 hn2
  have hS3 := fun u0 u1 u2 => HSK.out (fun j => S3 rg cg _ j ∨ j = w.heap.size + 1) _ ((hk4.mono (fun _ _ h => .inl h)).put3 (B := w.heap.size + 1) (.inl (.inr rfl)) u0 u1 u2) (fun hh => hh.elim hn1 (fun e => by omega)) (fun hh => hh.elim hn2 (fun e => by have := HE.out.hokl _ HE.out.hok0; omega))
  clear hb3 hvx hk3 hen htl hfp hk4
  generalize hl5 : x.a.b.length = l5 at HD ⊢
  generalize hl6 : x.l.length = l6 at HD ⊢
  generalize hn5 : x.a.n = n5 at HD ⊢
  try dsimp only
  refine hK.out _ _ hS2 (fun hHeld => ?_)
  clear hK K
  refine wpAnyH_ready (rs := [8]) (by kernel_rfl) (by simp) ?_
  refine (AllReadyH.cons (o := _) rfl (fun K hK => ?_) AllReadyH.nil)
  go_simp
  try dsimp only
  refine hK.out _ _ (hS3 _ _ _) (fun hHeld => ?_)
  clear hK K
  refine wpAnyH_done (by kernel_rfl) ?_ _
  refine NoPanic.normal ?_
  go_wp2_with fail
  exact bodyPost_ret (v := .agg #[.int .u64 n5, .slice A5 l5 c5, .slice A6 l6 c6]) (by simp [results, Tryd.results41, go_sem, y0, y1, y2]) rfl HD.out

set_option maxRecDepth 100000 in
set_option maxHeartbeats 3200000 in
theorem form_list (ok : Nat → Prop) (rg cg : Nat) (t : Value) (h : FH) (P : List Fm) (A0 : Option Addr) (c0 : Nat) (b : List UInt8) (a : Int) (q : Nat) (w : World) (hk : h.k = 2) (hT : IsT t) (hs : 1 ≤ h.s ∧ h.s ≤ 3) (hst : 1 ≤ h.st ∧ h.st ≤ 65536) (g : Fm) (hg : P = [g]) (hz : szF g ≤ 100000) (hck : checkR g = 0) (hl : leastR g ≠ 0) (ih : FormC ok rg t g) (E : RdEnv ok rg cg t b a w)
  (hv : FmR w ok (fv h A0 P.length c0) (.mk h P)) (hr : RdB w rg t 0 0) (hc : Cur w ok cg b a) (ht : Tl w t q) (hroom : t = .pointer none ∨ q + (readR (.mk h P) b).steps ≤ 1073741824) (tab : Tab06 w) :
  Calls Tryd.prog 41 #[.pointer (some ⟨rg, 0, none⟩), .pointer (some ⟨cg, 0, none⟩), fv h A0 P.length c0] w (FormQ ok rg cg t b a q w (readR (.mk h P) b)) := by
 have hpos := read_pos (.mk h P) b
 have HCW := Lib.hid (fun (W : World) (E2 : RdEnv ok rg cg t b a W) (hk2 : Kp (S3 rg cg t) w W) (hr : RdB W rg t 0 0) (hc : Cur W ok cg b a) (ht : Tl W t (q + 1)) (tab : Tab06 W) => show Calls Tryd.prog 59 #[.pointer (some ⟨rg, 0, none⟩), .pointer (some ⟨cg, 0, none⟩), fv h A0 P.length c0] W (FormQ ok rg cg t b a q W (readR (.mk h P) b)) from by subst hg; exact list_rd ok rg cg t h g A0 c0 b a q W hk hs hst hz hck hl ih E2 (hv.kp hk2 E.ok_S) hr hc ht hroom tab)
 clear hg
 generalize readR (.mk h P) b = R at hroom hpos HCW ⊢
 obtain ⟨k, s, lo, hi, st⟩ := h
 simp only at hk
 subst hk
 have HPRE := Lib.hid (fun W hW ht => formW_pre (h := ⟨2, s, lo, hi, st⟩) (A0 := A0) (n0 := P.length) (c0 := c0) (q := q) (W := W) hr hc tab hW ht)
 have hka : Kp (fun _ => False) w ((w.alloc (.cells #[.int .i64 2, .int .i64 s, .int .i64 lo, .int .i64 hi, .int .i64 st, .slice A0 P.length c0] 24)).alloc (.cells #[.int .u64 0, .slice none 0 0, .slice none 0 0] 31)) := ((Kp.refl _ w).alloc _).alloc _
 have hr0 := Blk.cell (hr.kp hka (fun h => h)) 0
 simp at hr0
 have HE := Lib.hid E
 obtain ⟨W, hW⟩ : ∃ W, (w.alloc (.cells #[.int .i64 2, .int .i64 s, .int .i64 lo, .int .i64 hi, .int .i64 st, .slice A0 P.length c0] 24)).alloc (.cells #[.int .u64 0, .slice none 0 0, .slice none 0 0] 31) = W := ⟨_, rfl⟩
 have HWE := Lib.hid hW
 rw [hW] at hr0 hka
 rcases hT with rfl | ⟨tg, rfl⟩
 ·have HF := Lib.hid (HPRE.out W hW (fun g hg => by cases hg))
  clear hr hc ht tab E hroom hv hW hpos HPRE hka
  go_enter Tryd.func41, Tryd.ntmps41
  go_upto_region 1 with fail
  rw [HWE.out]
  clear HWE
  go_upto_region 4 with fail
  have E2 := HE.out.far (w' := W) (by have := HF.out.hz; omega)
  have F := HF.out
  have t0 := F.hbf.cell 0
  have t1 := F.hbf.cell 1
  have t2 := F.hbf.cell 2
  have t3 := F.hbf.cell 3
  have t4 := F.hbf.cell 4
  have t5 := F.hbf.cell 5
  simp at t0 t1 t2 t3 t4 t5
  have HC := Lib.hid (HCW.out W E2 F.hk F.hr F.hc F.ht F.tab)
  have F2 := F
  clear HCW E2 F
  go_wp2_with fail
  refine HC.out.mono ?_
  rintro e w3 ⟨hfp, htl⟩
  obtain ⟨v3, x, rfl, hvx, hk3, hen⟩ := hfp.parts
  obtain ⟨A5, c5, A6, c6, rfl, _⟩ := hvx.shape
  have hb3 := HF.out.hb1.kp hk3 (fun hs => (HE.out.new_S _ (by omega) hs))
  have z0 := hb3.frozen 0
  have z1 := hb3.frozen 1
  have z2 := hb3.frozen 2
  have y0 := hb3.cell 0
  have y1 := hb3.cell 1
  have y2 := hb3.cell 2
  simp at y0 y1 y2
  have HD := Lib.hid (form_done HE.out HF.out hvx hk3 hen htl)
  clear hb3 hvx hk3 hen htl hfp F2
  generalize hl5 : x.a.b.length = l5 at HD ⊢
  generalize hl6 : x.l.length = l6 at HD ⊢
  generalize hn5 : x.a.n = n5 at HD ⊢
  go_wp2_with fail
  exact bodyPost_ret (v := .agg #[.int .u64 n5, .slice A5 l5 c5, .slice A6 l6 c6]) (by simp [results, Tryd.results41, go_sem, y0, y1, y2]) rfl HD.out
 ·have hT2 := ht tg rfl
  have HSP := Lib.hid (spend_any tg 1073741824 q W (hT2.kp hka (fun h => h)) (by omega) (by have := hroom.resolve_left (by simp); omega) (by omega))
  have HSW := Lib.hid (fun W2 hk ht => formW_spent (h := ⟨2, s, lo, hi, st⟩) (A0 := A0) (n0 := P.length) (c0 := c0) (q := q) (W := W) (W2 := W2) E hr hc tab hW hk ht)
  clear hr hc ht tab E hroom hv hW hpos HPRE hT2 hka
  go_enter Tryd.func41, Tryd.ntmps41
  go_upto_region 1 with fail
  rw [HWE.out]
  clear HWE
  go_upto_region 4 with (go_at_call 57; refine HSP.out.mono ?_; rintro e W2 ⟨rfl, ht2, hk2⟩)
  have HF := Lib.hid (HSW.out W2 hk2 ht2)
  clear HSP HSW ht2 hk2 hr0
  have E2 := HE.out.far (w' := W2) (by have := HF.out.hz; omega)
  have F := HF.out
  have t0 := F.hbf.cell 0
  have t1 := F.hbf.cell 1
  have t2 := F.hbf.cell 2
  have t3 := F.hbf.cell 3
  have t4 := F.hbf.cell 4
  have t5 := F.hbf.cell 5
  simp at t0 t1 t2 t3 t4 t5
  have HC := Lib.hid (HCW.out W2 E2 F.hk F.hr F.hc F.ht F.tab)
  have F2 := F
  clear HCW E2 F
  go_wp2_with fail
  refine HC.out.mono ?_
  rintro e w3 ⟨hfp, htl⟩
  obtain ⟨v3, x, rfl, hvx, hk3, hen⟩ := hfp.parts
  obtain ⟨A5, c5, A6, c6, rfl, _⟩ := hvx.shape
  have hb3 := HF.out.hb1.kp hk3 (fun hs => (HE.out.new_S _ (by omega) hs))
  have z0 := hb3.frozen 0
  have z1 := hb3.frozen 1
  have z2 := hb3.frozen 2
  have y0 := hb3.cell 0
  have y1 := hb3.cell 1
  have y2 := hb3.cell 2
  simp at y0 y1 y2
  have HD := Lib.hid (form_done HE.out HF.out hvx hk3 hen htl)
  clear hb3 hvx hk3 hen htl hfp F2
  generalize hl5 : x.a.b.length = l5 at HD ⊢
  generalize hl6 : x.l.length = l6 at HD ⊢
  generalize hn5 : x.a.n = n5 at HD ⊢
  go_wp2_with fail
  exact bodyPost_ret (v := .agg #[.int .u64 n5, .slice A5 l5 c5, .slice A6 l6 c6]) (by simp [results, Tryd.results41, go_sem, y0, y1, y2]) rfl HD.out

set_option maxRecDepth 100000 in
set_option maxHeartbeats 3200000 in
theorem form_row (ok : Nat → Prop) (rg cg : Nat) (t : Value) (h : FH) (P : List Fm) (A0 : Option Addr) (c0 : Nat) (b : List UInt8) (a : Int) (q : Nat) (w : World) (hk : h.k = 3) (hT : IsT t) (hP : P.length ≤ 32) (hPz : ∀ y ∈ P, szF y ≤ 100000) (hPc : ∀ y ∈ P, checkR y = 0) (ih : ∀ y ∈ P, FormC ok rg t y) (E : RdEnv ok rg cg t b a w)
  (hv : FmR w ok (fv h A0 P.length c0) (.mk h P)) (hr : RdB w rg t 0 0) (hc : Cur w ok cg b a) (ht : Tl w t q) (hroom : t = .pointer none ∨ q + (readR (.mk h P) b).steps ≤ 1073741824) (tab : Tab06 w) :
  Calls Tryd.prog 41 #[.pointer (some ⟨rg, 0, none⟩), .pointer (some ⟨cg, 0, none⟩), fv h A0 P.length c0] w (FormQ ok rg cg t b a q w (readR (.mk h P) b)) := by
 have hpos := read_pos (.mk h P) b
 have HCW := Lib.hid (fun (W : World) (E2 : RdEnv ok rg cg t b a W) (hk2 : Kp (S3 rg cg t) w W) (hr : RdB W rg t 0 0) (hc : Cur W ok cg b a) (ht : Tl W t (q + 1)) (tab : Tab06 W) => show Calls Tryd.prog 60 #[.pointer (some ⟨rg, 0, none⟩), .pointer (some ⟨cg, 0, none⟩), fv h A0 P.length c0] W (FormQ ok rg cg t b a q W (readR (.mk h P) b)) from row_rd ok rg cg t h P A0 c0 b a q W hk hP hPz hPc ih E2 (hv.kp hk2 E.ok_S) hr hc ht hroom tab)
 generalize readR (.mk h P) b = R at hroom hpos HCW ⊢
 obtain ⟨k, s, lo, hi, st⟩ := h
 simp only at hk
 subst hk
 have HPRE := Lib.hid (fun W hW ht => formW_pre (h := ⟨3, s, lo, hi, st⟩) (A0 := A0) (n0 := P.length) (c0 := c0) (q := q) (W := W) hr hc tab hW ht)
 have hka : Kp (fun _ => False) w ((w.alloc (.cells #[.int .i64 3, .int .i64 s, .int .i64 lo, .int .i64 hi, .int .i64 st, .slice A0 P.length c0] 24)).alloc (.cells #[.int .u64 0, .slice none 0 0, .slice none 0 0] 31)) := ((Kp.refl _ w).alloc _).alloc _
 have hr0 := Blk.cell (hr.kp hka (fun h => h)) 0
 simp at hr0
 have HE := Lib.hid E
 obtain ⟨W, hW⟩ : ∃ W, (w.alloc (.cells #[.int .i64 3, .int .i64 s, .int .i64 lo, .int .i64 hi, .int .i64 st, .slice A0 P.length c0] 24)).alloc (.cells #[.int .u64 0, .slice none 0 0, .slice none 0 0] 31) = W := ⟨_, rfl⟩
 have HWE := Lib.hid hW
 rw [hW] at hr0 hka
 rcases hT with rfl | ⟨tg, rfl⟩
 ·have HF := Lib.hid (HPRE.out W hW (fun g hg => by cases hg))
  clear hr hc ht tab E hroom hv hW hpos HPRE hka
  go_enter Tryd.func41, Tryd.ntmps41
  go_upto_region 1 with fail
  rw [HWE.out]
  clear HWE
  go_upto_region 4 with fail
  have E2 := HE.out.far (w' := W) (by have := HF.out.hz; omega)
  have F := HF.out
  have t0 := F.hbf.cell 0
  have t1 := F.hbf.cell 1
  have t2 := F.hbf.cell 2
  have t3 := F.hbf.cell 3
  have t4 := F.hbf.cell 4
  have t5 := F.hbf.cell 5
  simp at t0 t1 t2 t3 t4 t5
  have HC := Lib.hid (HCW.out W E2 F.hk F.hr F.hc F.ht F.tab)
  have F2 := F
  clear HCW E2 F
  go_wp2_with fail
  refine HC.out.mono ?_
  rintro e w3 ⟨hfp, htl⟩
  obtain ⟨v3, x, rfl, hvx, hk3, hen⟩ := hfp.parts
  obtain ⟨A5, c5, A6, c6, rfl, _⟩ := hvx.shape
  have hb3 := HF.out.hb1.kp hk3 (fun hs => (HE.out.new_S _ (by omega) hs))
  have z0 := hb3.frozen 0
  have z1 := hb3.frozen 1
  have z2 := hb3.frozen 2
  have y0 := hb3.cell 0
  have y1 := hb3.cell 1
  have y2 := hb3.cell 2
  simp at y0 y1 y2
  have HD := Lib.hid (form_done HE.out HF.out hvx hk3 hen htl)
  clear hb3 hvx hk3 hen htl hfp F2
  generalize hl5 : x.a.b.length = l5 at HD ⊢
  generalize hl6 : x.l.length = l6 at HD ⊢
  generalize hn5 : x.a.n = n5 at HD ⊢
  go_wp2_with fail
  exact bodyPost_ret (v := .agg #[.int .u64 n5, .slice A5 l5 c5, .slice A6 l6 c6]) (by simp [results, Tryd.results41, go_sem, y0, y1, y2]) rfl HD.out
 ·have hT2 := ht tg rfl
  have HSP := Lib.hid (spend_any tg 1073741824 q W (hT2.kp hka (fun h => h)) (by omega) (by have := hroom.resolve_left (by simp); omega) (by omega))
  have HSW := Lib.hid (fun W2 hk ht => formW_spent (h := ⟨3, s, lo, hi, st⟩) (A0 := A0) (n0 := P.length) (c0 := c0) (q := q) (W := W) (W2 := W2) E hr hc tab hW hk ht)
  clear hr hc ht tab E hroom hv hW hpos HPRE hT2 hka
  go_enter Tryd.func41, Tryd.ntmps41
  go_upto_region 1 with fail
  rw [HWE.out]
  clear HWE
  go_upto_region 4 with (go_at_call 57; refine HSP.out.mono ?_; rintro e W2 ⟨rfl, ht2, hk2⟩)
  have HF := Lib.hid (HSW.out W2 hk2 ht2)
  clear HSP HSW ht2 hk2 hr0
  have E2 := HE.out.far (w' := W2) (by have := HF.out.hz; omega)
  have F := HF.out
  have t0 := F.hbf.cell 0
  have t1 := F.hbf.cell 1
  have t2 := F.hbf.cell 2
  have t3 := F.hbf.cell 3
  have t4 := F.hbf.cell 4
  have t5 := F.hbf.cell 5
  simp at t0 t1 t2 t3 t4 t5
  have HC := Lib.hid (HCW.out W2 E2 F.hk F.hr F.hc F.ht F.tab)
  have F2 := F
  clear HCW E2 F
  go_wp2_with fail
  refine HC.out.mono ?_
  rintro e w3 ⟨hfp, htl⟩
  obtain ⟨v3, x, rfl, hvx, hk3, hen⟩ := hfp.parts
  obtain ⟨A5, c5, A6, c6, rfl, _⟩ := hvx.shape
  have hb3 := HF.out.hb1.kp hk3 (fun hs => (HE.out.new_S _ (by omega) hs))
  have z0 := hb3.frozen 0
  have z1 := hb3.frozen 1
  have z2 := hb3.frozen 2
  have y0 := hb3.cell 0
  have y1 := hb3.cell 1
  have y2 := hb3.cell 2
  simp at y0 y1 y2
  have HD := Lib.hid (form_done HE.out HF.out hvx hk3 hen htl)
  clear hb3 hvx hk3 hen htl hfp F2
  generalize hl5 : x.a.b.length = l5 at HD ⊢
  generalize hl6 : x.l.length = l6 at HD ⊢
  generalize hn5 : x.a.n = n5 at HD ⊢
  go_wp2_with fail
  exact bodyPost_ret (v := .agg #[.int .u64 n5, .slice A5 l5 c5, .slice A6 l6 c6]) (by simp [results, Tryd.results41, go_sem, y0, y1, y2]) rfl HD.out

set_option maxRecDepth 100000 in
set_option maxHeartbeats 3200000 in
theorem form_rest (ok : Nat → Prop) (rg cg : Nat) (t : Value) (h : FH) (P : List Fm) (A0 : Option Addr) (c0 : Nat) (b : List UInt8) (a : Int) (q : Nat) (w : World) (hk : h.k = 4) (hT : IsT t) (h0 : 0 ≤ h.lo ∧ h.lo ≤ h.hi ∧ h.hi ≤ 16777215) (E : RdEnv ok rg cg t b a w)
  (hv : FmR w ok (fv h A0 P.length c0) (.mk h P)) (hr : RdB w rg t 0 0) (hc : Cur w ok cg b a) (ht : Tl w t q) (hroom : t = .pointer none ∨ q + (readR (.mk h P) b).steps ≤ 1073741824) (tab : Tab06 w) :
  Calls Tryd.prog 41 #[.pointer (some ⟨rg, 0, none⟩), .pointer (some ⟨cg, 0, none⟩), fv h A0 P.length c0] w (FormQ ok rg cg t b a q w (readR (.mk h P) b)) := by
 have hpos := read_pos (.mk h P) b
 have HCW := Lib.hid (fun (W : World) (E2 : RdEnv ok rg cg t b a W) (hk2 : Kp (S3 rg cg t) w W) (hr : RdB W rg t 0 0) (hc : Cur W ok cg b a) (ht : Tl W t (q + 1)) (tab : Tab06 W) => show Calls Tryd.prog 106 #[.pointer (some ⟨rg, 0, none⟩), .pointer (some ⟨cg, 0, none⟩), fv h A0 P.length c0] W (FormQ ok rg cg t b a q W (readR (.mk h P) b)) from (rest_rd ok rg cg t h P A0 c0 b a W hk h0 hr hc E2.hoc E2.hrc E2.hokl (by have := E2.hl; omega) E2.ha E2.hal).mono fun e w' hq => leaf_up E2 hq (by rw [readR_mk, if_neg (by omega), if_neg (by omega), if_pos hk]; split; rfl; split <;> rfl) ht)
 generalize readR (.mk h P) b = R at hroom hpos HCW ⊢
 obtain ⟨k, s, lo, hi, st⟩ := h
 simp only at hk
 subst hk
 have HPRE := Lib.hid (fun W hW ht => formW_pre (h := ⟨4, s, lo, hi, st⟩) (A0 := A0) (n0 := P.length) (c0 := c0) (q := q) (W := W) hr hc tab hW ht)
 have hka : Kp (fun _ => False) w ((w.alloc (.cells #[.int .i64 4, .int .i64 s, .int .i64 lo, .int .i64 hi, .int .i64 st, .slice A0 P.length c0] 24)).alloc (.cells #[.int .u64 0, .slice none 0 0, .slice none 0 0] 31)) := ((Kp.refl _ w).alloc _).alloc _
 have hr0 := Blk.cell (hr.kp hka (fun h => h)) 0
 simp at hr0
 have HE := Lib.hid E
 obtain ⟨W, hW⟩ : ∃ W, (w.alloc (.cells #[.int .i64 4, .int .i64 s, .int .i64 lo, .int .i64 hi, .int .i64 st, .slice A0 P.length c0] 24)).alloc (.cells #[.int .u64 0, .slice none 0 0, .slice none 0 0] 31) = W := ⟨_, rfl⟩
 have HWE := Lib.hid hW
 rw [hW] at hr0 hka
 rcases hT with rfl | ⟨tg, rfl⟩
 ·have HF := Lib.hid (HPRE.out W hW (fun g hg => by cases hg))
  clear hr hc ht tab E hroom hv hW hpos HPRE hka
  go_enter Tryd.func41, Tryd.ntmps41
  go_upto_region 1 with fail
  rw [HWE.out]
  clear HWE
  go_upto_region 4 with fail
  have E2 := HE.out.far (w' := W) (by have := HF.out.hz; omega)
  have F := HF.out
  have t0 := F.hbf.cell 0
  have t1 := F.hbf.cell 1
  have t2 := F.hbf.cell 2
  have t3 := F.hbf.cell 3
  have t4 := F.hbf.cell 4
  have t5 := F.hbf.cell 5
  simp at t0 t1 t2 t3 t4 t5
  have tc := F.tab.c4
  have hSK : ∀ (T : Nat → Prop) (V : World), Kp T W V → ¬ T w.heap.size → ¬ T 0 → (fun w' : World => w'.cell? ⟨w.heap.size, 0, none⟩ = some (.int .i64 4) ∧ w'.cell? ⟨w.heap.size, 1, none⟩ = some (.int .i64 s) ∧ w'.cell? ⟨w.heap.size, 2, none⟩ = some (.int .i64 lo) ∧ w'.cell? ⟨w.heap.size, 3, none⟩ = some (.int .i64 hi) ∧ w'.cell? ⟨w.heap.size, 4, none⟩ = some (.int .i64 st) ∧ w'.cell? ⟨w.heap.size, 5, none⟩ = some (.slice A0 P.length c0) ∧ w'.cell? ⟨0, 4, none⟩ = some (.func (.func 106) #[] #[])) V := fun T V hk h1 h2 => ⟨hk.cell t0 h1, hk.cell t1 h1, hk.cell t2 h1, hk.cell t3 h1, hk.cell t4 h1, hk.cell t5 h1, hk.cell tc h2⟩
  have hD : Kp (fun _ => False) W W.drew := (Kp.refl _ W).drew
  have HC := Lib.hid (HCW.out W.drew (E2.far hD.size) (F.hk.then_ hD (fun _ h => h.elim)) (F.hr.kp hD (fun h => h)) (F.hc.kp hD (fun _ _ h => h) (fun h => h)) (F.ht.kp hD (fun _ _ h => h)) (F.tab.kp hD (fun h => h)))
  have hS0 := hSK (fun _ => False) W.drew hD (fun h => h) (fun h => h)
  have HSK := Lib.hid hSK
  have HF2 := Lib.hid (show FormW ok rg cg _ ⟨4, s, lo, hi, st⟩ A0 P.length c0 b a q w W.drew from ⟨F.hk.then_ hD (fun _ h => h.elim), Nat.le_trans F.hz hD.size, F.hbf.kp hD (fun h => h), F.hb1.kp hD (fun h => h), F.hr.kp hD (fun h => h), F.hc.kp hD (fun _ _ h => h) (fun h => h), F.ht.kp hD (fun _ _ h => h), F.tab.kp hD (fun h => h)⟩)
  clear HCW E2 F hD hSK
  go_upto_region 9 with fail
  refine wp_region_noPanic ?_
  refine wp_region_held_drew (S := (fun w' : World => w'.cell? ⟨w.heap.size, 0, none⟩ = some (.int .i64 4) ∧ w'.cell? ⟨w.heap.size, 1, none⟩ = some (.int .i64 s) ∧ w'.cell? ⟨w.heap.size, 2, none⟩ = some (.int .i64 lo) ∧ w'.cell? ⟨w.heap.size, 3, none⟩ = some (.int .i64 hi) ∧ w'.cell? ⟨w.heap.size, 4, none⟩ = some (.int .i64 st) ∧ w'.cell? ⟨w.heap.size, 5, none⟩ = some (.slice A0 P.length c0) ∧ w'.cell? ⟨0, 4, none⟩ = some (.func (.func 106) #[] #[]))) (by kernel_rfl) hS0 (fun hHeld => ?_)
  refine wpAnyH_take (i := 0) (v := ?vW_0) (by simp only [List.getElem?_toArray, List.getElem?_cons_zero]; rfl) (by kernel_rfl) (by kernel_rfl) (by kernel_rfl) (fun _ _ _ h => h) (Or.inl ⟨by rfl, ?hyW_0⟩) (by assumption) ?restW_0
  case hyW_0 => (intro w hSw; (try dsimp only at hSw); go_simp; (try with_reducible rfl))
  try simp only [Act.put, List.setIfInBounds_toArray, List.set_cons_zero, List.set_cons_succ]
  refine wpAnyH_take (i := 1) (v := ?vW_1) (by simp only [List.getElem?_toArray, List.getElem?_cons_succ, List.getElem?_cons_zero]; rfl) (by kernel_rfl) (by kernel_rfl) (by kernel_rfl) (fun _ _ _ h => h) (Or.inl ⟨by rfl, ?hyW_1⟩) (by assumption) ?restW_1
  case hyW_1 => (intro w hSw; (try dsimp only at hSw); go_simp; (try with_reducible rfl))
  try simp only [Act.put, List.setIfInBounds_toArray, List.set_cons_zero, List.set_cons_succ]
  refine wpAnyH_take (i := 2) (v := ?vW_2) (by simp only [List.getElem?_toArray, List.getElem?_cons_succ, List.getElem?_cons_zero]; rfl) (by kernel_rfl) (by kernel_rfl) (by kernel_rfl) (fun _ _ _ h => h) (Or.inl ⟨by rfl, ?hyW_2⟩) (by assumption) ?restW_2
  case hyW_2 => (intro w hSw; (try dsimp only at hSw); go_simp; (try with_reducible rfl))
  try simp only [Act.put, List.setIfInBounds_toArray, List.set_cons_zero, List.set_cons_succ]
  refine wpAnyH_take (i := 3) (v := ?vW_3) (by simp only [List.getElem?_toArray, List.getElem?_cons_succ, List.getElem?_cons_zero]; rfl) (by kernel_rfl) (by kernel_rfl) (by kernel_rfl) (fun _ _ _ h => h) (Or.inl ⟨by rfl, ?hyW_3⟩) (by assumption) ?restW_3
  case hyW_3 => (intro w hSw; (try dsimp only at hSw); go_simp; (try with_reducible rfl))
  try simp only [Act.put, List.setIfInBounds_toArray, List.set_cons_zero, List.set_cons_succ]
  refine wpAnyH_take (i := 4) (v := ?vW_4) (by simp only [List.getElem?_toArray, List.getElem?_cons_succ, List.getElem?_cons_zero]; rfl) (by kernel_rfl) (by kernel_rfl) (by kernel_rfl) (fun _ _ _ h => h) (Or.inl ⟨by rfl, ?hyW_4⟩) (by assumption) ?restW_4
  case hyW_4 => (intro w hSw; (try dsimp only at hSw); go_simp; (try with_reducible rfl))
  try simp only [Act.put, List.setIfInBounds_toArray, List.set_cons_zero, List.set_cons_succ]
  refine wpAnyH_take (i := 5) (v := ?vW_5) (by simp only [List.getElem?_toArray, List.getElem?_cons_succ, List.getElem?_cons_zero]; rfl) (by kernel_rfl) (by kernel_rfl) (by kernel_rfl) (fun _ _ _ h => h) (Or.inl ⟨by rfl, ?hyW_5⟩) (by assumption) ?restW_5
  case hyW_5 => (intro w hSw; (try dsimp only at hSw); go_simp; (try with_reducible rfl))
  try simp only [Act.put, List.setIfInBounds_toArray, List.set_cons_zero, List.set_cons_succ]
  refine wpAnyH_take (i := 6) (v := ?vW_6) (by simp only [List.getElem?_toArray, List.getElem?_cons_succ, List.getElem?_cons_zero]; rfl) (by kernel_rfl) (by kernel_rfl) (by kernel_rfl) (fun _ _ _ h => h) (Or.inl ⟨by rfl, ?hyW_6⟩) (by assumption) ?restW_6
  case hyW_6 => (intro w hSw; (try dsimp only at hSw); go_simp; (try with_reducible rfl))
  try simp only [Act.put, List.setIfInBounds_toArray, List.set_cons_zero, List.set_cons_succ]
  refine wpAnyH_ready (rs := [7]) (by kernel_rfl) (by simp) ?_
  refine (AllReadyH.cons (o := _) rfl (fun K hK => ?_) AllReadyH.nil)
  go_simp
  refine HC.out.mono ?_
  rintro e w3 ⟨hfp, htl⟩
  obtain ⟨v3, x, rfl, hvx, hk3, hen⟩ := hfp.parts
  obtain ⟨A5, c5, A6, c6, rfl, _⟩ := hvx.shape
  have hn1 := HE.out.new_S w.heap.size (Nat.le_refl _)
  have hn2 := HE.out.ok_S _ HE.out.hok0
  have hb3 := HF2.out.hb1.kp hk3 (fun hs => (HE.out.new_S _ (by omega) hs))
  have z0 := hb3.frozen 0
  have z1 := hb3.frozen 1
  have z2 := hb3.frozen 2
  have y0 := hb3.cell 0
  have y1 := hb3.cell 1
  have y2 := hb3.cell 2
  simp at y0 y1 y2
  have HD := Lib.hid (form_done HE.out HF2.out hvx hk3 hen htl)
  have hk4 := ((Kp.refl (fun _ => False) W).drew.mono (fun _ _ h => h.elim)).then_ (S := S3 rg cg _) hk3 (fun j hj => .inl hj)
  have hS2 := HSK.out _ w3 hk4 hn1 hn2
  have hS3 := fun u0 u1 u2 => HSK.out (fun j => S3 rg cg _ j ∨ j = w.heap.size + 1) _ ((hk4.mono (fun _ _ h => .inl h)).put3 (B := w.heap.size + 1) (.inl (.inr rfl)) u0 u1 u2) (fun hh => hh.elim hn1 (fun e => by omega)) (fun hh => hh.elim hn2 (fun e => by have := HE.out.hokl _ HE.out.hok0; omega))
  clear hb3 hvx hk3 hen htl hfp hk4
  generalize hl5 : x.a.b.length = l5 at HD ⊢
  generalize hl6 : x.l.length = l6 at HD ⊢
  generalize hn5 : x.a.n = n5 at HD ⊢
  try dsimp only
  refine hK.out _ _ hS2 (fun hHeld => ?_)
  clear hK K
  refine wpAnyH_ready (rs := [8]) (by kernel_rfl) (by simp) ?_
  refine (AllReadyH.cons (o := _) rfl (fun K hK => ?_) AllReadyH.nil)
  go_simp
  try dsimp only
  refine hK.out _ _ (hS3 _ _ _) (fun hHeld => ?_)
  clear hK K
  refine wpAnyH_done (by kernel_rfl) ?_ _
  refine NoPanic.normal ?_
  go_wp2_with fail
  exact bodyPost_ret (v := .agg #[.int .u64 n5, .slice A5 l5 c5, .slice A6 l6 c6]) (by simp [results, Tryd.results41, go_sem, y0, y1, y2]) rfl HD.out
 ·have hT2 := ht tg rfl
  have HSP := Lib.hid (spend_any tg 1073741824 q W (hT2.kp hka (fun h => h)) (by omega) (by have := hroom.resolve_left (by simp); omega) (by omega))
  have HSW := Lib.hid (fun W2 hk ht => formW_spent (h := ⟨4, s, lo, hi, st⟩) (A0 := A0) (n0 := P.length) (c0 := c0) (q := q) (W := W) (W2 := W2) E hr hc tab hW hk ht)
  clear hr hc ht tab E hroom hv hW hpos HPRE hT2 hka
  go_enter Tryd.func41, Tryd.ntmps41
  go_upto_region 1 with fail
  rw [HWE.out]
  clear HWE
  go_upto_region 4 with (go_at_call 57; refine HSP.out.mono ?_; rintro e W2 ⟨rfl, ht2, hk2⟩)
  have HF := Lib.hid (HSW.out W2 hk2 ht2)
  clear HSP HSW ht2 hk2 hr0
  have E2 := HE.out.far (w' := W2) (by have := HF.out.hz; omega)
  have F := HF.out
  have t0 := F.hbf.cell 0
  have t1 := F.hbf.cell 1
  have t2 := F.hbf.cell 2
  have t3 := F.hbf.cell 3
  have t4 := F.hbf.cell 4
  have t5 := F.hbf.cell 5
  simp at t0 t1 t2 t3 t4 t5
  have tc := F.tab.c4
  have hSK : ∀ (T : Nat → Prop) (V : World), Kp T W2 V → ¬ T w.heap.size → ¬ T 0 → (fun w' : World => w'.cell? ⟨w.heap.size, 0, none⟩ = some (.int .i64 4) ∧ w'.cell? ⟨w.heap.size, 1, none⟩ = some (.int .i64 s) ∧ w'.cell? ⟨w.heap.size, 2, none⟩ = some (.int .i64 lo) ∧ w'.cell? ⟨w.heap.size, 3, none⟩ = some (.int .i64 hi) ∧ w'.cell? ⟨w.heap.size, 4, none⟩ = some (.int .i64 st) ∧ w'.cell? ⟨w.heap.size, 5, none⟩ = some (.slice A0 P.length c0) ∧ w'.cell? ⟨0, 4, none⟩ = some (.func (.func 106) #[] #[])) V := fun T V hk h1 h2 => ⟨hk.cell t0 h1, hk.cell t1 h1, hk.cell t2 h1, hk.cell t3 h1, hk.cell t4 h1, hk.cell t5 h1, hk.cell tc h2⟩
  have hD : Kp (fun _ => False) W2 W2.drew := (Kp.refl _ W2).drew
  have HC := Lib.hid (HCW.out W2.drew (E2.far hD.size) (F.hk.then_ hD (fun _ h => h.elim)) (F.hr.kp hD (fun h => h)) (F.hc.kp hD (fun _ _ h => h) (fun h => h)) (F.ht.kp hD (fun _ _ h => h)) (F.tab.kp hD (fun h => h)))
  have hS0 := hSK (fun _ => False) W2.drew hD (fun h => h) (fun h => h)
  have HSK := Lib.hid hSK
  have HF2 := Lib.hid (show FormW ok rg cg _ ⟨4, s, lo, hi, st⟩ A0 P.length c0 b a q w W2.drew from ⟨F.hk.then_ hD (fun _ h => h.elim), Nat.le_trans F.hz hD.size, F.hbf.kp hD (fun h => h), F.hb1.kp hD (fun h => h), F.hr.kp hD (fun h => h), F.hc.kp hD (fun _ _ h => h) (fun h => h), F.ht.kp hD (fun _ _ h => h), F.tab.kp hD (fun h => h)⟩)
  clear HCW E2 F hD hSK
  go_upto_region 9 with fail
  refine wp_region_noPanic ?_
  refine wp_region_held_drew (S := (fun w' : World => w'.cell? ⟨w.heap.size, 0, none⟩ = some (.int .i64 4) ∧ w'.cell? ⟨w.heap.size, 1, none⟩ = some (.int .i64 s) ∧ w'.cell? ⟨w.heap.size, 2, none⟩ = some (.int .i64 lo) ∧ w'.cell? ⟨w.heap.size, 3, none⟩ = some (.int .i64 hi) ∧ w'.cell? ⟨w.heap.size, 4, none⟩ = some (.int .i64 st) ∧ w'.cell? ⟨w.heap.size, 5, none⟩ = some (.slice A0 P.length c0) ∧ w'.cell? ⟨0, 4, none⟩ = some (.func (.func 106) #[] #[]))) (by kernel_rfl) hS0 (fun hHeld => ?_)
  refine wpAnyH_take (i := 0) (v := ?vW2_0) (by simp only [List.getElem?_toArray, List.getElem?_cons_zero]; rfl) (by kernel_rfl) (by kernel_rfl) (by kernel_rfl) (fun _ _ _ h => h) (Or.inl ⟨by rfl, ?hyW2_0⟩) (by assumption) ?restW2_0
  case hyW2_0 => (intro w hSw; (try dsimp only at hSw); go_simp; (try with_reducible rfl))
  try simp only [Act.put, List.setIfInBounds_toArray, List.set_cons_zero, List.set_cons_succ]
  refine wpAnyH_take (i := 1) (v := ?vW2_1) (by simp only [List.getElem?_toArray, List.getElem?_cons_succ, List.getElem?_cons_zero]; rfl) (by kernel_rfl) (by kernel_rfl) (by kernel_rfl) (fun _ _ _ h => h) (Or.inl ⟨by rfl, ?hyW2_1⟩) (by assumption) ?restW2_1
  case hyW2_1 => (intro w hSw; (try dsimp only at hSw); go_simp; (try with_reducible rfl))
  try simp only [Act.put, List.setIfInBounds_toArray, List.set_cons_zero, List.set_cons_succ]
  refine wpAnyH_take (i := 2) (v := ?vW2_2) (by simp only [List.getElem?_toArray, List.getElem?_cons_succ, List.getElem?_cons_zero]; rfl) (by kernel_rfl) (by kernel_rfl) (by kernel_rfl) (fun _ _ _ h => h) (Or.inl ⟨by rfl, ?hyW2_2⟩) (by assumption) ?restW2_2
  case hyW2_2 => (intro w hSw; (try dsimp only at hSw); go_simp; (try with_reducible rfl))
  try simp only [Act.put, List.setIfInBounds_toArray, List.set_cons_zero, List.set_cons_succ]
  refine wpAnyH_take (i := 3) (v := ?vW2_3) (by simp only [List.getElem?_toArray, List.getElem?_cons_succ, List.getElem?_cons_zero]; rfl) (by kernel_rfl) (by kernel_rfl) (by kernel_rfl) (fun _ _ _ h => h) (Or.inl ⟨by rfl, ?hyW2_3⟩) (by assumption) ?restW2_3
  case hyW2_3 => (intro w hSw; (try dsimp only at hSw); go_simp; (try with_reducible rfl))
  try simp only [Act.put, List.setIfInBounds_toArray, List.set_cons_zero, List.set_cons_succ]
  refine wpAnyH_take (i := 4) (v := ?vW2_4) (by simp only [List.getElem?_toArray, List.getElem?_cons_succ, List.getElem?_cons_zero]; rfl) (by kernel_rfl) (by kernel_rfl) (by kernel_rfl) (fun _ _ _ h => h) (Or.inl ⟨by rfl, ?hyW2_4⟩) (by assumption) ?restW2_4
  case hyW2_4 => (intro w hSw; (try dsimp only at hSw); go_simp; (try with_reducible rfl))
  try simp only [Act.put, List.setIfInBounds_toArray, List.set_cons_zero, List.set_cons_succ]
  refine wpAnyH_take (i := 5) (v := ?vW2_5) (by simp only [List.getElem?_toArray, List.getElem?_cons_succ, List.getElem?_cons_zero]; rfl) (by kernel_rfl) (by kernel_rfl) (by kernel_rfl) (fun _ _ _ h => h) (Or.inl ⟨by rfl, ?hyW2_5⟩) (by assumption) ?restW2_5
  case hyW2_5 => (intro w hSw; (try dsimp only at hSw); go_simp; (try with_reducible rfl))
  try simp only [Act.put, List.setIfInBounds_toArray, List.set_cons_zero, List.set_cons_succ]
  refine wpAnyH_take (i := 6) (v := ?vW2_6) (by simp only [List.getElem?_toArray, List.getElem?_cons_succ, List.getElem?_cons_zero]; rfl) (by kernel_rfl) (by kernel_rfl) (by kernel_rfl) (fun _ _ _ h => h) (Or.inl ⟨by rfl, ?hyW2_6⟩) (by assumption) ?restW2_6
  case hyW2_6 => (intro w hSw; (try dsimp only at hSw); go_simp; (try with_reducible rfl))
  try simp only [Act.put, List.setIfInBounds_toArray, List.set_cons_zero, List.set_cons_succ]
  refine wpAnyH_ready (rs := [7]) (by kernel_rfl) (by simp) ?_
  refine (AllReadyH.cons (o := _) rfl (fun K hK => ?_) AllReadyH.nil)
  go_simp
  refine HC.out.mono ?_
  rintro e w3 ⟨hfp, htl⟩
  obtain ⟨v3, x, rfl, hvx, hk3, hen⟩ := hfp.parts
  obtain ⟨A5, c5, A6, c6, rfl, _⟩ := hvx.shape
  have hn1 := HE.out.new_S w.heap.size (Nat.le_refl _)
  have hn2 := HE.out.ok_S _ HE.out.hok0
  have hb3 := HF2.out.hb1.kp hk3 (fun hs => (HE.out.new_S _ (by omega) hs))
  have z0 := hb3.frozen 0
  have z1 := hb3.frozen 1
  have z2 := hb3.frozen 2
  have y0 := hb3.cell 0
  have y1 := hb3.cell 1
  have y2 := hb3.cell 2
  simp at y0 y1 y2
  have HD := Lib.hid (form_done HE.out HF2.out hvx hk3 hen htl)
  have hk4 := ((Kp.refl (fun _ => False) W2).drew.mono (fun _ _ h => h.elim)).then_ (S := S3 rg cg _) hk3 (fun j hj => .inl hj)
  have hS2 := HSK.out _ w3 hk4 hn1 hn2
  have hS3 := fun u0 u1 u2 => HSK.out (fun j => S3 rg cg _ j ∨ j = w.heap.size + 1) _ ((hk4.mono (fun _ _ h => .inl h)).put3 (B := w.heap.size + 1) (.inl (.inr rfl)) u0 u1 u2) (fun hh => hh.elim hn1 (fun e => by omega)) (fun hh => hh.elim hn2 (fun e => by have := HE.out.hokl _ HE.out.hok0; omega))
  clear hb3 hvx hk3 hen htl hfp hk4
  generalize hl5 : x.a.b.length = l5 at HD ⊢
  generalize hl6 : x.l.length = l6 at HD ⊢
  generalize hn5 : x.a.n = n5 at HD ⊢
  try dsimp only
  refine hK.out _ _ hS2 (fun hHeld => ?_)
  clear hK K
  refine wpAnyH_ready (rs := [8]) (by kernel_rfl) (by simp) ?_
  refine (AllReadyH.cons (o := _) rfl (fun K hK => ?_) AllReadyH.nil)
  go_simp
  try dsimp only
  refine hK.out _ _ (hS3 _ _ _) (fun hHeld => ?_)
  clear hK K
  refine wpAnyH_done (by kernel_rfl) ?_ _
  refine NoPanic.normal ?_
  go_wp2_with fail
  exact bodyPost_ret (v := .agg #[.int .u64 n5, .slice A5 l5 c5, .slice A6 l6 c6]) (by simp [results, Tryd.results41, go_sem, y0, y1, y2]) rfl HD.out

set_option maxRecDepth 100000 in
set_option maxHeartbeats 3200000 in
theorem form_fixed (ok : Nat → Prop) (rg cg : Nat) (t : Value) (h : FH) (P : List Fm) (A0 : Option Addr) (c0 : Nat) (b : List UInt8) (a : Int) (q : Nat) (w : World) (hk : h.k = 5) (hT : IsT t) (h0 : 0 ≤ h.lo) (E : RdEnv ok rg cg t b a w)
  (hv : FmR w ok (fv h A0 P.length c0) (.mk h P)) (hr : RdB w rg t 0 0) (hc : Cur w ok cg b a) (ht : Tl w t q) (hroom : t = .pointer none ∨ q + (readR (.mk h P) b).steps ≤ 1073741824) (tab : Tab06 w) :
  Calls Tryd.prog 41 #[.pointer (some ⟨rg, 0, none⟩), .pointer (some ⟨cg, 0, none⟩), fv h A0 P.length c0] w (FormQ ok rg cg t b a q w (readR (.mk h P) b)) := by
 have hpos := read_pos (.mk h P) b
 have HCW := Lib.hid (fun (W : World) (E2 : RdEnv ok rg cg t b a W) (hk2 : Kp (S3 rg cg t) w W) (hr : RdB W rg t 0 0) (hc : Cur W ok cg b a) (ht : Tl W t (q + 1)) (tab : Tab06 W) => show Calls Tryd.prog 107 #[.pointer (some ⟨rg, 0, none⟩), .pointer (some ⟨cg, 0, none⟩), fv h A0 P.length c0] W (FormQ ok rg cg t b a q W (readR (.mk h P) b)) from (fixed_rd ok rg cg t h P A0 c0 b a W hk h0 hr hc E2.hoc E2.hrc E2.hokl (by have := E2.hl; omega) E2.ha E2.hal).mono fun e w' hq => leaf_up E2 hq (by rw [readR_mk, if_neg (by omega), if_neg (by omega), if_neg (by omega), if_pos hk]; split <;> rfl) ht)
 generalize readR (.mk h P) b = R at hroom hpos HCW ⊢
 obtain ⟨k, s, lo, hi, st⟩ := h
 simp only at hk
 subst hk
 have HPRE := Lib.hid (fun W hW ht => formW_pre (h := ⟨5, s, lo, hi, st⟩) (A0 := A0) (n0 := P.length) (c0 := c0) (q := q) (W := W) hr hc tab hW ht)
 have hka : Kp (fun _ => False) w ((w.alloc (.cells #[.int .i64 5, .int .i64 s, .int .i64 lo, .int .i64 hi, .int .i64 st, .slice A0 P.length c0] 24)).alloc (.cells #[.int .u64 0, .slice none 0 0, .slice none 0 0] 31)) := ((Kp.refl _ w).alloc _).alloc _
 have hr0 := Blk.cell (hr.kp hka (fun h => h)) 0
 simp at hr0
 have HE := Lib.hid E
 obtain ⟨W, hW⟩ : ∃ W, (w.alloc (.cells #[.int .i64 5, .int .i64 s, .int .i64 lo, .int .i64 hi, .int .i64 st, .slice A0 P.length c0] 24)).alloc (.cells #[.int .u64 0, .slice none 0 0, .slice none 0 0] 31) = W := ⟨_, rfl⟩
 have HWE := Lib.hid hW
 rw [hW] at hr0 hka
 rcases hT with rfl | ⟨tg, rfl⟩
 ·have HF := Lib.hid (HPRE.out W hW (fun g hg => by cases hg))
  clear hr hc ht tab E hroom hv hW hpos HPRE hka
  go_enter Tryd.func41, Tryd.ntmps41
  go_upto_region 1 with fail
  rw [HWE.out]
  clear HWE
  go_upto_region 4 with fail
  have E2 := HE.out.far (w' := W) (by have := HF.out.hz; omega)
  have F := HF.out
  have t0 := F.hbf.cell 0
  have t1 := F.hbf.cell 1
  have t2 := F.hbf.cell 2
  have t3 := F.hbf.cell 3
  have t4 := F.hbf.cell 4
  have t5 := F.hbf.cell 5
  simp at t0 t1 t2 t3 t4 t5
  have tc := F.tab.c5
  have hSK : ∀ (T : Nat → Prop) (V : World), Kp T W V → ¬ T w.heap.size → ¬ T 0 → (fun w' : World => w'.cell? ⟨w.heap.size, 0, none⟩ = some (.int .i64 5) ∧ w'.cell? ⟨w.heap.size, 1, none⟩ = some (.int .i64 s) ∧ w'.cell? ⟨w.heap.size, 2, none⟩ = some (.int .i64 lo) ∧ w'.cell? ⟨w.heap.size, 3, none⟩ = some (.int .i64 hi) ∧ w'.cell? ⟨w.heap.size, 4, none⟩ = some (.int .i64 st) ∧ w'.cell? ⟨w.heap.size, 5, none⟩ = some (.slice A0 P.length c0) ∧ w'.cell? ⟨0, 5, none⟩ = some (.func (.func 107) #[] #[])) V := fun T V hk h1 h2 => ⟨hk.cell t0 h1, hk.cell t1 h1, hk.cell t2 h1, hk.cell t3 h1, hk.cell t4 h1, hk.cell t5 h1, hk.cell tc h2⟩
  have hD : Kp (fun _ => False) W W.drew := (Kp.refl _ W).drew
  have HC := Lib.hid (HCW.out W.drew (E2.far hD.size) (F.hk.then_ hD (fun _ h => h.elim)) (F.hr.kp hD (fun h => h)) (F.hc.kp hD (fun _ _ h => h) (fun h => h)) (F.ht.kp hD (fun _ _ h => h)) (F.tab.kp hD (fun h => h)))
  have hS0 := hSK (fun _ => False) W.drew hD (fun h => h) (fun h => h)
  have HSK := Lib.hid hSK
  have HF2 := Lib.hid (show FormW ok rg cg _ ⟨5, s, lo, hi, st⟩ A0 P.length c0 b a q w W.drew from ⟨F.hk.then_ hD (fun _ h => h.elim), Nat.le_trans F.hz hD.size, F.hbf.kp hD (fun h => h), F.hb1.kp hD (fun h => h), F.hr.kp hD (fun h => h), F.hc.kp hD (fun _ _ h => h) (fun h => h), F.ht.kp hD (fun _ _ h => h), F.tab.kp hD (fun h => h)⟩)
  clear HCW E2 F hD hSK
  go_upto_region 9 with fail
  refine wp_region_noPanic ?_
  refine wp_region_held_drew (S := (fun w' : World => w'.cell? ⟨w.heap.size, 0, none⟩ = some (.int .i64 5) ∧ w'.cell? ⟨w.heap.size, 1, none⟩ = some (.int .i64 s) ∧ w'.cell? ⟨w.heap.size, 2, none⟩ = some (.int .i64 lo) ∧ w'.cell? ⟨w.heap.size, 3, none⟩ = some (.int .i64 hi) ∧ w'.cell? ⟨w.heap.size, 4, none⟩ = some (.int .i64 st) ∧ w'.cell? ⟨w.heap.size, 5, none⟩ = some (.slice A0 P.length c0) ∧ w'.cell? ⟨0, 5, none⟩ = some (.func (.func 107) #[] #[]))) (by kernel_rfl) hS0 (fun hHeld => ?_)
  refine wpAnyH_take (i := 0) (v := ?vW_0) (by simp only [List.getElem?_toArray, List.getElem?_cons_zero]; rfl) (by kernel_rfl) (by kernel_rfl) (by kernel_rfl) (fun _ _ _ h => h) (Or.inl ⟨by rfl, ?hyW_0⟩) (by assumption) ?restW_0
  case hyW_0 => (intro w hSw; (try dsimp only at hSw); go_simp; (try with_reducible rfl))
  try simp only [Act.put, List.setIfInBounds_toArray, List.set_cons_zero, List.set_cons_succ]
  refine wpAnyH_take (i := 1) (v := ?vW_1) (by simp only [List.getElem?_toArray, List.getElem?_cons_succ, List.getElem?_cons_zero]; rfl) (by kernel_rfl) (by kernel_rfl) (by kernel_rfl) (fun _ _ _ h => h) (Or.inl ⟨by rfl, ?hyW_1⟩) (by assumption) ?restW_1
  case hyW_1 => (intro w hSw; (try dsimp only at hSw); go_simp; (try with_reducible rfl))
  try simp only [Act.put, List.setIfInBounds_toArray, List.set_cons_zero, List.set_cons_succ]
  refine wpAnyH_take (i := 2) (v := ?vW_2) (by simp only [List.getElem?_toArray, List.getElem?_cons_succ, List.getElem?_cons_zero]; rfl) (by kernel_rfl) (by kernel_rfl) (by kernel_rfl) (fun _ _ _ h => h) (Or.inl ⟨by rfl, ?hyW_2⟩) (by assumption) ?restW_2
  case hyW_2 => (intro w hSw; (try dsimp only at hSw); go_simp; (try with_reducible rfl))
  try simp only [Act.put, List.setIfInBounds_toArray, List.set_cons_zero, List.set_cons_succ]
  refine wpAnyH_take (i := 3) (v := ?vW_3) (by simp only [List.getElem?_toArray, List.getElem?_cons_succ, List.getElem?_cons_zero]; rfl) (by kernel_rfl) (by kernel_rfl) (by kernel_rfl) (fun _ _ _ h => h) (Or.inl ⟨by rfl, ?hyW_3⟩) (by assumption) ?restW_3
  case hyW_3 => (intro w hSw; (try dsimp only at hSw); go_simp; (try with_reducible rfl))
  try simp only [Act.put, List.setIfInBounds_toArray, List.set_cons_zero, List.set_cons_succ]
  refine wpAnyH_take (i := 4) (v := ?vW_4) (by simp only [List.getElem?_toArray, List.getElem?_cons_succ, List.getElem?_cons_zero]; rfl) (by kernel_rfl) (by kernel_rfl) (by kernel_rfl) (fun _ _ _ h => h) (Or.inl ⟨by rfl, ?hyW_4⟩) (by assumption) ?restW_4
  case hyW_4 => (intro w hSw; (try dsimp only at hSw); go_simp; (try with_reducible rfl))
  try simp only [Act.put, List.setIfInBounds_toArray, List.set_cons_zero, List.set_cons_succ]
  refine wpAnyH_take (i := 5) (v := ?vW_5) (by simp only [List.getElem?_toArray, List.getElem?_cons_succ, List.getElem?_cons_zero]; rfl) (by kernel_rfl) (by kernel_rfl) (by kernel_rfl) (fun _ _ _ h => h) (Or.inl ⟨by rfl, ?hyW_5⟩) (by assumption) ?restW_5
  case hyW_5 => (intro w hSw; (try dsimp only at hSw); go_simp; (try with_reducible rfl))
  try simp only [Act.put, List.setIfInBounds_toArray, List.set_cons_zero, List.set_cons_succ]
  refine wpAnyH_take (i := 6) (v := ?vW_6) (by simp only [List.getElem?_toArray, List.getElem?_cons_succ, List.getElem?_cons_zero]; rfl) (by kernel_rfl) (by kernel_rfl) (by kernel_rfl) (fun _ _ _ h => h) (Or.inl ⟨by rfl, ?hyW_6⟩) (by assumption) ?restW_6
  case hyW_6 => (intro w hSw; (try dsimp only at hSw); go_simp; (try with_reducible rfl))
  try simp only [Act.put, List.setIfInBounds_toArray, List.set_cons_zero, List.set_cons_succ]
  refine wpAnyH_ready (rs := [7]) (by kernel_rfl) (by simp) ?_
  refine (AllReadyH.cons (o := _) rfl (fun K hK => ?_) AllReadyH.nil)
  go_simp
  refine HC.out.mono ?_
  rintro e w3 ⟨hfp, htl⟩
  obtain ⟨v3, x, rfl, hvx, hk3, hen⟩ := hfp.parts
  obtain ⟨A5, c5, A6, c6, rfl, _⟩ := hvx.shape
  have hn1 := HE.out.new_S w.heap.size (Nat.le_refl _)
  have hn2 := HE.out.ok_S _ HE.out.hok0
  have hb3 := HF2.out.hb1.kp hk3 (fun hs => (HE.out.new_S _ (by omega) hs))
  have z0 := hb3.frozen 0
  have z1 := hb3.frozen 1
  have z2 := hb3.frozen 2
  have y0 := hb3.cell 0
  have y1 := hb3.cell 1
  have y2 := hb3.cell 2
  simp at y0 y1 y2
  have HD := Lib.hid (form_done HE.out HF2.out hvx hk3 hen htl)
  have hk4 := ((Kp.refl (fun _ => False) W).drew.mono (fun _ _ h => h.elim)).then_ (S := S3 rg cg _) hk3 (fun j hj => .inl hj)
  have hS2 := HSK.out _ w3 hk4 hn1 hn2
  have hS3 := fun u0 u1 u2 => HSK.out (fun j => S3 rg cg _ j ∨ j = w.heap.size + 1) _ ((hk4.mono (fun _ _ h => .inl h)).put3 (B := w.heap.size + 1) (.inl (.inr rfl)) u0 u1 u2) (fun hh => hh.elim hn1 (fun e => by omega)) (fun hh => hh.elim hn2 (fun e => by have := HE.out.hokl _ HE.out.hok0; omega))
  clear hb3 hvx hk3 hen htl hfp hk4
  generalize hl5 : x.a.b.length = l5 at HD ⊢
  generalize hl6 : x.l.length = l6 at HD ⊢
  generalize hn5 : x.a.n = n5 at HD ⊢
  try dsimp only
  refine hK.out _ _ hS2 (fun hHeld => ?_)
  clear hK K
  refine wpAnyH_ready (rs := [8]) (by kernel_rfl) (by simp) ?_
  refine (AllReadyH.cons (o := _) rfl (fun K hK => ?_) AllReadyH.nil)
  go_simp
  try dsimp only
  refine hK.out _ _ (hS3 _ _ _) (fun hHeld => ?_)
  clear hK K
  refine wpAnyH_done (by kernel_rfl) ?_ _
  refine NoPanic.normal ?_
  go_wp2_with fail
  exact bodyPost_ret (v := .agg #[.int .u64 n5, .slice A5 l5 c5, .slice A6 l6 c6]) (by simp [results, Tryd.results41, go_sem, y0, y1, y2]) rfl HD.out
 ·have hT2 := ht tg rfl
  have HSP := Lib.hid (spend_any tg 1073741824 q W (hT2.kp hka (fun h => h)) (by omega) (by have := hroom.resolve_left (by simp); omega) (by omega))
  have HSW := Lib.hid (fun W2 hk ht => formW_spent (h := ⟨5, s, lo, hi, st⟩) (A0 := A0) (n0 := P.length) (c0 := c0) (q := q) (W := W) (W2 := W2) E hr hc tab hW hk ht)
  clear hr hc ht tab E hroom hv hW hpos HPRE hT2 hka
  go_enter Tryd.func41, Tryd.ntmps41
  go_upto_region 1 with fail
  rw [HWE.out]
  clear HWE
  go_upto_region 4 with (go_at_call 57; refine HSP.out.mono ?_; rintro e W2 ⟨rfl, ht2, hk2⟩)
  have HF := Lib.hid (HSW.out W2 hk2 ht2)
  clear HSP HSW ht2 hk2 hr0
  have E2 := HE.out.far (w' := W2) (by have := HF.out.hz; omega)
  have F := HF.out
  have t0 := F.hbf.cell 0
  have t1 := F.hbf.cell 1
  have t2 := F.hbf.cell 2
  have t3 := F.hbf.cell 3
  have t4 := F.hbf.cell 4
  have t5 := F.hbf.cell 5
  simp at t0 t1 t2 t3 t4 t5
  have tc := F.tab.c5
  have hSK : ∀ (T : Nat → Prop) (V : World), Kp T W2 V → ¬ T w.heap.size → ¬ T 0 → (fun w' : World => w'.cell? ⟨w.heap.size, 0, none⟩ = some (.int .i64 5) ∧ w'.cell? ⟨w.heap.size, 1, none⟩ = some (.int .i64 s) ∧ w'.cell? ⟨w.heap.size, 2, none⟩ = some (.int .i64 lo) ∧ w'.cell? ⟨w.heap.size, 3, none⟩ = some (.int .i64 hi) ∧ w'.cell? ⟨w.heap.size, 4, none⟩ = some (.int .i64 st) ∧ w'.cell? ⟨w.heap.size, 5, none⟩ = some (.slice A0 P.length c0) ∧ w'.cell? ⟨0, 5, none⟩ = some (.func (.func 107) #[] #[])) V := fun T V hk h1 h2 => ⟨hk.cell t0 h1, hk.cell t1 h1, hk.cell t2 h1, hk.cell t3 h1, hk.cell t4 h1, hk.cell t5 h1, hk.cell tc h2⟩
  have hD : Kp (fun _ => False) W2 W2.drew := (Kp.refl _ W2).drew
  have HC := Lib.hid (HCW.out W2.drew (E2.far hD.size) (F.hk.then_ hD (fun _ h => h.elim)) (F.hr.kp hD (fun h => h)) (F.hc.kp hD (fun _ _ h => h) (fun h => h)) (F.ht.kp hD (fun _ _ h => h)) (F.tab.kp hD (fun h => h)))
  have hS0 := hSK (fun _ => False) W2.drew hD (fun h => h) (fun h => h)
  have HSK := Lib.hid hSK
  have HF2 := Lib.hid (show FormW ok rg cg _ ⟨5, s, lo, hi, st⟩ A0 P.length c0 b a q w W2.drew from ⟨F.hk.then_ hD (fun _ h => h.elim), Nat.le_trans F.hz hD.size, F.hbf.kp hD (fun h => h), F.hb1.kp hD (fun h => h), F.hr.kp hD (fun h => h), F.hc.kp hD (fun _ _ h => h) (fun h => h), F.ht.kp hD (fun _ _ h => h), F.tab.kp hD (fun h => h)⟩)
  clear HCW E2 F hD hSK
  go_upto_region 9 with fail
  refine wp_region_noPanic ?_
  refine wp_region_held_drew (S := (fun w' : World => w'.cell? ⟨w.heap.size, 0, none⟩ = some (.int .i64 5) ∧ w'.cell? ⟨w.heap.size, 1, none⟩ = some (.int .i64 s) ∧ w'.cell? ⟨w.heap.size, 2, none⟩ = some (.int .i64 lo) ∧ w'.cell? ⟨w.heap.size, 3, none⟩ = some (.int .i64 hi) ∧ w'.cell? ⟨w.heap.size, 4, none⟩ = some (.int .i64 st) ∧ w'.cell? ⟨w.heap.size, 5, none⟩ = some (.slice A0 P.length c0) ∧ w'.cell? ⟨0, 5, none⟩ = some (.func (.func 107) #[] #[]))) (by kernel_rfl) hS0 (fun hHeld => ?_)
  refine wpAnyH_take (i := 0) (v := ?vW2_0) (by simp only [List.getElem?_toArray, List.getElem?_cons_zero]; rfl) (by kernel_rfl) (by kernel_rfl) (by kernel_rfl) (fun _ _ _ h => h) (Or.inl ⟨by rfl, ?hyW2_0⟩) (by assumption) ?restW2_0
  case hyW2_0 => (intro w hSw; (try dsimp only at hSw); go_simp; (try with_reducible rfl))
  try simp only [Act.put, List.setIfInBounds_toArray, List.set_cons_zero, List.set_cons_succ]
  refine wpAnyH_take (i := 1) (v := ?vW2_1) (by simp only [List.getElem?_toArray, List.getElem?_cons_succ, List.getElem?_cons_zero]; rfl) (by kernel_rfl) (by kernel_rfl) (by kernel_rfl) (fun _ _ _ h => h) (Or.inl ⟨by rfl, ?hyW2_1⟩) (by assumption) ?restW2_1
  case hyW2_1 => (intro w hSw; (try dsimp only at hSw); go_simp; (try with_reducible rfl))
  try simp only [Act.put, List.setIfInBounds_toArray, List.set_cons_zero, List.set_cons_succ]
  refine wpAnyH_take (i := 2) (v := ?vW2_2) (by simp only [List.getElem?_toArray, List.getElem?_cons_succ, List.getElem?_cons_zero]; rfl) (by kernel_rfl) (by kernel_rfl) (by kernel_rfl) (fun _ _ _ h => h) (Or.inl ⟨by rfl, ?hyW2_2⟩) (by assumption) ?restW2_2
  case hyW2_2 => (intro w hSw; (try dsimp only at hSw); go_simp; (try with_reducible rfl))
  try simp only [Act.put, List.setIfInBounds_toArray, List.set_cons_zero, List.set_cons_succ]
  refine wpAnyH_take (i := 3) (v := ?vW2_3) (by simp only [List.getElem?_toArray, List.getElem?_cons_succ, List.getElem?_cons_zero]; rfl) (by kernel_rfl) (by kernel_rfl) (by kernel_rfl) (fun _ _ _ h => h) (Or.inl ⟨by rfl, ?hyW2_3⟩) (by assumption) ?restW2_3
  case hyW2_3 => (intro w hSw; (try dsimp only at hSw); go_simp; (try with_reducible rfl))
  try simp only [Act.put, List.setIfInBounds_toArray, List.set_cons_zero, List.set_cons_succ]
  refine wpAnyH_take (i := 4) (v := ?vW2_4) (by simp only [List.getElem?_toArray, List.getElem?_cons_succ, List.getElem?_cons_zero]; rfl) (by kernel_rfl) (by kernel_rfl) (by kernel_rfl) (fun _ _ _ h => h) (Or.inl ⟨by rfl, ?hyW2_4⟩) (by assumption) ?restW2_4
  case hyW2_4 => (intro w hSw; (try dsimp only at hSw); go_simp; (try with_reducible rfl))
  try simp only [Act.put, List.setIfInBounds_toArray, List.set_cons_zero, List.set_cons_succ]
  refine wpAnyH_take (i := 5) (v := ?vW2_5) (by simp only [List.getElem?_toArray, List.getElem?_cons_succ, List.getElem?_cons_zero]; rfl) (by kernel_rfl) (by kernel_rfl) (by kernel_rfl) (fun _ _ _ h => h) (Or.inl ⟨by rfl, ?hyW2_5⟩) (by assumption) ?restW2_5
  case hyW2_5 => (intro w hSw; (try dsimp only at hSw); go_simp; (try with_reducible rfl))
  try simp only [Act.put, List.setIfInBounds_toArray, List.set_cons_zero, List.set_cons_succ]
  refine wpAnyH_take (i := 6) (v := ?vW2_6) (by simp only [List.getElem?_toArray, List.getElem?_cons_succ, List.getElem?_cons_zero]; rfl) (by kernel_rfl) (by kernel_rfl) (by kernel_rfl) (fun _ _ _ h => h) (Or.inl ⟨by rfl, ?hyW2_6⟩) (by assumption) ?restW2_6
  case hyW2_6 => (intro w hSw; (try dsimp only at hSw); go_simp; (try with_reducible rfl))
  try simp only [Act.put, List.setIfInBounds_toArray, List.set_cons_zero, List.set_cons_succ]
  refine wpAnyH_ready (rs := [7]) (by kernel_rfl) (by simp) ?_
  refine (AllReadyH.cons (o := _) rfl (fun K hK => ?_) AllReadyH.nil)
  go_simp
  refine HC.out.mono ?_
  rintro e w3 ⟨hfp, htl⟩
  obtain ⟨v3, x, rfl, hvx, hk3, hen⟩ := hfp.parts
  obtain ⟨A5, c5, A6, c6, rfl, _⟩ := hvx.shape
  have hn1 := HE.out.new_S w.heap.size (Nat.le_refl _)
  have hn2 := HE.out.ok_S _ HE.out.hok0
  have hb3 := HF2.out.hb1.kp hk3 (fun hs => (HE.out.new_S _ (by omega) hs))
  have z0 := hb3.frozen 0
  have z1 := hb3.frozen 1
  have z2 := hb3.frozen 2
  have y0 := hb3.cell 0
  have y1 := hb3.cell 1
  have y2 := hb3.cell 2
  simp at y0 y1 y2
  have HD := Lib.hid (form_done HE.out HF2.out hvx hk3 hen htl)
  have hk4 := ((Kp.refl (fun _ => False) W2).drew.mono (fun _ _ h => h.elim)).then_ (S := S3 rg cg _) hk3 (fun j hj => .inl hj)
  have hS2 := HSK.out _ w3 hk4 hn1 hn2
  have hS3 := fun u0 u1 u2 => HSK.out (fun j => S3 rg cg _ j ∨ j = w.heap.size + 1) _ ((hk4.mono (fun _ _ h => .inl h)).put3 (B := w.heap.size + 1) (.inl (.inr rfl)) u0 u1 u2) (fun hh => hh.elim hn1 (fun e => by omega)) (fun hh => hh.elim hn2 (fun e => by have := HE.out.hokl _ HE.out.hok0; omega))
  clear hb3 hvx hk3 hen htl hfp hk4
  generalize hl5 : x.a.b.length = l5 at HD ⊢
  generalize hl6 : x.l.length = l6 at HD ⊢
  generalize hn5 : x.a.n = n5 at HD ⊢
  try dsimp only
  refine hK.out _ _ hS2 (fun hHeld => ?_)
  clear hK K
  refine wpAnyH_ready (rs := [8]) (by kernel_rfl) (by simp) ?_
  refine (AllReadyH.cons (o := _) rfl (fun K hK => ?_) AllReadyH.nil)
  go_simp
  try dsimp only
  refine hK.out _ _ (hS3 _ _ _) (fun hHeld => ?_)
  clear hK K
  refine wpAnyH_done (by kernel_rfl) ?_ _
  refine NoPanic.normal ?_
  go_wp2_with fail
  exact bodyPost_ret (v := .agg #[.int .u64 n5, .slice A5 l5 c5, .slice A6 l6 c6]) (by simp [results, Tryd.results41, go_sem, y0, y1, y2]) rfl HD.out
end Go.Proofs.YtdhnfccgojgehaaDoor

namespace Go.Proofs.YtdhnfccgojgehaaDoor
open Go.RowKit

theorem FmR.fv_ {w : World} {ok : Nat → Prop} {v : Value} {f : Fm} (h : FmR w ok v f) : ∃ A c, v = fv f.a A f.l.length c := by
 obtain ⟨sv, rfl, _, A, c, rfl, _⟩ := h
 exact ⟨A, c, rfl⟩
/-- The contract of a form that is read, whatever the form. -/
theorem form_any (ok : Nat → Prop) (rg : Nat) (t : Value) (hT : IsT t) (f : Fm) : szF f ≤ 100000 → checkR f = 0 → FormC ok rg t f := by
 induction f using RT.induct with
 | h h P ih =>
 intro hz hck cg b a q v w E hv hr hc ht hroom tab
 obtain ⟨hown, hone, h32, hch⟩ := check_ok hck
 obtain ⟨A0, c0, rfl⟩ := hv.fv_
 by_cases k0 : h.k = 0
 ·exact form_number ok rg cg t h P A0 c0 b a q w k0 hT (own_sz hck k0) E hv hr hc ht hroom tab
 by_cases k1 : h.k = 1
 ·have hs := hown.k12 (.inl k1)
  exact form_opaque ok rg cg t h P A0 c0 b a q w k1 hT ⟨by omega, by omega⟩ ⟨by omega, by omega⟩ E hv hr hc ht hroom tab
 by_cases k4 : h.k = 4
 ·have hs := hown.k4 k4
  exact form_rest ok rg cg t h P A0 c0 b a q w k4 hT ⟨by omega, by omega, by omega⟩ E hv hr hc ht hroom tab
 by_cases k5 : h.k = 5
 ·have hs := hown.k5 k5
  exact form_fixed ok rg cg t h P A0 c0 b a q w k5 hT (by omega) E hv hr hc ht hroom tab
 have hk23 : h.k = 2 ∨ h.k = 3 := by have := hown.k; omega
 have hPc : ∀ y ∈ P, checkR y = 0 := (hch hk23).1
 have hPz : ∀ y ∈ P, szF y ≤ 100000 := fun y hy => by
  rw [szF_mk, if_pos hk23] at hz
  have := szL_mem hy
  omega
 by_cases k3 : h.k = 3
 ·exact form_row ok rg cg t h P A0 c0 b a q w k3 hT (h32 k3) hPz hPc (fun y hy => ih y hy (hPz y hy) (hPc y hy)) E hv hr hc ht hroom tab
 ·have k2 : h.k = 2 := by omega
  have hs := hown.k12 (.inr k2)
  obtain ⟨g, hg, hgc, _, hgl⟩ := list_item hck k2
  have hm : g ∈ P := by rw [hg]; simp
  exact form_list ok rg cg t h P A0 c0 b a q w k2 hT ⟨by omega, by omega⟩ ⟨by omega, by omega⟩ g hg (hPz g hm) hgc hgl (ih g hm (hPz g hm) hgc) E hv hr hc ht hroom tab

def chk8 (f : Fm) : Int := if deepB 8 f then 14 else checkR f
/-- How a reading of all ends. -/
def endAll (pre : Bool) (b : List UInt8) : RdT → Vt × Int × Int
 | .bad o e _ => (.mk ⟨0, []⟩ [], o, e)
 | .got x r _ => if pre = false ∧ 0 < r.length then (.mk ⟨0, []⟩ [], ((b.length - r.length : Nat) : Int), 6) else (x, ((b.length - r.length : Nat) : Int), 0)
/-- What all tells: the value, the place (from the base on), the error. -/
def readAll (pre : Bool) (f : Fm) (b : List UInt8) : Vt × Int × Int := if chk8 f ≠ 0 then (.mk ⟨0, []⟩ [], 0, chk8 f) else endAll pre b (readR f b)
def readSt (f : Fm) (b : List UInt8) : Nat := if chk8 f ≠ 0 then 0 else (readR f b).steps
def TS (t : Value) : Nat → Prop := fun i => t = .pointer (some ⟨i, 0, none⟩)
/-- What all leaves. -/
def AllQ (t : Value) (a : Int) (q : Nat) (pre : Bool) (f : Fm) (b : List UInt8) (w : World) (e : Ending) (w' : World) : Prop :=
 ∃ A1 c1 A2 c2, e = .returned (.tuple #[.agg #[.int .u64 (readAll pre f b).1.a.n, .slice A1 (readAll pre f b).1.a.b.length c1, .slice A2 (readAll pre f b).1.l.length c2], .int .i64 (a + (readAll pre f b).2.1), .int .i64 (readAll pre f b).2.2]) ∧
  VtR w' (w.heap.size ≤ ·) (.agg #[.int .u64 (readAll pre f b).1.a.n, .slice A1 (readAll pre f b).1.a.b.length c1, .slice A2 (readAll pre f b).1.l.length c2]) (readAll pre f b).1 ∧ Kp (TS t) w w' ∧ Tl w' t (q + readSt f b)

set_option maxRecDepth 100000 in
set_option maxHeartbeats 3200000 in
theorem all_any (ok : Nat → Prop) (t : Value) (f : Fm) (v bv : Value) (b : List UInt8) (a : Int) (pre : Bool) (q : Nat) (w : World) (hT : IsT t) (hz : szF f ≤ 100000) (hv : FmR w ok v f) (hb : BR w ok bv b) (hokl : ∀ i, ok i → i < w.heap.size) (hok0 : ok 0) (hot : ∀ g, t = .pointer (some ⟨g, 0, none⟩) → ¬ ok g)
  (ht : Tl w t q) (hroom : t = .pointer none ∨ (chk8 f = 0 → q + (readR f b).steps ≤ 1073741824)) (hl : b.length ≤ 1000000000) (ha : 0 ≤ a) (hal : a + b.length ≤ 4611686018427387904) (tab : Tab06 w) :
  Calls Tryd.prog 27 #[t, v, bv, .int .i64 a, .bool pre] w (AllQ t a q pre f b w) := by
 obtain ⟨⟨k, s, lo, hi, st⟩, P⟩ := f
 obtain ⟨A0, c0, rfl⟩ : ∃ A c, v = fv ⟨k, s, lo, hi, st⟩ A P.length c := hv.fv_
 obtain ⟨Ab, cb, rfl, hbc, hbr⟩ := id hb
 obtain ⟨pt, rfl⟩ : ∃ pt, t = .pointer pt := by rcases hT with rfl | ⟨g, rfl⟩ <;> exact ⟨_, rfl⟩
 have htl : ∀ g, Value.pointer pt = .pointer (some ⟨g, 0, none⟩) → g < w.heap.size := fun g hg => (ht g hg).lt
 have ka : Kp (fun _ => False) w ((w.alloc (.cells #[.int .i64 k, .int .i64 s, .int .i64 lo, .int .i64 hi, .int .i64 st, .slice A0 P.length c0] 24)).alloc (.cells #[.int .u64 0, .slice none 0 0, .slice none 0 0] 31)) := ((Kp.refl _ w).alloc _).alloc _
 have hb0 := Blk.new (w.alloc (.cells #[.int .i64 k, .int .i64 s, .int .i64 lo, .int .i64 hi, .int .i64 st, .slice A0 P.length c0] 24)) 31 #[.int .u64 0, .slice none 0 0, .slice none 0 0]
 rw [World.size_alloc] at hb0
 have HBF := Lib.hid ((Blk.new w 24 #[.int .i64 k, .int .i64 s, .int .i64 lo, .int .i64 hi, .int .i64 st, .slice A0 P.length c0]).alloc (.cells #[.int .u64 0, .slice none 0 0, .slice none 0 0] 31))
 have hsz : ((w.alloc (.cells #[.int .i64 k, .int .i64 s, .int .i64 lo, .int .i64 hi, .int .i64 st, .slice A0 P.length c0] 24)).alloc (.cells #[.int .u64 0, .slice none 0 0, .slice none 0 0] 31)).heap.size = w.heap.size + 2 := by rw [World.size_alloc, World.size_alloc]
 have HCH := Lib.hid (check_any ok (.mk ⟨k, s, lo, hi, st⟩ P) (fv ⟨k, s, lo, hi, st⟩ A0 P.length c0) _ (fun i hi => Nat.lt_of_lt_of_le (hokl i hi) ka.size) (hv.kp ka (fun _ _ h => h)))
 have HB0 := Lib.hid hb0
 have HKA := Lib.hid ka
 have HV := Lib.hid hv
 have HB := Lib.hid hb
 have HT := Lib.hid hT
 have HTL := Lib.hid ht
 have HRM := Lib.hid hroom
 have HTA := Lib.hid tab
 have HOT := Lib.hid hot
 have HTZ := Lib.hid htl
 obtain ⟨ck, hck⟩ : ∃ ck, chk8 (.mk ⟨k, s, lo, hi, st⟩ P) = ck := ⟨_, rfl⟩
 have hck' : (if deepB 8 (.mk ⟨k, s, lo, hi, st⟩ P) = true then (14 : Int) else checkR (.mk ⟨k, s, lo, hi, st⟩ P)) = ck := hck
 rw [hck'] at HCH
 have HCK := Lib.hid hck
 clear ka hb0 hv hb hT ht hroom tab hot htl hck hck' hbr
 go_enter Tryd.func27, Tryd.ntmps27
 go_wp2_with fail
 generalize (w.alloc (.cells #[.int .i64 k, .int .i64 s, .int .i64 lo, .int .i64 hi, .int .i64 st, .slice A0 P.length c0] 24)).alloc (.cells #[.int .u64 0, .slice none 0 0, .slice none 0 0] 31) = W0 at HCH HB0 HBF HKA hsz ⊢
 refine HCH.out.mono ?_
 rintro e w1 ⟨rfl, hk1⟩
 have HB1 := Lib.hid (HB0.out.kp hk1 (fun h => h))
 have hbf1 := HBF.out.kp hk1 (fun h => h)
 have f0 := hbf1.cell 0
 have f1 := hbf1.cell 1
 have f2 := hbf1.cell 2
 have f3 := hbf1.cell 3
 have f4 := hbf1.cell 4
 have f5 := hbf1.cell 5
 simp at f0 f1 f2 f3 f4 f5
 have HBF1 := Lib.hid hbf1
 have HK1 := Lib.hid (HKA.out.then_ hk1 (fun _ h => h.elim))
 have hz1 := hk1.size
 rw [hsz] at hz1
 clear hk1 HCH HB0 HBF HKA hbf1 hsz
 by_cases hc : ck = 0
 ·have hne : (ck != 0) = false := by simp [hc]
  have HC := Lib.hid hc
  clear hc
  have kr : Kp (fun _ => False) w1 (w1.alloc (.cells #[.pointer pt, .int .i64 0, .int .i64 0] 76)) := (Kp.refl _ w1).alloc _
  have HNW := Lib.hid (new_any ok (.slice Ab b.length cb) b a _ ((HB.out.kp HK1.out (fun _ _ h => h)).kp kr (fun _ _ h => h)))
  have HR1 := Lib.hid (Blk.new w1 76 #[.pointer pt, .int .i64 0, .int .i64 0])
  have hsr : (w1.alloc (.cells #[.pointer pt, .int .i64 0, .int .i64 0] 76)).heap.size = w1.heap.size + 1 := World.size_alloc _ _
  have hrf : ∀ (W : World), Kp (fun _ => False) w1 W → W.cell? ⟨w.heap.size, 0, none⟩ = some (.int .i64 k) ∧ W.cell? ⟨w.heap.size, 1, none⟩ = some (.int .i64 s) ∧ W.cell? ⟨w.heap.size, 2, none⟩ = some (.int .i64 lo) ∧ W.cell? ⟨w.heap.size, 3, none⟩ = some (.int .i64 hi) ∧ W.cell? ⟨w.heap.size, 4, none⟩ = some (.int .i64 st) ∧ W.cell? ⟨w.heap.size, 5, none⟩ = some (.slice A0 P.length c0) := fun W hk =>
   ⟨hk.cell f0 (fun h => h), hk.cell f1 (fun h => h), hk.cell f2 (fun h => h), hk.cell f3 (fun h => h), hk.cell f4 (fun h => h), hk.cell f5 (fun h => h)⟩
  have HRF := Lib.hid hrf
  have HKR := Lib.hid kr
  clear kr f0 f1 f2 f3 f4 f5 hrf
  go_wp2_with fail
  generalize w1.alloc (.cells #[.pointer pt, .int .i64 0, .int .i64 0] 76) = W1 at HNW HR1 HKR hsr ⊢
  refine HNW.out.mono ?_
  rintro e w2 ⟨g, rfl, hg, hcur, hk2⟩
  have hkw2 : Kp (fun _ => False) w1 w2 := HKR.out.then_ hk2 (fun _ h => h.elim)
  have hkww : Kp (fun _ => False) w w2 := HK1.out.then_ hkw2 (fun _ h => h.elim)
  have hz2 := hk2.size
  obtain ⟨f0, f1, f2, f3, f4, f5⟩ := HRF.out w2 hkw2
  have E2 : RdEnv ok w1.heap.size g (.pointer pt) b a w2 := ⟨fun h => by have := hokl _ h; omega, fun h => by have := hokl _ h; omega, HOT.out, by omega, fun gg hgg => by have := HTZ.out gg hgg; omega, fun gg hgg => by have := HTZ.out gg hgg; omega, by omega, hcur.lt, fun gg hgg => by have := HTZ.out gg hgg; omega, fun i hi => by have := hokl i hi; omega, hok0, hl, ha, hal⟩
  have HFC := Lib.hid (form_any ok w1.heap.size (.pointer pt) HT.out (.mk ⟨k, s, lo, hi, st⟩ P) hz (by
   have := HCK.out
   rw [HC.out] at this
   unfold chk8 at this
   split at this
   ·omega
   ·exact this) g b a q (fv ⟨k, s, lo, hi, st⟩ A0 P.length c0) w2 E2 (HV.out.kp hkww (fun _ _ h => h)) (HR1.out.kp hk2 (fun h => h)) hcur (HTL.out.kp hkww (fun _ _ h => h)) (HRM.out.imp id (fun h => h (HCK.out.trans HC.out))) (HTA.out.kp hkww (fun h => h)))
  have HB2 := Lib.hid (HB1.out.kp hkw2 (fun h => h))
  have HKW := Lib.hid hkww
  have HE2 := Lib.hid E2
  clear hkw2 hkww hcur hk2 E2 HNW HR1 HRF HKR HB1 HBF1 HTA HRM
  obtain ⟨R, hR⟩ : ∃ R, readR (.mk ⟨k, s, lo, hi, st⟩ P) b = R := ⟨_, rfl⟩
  have hA : readAll pre (.mk ⟨k, s, lo, hi, st⟩ P) b = endAll pre b R := by
   unfold readAll
   rw [HCK.out, if_neg (by simp [HC.out]), hR]
  have HS := Lib.hid (show readSt (.mk ⟨k, s, lo, hi, st⟩ P) b = R.steps by
   unfold readSt
   rw [HCK.out, if_neg (by simp [HC.out]), hR])
  have hrl : ∀ x r q2, R = .got x r q2 → r.length ≤ b.length := fun x r q2 h => RdT.rest_le hz (by
   have := HCK.out
   rw [HC.out] at this
   unfold chk8 at this
   split at this
   ·omega
   ·exact this) (by omega) (hR.trans h)
  rw [hR] at HFC
  have HA := Lib.hid hA
  have HRL := Lib.hid hrl
  clear hA hrl HCK HV hR
  go_wp2_with fail
  refine HFC.out.mono ?_
  rintro e w3 ⟨hfp, htl⟩
  obtain ⟨v3, x, rfl, hvx, hk3, hen⟩ := hfp.parts
  obtain ⟨A5, c5, A6, c6, rfl, _⟩ := hvx.shape
  have hnS : ∀ j, w.heap.size ≤ j → j ≠ w1.heap.size → j ≠ g → ¬ S3 w1.heap.size g (.pointer pt) j := fun j h1 h2 h3 hs => by
   rcases hs with rfl | rfl | hs
   ·exact h2 rfl
   ·exact h3 rfl
   ·have := HTZ.out j hs; omega
  have HB3 := Lib.hid (HB2.out.kp hk3 (hnS _ (by omega) (by omega) (by omega)))
  have HK3 := Lib.hid (show Kp (TS (.pointer pt)) w w3 from (HKW.out.mono (fun _ _ h => h.elim)).then_ hk3 (fun i hi => by
   rcases hi with rfl | rfl | hi
   ·exact .inr (by omega)
   ·exact .inr (by omega)
   ·exact .inl hi))
  have HVX := Lib.hid hvx
  have HEN := Lib.hid hen
  have HTL3 := Lib.hid htl
  have hz3 := hk3.size
  clear hvx hen htl hk3 hfp hnS HFC HB2 f0 f1 f2 f3 f4 f5
  generalize hl5 : x.a.b.length = l5 at HVX ⊢
  generalize hl6 : x.l.length = l6 at HVX ⊢
  generalize hn5 : x.a.n = n5 at HVX ⊢
  have HL := Lib.hid (And.intro hl5 (And.intro hl6 hn5))
  clear hl5 hl6 hn5
  go_upto_region 6 with fail
  have hbv := Blk.new w3 31 #[.int .u64 n5, .slice A5 l5 c5, .slice A6 l6 c6]
  have hk4 : Kp (fun _ => False) w3 (w3.alloc (.cells #[.int .u64 n5, .slice A5 l5 c5, .slice A6 l6 c6] 31)) := (Kp.refl _ w3).alloc _
  generalize w3.alloc (.cells #[.int .u64 n5, .slice A5 l5 c5, .slice A6 l6 c6] 31) = W4 at hbv hk4 ⊢
  have v0 := hbv.cell 0
  have v1 := hbv.cell 1
  have v2 := hbv.cell 2
  simp at v0 v1 v2
  have hb4 := HB3.out.kp hk4 (fun h => h)
  have z0 := hb4.frozen 0
  have z1 := hb4.frozen 1
  have z2 := hb4.frozen 2
  have y0 := hb4.cell 0
  have y1 := hb4.cell 1
  have y2 := hb4.cell 2
  simp at y0 y1 y2
  have HB4 := Lib.hid hb4
  have HBV := Lib.hid hbv
  have HV4 := Lib.hid (HVX.out.kp hk4 (fun _ _ h => h))
  have HT4 := Lib.hid (HTL3.out.kp hk4 (fun _ _ h => h))
  have HK4 := Lib.hid (HK3.out.then_ hk4 (fun _ h => h.elim))
  -- the end: a value stored
  have HFI := Lib.hid (show ∀ (W : World) (S : Nat → Prop) (y : Vt) (A1 A2 : Option Addr) (c1 c2 : Nat) (o e : Int), Kp (fun _ => False) W4 W → readAll pre (.mk ⟨k, s, lo, hi, st⟩ P) b = (y, o, e) → VtR W (fun i => w2.heap.size ≤ i) (.agg #[.int .u64 y.a.n, .slice A1 y.a.b.length c1, .slice A2 y.l.length c2]) y →
    AllQ (.pointer pt) a q pre (.mk ⟨k, s, lo, hi, st⟩ P) b w (.returned (.tuple #[.agg #[.int .u64 y.a.n, .slice A1 y.a.b.length c1, .slice A2 y.l.length c2], .int .i64 (a + o), .int .i64 e])) (((W.setCell ⟨w.heap.size + 1, 0, none⟩ (.int .u64 y.a.n)).setCell ⟨w.heap.size + 1, 1, none⟩ (.slice A1 y.a.b.length c1)).setCell ⟨w.heap.size + 1, 2, none⟩ (.slice A2 y.l.length c2)) from fun W S y A1 A2 c1 c2 o e hk hAy hvy => by
   have hq : Kp (fun i => i = w.heap.size + 1) W (((W.setCell ⟨w.heap.size + 1, 0, none⟩ (.int .u64 y.a.n)).setCell ⟨w.heap.size + 1, 1, none⟩ (.slice A1 y.a.b.length c1)).setCell ⟨w.heap.size + 1, 2, none⟩ (.slice A2 y.l.length c2)) := (Kp.refl (fun i => i = w.heap.size + 1) W).put3 (B := w.heap.size + 1) (.inl rfl) _ _ _
   unfold AllQ
   rw [hAy, HS.out]
   refine ⟨A1, c1, A2, c2, rfl, (hvy.kp hq (fun i hi he => by omega)).mono (fun i hi => by omega), (HK4.out.then_ hk (fun _ h => h.elim)).then_ hq (fun i hi => .inr (by omega)), ?_⟩
   exact (HT4.out.kp hk (fun _ _ h => h)).kp hq (fun g hg he => by have := HTZ.out g hg; omega))
  cases R with
  | bad o er q2 =>
   have hr4 := HEN.out.1.kp hk4 (fun h => h)
   have r1 := Blk.cell hr4 1
   have r2 := Blk.cell hr4 2
   simp at r1 r2
   have hne2 : (er != 0) = true := by simpa using HEN.out.2
   have HFF := Lib.hid (fun W hk => HFI.out W (fun _ => False) (.mk ⟨0, []⟩ []) none none 0 0 o er hk HA.out VtR.zero)
   have hS0 : ∀ W, Kp (fun i => i = w.heap.size + 1) W4 W → W.cell? ⟨w1.heap.size, 1, none⟩ = some (.int .i64 (a + o)) ∧ W.cell? ⟨w1.heap.size, 2, none⟩ = some (.int .i64 er) := fun W hk => ⟨hk.cell r1 (by show w1.heap.size ≠ _; omega), hk.cell r2 (by show w1.heap.size ≠ _; omega)⟩
   have HCE := Lib.hid (hS0 W4.drew (Kp.refl _ W4).drew)
   have HCF := Lib.hid (fun u0 u1 u2 => hS0 _ (((Kp.refl (fun i => i = w.heap.size + 1) W4).drew).put3 (B := w.heap.size + 1) (.inl rfl) u0 u1 u2))
   have z0d : W4.drew.frozen? ⟨w.heap.size + 1, 0, none⟩ = false := z0
   have z1d : W4.drew.frozen? ⟨w.heap.size + 1, 1, none⟩ = false := z1
   have z2d : W4.drew.frozen? ⟨w.heap.size + 1, 2, none⟩ = false := z2
   have y0d : W4.drew.cell? ⟨w.heap.size + 1, 0, none⟩ = some (.int .u64 0) := y0
   have y1d : W4.drew.cell? ⟨w.heap.size + 1, 1, none⟩ = some (.slice none 0 0) := y1
   have y2d : W4.drew.cell? ⟨w.heap.size + 1, 2, none⟩ = some (.slice none 0 0) := y2
   have HFD := Lib.hid (HFF.out W4.drew (Kp.refl _ W4).drew)
   clear hk4 hr4 hbv hb4 HFI HA HS HRL HFF hS0
   go_upto_region 7 with fail
   go_region_held3 (fun w' => (w').cell? ⟨w1.heap.size, 1, none⟩ = some (.int .i64 (a + o)) ∧ (w').cell? ⟨w1.heap.size, 2, none⟩ = some (.int .i64 er)) (first | exact HCE.out | exact HCF.out _ _ _) (first | fail)
   go_wp2_with fail
   exact bodyPost_ret (v := .tuple #[.agg #[.int .u64 0, .slice none 0 0, .slice none 0 0], .int .i64 (a + o), .int .i64 er]) (by simp [results, Tryd.results27, go_sem, y0, y1, y2]) rfl HFD.out
  | got y r q2 =>
   obtain ⟨rfl, hrd, hcu⟩ := HEN.out
   have hrl := HRL.out x r q2 rfl
   have hr4 := hrd.kp hk4 (fun h => h)
   have hc4 := hcu.kp hk4 (fun _ _ h => h) (fun h => h)
   have r2 := Blk.cell hr4 2
   simp at r2
   have hne2 : ((0 : Int) != 0) = false := rfl
   obtain ⟨hl5, hl6, hn5⟩ := HL.out
   have HFX := Lib.hid (show pre = true ∨ r.length = 0 → ∀ W, Kp (fun _ => False) W4 W → AllQ (.pointer pt) a q pre (.mk ⟨k, s, lo, hi, st⟩ P) b w (.returned (.tuple #[.agg #[.int .u64 n5, .slice A5 l5 c5, .slice A6 l6 c6], .int .i64 (a + ((b.length - r.length : Nat) : Int)), .int .i64 0])) (((W.setCell ⟨w.heap.size + 1, 0, none⟩ (.int .u64 n5)).setCell ⟨w.heap.size + 1, 1, none⟩ (.slice A5 l5 c5)).setCell ⟨w.heap.size + 1, 2, none⟩ (.slice A6 l6 c6)) from fun hp W hk => by
    have := HFI.out W (fun _ => False) x A5 A6 c5 c6 ((b.length - r.length : Nat) : Int) 0 hk (by
     rw [HA.out]
     exact if_neg (fun hh => by rcases hp with h | h; rw [h] at hh; simp at hh; omega)) (by rw [hl5, hl6, hn5]; exact HV4.out.kp hk (fun _ _ h => h))
    rw [hl5, hl6, hn5] at this
    exact this)
   have HAT := Lib.hid (fun W (hk : Kp (fun _ => False) W4 W) => at_any ok g r (a + ((b.length - r.length : Nat) : Int)) W (hc4.kp hk (fun _ _ h => h) (fun h => h)))
   have hS0 : ∀ W, Kp (fun i => i = w.heap.size + 1) W4 W → W.cell? ⟨w3.heap.size, 0, none⟩ = some (.int .u64 n5) ∧ W.cell? ⟨w3.heap.size, 1, none⟩ = some (.slice A5 l5 c5) ∧ W.cell? ⟨w3.heap.size, 2, none⟩ = some (.slice A6 l6 c6) := fun W hk => ⟨hk.cell v0 (by show w3.heap.size ≠ _; omega), hk.cell v1 (by show w3.heap.size ≠ _; omega), hk.cell v2 (by show w3.heap.size ≠ _; omega)⟩
   have HCE := Lib.hid (hS0 W4.drew (Kp.refl _ W4).drew)
   have HCF := Lib.hid (fun u0 u1 u2 => hS0 _ (((Kp.refl (fun i => i = w.heap.size + 1) W4).drew).put3 (B := w.heap.size + 1) (.inl rfl) u0 u1 u2))
   have z0d : W4.drew.frozen? ⟨w.heap.size + 1, 0, none⟩ = false := z0
   have z1d : W4.drew.frozen? ⟨w.heap.size + 1, 1, none⟩ = false := z1
   have z2d : W4.drew.frozen? ⟨w.heap.size + 1, 2, none⟩ = false := z2
   have y0d : W4.drew.cell? ⟨w.heap.size + 1, 0, none⟩ = some (.int .u64 0) := y0
   have y1d : W4.drew.cell? ⟨w.heap.size + 1, 1, none⟩ = some (.slice none 0 0) := y1
   have y2d : W4.drew.cell? ⟨w.heap.size + 1, 2, none⟩ = some (.slice none 0 0) := y2
   have hkD : Kp (fun _ => False) W4 W4.drew := (Kp.refl _ W4).drew
   have HLF := Lib.hid (left_any ok g r _ W4 hc4)
   have HKD := Lib.hid hkD
   have HKI := Lib.hid (Kp.refl (fun _ => False) W4)
   have HZB := Lib.hid (show pre = false → 0 < r.length → AllQ (.pointer pt) a q pre (.mk ⟨k, s, lo, hi, st⟩ P) b w (.returned (.tuple #[.agg #[.int .u64 0, .slice none 0 0, .slice none 0 0], .int .i64 (a + ((b.length - r.length : Nat) : Int)), .int .i64 6])) (((W4.setCell ⟨w.heap.size + 1, 0, none⟩ (.int .u64 0)).setCell ⟨w.heap.size + 1, 1, none⟩ (.slice none 0 0)).setCell ⟨w.heap.size + 1, 2, none⟩ (.slice none 0 0)) from fun hp hr0 => HFI.out W4 (fun _ => False) (.mk ⟨0, []⟩ []) none none 0 0 ((b.length - r.length : Nat) : Int) 6 (Kp.refl _ W4) (by
     rw [HA.out]
     exact if_pos ⟨hp, hr0⟩) VtR.zero)
   generalize hpl : a + ((b.length - r.length : Nat) : Int) = pl at HFX HAT HZB HLF
   clear hk4 hr4 hbv hb4 HFI HA HS HRL hS0 hkD hl5 hl6 hn5 hpl hrd hcu hc4
   cases pre with
   | false =>
    by_cases h0 : 0 < r.length
    ·have e4 : decide (0 < r.length) = true := decide_eq_true h0
     have HZ := Lib.hid (HZB.out rfl h0)
     clear HFX HZB h0
     go_wp2_with (first | (go_at_call 42; refine HLF.out.mono ?_; rintro e w2 ⟨rfl, rfl⟩) | (go_at_call 43; refine (HAT.out _ HKI.out).mono ?_; rintro e w2 ⟨rfl, rfl⟩))
     exact bodyPost_ret (v := .tuple #[.agg #[.int .u64 0, .slice none 0 0, .slice none 0 0], .int .i64 pl, .int .i64 6]) (by simp [results, Tryd.results27, go_sem, y0, y1, y2]) rfl HZ.out
    ·have e4 : decide (0 < r.length) = false := decide_eq_false h0
     have HF := Lib.hid (HFX.out (.inr (by omega)) _ HKD.out)
     clear HFX HZB h0
     go_upto_region 10 with (go_at_call 42; refine HLF.out.mono ?_; rintro e w2 ⟨rfl, rfl⟩)
     go_region_held3 (fun w' => (w').cell? ⟨w3.heap.size, 0, none⟩ = some (.int .u64 n5) ∧ (w').cell? ⟨w3.heap.size, 1, none⟩ = some (.slice A5 l5 c5) ∧ (w').cell? ⟨w3.heap.size, 2, none⟩ = some (.slice A6 l6 c6)) (first | exact HCE.out | exact HCF.out _ _ _) (first | (go_at_call 43; refine (HAT.out _ HKD.out).mono ?_; rintro e w5 ⟨rfl, rfl⟩))
     go_wp2_with fail
     exact bodyPost_ret (v := .tuple #[.agg #[.int .u64 n5, .slice A5 l5 c5, .slice A6 l6 c6], .int .i64 pl, .int .i64 0]) (by simp [results, Tryd.results27, go_sem, y0, y1, y2]) rfl HF.out
   | true =>
    have HF := Lib.hid (HFX.out (.inl rfl) _ HKD.out)
    clear HFX HZB
    go_upto_region 10 with fail
    go_region_held3 (fun w' => (w').cell? ⟨w3.heap.size, 0, none⟩ = some (.int .u64 n5) ∧ (w').cell? ⟨w3.heap.size, 1, none⟩ = some (.slice A5 l5 c5) ∧ (w').cell? ⟨w3.heap.size, 2, none⟩ = some (.slice A6 l6 c6)) (first | exact HCE.out | exact HCF.out _ _ _) (first | (go_at_call 43; refine (HAT.out _ HKD.out).mono ?_; rintro e w5 ⟨rfl, rfl⟩))
    go_wp2_with fail
    exact bodyPost_ret (v := .tuple #[.agg #[.int .u64 n5, .slice A5 l5 c5, .slice A6 l6 c6], .int .i64 pl, .int .i64 0]) (by simp [results, Tryd.results27, go_sem, y0, y1, y2]) rfl HF.out
 ·have hne : (ck != 0) = true := by simpa using hc
  have hA : readAll pre (.mk ⟨k, s, lo, hi, st⟩ P) b = (.mk ⟨0, []⟩ [], 0, ck) := by
   unfold readAll
   rw [HCK.out, if_pos hc]
  have hS : readSt (.mk ⟨k, s, lo, hi, st⟩ P) b = 0 := by
   unfold readSt
   rw [HCK.out, if_pos hc]
  have hq : Kp (fun i => i = w.heap.size + 1) w1 (((w1.setCell ⟨w.heap.size + 1, 0, none⟩ (.int .u64 0)).setCell ⟨w.heap.size + 1, 1, none⟩ (.slice none 0 0)).setCell ⟨w.heap.size + 1, 2, none⟩ (.slice none 0 0)) := (Kp.refl (fun i => i = w.heap.size + 1) w1).put3 (B := w.heap.size + 1) (.inl rfl) _ _ _
  have HF := Lib.hid (show AllQ (.pointer pt) a q pre (.mk ⟨k, s, lo, hi, st⟩ P) b w (.returned (.tuple #[.agg #[.int .u64 0, .slice none 0 0, .slice none 0 0], .int .i64 a, .int .i64 ck])) (((w1.setCell ⟨w.heap.size + 1, 0, none⟩ (.int .u64 0)).setCell ⟨w.heap.size + 1, 1, none⟩ (.slice none 0 0)).setCell ⟨w.heap.size + 1, 2, none⟩ (.slice none 0 0)) from by
   unfold AllQ
   rw [hA, hS]
   refine ⟨none, 0, none, 0, by simp [RT.a, RT.l], VtR.zero, (HK1.out.mono (fun _ _ h => h.elim)).then_ hq (fun i hi => .inr (by omega)), ?_⟩
   exact (HTL.out.kp HK1.out (fun _ _ h => h)).kp hq (fun g hg he => by have := HTZ.out g hg; omega))
  have hb2 := HB1.out
  have z0 := hb2.frozen 0
  have z1 := hb2.frozen 1
  have z2 := hb2.frozen 2
  have y0 := hb2.cell 0
  have y1 := hb2.cell 1
  have y2 := hb2.cell 2
  simp at y0 y1 y2
  clear hb2 hA hS hq hc
  go_wp2_with fail
  exact bodyPost_ret (v := .tuple #[.agg #[.int .u64 0, .slice none 0 0, .slice none 0 0], .int .i64 a, .int .i64 ck]) (by simp [results, Tryd.results27, go_sem, y0, y1, y2]) rfl HF.out

set_option maxRecDepth 100000 in
set_option maxHeartbeats 1600000 in
theorem read_any (ok : Nat → Prop) (f : Fm) (v bv : Value) (b : List UInt8) (a : Int) (w : World) (hz : szF f ≤ 100000) (hv : FmR w ok v f) (hb : BR w ok bv b) (hokl : ∀ i, ok i → i < w.heap.size) (hok0 : ok 0) 
  (hl : b.length ≤ 1000000000) (ha : 0 ≤ a) (hal : a + b.length ≤ 4611686018427387904) (tab : Tab06 w) :
  Calls Tryd.prog 12 #[v, bv, .int .i64 a] w (AllQ (.pointer none) a 0 false f b w) := by
 obtain ⟨⟨k, s, lo, hi, st⟩, P⟩ := f
 obtain ⟨A0, c0, rfl⟩ : ∃ A c, v = fv ⟨k, s, lo, hi, st⟩ A P.length c := hv.fv_
 obtain ⟨Ab, cb, rfl, hbc, hbr⟩ := id hb
 have ka : Kp (fun _ => False) w ((w.alloc (.cells #[.int .i64 k, .int .i64 s, .int .i64 lo, .int .i64 hi, .int .i64 st, .slice A0 P.length c0] 24)).alloc (.cells #[.int .u64 0, .slice none 0 0, .slice none 0 0] 31)) := ((Kp.refl _ w).alloc _).alloc _
 have hb0 := Blk.new (w.alloc (.cells #[.int .i64 k, .int .i64 s, .int .i64 lo, .int .i64 hi, .int .i64 st, .slice A0 P.length c0] 24)) 31 #[.int .u64 0, .slice none 0 0, .slice none 0 0]
 rw [World.size_alloc] at hb0
 have hsz : ((w.alloc (.cells #[.int .i64 k, .int .i64 s, .int .i64 lo, .int .i64 hi, .int .i64 st, .slice A0 P.length c0] 24)).alloc (.cells #[.int .u64 0, .slice none 0 0, .slice none 0 0] 31)).heap.size = w.heap.size + 2 := by rw [World.size_alloc, World.size_alloc]
 have HA := Lib.hid (all_any ok (.pointer none) (.mk ⟨k, s, lo, hi, st⟩ P) (fv ⟨k, s, lo, hi, st⟩ A0 P.length c0) (.slice Ab b.length cb) b a false 0 _ (.inl rfl) hz (hv.kp ka (fun _ _ h => h)) (hb.kp ka (fun _ _ h => h)) (fun i hi => Nat.lt_of_lt_of_le (hokl i hi) ka.size) hok0 (fun g hg => by cases hg) (fun g hg => by cases hg) (.inl rfl) hl ha hal (tab.kp ka (fun h => h)))
 have HB0 := Lib.hid hb0
 have HKA := Lib.hid ka
 clear ka hb0 hv hb hbr tab 
 go_enter Tryd.func12, Tryd.ntmps12
 go_wp2_with fail
 generalize (w.alloc (.cells #[.int .i64 k, .int .i64 s, .int .i64 lo, .int .i64 hi, .int .i64 st, .slice A0 P.length c0] 24)).alloc (.cells #[.int .u64 0, .slice none 0 0, .slice none 0 0] 31) = W0 at HA HB0 HKA hsz ⊢
 refine HA.out.mono ?_
 rintro e w1 ⟨A1, c1, A2, c2, rfl, hvx, hk1, ht1⟩
 have hnT : ¬ TS (.pointer none) (w.heap.size + 1) := (fun h => by cases h)
 have hb1 := HB0.out.kp hk1 hnT
 have z0 := hb1.frozen 0
 have z1 := hb1.frozen 1
 have z2 := hb1.frozen 2
 have y0 := hb1.cell 0
 have y1 := hb1.cell 1
 have y2 := hb1.cell 2
 simp at y0 y1 y2
 have hz1 := hk1.size
 have hq := (Kp.refl (fun i => i = w.heap.size + 1) w1).put3 (B := w.heap.size + 1) (.inl rfl) (.int .u64 (readAll false (.mk ⟨k, s, lo, hi, st⟩ P) b).1.a.n) (.slice A1 (readAll false (.mk ⟨k, s, lo, hi, st⟩ P) b).1.a.b.length c1) (.slice A2 (readAll false (.mk ⟨k, s, lo, hi, st⟩ P) b).1.l.length c2)
 have HF := Lib.hid (show AllQ (.pointer none) a 0 false (.mk ⟨k, s, lo, hi, st⟩ P) b w (.returned (.tuple #[.agg #[.int .u64 (readAll false (.mk ⟨k, s, lo, hi, st⟩ P) b).1.a.n, .slice A1 (readAll false (.mk ⟨k, s, lo, hi, st⟩ P) b).1.a.b.length c1, .slice A2 (readAll false (.mk ⟨k, s, lo, hi, st⟩ P) b).1.l.length c2], .int .i64 (a + (readAll false (.mk ⟨k, s, lo, hi, st⟩ P) b).2.1), .int .i64 (readAll false (.mk ⟨k, s, lo, hi, st⟩ P) b).2.2])) _ from
  ⟨A1, c1, A2, c2, rfl, (hvx.kp hq (fun i hi he => by omega)).mono (fun i hi => by omega), ((HKA.out.mono (fun _ _ h => h.elim)).then_ hk1 (fun i hi => .inl hi)).then_ hq (fun i hi => .inr (by omega)), ht1.kp hq (fun g hg he => hnT (by unfold TS; rw [hg, he]))⟩)
 clear hb1 hvx hk1 ht1 hq
 generalize readAll false (.mk ⟨k, s, lo, hi, st⟩ P) b = RA at HF ⊢
 obtain ⟨⟨⟨n5, l5⟩, l6⟩, o, er⟩ := RA
 simp only [RT.a, RT.l] at HF ⊢
 generalize l5.length = m5 at HF ⊢
 generalize l6.length = m6 at HF ⊢
 generalize a + o = pl at HF ⊢
 go_wp2_with fail
 exact bodyPost_ret (v := .tuple #[.agg #[.int .u64 n5, .slice A1 m5 c1, .slice A2 m6 c2], .int .i64 pl, .int .i64 er]) (by simp [results, Tryd.results12, go_sem, y0, y1, y2]) rfl HF.out

end Go.Proofs.YtdhnfccgojgehaaDoor

namespace Go.Proofs.YtdhnfccgojgehaaDoor
open Go.RowKit

theorem gB_le (c n : Nat) (h : c ≤ n) : gB c ≤ 2 * n + 1 := by unfold gB; omega
theorem lenE_e (h : FH) (b : List UInt8) : (lenE h b).2.1 = 0 ∨ (lenE h b).2.1 = 4 ∨ (lenE h b).2.1 = 5 := by
 unfold lenE
 split
 ·exact .inr (.inl rfl)
 ·split
  ·exact .inr (.inr rfl)
  ·split
   ·exact .inr (.inl rfl)
   ·exact .inl rfl
theorem sz_one (f : Fm) (n : Nat) : 1 ≤ szF f * (2 * n + 1) := by
 have := szF_pos f
 exact Nat.le_trans (by omega) (Nat.mul_le_mul this (show 1 ≤ 2 * n + 1 by omega))
theorem read_bad (f : Fm) : szF f ≤ 100000 → checkR f = 0 → ∀ b : List UInt8, b.length ≤ 140737488351232 → ∀ o e q, readR f b = .bad o e q → 0 ≤ o ∧ o ≤ b.length ∧ (e = 4 ∨ e = 5 ∨ e = 6) ∧ q ≤ szF f * (2 * b.length + 1) := by
 induction f using RT.induct with
 | h h P ih =>
 intro hsz hck b hb o e q hrd
 have h1q := sz_one (.mk h P) b.length
 obtain ⟨hown, hone, h32, hch⟩ := check_ok hck
 rw [readR_mk] at hrd
 by_cases k0 : h.k = 0
 ·rw [if_pos k0] at hrd
  split at hrd
  ·injection hrd with e1 e2 e3
   subst e1 e2 e3
   exact ⟨by omega, by omega, .inl rfl, h1q⟩
  ·simp at hrd
 rw [if_neg k0] at hrd
 by_cases k1 : h.k = 1
 ·rw [if_pos k1] at hrd
  split at hrd
  ·rename_i hz
   injection hrd with e1 e2 e3
   subst e1 e2 e3
   have := lenE_bad h b
   have := lenE_e h b
   exact ⟨by omega, by omega, by omega, h1q⟩
  ·simp at hrd
 rw [if_neg k1] at hrd
 by_cases k4 : h.k = 4
 ·rw [if_pos k4] at hrd
  have hs := hown.k4 k4
  split at hrd
  ·injection hrd with e1 e2 e3
   subst e1 e2 e3
   exact ⟨by omega, by omega, .inl rfl, h1q⟩
  ·split at hrd
   ·injection hrd with e1 e2 e3
    subst e1 e2 e3
    exact ⟨by omega, by omega, .inr (.inr rfl), h1q⟩
   ·simp at hrd
 rw [if_neg k4] at hrd
 by_cases k5 : h.k = 5
 ·rw [if_pos k5] at hrd
  split at hrd
  ·injection hrd with e1 e2 e3
   subst e1 e2 e3
   exact ⟨by omega, by omega, .inl rfl, h1q⟩
  ·simp at hrd
 rw [if_neg k5] at hrd
 have hk23 : h.k = 2 ∨ h.k = 3 := by have := hown.k; omega
 have hPc : ∀ y ∈ P, checkR y = 0 := (hch hk23).1
 rw [szF_mk, if_pos hk23] at hsz
 have hPz : ∀ y ∈ P, szF y ≤ 100000 := fun y hy => by have := szL_mem hy; omega
 by_cases k3 : h.k = 3
 ·rw [if_pos k3] at hrd
  have key : ∀ (d i : Nat) (b' : List UInt8) (off q0 : Nat) (acc : List Vt), P.length - i = d → i ≤ P.length → b'.length ≤ 140737488351232 → readRow (P.drop i) b' off q0 acc = .bad o e q →
    (off : Int) ≤ o ∧ o ≤ (off + b'.length : Nat) ∧ (e = 4 ∨ e = 5 ∨ e = 6) ∧ q ≤ q0 + szL (P.drop i) * (2 * b'.length + 1) := by
   intro d
   induction d with
   | zero =>
    intro i b' off q0 acc hd hi _ hr
    rw [readRow_end (by omega)] at hr
    simp at hr
   | succ d ihd =>
    intro i b' off q0 acc hd hi hbl hr
    have hlt : i < P.length := by omega
    have hmem := List.getElem_mem hlt
    rw [readRow_drop hlt] at hr
    rw [szL_drop hlt, Nat.add_mul]
    cases hx : readR P[i] b' with
    | bad a e' s =>
     rw [hx] at hr
     simp only at hr
     injection hr with e1 e2 e3
     subst e1 e2 e3
     obtain ⟨g1, g2, g3, g4⟩ := ih P[i] hmem (hPz _ hmem) (hPc _ hmem) b' hbl a e' s hx
     exact ⟨by omega, by omega, g3, by omega⟩
    | got y r s =>
     rw [hx] at hr
     simp only at hr
     obtain ⟨u1, hb1, _, _, _, _, _, q2, _⟩ := read_got P[i] (hPz _ hmem) (hPc _ hmem) b' hbl y r s hx
     have hbr : b'.length = u1.length + r.length := by rw [hb1, List.length_append]
     obtain ⟨g1, g2, g3, g4⟩ := ihd (i + 1) r _ _ _ (by omega) (by omega) (by omega) hr
     have m1 := Nat.mul_le_mul_left (szF P[i]) (gB_le u1.length b'.length (by omega))
     have m2 := Nat.mul_le_mul_left (szL (P.drop (i + 1))) (show 2 * r.length + 1 ≤ 2 * b'.length + 1 by omega)
     exact ⟨by omega, by omega, g3, by omega⟩
  obtain ⟨g1, g2, g3, g4⟩ := key P.length 0 b 0 1 [] (by omega) (by omega) hb (by rw [List.drop_zero]; exact hrd)
  rw [List.drop_zero] at g4
  refine ⟨by omega, by omega, g3, ?_⟩
  rw [szF_mk, if_pos hk23, Nat.add_mul, Nat.one_mul]
  omega
 rw [if_neg k3] at hrd
 have k2 : h.k = 2 := by omega
 have hs := hown.k12 (.inr k2)
 split at hrd
 ·rename_i hz
  injection hrd with e1 e2 e3
  subst e1 e2 e3
  have := lenE_bad h b
  have := lenE_e h b
  exact ⟨by omega, by omega, by omega, h1q⟩
 rename_i hz
 have hz := Decidable.not_not.1 hz
 obtain ⟨g1, g2, g3, g4, g5, g6, g7⟩ := lenE_ok hz
 obtain ⟨g, rfl, hgc, hgo, hgl⟩ := list_item hck k2
 rw [readHd_one] at hrd
 have hgz : szF g ≤ 100000 := hPz g (by simp)
 generalize (lenE h b).2.2 = n at *
 have hdl : ((b.drop h.s.toNat).take n).length = n := by rw [List.length_take, List.length_drop]; omega
 have key : ∀ (fuel : Nat) (b' : List UInt8) (off q0 : Nat) (acc : List Vt) (o e : Int) (q : Nat), b'.length ≤ 140737488351232 → iterR (readR g) fuel b' off q0 acc = .bad o e q →
   (off : Int) ≤ o ∧ o ≤ (off + b'.length : Nat) ∧ (e = 4 ∨ e = 5 ∨ e = 6) ∧ q ≤ q0 + szF g * (2 * b'.length + 1) := by
  intro fuel
  induction fuel with
  | zero => intro b' off q0 acc o e q _ hr; rw [iterR] at hr; simp at hr
  | succ fuel ihf =>
   intro b' off q0 acc o e q hbl hr
   rw [iterR] at hr
   by_cases hb0 : b'.length = 0
   ·rw [if_pos hb0] at hr
    simp at hr
   rw [if_neg hb0] at hr
   cases hx : readR g b' with
   | bad a e' s =>
    rw [hx] at hr
    simp only at hr
    injection hr with e1 e2 e3
    subst e1 e2 e3
    obtain ⟨g1, g2, g3, g4⟩ := ih g (by simp) hgz hgc b' hbl a e' s hx
    exact ⟨by omega, by omega, g3, by omega⟩
   | got y r s =>
    rw [hx] at hr
    simp only at hr
    obtain ⟨u1, hb1, _, l1, _, _, _, q2, _⟩ := read_got g hgz hgc b' hbl y r s hx
    have hbr : b'.length = u1.length + r.length := by rw [hb1, List.length_append]
    have hsp := span_sz FH.lo (.inl rfl) g hgz hgc
    have hgl2 : leastR g = spanR FH.lo g := rfl
    have hu1 : 1 ≤ u1.length := by omega
    obtain ⟨g1, g2, g3, g4⟩ := ihf r _ _ _ o e q (by omega) hr
    have m1 := Nat.mul_le_mul_left (szF g) (show gB u1.length ≤ 2 * u1.length by unfold gB; omega)
    have m2 : szF g * (2 * b'.length + 1) = szF g * (2 * u1.length) + szF g * (2 * r.length + 1) := by rw [← Nat.mul_add]; congr 1; omega
    exact ⟨by omega, by omega, g3, by omega⟩
 cases hit : iterR (readR g) n ((b.drop h.s.toNat).take n) h.s.toNat 1 [] with
 | bad a e' s =>
  rw [hit] at hrd
  simp only at hrd
  injection hrd with e1 e2 e3
  subst e1 e2 e3
  obtain ⟨r1, r2, r3, r4⟩ := key n _ _ _ _ _ _ _ (by omega) hit
  rw [hdl] at r2 r4
  refine ⟨by omega, by omega, r3, ?_⟩
  rw [szF_mk, if_pos hk23]
  have h3 : szL [g] = szF g := by rw [szL, szL]; omega
  rw [h3, Nat.add_mul, Nat.one_mul]
  have m1 := Nat.mul_le_mul_left (szF g) (show 2 * n + 1 ≤ 2 * b.length + 1 by omega)
  omega
 | got y r s => rw [hit] at hrd; simp at hrd

end Go.Proofs.YtdhnfccgojgehaaDoor

namespace Go.Proofs.YtdhnfccgojgehaaDoor
open Go.RowKit YtdhnfccgojgehaaDoorW.PrintWords

section
variable {w : World} {ok ok2 : Nat → Prop} {f : Fm} {x y : Vt} {v u : Value}
theorem FmR.wf (h : FmR w ok v f) : wfF f = true := by
 obtain ⟨_, _, h1⟩ := h.tr
 exact tr_wfF f _ h1
theorem VtR.wf (h : VtR w ok v x) : wfV x = true := by
 obtain ⟨_, _, _, h1⟩ := h.tr
 exact tr_wfV x _ h1
theorem great05_any (ok : Nat → Prop) (f : Fm) (v : Value) (w : World) (hv : FmR w ok v f) : Calls Tryd.prog 25 #[v, .slice none 0 0] w fun e w' => e = .returned (.int .i64 (if 500 < cntR 500 f then 1 else 0)) ∧ Kp (fun _ => False) w w' := by
 obtain ⟨K, hK⟩ := (Great_ev f [] hv.wf (by simp) (by simp)).rounds
 obtain ⟨⟨k, s, lo, hi, st⟩, P⟩ := f
 obtain ⟨A, c, rfl, _, _, _, _, _, _, _, h1⟩ := hv.parts
 obtain ⟨_, g1, g2⟩ := h1.c
 have := QP.passepartoutlaw05_Great.calls K k s lo hi st A c (P.map ofF) none 0 [] _ w g2 g1 (Kd.C_nil _ _) (Nat.le_refl _) hK
 simp only [List.length_map, List.any_nil, Bool.or_false, decide_eq_true_eq] at this
 exact this.mono fun e w' h => ⟨h.1, Kp.of_below h.2⟩
theorem same05_any (ok ok2 : Nat → Prop) (x y : Vt) (v u : Value) (w : World) (hv : VtR w ok v x) (hu : VtR w ok2 u y) : Calls Tryd.prog 13 #[v, u] w fun e w' => e = .returned (.bool (sameV x y)) ∧ Kp (fun _ => False) w w' := by
 obtain ⟨K, hK⟩ := (same05_ev x y hv.wf hu.wf).rounds
 obtain ⟨⟨n, b⟩, l⟩ := x
 obtain ⟨⟨n2, b2⟩, l2⟩ := y
 obtain ⟨A1, c1, A2, c2, rfl, _, _, hbl, hb, _, _, h2⟩ := hv.parts
 obtain ⟨A3, c3, A4, c4, rfl, _, _, hbl2, hb2, _, _, h4⟩ := hu.parts
 obtain ⟨_, g3, g4⟩ := br_c hb hbl
 obtain ⟨_, g5, g6⟩ := h2.c
 obtain ⟨_, g7, g8⟩ := br_c hb2 hbl2
 obtain ⟨_, g9, g0⟩ := h4.c
 have := QP.passepartoutref05_Same.calls K n A1 c1 (bI b) A2 c2 (l.map ofV) n2 A3 c3 (bI b2) A4 c4 (l2.map ofV) _ w g4 g3 g6 g5 g8 g7 g0 g9 hK
 simp only [List.length_map, bI_len] at this
 exact this.mono fun e w' h => ⟨h.1, Kp.of_below h.2⟩
end
set_option maxRecDepth 100000 in
theorem great06_any (ok : Nat → Prop) (f : Fm) (v bv : Value) (b : List UInt8) (okb : Nat → Prop) (w : World) (hv : FmR w ok v f) (hb : BR w okb bv b) : Calls Tryd.prog 11 #[v, bv] w fun e w' => e = .returned (.bool (decide (500 < cntR 500 f) || decide (2000 < b.length))) ∧ Kp (fun _ => False) w w' := by
 obtain ⟨Ab, cb, rfl, _, _⟩ := id hb
 obtain ⟨⟨k, s, lo, hi, st⟩, P⟩ := f
 obtain ⟨A0, c0, rfl⟩ : ∃ A c, v = fv ⟨k, s, lo, hi, st⟩ A P.length c := hv.fv_
 have ka : Kp (fun _ => False) w (w.alloc (.cells #[.int .i64 k, .int .i64 s, .int .i64 lo, .int .i64 hi, .int .i64 st, .slice A0 P.length c0] 24)) := (Kp.refl _ w).alloc _
 have HG := Lib.hid (great05_any ok (.mk ⟨k, s, lo, hi, st⟩ P) (fv ⟨k, s, lo, hi, st⟩ A0 P.length c0) _ (hv.kp ka (fun _ _ h => h)))
 have HK := Lib.hid ka
 obtain ⟨r, hr⟩ : ∃ r, (decide (500 < cntR 500 (.mk ⟨k, s, lo, hi, st⟩ P)) || decide (2000 < b.length)) = r := ⟨_, rfl⟩
 rw [hr]
 by_cases h5 : 500 < cntR 500 (.mk ⟨k, s, lo, hi, st⟩ P)
 ·rw [if_pos h5] at HG
  have hr' : r = true := by rw [← hr, decide_eq_true h5]; rfl
  have HR := Lib.hid hr'
  clear ka hv hb hr hr' h5
  go_enter Tryd.func11, Tryd.ntmps11
  go_wp2_with (go_at_call 25; refine HG.out.mono ?_; rintro e w2 ⟨rfl, hk⟩)
  go_ret
  exact ⟨by rw [HR.out]; rfl, HK.out.then_ hk (fun _ h => h.elim)⟩
 ·rw [if_neg h5] at HG
  have hr' : r = decide (2000 < b.length) := by rw [← hr, decide_eq_false h5]; rfl
  have HR := Lib.hid hr'
  clear ka hv hb hr hr' h5
  go_enter Tryd.func11, Tryd.ntmps11
  go_wp2_with (go_at_call 25; refine HG.out.mono ?_; rintro e w2 ⟨rfl, hk⟩)
  go_ret
  refine ⟨?_, HK.out.then_ hk (fun _ h => h.elim)⟩
  rw [HR.out]
  congr 2
  simp
  omega
/-- Read, told by the parts of its answer. -/
theorem read_at (ok : Nat → Prop) (f : Fm) (v bv : Value) (b : List UInt8) (a : Int) (w : World) (n5 : Int) (l5 : List UInt8) (l6 : List Vt) (o er : Int) (hR : readAll false f b = (.mk ⟨n5, l5⟩ l6, o, er)) (hz : szF f ≤ 100000) (hv : FmR w ok v f) (hb : BR w ok bv b) (hokl : ∀ i, ok i → i < w.heap.size) (hok0 : ok 0)
  (hl : b.length ≤ 1000000000) (ha : 0 ≤ a) (hal : a + b.length ≤ 4611686018427387904) (tab : Tab06 w) :
  Calls Tryd.prog 12 #[v, bv, .int .i64 a] w fun e w' => ∃ A1 c1 A2 c2, e = .returned (.tuple #[.agg #[.int .u64 n5, .slice A1 l5.length c1, .slice A2 l6.length c2], .int .i64 (a + o), .int .i64 er]) ∧
   VtR w' (w.heap.size ≤ ·) (.agg #[.int .u64 n5, .slice A1 l5.length c1, .slice A2 l6.length c2]) (.mk ⟨n5, l5⟩ l6) ∧ Kp (fun _ => False) w w' := by
 refine (read_any ok f v bv b a w hz hv hb hokl hok0 hl ha hal tab).mono ?_
 rintro e w' ⟨A1, c1, A2, c2, he, hv2, hk, _⟩
 rw [hR] at he hv2
 exact ⟨A1, c1, A2, c2, he, hv2, hk.mono (fun i _ h => by cases h)⟩

/-- What not too great means. -/
theorem sz_ok {f : Fm} (h : ¬ 500 < cntR 500 f) : szF f ≤ 100000 := by
 have := (cnt_sz f 500).1 (by omega)
 omega
theorem okk {w : World} (tab : Tab06 w) : 0 < w.heap.size := cell_lt tab.c0
theorem vt_parts (x : Vt) : ∃ n l5 l6, x = .mk ⟨n, l5⟩ l6 := by
 obtain ⟨⟨n, b⟩, l⟩ := x
 exact ⟨n, b, l, rfl⟩
abbrev Vt.zero_ : Vt := .mk ⟨0, []⟩ []
theorem chk8_ok {f : Fm} (h : chk8 f = 0) : deepB 8 f = false ∧ checkR f = 0 := by
 unfold chk8 at h
 split at h
 ·omega
 ·rename_i hd
  exact ⟨by simpa using hd, h⟩
/-- Where a reading ends lies in its bytes. -/
theorem all_place {pre : Bool} {f : Fm} {b : List UInt8} {x : Vt} {o e : Int} (hz : szF f ≤ 100000) (hb : b.length ≤ 140737488351232) (h : readAll pre f b = (x, o, e)) : 0 ≤ o ∧ o ≤ b.length := by
 unfold readAll at h
 by_cases hc : chk8 f = 0
 ·rw [if_neg (by simp [hc])] at h
  have hck := (chk8_ok hc).2
  cases hr : readR f b with
  | bad a er q =>
   rw [hr] at h
   have := read_bad f hz hck b hb a er q hr
   have e1 : (Vt.zero_, a, er) = (x, o, e) := h
   injection e1 with _ e1
   injection e1 with e1 _
   omega
  | got y r q =>
   rw [hr] at h
   change (if pre = false ∧ 0 < r.length then ((.mk ⟨0, []⟩ [], ((b.length - r.length : Nat) : Int), 6) : Vt × Int × Int) else (y, ((b.length - r.length : Nat) : Int), 0)) = _ at h
   split at h
   ·injection h with _ h
    injection h with h _
    omega
   ·injection h with _ h
    injection h with h _
    omega
 ·rw [if_pos hc] at h
  injection h with _ h
  injection h with h _
  omega
/-- What is read: whole, or the first of the bytes. -/
theorem all_ok {pre : Bool} {f : Fm} {b : List UInt8} {x : Vt} {o : Int} (h : readAll pre f b = (x, o, 0)) (hz : szF f ≤ 100000) (hb : b.length ≤ 140737488351232) : chk8 f = 0 ∧ ∃ r q, readR f b = .got x r q ∧ o = ((b.length - r.length : Nat) : Int) ∧ (pre = false → r = []) := by
 unfold readAll at h
 by_cases hc : chk8 f = 0
 ·refine ⟨hc, ?_⟩
  rw [if_neg (by simp [hc])] at h
  have hck := (chk8_ok hc).2
  cases hr : readR f b with
  | bad a er q =>
   rw [hr] at h
   have := read_bad f hz hck b hb a er q hr
   have e1 : (Vt.zero_, a, er) = (x, o, 0) := h
   injection e1 with _ e1
   injection e1 with _ e1
   omega
  | got y r q =>
   rw [hr] at h
   change (if pre = false ∧ 0 < r.length then ((.mk ⟨0, []⟩ [], ((b.length - r.length : Nat) : Int), 6) : Vt × Int × Int) else (y, ((b.length - r.length : Nat) : Int), 0)) = _ at h
   split at h
   ·injection h with _ h
    injection h with _ h
    omega
   ·rename_i hn
    injection h with h1 h
    injection h with h2 _
    subst h1
    refine ⟨r, q, rfl, h2.symm, fun hp => ?_⟩
    rcases r with _ | ⟨a, t⟩
    ·rfl
    ·exact absurd ⟨hp, by simp⟩ hn
 ·rw [if_pos hc] at h
  injection h with _ h
  injection h with _ h
  exact absurd h hc
/-- What is not read has no value. -/
theorem all_err {pre : Bool} {f : Fm} {b : List UInt8} {x : Vt} {o e : Int} (h : readAll pre f b = (x, o, e)) (he : e ≠ 0) : x = .mk ⟨0, []⟩ [] := by
 unfold readAll at h
 split at h
 ·injection h with h _
  exact h.symm
 ·cases hr : readR f b with
  | bad a er q =>
   rw [hr] at h
   have e1 : (Vt.zero_, a, er) = (x, o, e) := h
   injection e1 with e1 _
   exact e1.symm
  | got y r q =>
   rw [hr] at h
   change (if pre = false ∧ 0 < r.length then ((.mk ⟨0, []⟩ [], ((b.length - r.length : Nat) : Int), 6) : Vt × Int × Int) else (y, ((b.length - r.length : Nat) : Int), 0)) = _ at h
   split at h
   ·injection h with h _
    exact h.symm
   ·injection h with _ h
    injection h with _ h
    exact absurd h.symm he
end Go.Proofs.YtdhnfccgojgehaaDoor

namespace Go.Proofs.YtdhnfccgojgehaaDoor
open Go.RowKit

def fA : Fm := .mk ⟨3, 0, 0, 0, 0⟩ [.mk ⟨0, 1, 0, 0, 0⟩ [], .mk ⟨1, 1, 1, 3, 1⟩ []]
theorem rA1 : readAll false fA [7, 2, 8, 9] = (.mk ⟨0, []⟩ [.mk ⟨7, []⟩ [], .mk ⟨0, [8, 9]⟩ []], 4, 0) := by kernel_rfl
theorem rA2 : readAll false fA [7, 4, 8] = (.mk ⟨0, []⟩ [], 1, 5) := by kernel_rfl
theorem rA3 : readAll false fA [7, 2, 8] = (.mk ⟨0, []⟩ [], 3, 4) := by kernel_rfl
theorem rA4 : readAll false fA [7, 1, 8, 9] = (.mk ⟨0, []⟩ [], 3, 6) := by kernel_rfl
abbrev fAcells : Array Value := #[.int .i64 0, .int .i64 1, .int .i64 0, .int .i64 0, .int .i64 0, .slice none 0 0, .int .i64 1, .int .i64 1, .int .i64 1, .int .i64 3, .int .i64 1, .slice none 0 0]
theorem fA_R {W : World} {g : Nat} (h : Blk W g 24 fAcells) : FmR W (· < W.heap.size) (fv ⟨3, 0, 0, 0, 0⟩ (some ⟨g, 0, none⟩) 2 2) fA := by
 have hb : ∀ i : Int, -10 ≤ i → i ≤ 10 → i64B i := fun i h1 h2 => by unfold i64B; omega
 refine ⟨_, rfl, ⟨hb _ (by decide) (by decide), hb _ (by decide) (by decide), hb _ (by decide) (by decide), hb _ (by decide) (by decide), hb _ (by decide) (by decide)⟩, _, _, rfl, by decide, by decide, fun _ => ⟨g, 0, rfl, h.lt, ?_⟩⟩
 have ht : ∀ (a : FH), a.ok → TR FHd 6 W (· < W.heap.size) (.mk a []) [.int .i64 a.k, .int .i64 a.s, .int .i64 a.lo, .int .i64 a.hi, .int .i64 a.st, .slice none 0 0] := fun a ha =>
  (TR_def _ _ _ _ _ _).2 ⟨[.int .i64 a.k, .int .i64 a.s, .int .i64 a.lo, .int .i64 a.hi, .int .i64 a.st], none, 0, rfl, rfl, ⟨rfl, ha⟩, Nat.le_refl _, by simp [RT.l], fun h => by simp [RT.l] at h⟩
 have h0 := ht ⟨0, 1, 0, 0, 0⟩ ⟨hb _ (by decide) (by decide), hb _ (by decide) (by decide), hb _ (by decide) (by decide), hb _ (by decide) (by decide), hb _ (by decide) (by decide)⟩
 have h1 := ht ⟨1, 1, 1, 3, 1⟩ ⟨hb _ (by decide) (by decide), hb _ (by decide) (by decide), hb _ (by decide) (by decide), hb _ (by decide) (by decide), hb _ (by decide) (by decide)⟩
 show TRs FHd 6 W (· < W.heap.size) [.mk ⟨0, 1, 0, 0, 0⟩ [], .mk ⟨1, 1, 1, 3, 1⟩ []] g 0
 rw [TRs, TRs, TRs]
 refine ⟨⟨_, h0, fun j u hu => ?_⟩, ⟨_, h1, fun j u hu => ?_⟩, trivial⟩
 ·rw [h.cell]
  rcases j with _ | _ | _ | _ | _ | _ | j <;> first | exact hu | (simp at hu)
 ·rw [h.cell]
  rcases j with _ | _ | _ | _ | _ | _ | j <;> first | exact hu | (simp at hu)
set_option maxRecDepth 100000 in
set_option maxHeartbeats 3200000 in
theorem alive06_any (w : World) (tab : Tab06 w) : Calls Tryd.prog 10 #[] w fun e w' => e = .returned (.bool true) ∧ Kp (fun _ => False) w w' := by
 have hg0 := cell_lt tab.c0
 -- a reading of bytes that were laid just now
 have HRD := Lib.hid (show ∀ (W : World) (g : Nat) (l : List UInt8) (cs : Array Value) (n : Nat) (x : Vt) (o er nn : Int) (bl ll : Nat), Kp (fun _ => False) w W → Blk W g 24 fAcells → l.length = n → cs = (bc l).toArray → n ≤ 1000 → readAll false fA l = (x, o, er) → x.a.n = nn → x.a.b.length = bl → x.l.length = ll →
   Calls Tryd.prog 12 #[fv ⟨3, 0, 0, 0, 0⟩ (some ⟨g, 0, none⟩) 2 2, .slice (some ⟨W.heap.size, 0, none⟩) n n, .int .i64 0] (W.alloc (.cells cs 5)) fun e w' => ∃ A1 c1 A2 c2, e = .returned (.tuple #[.agg #[.int .u64 nn, .slice A1 bl c1, .slice A2 ll c2], .int .i64 o, .int .i64 er]) ∧ VtR w' (W.heap.size ≤ ·) (.agg #[.int .u64 nn, .slice A1 bl c1, .slice A2 ll c2]) x ∧ Kp (fun _ => False) W w' from fun W g l cs n x o er nn bl ll hk hb hn hcs hl hR hnn hbl hll => by
  have ka : Kp (fun _ => False) W (W.alloc (.cells cs 5)) := (Kp.refl _ W).alloc _
  have hsz : (W.alloc (.cells cs 5)).heap.size = W.heap.size + 1 := World.size_alloc _ _
  refine (read_any (· < (W.alloc (.cells cs 5)).heap.size) fA _ _ l 0 _ (by decide) (fA_R (hb.kp ka (fun h => h))) ((BR.lit W _ l cs n hn hcs).mono (fun i hi => by omega)) (fun i hi => hi) (by have := hk.size; show 0 < _; have : 0 < w.heap.size := hg0; omega) (by omega) (by omega) (by omega) (tab.kp (hk.then_ ka (fun _ h => h.elim)) (fun h => h))).mono ?_
  rintro e w' ⟨A1, c1, A2, c2, he, hv, hk2, _⟩
  rw [hR] at he hv
  simp only [hnn, hbl, hll, Int.zero_add] at he hv
  exact ⟨A1, c1, A2, c2, he, hv.mono (fun i hi => by omega), ka.then_ (T := fun _ => False) (hk2.mono (fun i _ h => by cases h)) (fun _ h => h.elim)⟩)
 have ka : Kp (fun _ => False) w ((w.alloc (.cells fAcells 24)).alloc (.cells #[.int .i64 3, .int .i64 0, .int .i64 0, .int .i64 0, .int .i64 0, .slice (some ⟨w.heap.size, 0, none⟩) 2 2] 24)) := ((Kp.refl _ w).alloc _).alloc _
 have HBP := Lib.hid ((Blk.new w 24 fAcells).alloc (.cells #[.int .i64 3, .int .i64 0, .int .i64 0, .int .i64 0, .int .i64 0, .slice (some ⟨w.heap.size, 0, none⟩) 2 2] 24))
 have hbf := Blk.new (w.alloc (.cells fAcells 24)) 24 #[.int .i64 3, .int .i64 0, .int .i64 0, .int .i64 0, .int .i64 0, .slice (some ⟨w.heap.size, 0, none⟩) 2 2]
 rw [World.size_alloc] at hbf
 have HBF := Lib.hid hbf
 have HKA := Lib.hid ka
 have HTB := Lib.hid tab
 clear ka hbf tab
 go_enter Tryd.func10, Tryd.ntmps10
 go_upto_region 2 with fail
 generalize (w.alloc (.cells fAcells 24)).alloc (.cells #[.int .i64 3, .int .i64 0, .int .i64 0, .int .i64 0, .int .i64 0, .slice (some ⟨w.heap.size, 0, none⟩) 2 2] 24) = W1 at HBP HBF HKA ⊢
 have f0 := HBF.out.cell 0
 have f1 := HBF.out.cell 1
 have f2 := HBF.out.cell 2
 have f3 := HBF.out.cell 3
 have f4 := HBF.out.cell 4
 have f5 := HBF.out.cell 5
 simp at f0 f1 f2 f3 f4 f5
 have HR1 := Lib.hid (HRD.out W1 w.heap.size [7, 2, 8, 9] _ 4 _ _ _ 0 0 2 HKA.out HBP.out rfl rfl (by omega) rA1 rfl rfl rfl)
 go_upto_region 3 with (go_at_call 12; refine HR1.out.mono ?_; rintro e w2 ⟨A1, c1, A2, c2, rfl, hv, hk2⟩)
 have HV1 := Lib.hid (hv.kp ((Kp.refl (fun _ => False) w2).alloc (.cells #[.int .u64 0, .slice A1 0 c1, .slice A2 2 c2] 31)) (fun _ _ h => h))
 have hk3 := hk2.then_ ((Kp.refl (fun _ => False) w2).alloc (.cells #[.int .u64 0, .slice A1 0 c1, .slice A2 2 c2] 31)) (fun _ h => h.elim)
 have HBV1 := Lib.hid (Blk.new w2 31 #[.int .u64 0, .slice A1 0 c1, .slice A2 2 c2])
 generalize hV1 : w2.heap.size = V1 at HBV1 ⊢
 generalize w2.alloc (.cells #[.int .u64 0, .slice A1 0 c1, .slice A2 2 c2] 31) = W2 at HV1 hk3 HBV1 ⊢
 have HK2 := Lib.hid (HKA.out.then_ hk3 (fun _ h => h.elim))
 have HBP2 := Lib.hid (HBP.out.kp hk3 (fun h => h))
 have hbf2 := HBF.out.kp hk3 (fun h => h)
 have HBF2 := Lib.hid hbf2
 clear f0 f1 f2 f3 f4 f5 hv hk2 hk3 HBP HBF HKA HR1
 have f0 := hbf2.cell 0
 have f1 := hbf2.cell 1
 have f2 := hbf2.cell 2
 have f3 := hbf2.cell 3
 have f4 := hbf2.cell 4
 have f5 := hbf2.cell 5
 simp at f0 f1 f2 f3 f4 f5
 clear hbf2
 have HR2 := Lib.hid (HRD.out W2 w.heap.size [7, 4, 8] _ 3 _ _ _ 0 0 0 HK2.out HBP2.out rfl rfl (by omega) rA2 rfl rfl rfl)
 go_upto_region 4 with (go_at_call 12; refine HR2.out.mono ?_; rintro e w3 ⟨A3, c3, A4, c4, rfl, hv, hk2⟩)
 have hk3 := hk2.then_ ((Kp.refl (fun _ => False) w3).alloc (.cells #[.int .u64 0, .slice A3 0 c3, .slice A4 0 c4] 31)) (fun _ h => h.elim)
 generalize w3.heap.size = V2 at ⊢
 generalize w3.alloc (.cells #[.int .u64 0, .slice A3 0 c3, .slice A4 0 c4] 31) = W3 at hk3 ⊢
 have HK3 := Lib.hid (HK2.out.then_ hk3 (fun _ h => h.elim))
 have HBP3 := Lib.hid (HBP2.out.kp hk3 (fun h => h))
 have hbf3 := HBF2.out.kp hk3 (fun h => h)
 have HBF3 := Lib.hid hbf3
 have HV2 := Lib.hid (HV1.out.kp hk3 (fun _ _ h => h))
 have HBV2 := Lib.hid (HBV1.out.kp hk3 (fun h => h))
 clear f0 f1 f2 f3 f4 f5 hv hk2 hk3 HBP2 HBF2 HK2 HR2 HV1 HBV1
 have f0 := hbf3.cell 0
 have f1 := hbf3.cell 1
 have f2 := hbf3.cell 2
 have f3 := hbf3.cell 3
 have f4 := hbf3.cell 4
 have f5 := hbf3.cell 5
 simp at f0 f1 f2 f3 f4 f5
 clear hbf3
 have HR3 := Lib.hid (HRD.out W3 w.heap.size [7, 2, 8] _ 3 _ _ _ 0 0 0 HK3.out HBP3.out rfl rfl (by omega) rA3 rfl rfl rfl)
 go_upto_region 5 with (go_at_call 12; refine HR3.out.mono ?_; rintro e w4 ⟨A5, c5, A6, c6, rfl, hv, hk2⟩)
 have hk3 := hk2.then_ ((Kp.refl (fun _ => False) w4).alloc (.cells #[.int .u64 0, .slice A5 0 c5, .slice A6 0 c6] 31)) (fun _ h => h.elim)
 generalize w4.heap.size = V3 at ⊢
 generalize w4.alloc (.cells #[.int .u64 0, .slice A5 0 c5, .slice A6 0 c6] 31) = W4 at hk3 ⊢
 have HK4 := Lib.hid (HK3.out.then_ hk3 (fun _ h => h.elim))
 have HBP4 := Lib.hid (HBP3.out.kp hk3 (fun h => h))
 have hbf4 := HBF3.out.kp hk3 (fun h => h)
 have HV3 := Lib.hid (HV2.out.kp hk3 (fun _ _ h => h))
 have HBV3 := Lib.hid (HBV2.out.kp hk3 (fun h => h))
 clear f0 f1 f2 f3 f4 f5 hv hk2 hk3 HBP3 HBF3 HK3 HR3 HV2 HBV2
 have f0 := hbf4.cell 0
 have f1 := hbf4.cell 1
 have f2 := hbf4.cell 2
 have f3 := hbf4.cell 3
 have f4 := hbf4.cell 4
 have f5 := hbf4.cell 5
 simp at f0 f1 f2 f3 f4 f5
 clear hbf4
 have HR4 := Lib.hid (HRD.out W4 w.heap.size [7, 1, 8, 9] _ 4 _ _ _ 0 0 0 HK4.out HBP4.out rfl rfl (by omega) rA4 rfl rfl rfl)
 go_upto_region 6 with (go_at_call 12; refine HR4.out.mono ?_; rintro e w5 ⟨A7, c7, A8, c8, rfl, hv, hk2⟩)
 have hk3 := hk2.then_ ((Kp.refl (fun _ => False) w5).alloc (.cells #[.int .u64 0, .slice A7 0 c7, .slice A8 0 c8] 31)) (fun _ h => h.elim)
 generalize w5.heap.size = V4 at ⊢
 generalize w5.alloc (.cells #[.int .u64 0, .slice A7 0 c7, .slice A8 0 c8] 31) = W5 at hk3 ⊢
 have HK5 := Lib.hid (HK4.out.then_ hk3 (fun _ h => h.elim))
 have hbv := HBV3.out.kp hk3 (fun h => h)
 have hvv := HV3.out.kp hk3 (fun _ _ h => h)
 clear f0 f1 f2 f3 f4 f5 hv hk2 hk3 HBP4 HK4 HR4 HV3 HBV3
 have g2 := hbv.cell 2
 simp at g2
 obtain ⟨_, _, _, _, _, _, _, _, _, _, _, hvs⟩ := hvv.parts
 obtain ⟨b, off, A9, c9, A10, c10, rfl, _, _, m0, _, _⟩ := hvs.at_ (i := 0) (by decide)
 obtain ⟨b2, off2, A11, c11, A12, c12, e2, _, hv1, _, m1, _⟩ := hvs.at_ (i := 1) (by decide)
 simp only [Option.some.injEq, Addr.mk.injEq, and_true] at e2
 obtain ⟨rfl, rfl⟩ := e2
 obtain ⟨_, _, hbr⟩ : ∃ A c, Value.slice A11 2 c11 = .slice A 2 c ∧ BR W5 (fun i => W1.heap.size ≤ i) (.slice A11 2 c11) [8, 9] := by
  obtain ⟨bv, sv, e, _, h2, _, _⟩ := hv1
  simp only [Value.agg.injEq, Array.mk.injEq, List.cons.injEq, and_true] at e
  exact ⟨_, _, rfl, by rw [← e.2.1] at h2; exact h2⟩
 have hstr := run_str (P := Tryd.prog) (src := 25) (dst := 9) (e := 5) Tryd.underlying25 Tryd.underlying5 Tryd.underlying9 hbr.2
 simp [RT.a] at m0 m1
 have hse : (str [8, 9]).toList = [8, 9] := by simp [str]
 clear hvs hv1 hbr hvv hbv
 go_wp2_with fail
 go_ret
 exact ⟨rfl, HK5.out⟩
end Go.Proofs.YtdhnfccgojgehaaDoor

namespace Go.Proofs.YtdhnfccgojgehaaDoor
open Go.RowKit

/-- What is read whole fits, and has as many bytes. -/
theorem all_fits {pre : Bool} {f : Fm} {b : List UInt8} {x : Vt} {o : Int} (h : readAll pre f b = (x, o, 0)) (hz : szF f ≤ 100000) (hb : b.length ≤ 140737488351232) : sizeR f x = (o, 0) ∧ wfV x = true := by
 obtain ⟨hc, r, q, hr, ho, _⟩ := all_ok h hz hb
 obtain ⟨hd, hck⟩ := chk8_ok hc
 obtain ⟨u, hb1, hf, _, _, hw, _⟩ := read_got f hz hck b hb x r q hr
 refine ⟨?_, hw⟩
 rw [sizeR_eq hd hck, hf, if_pos rfl, ho, hb1, List.length_append]
 congr 1
 omega
end Go.Proofs.YtdhnfccgojgehaaDoor

namespace Go.Proofs.YtdhnfccgojgehaaDoor
open Go.RowKit

theorem BR.takeR {w : World} {ok : Nat → Prop} {A : Option Addr} {c k : Nat} {l : List UInt8} (h : BR w ok (.slice A l.length c) l) (hk : k ≤ l.length) : BR w ok (.slice A k c) (l.take k) := by
 obtain ⟨A', c', e, hc, hr⟩ := h
 injection e with e1 e2 e3
 subst e1 e3
 exact ⟨A, c, by rw [List.length_take, Nat.min_eq_left hk], by rw [List.length_take]; omega, by have h2 := hr.take hk; rw [List.length_take, Nat.min_eq_left hk]; simpa [bc, List.map_take] using h2⟩
theorem VtR.ltx {w : World} {ok : Nat → Prop} {v : Value} {x : Vt} (h : VtR w ok v x) : VtR w (fun i => ok i ∧ i < w.heap.size) v x := by
 obtain ⟨bv, sv, e, h1, h2, h3, A, c, e2, h4, h5, h6⟩ := h
 exact ⟨bv, sv, e, h1, h2.lt_, h3, A, c, e2, h4, h5, TL.lt_ VHd_lt h6⟩

local notation "Vz" => (#[Value.int IntKind.u64 0, Value.slice none 0 0, Value.slice none 0 0] : Array Value)
/-- What holds on the way: what stood before stands; the result's block, where it is made; a byte's block, where it is made. -/
def Ra (W0 w : World) (al : Option Nat) (lt : Option (Nat × UInt8)) : Prop :=
 Kp (W0.heap.size ≤ ·) W0 w ∧ (∀ V, al = some V → W0.heap.size ≤ V ∧ Blk w V 31 Vz) ∧ (∀ g c, lt = some (g, c) → W0.heap.size ≤ g ∧ g < w.heap.size ∧ BR w (· = g) (.slice (some ⟨g, 0, none⟩) 1 1) [c])
def okA (W0 : World) (al : Option Nat) (lt : Option (Nat × UInt8)) (j : Nat) : Prop := W0.heap.size ≤ j ∧ (∀ c, lt ≠ some (j, c)) ∧ al ≠ some j
def Rr (W0 w : World) (al : Option Nat) (lt : Option (Nat × UInt8)) (A : Option Addr) (n c : Nat) (l : List UInt8) : Prop :=
 Ra W0 w al lt ∧ Own w (okA W0 al lt) 5 1 (.slice A n c) n (bc l)
def Rc (W0 w : World) (al : Option Nat) (lt : Option (Nat × UInt8)) (v : Value) (x : Vt) : Prop :=
 Ra W0 w al lt ∧ VtR w (okA W0 al lt) v x
section
variable {W0 w w' : World} {al : Option Nat} {lt : Option (Nat × UInt8)} {S : Nat → Prop} {A : Option Addr} {n c : Nat} {l : List UInt8} {v : Value} {x : Vt}
theorem Ra.start (W0 : World) : Ra W0 W0.drew none none := by
 refine ⟨(Kp.refl (W0.heap.size ≤ ·) W0).drew, fun V e => ?_, fun g c e => ?_⟩
 ·cases e
 ·cases e
theorem Ra.kp (h : Ra W0 w al lt) : Kp (W0.heap.size ≤ ·) W0 w := h.1
theorem Ra.step (h : Ra W0 w al lt) (hk : Kp S w w') (hS : ∀ j, S j → okA W0 al lt j) : Ra W0 w' al lt := by
 obtain ⟨h1, h2, h3⟩ := h
 refine ⟨h1.then_ hk (fun j hj => .inl (hS j hj).1), fun V e => ?_, fun g c e => ?_⟩
 ·obtain ⟨a, b⟩ := h2 V e
  exact ⟨a, b.kp hk (fun hs => (hS V hs).2.2 e)⟩
 ·obtain ⟨a, b, d⟩ := h3 g c e
  exact ⟨a, Nat.lt_of_lt_of_le b hk.size, d.kp hk (fun j e2 hs => (hS j hs).2.1 c (by rw [e2]; exact e))⟩
theorem Ra.more (h : Ra W0 w none lt) : Ra W0 (w.alloc (.cells Vz 31)) (some w.heap.size) lt := by
 have h2 := h.step ((Kp.refl (fun _ => False) w).alloc (.cells Vz 31)) (fun _ h => h.elim)
 exact ⟨h2.1, fun V e => by injection e with e; subst e; exact ⟨h.1.size, Blk.new w _ _⟩, h2.2.2⟩
theorem Ra.byte (h : Ra W0 w al none) (c : UInt8) (cs : Array Value) (hcs : cs = (bc [c]).toArray) : Ra W0 (w.alloc (.cells cs 5)) al (some (w.heap.size, c)) := by
 have h2 := h.step ((Kp.refl (fun _ => False) w).alloc (.cells cs 5)) (fun _ h => h.elim)
 refine ⟨h2.1, h2.2.1, fun g c2 e => ?_⟩
 injection e with e
 injection e with e1 e2
 subst e1 e2
 exact ⟨h.1.size, by rw [World.size_alloc]; exact Nat.lt_succ_self _, BR.lit w _ [c] cs 1 rfl hcs⟩
theorem okA.fresh (h : Ra W0 w al lt) {j : Nat} (hj : w.heap.size ≤ j) : okA W0 al lt j := by
 refine ⟨Nat.le_trans h.1.size hj, fun c e => ?_, fun e => ?_⟩
 ·have := (h.2.2 j c e).2.1
  omega
 ·have := (h.2.1 j e).2.lt
  omega
theorem Ra.lit (h : Ra W0 w al lt) : Rr W0 (w.alloc (.cells #[] 5)) al lt (some ⟨w.heap.size, 0, none⟩) 0 0 [] := by
 refine ⟨h.step ((Kp.refl (fun _ => False) w).alloc (.cells #[] 5)) (fun _ h => h.elim), ?_⟩
 exact (Own.lit_ w 5 1 [] #[] 0 w.heap.size rfl rfl (Nat.le_refl _) (by decide)).mono (fun i _ hi => okA.fresh h hi)
theorem okA.small (h : Ra W0 w none lt) {j : Nat} (hj : j < w.heap.size) (hk : okA W0 none lt j) : okA W0 (some w.heap.size) lt j :=
 ⟨hk.1, hk.2.1, fun e => by injection e with e; omega⟩
theorem Rr.more (h : Rr W0 w none lt A n c l) : Rr W0 (w.alloc (.cells Vz 31)) (some w.heap.size) lt A n c l := by
 refine ⟨h.1.more, ?_⟩
 exact (h.2.mono (ok' := okA W0 (some w.heap.size) lt) (fun i hi hk => okA.small h.1 hi hk)).kp ((Kp.refl (fun _ => False) w).alloc _) (fun _ _ h => h)
theorem Rr.byte (h : Rr W0 w al none A n c l) (d : UInt8) (cs : Array Value) (hcs : cs = (bc [d]).toArray) : Rr W0 (w.alloc (.cells cs 5)) al (some (w.heap.size, d)) A n c l := by
 refine ⟨h.1.byte d cs hcs, ?_⟩
 exact (h.2.mono (ok' := okA W0 al (some (w.heap.size, d))) (fun i hi hk => ⟨hk.1, fun c e => by injection e with e; injection e with e _; omega, hk.2.2⟩)).kp ((Kp.refl (fun _ => False) w).alloc _) (fun _ _ h => h)
theorem Rr.app (h : Rr W0 w al lt A n c l) {A' : Option Addr} {k c' : Nat} {l' : List UInt8} (ho : Own w' (fun j => okA W0 al lt j ∨ w.heap.size ≤ j) 5 1 (.slice A' k c') k (bc l')) (hk : Kp (fun j => Value.ownBlock (.slice A n c) = some j) w w') : Rr W0 w' al lt A' k c' l' := by
 refine ⟨h.1.step hk (fun j hj => h.2.2 j hj), ho.mono (fun i _ hi => ?_)⟩
 rcases hi with hi | hi
 ·exact hi
 ·exact okA.fresh h.1 hi
theorem Rr.read (h : Rr W0 w al lt A n c l) (hn : l.length = n) : BR w (· < w.heap.size) (.slice A n c) l := by
 subst hn
 exact ((BR.of_own h.2.1 h.2.2).lt_).mono (fun _ hi => hi.2)
theorem Ra.one {d : UInt8} (h : Ra W0 w al (some (n, d))) : BR w (fun j => j = n) (.slice (some ⟨n, 0, none⟩) 1 1) [d] := (h.2.2 n d rfl).2.2
theorem Ra.call (h : Ra W0 w al lt) (hk : Kp (fun _ => False) w w') (hv : VtR w' (w.heap.size ≤ ·) v x) : Rc W0 w' al lt v x :=
 ⟨h.step hk (fun _ h => h.elim), hv.mono (fun j hj => okA.fresh h hj)⟩
theorem Rc.more (h : Rc W0 w none lt v x) : Rc W0 (w.alloc (.cells Vz 31)) (some w.heap.size) lt v x := by
 refine ⟨h.1.more, ?_⟩
 exact (h.2.ltx.mono (ok' := okA W0 (some w.heap.size) lt) (fun i hi => okA.small h.1 hi.2 hi.1)).kp ((Kp.refl (fun _ => False) w).alloc _) (fun _ _ h => h)
/-- The end of the region: the result's block holds what was read. -/
def Rend (W0 w : World) (V : Nat) (n : Int) (s1 s2 : Value) (x : Vt) : Prop :=
 Kp (fun _ => False) W0 w ∧ W0.heap.size ≤ V ∧ Blk w V 31 #[.int .u64 n, s1, s2] ∧ VtR w (fun _ => True) (.agg #[.int .u64 n, s1, s2]) x
theorem Rc.fin {V : Nat} {m : Int} {s1 s2 : Value} (h : Rc W0 w (some V) lt (.agg #[.int .u64 m, s1, s2]) x) : Rend W0 (((w.setCell ⟨V, 0, none⟩ (.int .u64 m)).setCell ⟨V, 1, none⟩ s1).setCell ⟨V, 2, none⟩ s2) V m s1 s2 x := by
 obtain ⟨hV, hB⟩ := h.1.2.1 V rfl
 have hk : Kp (fun j => j = V) w (((w.setCell ⟨V, 0, none⟩ (.int .u64 m)).setCell ⟨V, 1, none⟩ s1).setCell ⟨V, 2, none⟩ s2) := (Kp.refl (fun j => j = V) w).put3 (.inl rfl) _ _ _
 refine ⟨(h.1.1.then_ hk (fun j hj => .inl (hj ▸ hV))).mono (fun i hi hw => by omega), hV, ?_, ?_⟩
 ·have := ((hB.set_ 0 (.int .u64 m)).set_ 1 s1).set_ 2 s2
  simpa using this
 ·exact (h.2.kp hk (fun i hi e => hi.2.2 (by rw [e]))).mono (fun _ _ => trivial)
end

theorem u8_info6 : (Tryd.prog.info? 5).map (fun i => (i.zero, i.size, i.bytes)) = some (some (.int .u8 0), 1, 1) := by kernel_rfl
/-- append of bytes to bytes of the call's own: nothing but the own row's block changes. -/
theorem step_app_row {w : World} {ops : Array Oper} {o : Oper} {a : Act} {K : Act → World → Prop} {Q : Exit → Act → World → Prop} {E : Prop} (hgd : o.guard = none) (s x : Operand)
  (ho : o.op = .call { callee := .builtin .append, args := #[s, x], argTypes := #[25, 25] })
  {okr : Nat → Prop} (A : Option Addr) (n c : Nat) (l : List UInt8) (hs : a.eval s = .slice A n c) (hown : Own w okr 5 1 (.slice A n c) n (bc l))
  (ok : Nat → Prop) (Ax : Option Addr) (m cx : Nat) (lx : List UInt8) (hx : a.eval x = .slice Ax m cx) (hm : lx.length = m) (hr : BR w ok (.slice Ax m cx) lx)
  (k : Nat) (hk : n + m = k) (hk2 : k ≤ 140737488355328)
  (h : ∀ A' c' w', Own w' (fun j => okr j ∨ w.heap.size ≤ j) 5 1 (.slice A' k c') k (bc (l ++ lx)) → Kp (fun j => Value.ownBlock (.slice A n c) = some j) w w' → K (a.put o.dst (.slice A' k c')) w') :
  if Region.wanted o (yielded ops a.tmps) = true then Oper.wp Tryd.prog o a w K Q else E := by
 obtain ⟨i0, hi0, hz0, hz1, hz2⟩ := info_parts u8_info6
 obtain ⟨Ax', cx', e, hcx, hrd⟩ := hr
 injection e with e1 e2 e3
 subst e1 e3
 rw [hm] at hrd
 refine step_append_any w hgd s x _ ho 0 5 i0 _ 1 1 Tryd.underlying25 hi0 hz0 hz1 hz2 rfl (by omega) (.slice A n c) n (bc l) hs hown.1 ok Ax m cx (bc lx) hx hrd (bc_one _) (by simp only [maxLen]; omega) (by omega) (Nat.zero_le _) ?_
 intro v' w' h1 h2 h3
 rw [hk, ← bc_append] at h1
 have hk' : Kp (fun j => Value.ownBlock (.slice A n c) = some j) w w' := (Kp.refl _ _).grown h2 (fun j hj => .inl hj)
 have ho' : Own w' (fun j => okr j ∨ w.heap.size ≤ j) 5 1 v' k (bc (l ++ lx)) := ⟨h1, fun j hj => by
  rcases h3 with e | e
  ·exact .inl (hown.2 j (e ▸ hj))
  ·rw [e] at hj
   injection hj with hj
   exact .inr (Nat.le_of_eq hj)⟩
 obtain ⟨A', c', e, _⟩ := ho'.shape
 subst e
 exact h A' c' w' ho' hk'
end Go.Proofs.YtdhnfccgojgehaaDoor

namespace Go.Proofs.YtdhnfccgojgehaaDoor.QP
open Go.RowKit Go.Proofs.YtdhnfccgojgehaaDoorW.PrintWords Go.Proofs.YtdhnfccgojgehaaDoorW.PrintLast Go.Proofs.YtdhnfccgojgehaaDoorW.PrintMore
attribute [local go_sem] max2_int min2_int max_two min_two max_three min_three max_four min_four   -- for this text's walks alone
set_option linter.unusedVariables false
set_option linter.unusedSimpArgs false

/-! ### passepartoutref05_power: function 44 -/
def passepartoutref05_power.l0 : Nat → Int → Int → Int → Option (Int)
 | 0, _, _, _ => none
 | k + 1, x0, x3, x4 => if x4 < x0 then (passepartoutref05_power.l0 k x0 (IntKind.u64.wrap (x3 * 256)) (wrap64 (x4 + 1))) else (some x3)
def passepartoutref05_power.f (k : Nat) (a0 : Int) : Option (Int) := passepartoutref05_power.l0 k a0 1 0
theorem passepartoutref05_power.mono_l : ∀ k, (∀ y0 y1 y2, LeO (passepartoutref05_power.l0 k y0 y1 y2) (passepartoutref05_power.l0 (k + 1) y0 y1 y2))
 | 0 => fun _ _ _ r h => by simp [passepartoutref05_power.l0] at h
 | k + 1 => by
  have ih0 := passepartoutref05_power.mono_l k
  ·intro y0 y1 y2
   unfold passepartoutref05_power.l0
   repeat' first
   | (with_reducible exact ih0 _ _ _)
   | (with_reducible exact LeO.refl _)
   | (with_reducible exact LeO.none _)
   | (with_reducible refine LeO.ite ?_ ?_)
   | (with_reducible refine LeO.bind ?_ (fun _ => ?_))
   | exact ih0 _ _ _
   | exact LeO.none _
   | refine LeO.ite ?_ ?_
   | refine LeO.bind ?_ (fun _ => ?_)
theorem passepartoutref05_power.mono : ∀ a0 k, LeO (passepartoutref05_power.f k a0) (passepartoutref05_power.f (k + 1) a0) := by
 intro a0 k
 have ih0 := passepartoutref05_power.mono_l k
 unfold passepartoutref05_power.f
 repeat' first
   | (with_reducible exact ih0 _ _ _)
   | (with_reducible exact LeO.refl _)
   | (with_reducible exact LeO.none _)
   | (with_reducible refine LeO.ite ?_ ?_)
   | (with_reducible refine LeO.bind ?_ (fun _ => ?_))
   | exact ih0 _ _ _
   | exact LeO.none _
   | refine LeO.ite ?_ ?_
   | refine LeO.bind ?_ (fun _ => ?_)
set_option maxHeartbeats 8000000 in
set_option maxRecDepth 100000 in
theorem passepartoutref05_power.calls (k : Nat) (a0 : Int) (r : Int) (w : World) (h : passepartoutref05_power.f k a0 = some r) :
  Calls Tryd.prog 44 #[.int .i64 a0] w fun e w' => e = .returned (.int .u64 r) ∧ Drawn0 w w' := by
 have H : (passepartoutref05_power.l0 k a0 1 0) = some r := h
 clear h
 have H' := Aside0.mk H
 clear H
 go_enter Tryd.func44, Tryd.ntmps44
 go_wp2
 go_loopg [3, 4] k (fun kq v3 v4 w' => ∃ (x3_1 : Int) (x4_1 : Int), v3 = .int .u64 x3_1 ∧ v4 = .int .i64 x4_1 ∧ Aside0 (passepartoutref05_power.l0 kq a0 x3_1 x4_1 = some r) ∧ Aside0 (kq ≤ k) ∧ Drawn0 w w')
 case atStart => exact ⟨(1), (0), (by first | rfl | (simp; done) | (simp [*]; done)), (by first | rfl | (simp; done) | (simp [*]; done)), H', ⟨Nat.le_refl _⟩, by repeat (first | exact Drawn0.refl _ | apply Drawn0.step)⟩
 case round =>
  clear H'
  obtain ⟨x3_1, x4_1, rfl, rfl, HA, HK1, ⟨m1, rfl⟩⟩ := hrel
  cases gk with
  | zero => exact absurd HA.out (by simp [passepartoutref05_power.l0])
  | succ k1 =>
   have H := HA.out
   clear HA
   simp only [passepartoutref05_power.l0] at H
   by_cases c2 : x4_1 < a0
   ·rw [if_pos c2] at H
    have c2b0 : decide (x4_1 < a0) = true := decide_eq_true c2
    clear c2
    have H' := Aside0.mk H
    clear H
    go_wp2
    go_roundg k1
    case measure => have := HK1.out; omega
    case rel => exact ⟨(IntKind.u64.wrap (x3_1 * 256)), (wrap64 (x4_1 + 1)), (by first | rfl | (simp; done) | (simp [*]; done)), (by first | rfl | (simp; done) | (simp [*]; done)), H', ⟨by have := HK1.out; omega⟩, by repeat (first | exact Drawn0.refl _ | apply Drawn0.step)⟩
   ·rw [if_neg c2] at H
    have c2b0 : decide (x4_1 < a0) = false := decide_eq_false c2
    clear c2
    obtain rfl := Option.some.inj H
    go_wp2
    go_ret
    exact ⟨by first | rfl | (simp; done) | (simp [*]; done), by repeat (first | exact Drawn0.refl _ | apply Drawn0.step)⟩

end Go.Proofs.YtdhnfccgojgehaaDoor.QP

namespace Go.Proofs.YtdhnfccgojgehaaDoor.QP
open Go.RowKit Go.Proofs.YtdhnfccgojgehaaDoorW.PrintWords Go.Proofs.YtdhnfccgojgehaaDoorW.PrintLast Go.Proofs.YtdhnfccgojgehaaDoorW.PrintMore
attribute [local go_sem] max2_int min2_int max_two min_two max_three min_three max_four min_four   -- for this text's walks alone
set_option linter.unusedVariables false
set_option linter.unusedSimpArgs false

/-! ### passepartoutref05_between: function 45 -/
def passepartoutref05_between.f (a0 : Int) (a1 : Int) (a2 : Int) (a3 : Int) : Option (Bool) := if a0 ≥ a1 then (if a0 ≤ a2 then (if a3 = 0 then (none) else (some ((Int.tmod a0 a3) == 0))) else (some false)) else (some false)
set_option maxHeartbeats 8000000 in
set_option maxRecDepth 100000 in
theorem passepartoutref05_between.calls (a0 : Int) (a1 : Int) (a2 : Int) (a3 : Int) (r : Bool) (w : World) (h : passepartoutref05_between.f a0 a1 a2 a3 = some r) :
  Calls Tryd.prog 45 #[.int .i64 a0, .int .i64 a1, .int .i64 a2, .int .i64 a3] w fun e w' => e = .returned (.bool r) ∧ Drawn0 w w' := by
 have H : (if a0 ≥ a1 then (if a0 ≤ a2 then (if a3 = 0 then (none) else (some ((Int.tmod a0 a3) == 0))) else (some false)) else (some false)) = some r := h
 clear h
 by_cases c5 : a0 ≥ a1
 ·rw [if_pos c5] at H
  have c5b0 : decide (a1 ≤ a0) = true := decide_eq_true c5
  clear c5
  by_cases c6 : a0 ≤ a2
  ·rw [if_pos c6] at H
   have c6b0 : decide (a0 ≤ a2) = true := decide_eq_true c6
   clear c6
   by_cases c7 : a3 = 0
   ·rw [if_pos c7] at H
    exact absurd H (by simp)
   ·rw [if_neg c7] at H
    have c7b0 : (a3 == 0) = false := beq_eq_false_iff_ne.mpr c7
    have c7b1 : (a3 != 0) = true := bne_iff_ne.mpr c7
    obtain rfl := Option.some.inj H
    go_enter Tryd.func45, Tryd.ntmps45
    go_wp2
    go_ret
    exact ⟨by first | rfl | (simp; done) | (simp [*]; done), by repeat (first | exact Drawn0.refl _ | apply Drawn0.step)⟩
  ·rw [if_neg c6] at H
   have c6b0 : decide (a0 ≤ a2) = false := decide_eq_false c6
   clear c6
   obtain rfl := Option.some.inj H
   go_enter Tryd.func45, Tryd.ntmps45
   go_wp2
   go_ret
   exact ⟨by first | rfl | (simp; done) | (simp [*]; done), by repeat (first | exact Drawn0.refl _ | apply Drawn0.step)⟩
 ·rw [if_neg c5] at H
  have c5b0 : decide (a1 ≤ a0) = false := decide_eq_false c5
  clear c5
  obtain rfl := Option.some.inj H
  go_enter Tryd.func45, Tryd.ntmps45
  go_wp2
  go_ret
  exact ⟨by first | rfl | (simp; done) | (simp [*]; done), by repeat (first | exact Drawn0.refl _ | apply Drawn0.step)⟩

end Go.Proofs.YtdhnfccgojgehaaDoor.QP
