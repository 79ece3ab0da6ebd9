/-
  BuilderActs: the walk.
-/
import Derived.Test.YtgndammlhljfjaaRb8
import Derived.Deep.RegionHeld3
import Derived.Deep.RegionWith
import Derived.Deep.CutRange
namespace Go.Proofs.Ytgndammlhljfjaa
open Go.RowKit
set_option linter.unusedSimpArgs false

/-- An act done, the world told from an earlier one on. -/
theorem DoP.at_ {ok : Nat → Prop} {g most : Nat} {bs : List UInt8} {ps : List (Nat × Nat)} {r : Int} {w w' : World} {e : Ending} (h : DoP ok g most (bs, ps, r) w e w') :
    e = .returned (.int .i64 r) ∧ Bld w' (fun i => (ok i ∨ w.heap.size ≤ i) ∧ i < w'.heap.size) g bs most ps ∧ Kp ok w w' :=
  ⟨h.1, h.2.1.mono (fun i h1 h2 => ⟨h2, h1⟩), h.2.2⟩
theorem RBStep.at_ {ok : Nat → Prop} {h most : Nat} {parts : List (List UInt8)} {sizes : List Nat} {r : Int} {w w' : World} {e : Ending} (hs : RBStep ok h most parts sizes r w e w') :
    e = .returned (.int .i64 r) ∧ RB w' (fun i => (ok i ∨ w.heap.size ≤ i) ∧ i < w'.heap.size) h most parts sizes ∧ Kp ok w w' :=
  ⟨hs.1, hs.2.1.mono (fun i h1 h2 => ⟨h2, h1⟩), hs.2.2⟩

theorem cells5 {w : World} {g : Nat} {t : TypeId} {a b c d e : Value} (h : Blk w g t #[a, b, c, d, e]) : w.cell? ⟨g, 0, none⟩ = some a ∧ w.cell? ⟨g, 1, none⟩ = some b ∧ w.cell? ⟨g, 2, none⟩ = some c ∧ w.cell? ⟨g, 3, none⟩ = some d ∧ w.cell? ⟨g, 4, none⟩ = some e :=
  ⟨h.cell 0, h.cell 1, h.cell 2, h.cell 3, h.cell 4⟩

theorem wpAnyH_more {P : Program} {md : Region.Mode} {ops : Array Oper} {Q : Exit → Go.Act → World → Prop} {S S' : World → Prop} (hs : ∀ w, S' w → S w) :
    ∀ {fuel : Nat} {listed : Array Bool} {a : Go.Act} {w : World}, wpAnyH P md ops Q S' fuel listed a w → wpAnyH P md ops Q S fuel listed a w
  | 0, _, _, _, h => h
  | _ + 1, _, _, _, h => ⟨h.1, fun i hi => wpOp_mono (fun _ _ h' => ⟨hs _ h'.1, wpAnyH_more hs h'.2⟩) (h.2 i hi)⟩

theorem max_mod (most : Int) : ∃ n : Nat, (if 0 < most then most else 0) % 2000 = (n : Int) ∧ n ≤ 2000 := by
  refine ⟨((if 0 < most then most else 0) % 2000).toNat, ?_, ?_⟩
  · split <;> omega
  · split <;> omega

set_option maxRecDepth 100000 in
set_option maxHeartbeats 3200000 in
theorem bacts_walk (w : World) (most : Int) (hmw : (Lit.int .i64 most).wf = true) (v : Value) (l : List AV) (hv : ARow w (· < w.heap.size) v l) :
    Calls Try.prog 11 #[.int .i64 most, v] w fun e w' => e = .returned (.bool true) ∧ Below w.heap.size w w' := by
  obtain ⟨⟨A, c, rfl, hlc, hr⟩, hall⟩ := id hv
  cases hgr : greatB l
  · obtain ⟨h60, h300⟩ := great_no hgr
    have HALL := Lib.hid hall
    have HV := Lib.hid hv
    have HGR := Lib.hid hgr
    obtain ⟨n, hn, hn2000⟩ := max_mod most
    obtain ⟨q0, q1⟩ := bounds_i64 hmw
    clear hall hv hgr h300 hmw
    have hnew : ∀ W (x : Int), x = n → Calls Try.prog 26 #[.int .i64 x] W fun e w' => ∃ g, e = .returned (.tuple #[.pointer (some ⟨g, 0, none⟩), .int .i64 0]) ∧ W.heap.size ≤ g ∧ Bld w' (· = g) g [] n [] ∧ Kp (fun _ => False) W w' := by
      rintro W x rfl
      exact bnew_ok n (by omega) W
    have hrnew : ∀ W (x : Int), x = n → Calls Try.prog 34 #[.int .i64 x] W fun e w' => ∃ h, e = .returned (.pointer (some ⟨h, 0, none⟩)) ∧ W.heap.size ≤ h ∧ RB w' (W.heap.size ≤ ·) h n [[]] [] ∧ Kp (fun _ => False) W w' := by
      rintro W x rfl
      exact rbnew n W
    have HNEW := Lib.hid hnew
    have HRNEW := Lib.hid hrnew
    have HN := Lib.hid hn
    clear hnew hrnew
    clear hn
    go_enter Try.func11, Try.ntmps11
    go_upto_region 4 with (first | (go_at_call 27; ((with_reducible refine (alive02 _).mono ?_); rintro e w1 ⟨rfl, hk1⟩)) | (go_at_call 33; ((refine (great02 _ _ _ l (HV.out.kp hk1 (fun _ _ h => h))).mono ?_); rw [HGR.out]; rintro e w2 ⟨rfl, hk2⟩)))
    rw [HN.out]
    generalize (if 0 < most then most else 0) = mx
    have hkk2 := hk1.then_ hk2 (fun _ h => h.elim)
    go_wp2_with fail
    refine (HNEW.out _ _ rfl).mono ?_
    rintro e w3 ⟨g, rfl, hg, hb3, hk3⟩
    have hkk3 := hkk2.then_ hk3 (fun _ h => h.elim)
    have hz2 := hkk2.size
    have HB3 := Lib.hid hb3
    clear hb3
    go_wp2_with fail
    refine (HRNEW.out _ _ rfl).mono ?_
    rintro e w4 ⟨h, rfl, hh, hr4, hk4⟩
    have hkk4 := hkk3.then_ hk4 (fun _ h => h.elim)
    have hr4' := hr4.mono (ok' := fun i => w3.heap.size ≤ i ∧ i < w4.heap.size) (fun i h1 h2 => ⟨h2, h1⟩)
    have hb4 := HB3.out.kp_new hk4
    have hz3 := hkk3.size
    have hz4 := hk4.size
    have hgl := HB3.out.lt
    have HB4 := Lib.hid hb4
    have HR4 := Lib.hid hr4'
    clear hb4 hr4 hr4'
    go_wp2_with fail
    go_loopw [38] (fun i wr => ∃ (k : Nat) (fr : List (List UInt8 × Nat)) (L : List UInt8) (OB OR : Nat → Prop), k ≤ l.length ∧ i = .int .i64 k ∧ FrOk fr ∧ fr.length ≤ k ∧ (∀ i, OR i → ¬ OB i) ∧ (∀ i, OB i → w.heap.size ≤ i ∧ i < wr.heap.size) ∧ (∀ i, OR i → w.heap.size ≤ i ∧ i < wr.heap.size) ∧ Bld wr OB g (bsF fr L) n (psF fr) ∧ RB wr OR h n (partsF fr L) (sizesF fr) ∧ Kp (fun _ => False) w wr) (fun i _ => l.length - (intOf i).toNat)
    case atStart => exact ⟨0, [], [], (· = g), (fun i => w3.heap.size ≤ i ∧ i < w4.heap.size), Nat.zero_le _, rfl, fun p hp => by simp at hp, Nat.le_refl _, fun i hi e => by omega, fun i hi => by subst hi; exact ⟨by omega, by omega⟩, fun i hi => ⟨by omega, hi.2⟩, HB4.out, HR4.out, hkk4⟩
    case round =>
      obtain ⟨k, fr, L, OB, OR, hk, rfl, hfo, hfk, hdis, hob, hor, hbr, hrr, hkr⟩ := hrel
      have HD := Lib.hid hdis
      have HOB := Lib.hid hob
      have HOR := Lib.hid hor
      have HFO := Lib.hid hfo
      clear hdis hob hor hfo
      by_cases hlt : k < l.length
      · have hr' := hr.kp hkr (fun _ _ h => h)
        obtain ⟨b, off, rfl, hb, hcell⟩ := hr'.row (fun _ => rfl) hlt
        have hOk := HALL.out _ (List.getElem_mem hlt)
        obtain ⟨a, ha⟩ : ∃ a, l[k] = a := ⟨_, rfl⟩
        rw [ha] at hcell hOk
        obtain ⟨K, S, N, X, V, B⟩ := a
        have HOK := Lib.hid hOk
        obtain ⟨⟨Ab, cb, hVb, hlcb, hrb⟩, hX, _⟩ := hOk
        simp only at hVb hlcb hrb hX
        subst hVb
        have hc0 : wr.cell? ⟨b, off + k * 5, none⟩ = some (.int .i64 K) := hcell 0 _ rfl
        have hc1 : wr.cell? ⟨b, off + k * 5 + 1, none⟩ = some (.int .i64 S) := hcell 1 _ rfl
        have hc2 : wr.cell? ⟨b, off + k * 5 + 2, none⟩ = some (.int .i64 N) := hcell 2 _ rfl
        have hc3 : wr.cell? ⟨b, off + k * 5 + 3, none⟩ = some (.int .u64 X) := hcell 3 _ rfl
        have hc4 : wr.cell? ⟨b, off + k * 5 + 4, none⟩ = some (.slice Ab B.length cb) := hcell 4 _ rfl
        have hka : Kp (fun _ => False) wr (wr.alloc (.cells #[.int .i64 K, .int .i64 S, .int .i64 N, .int .u64 X, .slice Ab B.length cb] 67)) := (Kp.refl _ _).alloc _
        have hkra := hkr.then_ hka (fun _ h => h.elim)
        have hbk := Blk.new wr 67 #[.int .i64 K, .int .i64 S, .int .i64 N, .int .u64 X, .slice Ab B.length cb]
        have hlenB : (bsF fr L).length ≤ n := hbr.2.1
        have hrel := stepF_rel n fr L ⟨K, S, N, X, .slice Ab B.length cb, B⟩
        have hnext := stepF_ok (most := n) (fr := fr) (L := L) (a := ⟨K, S, N, X, .slice Ab B.length cb, B⟩) HFO.out
        have hps := ps_ok HFO.out L
        have hpl := psF_len fr
        have hdo := fun (W : World) (hk : Kp (fun _ => False) wr W) => do_any OB (· < w.heap.size) g (bsF fr L) n (psF fr) ⟨K, S, N, X, .slice Ab B.length cb, B⟩ W (hbr.kp_new hk) hps (by omega) (HOK.out.kp (hkr.then_ hk (fun _ h => h.elim)) (fun _ _ h => h))
        have hmo := fun (W W' : World) (hk : Kp (fun _ => False) wr W) (hk' : Kp OB W W') => model_any OR (· < w.heap.size) h fr L n ⟨K, S, N, X, .slice Ab B.length cb, B⟩ W' ((hrr.kp hk (fun _ _ h => h)).kp hk' (fun i hi h => HD.out i hi h)) HFO.out (by omega) hlenB (by omega) ((HOK.out.kp (hkr.then_ hk (fun _ h => h.elim)) (fun _ _ h => h)).kp hk' (fun i hi h => by have := HOB.out i h; omega))
        generalize stepF n fr L _ = st at hrel hnext hmo
        rw [hrel] at hdo
        obtain ⟨fr', L', r⟩ := st
        simp only at hdo hmo hnext
        have hlf := lenF fr' L'
        have hpf := psF_len fr'
        have hsf : (sizesF fr').length = fr'.length := by simp [sizesF]
        have hpp : (partsF fr' L').length = fr'.length + 1 := by simp [partsF]
        obtain ⟨T, hT⟩ : ∃ T, (bsF fr' L').length = T := ⟨_, rfl⟩
        obtain ⟨D, hD⟩ : ∃ D, fr'.length = D := ⟨_, rfl⟩
        rw [hD] at hpf hsf hpp
        rw [hT] at hlf
        have HLF := Lib.hid hlf
        have HPF := Lib.hid hpf
        have HSF := Lib.hid hsf
        have HPP := Lib.hid hpp
        have HT := Lib.hid hT
        have HDD := Lib.hid hD
        have HDO := Lib.hid hdo
        have HMO := Lib.hid hmo
        have HNX := Lib.hid hnext
        have HKRA := Lib.hid hkra
        have HKA := Lib.hid hka
        clear hrel hnext hps hpl hdo hmo hlf hpf hsf hpp hT hD hrb hcell hka hkra hb hrr hbr ha
        have hbkd := hbk.drew
        go_upto_region 11 with fail
        refine wp_region_noPanic ?_
        refine wp_region_held_drew (S := (fun w' : World => w'.cell? ⟨wr.heap.size, 0, none⟩ = some (.int .i64 K) ∧ w'.cell? ⟨wr.heap.size, 1, none⟩ = some (.int .i64 S) ∧ w'.cell? ⟨wr.heap.size, 2, none⟩ = some (.int .i64 N) ∧ w'.cell? ⟨wr.heap.size, 3, none⟩ = some (.int .u64 X) ∧ w'.cell? ⟨wr.heap.size, 4, none⟩ = some (.slice Ab B.length cb))) (by kernel_rfl) (cells5 hbkd) (fun hHeld => ?_)
        refine wpAnyH_take (i := 0) (v := ?v0) (by simp only [List.getElem?_toArray, List.getElem?_cons_succ, List.getElem?_cons_zero]; rfl) (by kernel_rfl) (by kernel_rfl) (by kernel_rfl) (fun _ _ _ h => h) (Or.inl ⟨by rfl, ?hy0⟩) (by assumption) ?rest0
        case hy0 => (intro w hSw; (try dsimp only at hSw); go_simp; (try with_reducible rfl))
        try simp only [Act.put, List.setIfInBounds_toArray, List.set_cons_zero, List.set_cons_succ]
        refine wpAnyH_take (i := 1) (v := ?v1) (by simp only [List.getElem?_toArray, List.getElem?_cons_succ, List.getElem?_cons_zero]; rfl) (by kernel_rfl) (by kernel_rfl) (by kernel_rfl) (fun _ _ _ h => h) (Or.inl ⟨by rfl, ?hy1⟩) (by assumption) ?rest1
        case hy1 => (intro w hSw; (try dsimp only at hSw); go_simp; (try with_reducible rfl))
        try simp only [Act.put, List.setIfInBounds_toArray, List.set_cons_zero, List.set_cons_succ]
        refine wpAnyH_take (i := 3) (v := ?v3) (by simp only [List.getElem?_toArray, List.getElem?_cons_succ, List.getElem?_cons_zero]; rfl) (by kernel_rfl) (by kernel_rfl) (by kernel_rfl) (fun _ _ _ h => h) (Or.inl ⟨by rfl, ?hy3⟩) (by assumption) ?rest3
        case hy3 => (intro w hSw; (try dsimp only at hSw); go_simp; (try with_reducible rfl))
        try simp only [Act.put, List.setIfInBounds_toArray, List.set_cons_zero, List.set_cons_succ]
        refine wpAnyH_take (i := 4) (v := ?v4) (by simp only [List.getElem?_toArray, List.getElem?_cons_succ, List.getElem?_cons_zero]; rfl) (by kernel_rfl) (by kernel_rfl) (by kernel_rfl) (fun _ _ _ h => h) (Or.inl ⟨by rfl, ?hy4⟩) (by assumption) ?rest4
        case hy4 => (intro w hSw; (try dsimp only at hSw); go_simp; (try with_reducible rfl))
        try simp only [Act.put, List.setIfInBounds_toArray, List.set_cons_zero, List.set_cons_succ]
        refine wpAnyH_ready (rs := [2]) (by kernel_rfl) (by simp) ?_
        refine AllReadyH.cons (o := _) rfl (fun K hK => ?_) AllReadyH.nil
        go_simp
        refine (HDO.out _ HKA.out.drew).mono ?_
        intro e w5 hst5
        obtain ⟨rfl, hb5, hk5⟩ := hst5.at_
        have hz5 := hk5.size
        have HK5 := Lib.hid hk5
        have hbk5 := hbkd.kp hk5 (fun h => by have := (HOB.out _ h).2; omega)
        have hd := Lib.hid (cells5 hbk5)
        have HBK5 := Lib.hid hbk5
        have HB5 := Lib.hid hb5
        clear hb5 hbk5 hk5 hst5
        dsimp only
        refine hK.out _ _ hd.out (fun hHeld => ?_)
        clear hK K
        refine wpAnyH_ready (rs := [5]) (by kernel_rfl) (by simp) ?_
        refine AllReadyH.cons (o := _) rfl (fun K hK => ?_) AllReadyH.nil
        go_simp
        refine (HMO.out _ _ HKA.out.drew HK5.out).mono ?_
        intro e w6 hst6
        obtain ⟨rfl, hr6, hk6⟩ := hst6.at_
        have hz6 := hk6.size
        have hb6 := HB5.out.kp hk6 (fun i hi h => hi.1.elim (fun hi => HD.out i h hi) (fun hi => by have := HOR.out i h; simp at hi; omega))
        have HR6 := Lib.hid hr6
        have HK6 := Lib.hid hk6
        have HB6 := Lib.hid hb6
        obtain ⟨As, cs, hsz⟩ := rb_sizes hr6
        rw [HSF.out] at hsz
        have HSZ := Lib.hid hsz
        have he := Lib.hid (cells5 (HBK5.out.kp hk6 (fun h => by have := (HOR.out _ h).2; omega)))
        clear hr6 hk6 hb6 hst6 hsz
        dsimp only
        refine hK.out _ _ he.out (fun hHeld => ?_)
        clear hK K
        refine wpAnyH_take (i := 6) (v := ?v6) (by simp only [List.getElem?_toArray, List.getElem?_cons_succ, List.getElem?_cons_zero]; rfl) (by kernel_rfl) (by kernel_rfl) (by kernel_rfl) (fun _ _ _ h => h) (Or.inl ⟨by rfl, ?hy6⟩) (by assumption) ?rest6
        case hy6 => (intro w hSw; (try dsimp only at hSw); go_simp; (try with_reducible rfl))
        try simp only [Act.put, List.setIfInBounds_toArray, List.set_cons_zero, List.set_cons_succ]
        refine wpAnyH_take (i := 7) (v := ?v7) (by simp only [List.getElem?_toArray, List.getElem?_cons_succ, List.getElem?_cons_zero]; rfl) (by kernel_rfl) (by kernel_rfl) (by kernel_rfl) (fun _ _ _ h => h) (Or.inl ⟨by rfl, ?hy7⟩) (by assumption) ?rest7
        case hy7 => (intro w hSw; (try dsimp only at hSw); go_simp; (try with_reducible rfl))
        try simp only [Act.put, List.setIfInBounds_toArray, List.set_cons_zero, List.set_cons_succ]
        refine wpAnyH_take (i := 8) (v := ?v8) (by simp only [List.getElem?_toArray, List.getElem?_cons_succ, List.getElem?_cons_zero]; rfl) (by kernel_rfl) (by kernel_rfl) (by kernel_rfl) (fun _ _ _ h => h) (Or.inl ⟨by rfl, ?hy8⟩) (by assumption) ?rest8
        case hy8 => (intro w hSw; (try dsimp only at hSw); go_simp; (try with_reducible rfl))
        try simp only [Act.put, List.setIfInBounds_toArray, List.set_cons_zero, List.set_cons_succ]
        refine wpAnyH_take (i := 10) (v := ?v10) (by simp only [List.getElem?_toArray, List.getElem?_cons_succ, List.getElem?_cons_zero]; rfl) (by kernel_rfl) (by kernel_rfl) (by kernel_rfl) (fun _ _ _ h => h) (Or.inl ⟨by rfl, ?hy10⟩) (by assumption) ?rest10
        case hy10 => (intro w hSw; (try dsimp only at hSw); go_simp; (try with_reducible rfl))
        try simp only [Act.put, List.setIfInBounds_toArray, List.set_cons_zero, List.set_cons_succ]
        refine wpAnyH_ready (rs := [9]) (by kernel_rfl) (by simp) ?_
        refine AllReadyH.cons (o := _) rfl (fun K hK => ?_) AllReadyH.nil
        go_simp
        refine (blen_any _ g _ _ _ _ HB6.out).mono ?_
        rw [HT.out]
        rintro e w' ⟨rfl, rfl⟩
        dsimp only
        refine hK.out _ _ he.out (fun hHeld => ?_)
        clear hK K
        refine wpAnyH_ready (rs := [11]) (by kernel_rfl) (by simp) ?_
        refine AllReadyH.cons (o := _) rfl (fun K hK => ?_) AllReadyH.nil
        go_simp
        refine (rblen _ h n _ _ _ HR6.out (by rw [HLF.out, ← HT.out]; have := HB6.out.2.1; omega) (by rw [HPP.out, ← HDD.out]; have := HNX.out.2; omega) (by rw [HSF.out, ← HDD.out]; have := HNX.out.2; omega)).mono ?_
        rw [HLF.out]
        rintro e w' ⟨rfl, rfl⟩
        dsimp only
        refine hK.out _ _ he.out (fun hHeld => ?_)
        clear hK K
        refine wpAnyH_take (i := 12) (v := ?v12) (by simp only [List.getElem?_toArray, List.getElem?_cons_succ, List.getElem?_cons_zero]; rfl) (by kernel_rfl) (by kernel_rfl) (by kernel_rfl) (fun _ _ _ h => h) (Or.inl ⟨by rfl, ?hy12⟩) (by assumption) ?rest12
        case hy12 => (intro w hSw; (try dsimp only at hSw); go_simp; (try with_reducible rfl))
        try simp only [Act.put, List.setIfInBounds_toArray, List.set_cons_zero, List.set_cons_succ]
        refine wpAnyH_take (i := 13) (v := ?v13) (by simp only [List.getElem?_toArray, List.getElem?_cons_succ, List.getElem?_cons_zero]; rfl) (by kernel_rfl) (by kernel_rfl) (by kernel_rfl) (fun _ _ _ h => h) (Or.inl ⟨by rfl, ?hy13⟩) (by assumption) ?rest13
        case hy13 => (intro w hSw; (try dsimp only at hSw); go_simp; (try with_reducible rfl))
        try simp only [Act.put, List.setIfInBounds_toArray, List.set_cons_zero, List.set_cons_succ]
        refine wpAnyH_take (i := 14) (v := ?v14) (by simp only [List.getElem?_toArray, List.getElem?_cons_succ, List.getElem?_cons_zero]; rfl) (by kernel_rfl) (by kernel_rfl) (by kernel_rfl) (fun _ _ _ h => h) (Or.inl ⟨by rfl, ?hy14⟩) (by assumption) ?rest14
        case hy14 => (intro w hSw; (try dsimp only at hSw); go_simp; (try with_reducible rfl))
        try simp only [Act.put, List.setIfInBounds_toArray, List.set_cons_zero, List.set_cons_succ]
        refine wpAnyH_take (i := 15) (v := ?v15) (by simp only [List.getElem?_toArray, List.getElem?_cons_succ, List.getElem?_cons_zero]; rfl) (by kernel_rfl) (by kernel_rfl) (by kernel_rfl) (fun _ _ _ h => h) (Or.inl ⟨by rfl, ?hy15⟩) (by assumption) ?rest15
        case hy15 => (intro w hSw; (try dsimp only at hSw); go_simp; (try with_reducible rfl))
        try simp only [Act.put, List.setIfInBounds_toArray, List.set_cons_zero, List.set_cons_succ]
        refine wpAnyH_take (i := 17) (v := ?v17) (by simp only [List.getElem?_toArray, List.getElem?_cons_succ, List.getElem?_cons_zero]; rfl) (by kernel_rfl) (by kernel_rfl) (by kernel_rfl) (fun _ _ _ h => h) (Or.inl ⟨by rfl, ?hy17⟩) (by assumption) ?rest17
        case hy17 => (intro w hSw; (try dsimp only at hSw); go_simp; (try with_reducible rfl))
        try simp only [Act.put, List.setIfInBounds_toArray, List.set_cons_zero, List.set_cons_succ]
        refine wpAnyH_take (i := 18) (v := ?v18) (by simp only [List.getElem?_toArray, List.getElem?_cons_succ, List.getElem?_cons_zero]; rfl) (by kernel_rfl) (by kernel_rfl) (by kernel_rfl) (fun _ _ _ h => h) (Or.inl ⟨by rfl, ?hy18⟩) (by assumption) ?rest18
        case hy18 => (intro w hSw; (try dsimp only at hSw); go_simp; (try with_reducible rfl))
        try simp only [Act.put, List.setIfInBounds_toArray, List.set_cons_zero, List.set_cons_succ]
        refine wpAnyH_take (i := 19) (v := ?v19) (by simp only [List.getElem?_toArray, List.getElem?_cons_succ, List.getElem?_cons_zero]; rfl) (by kernel_rfl) (by kernel_rfl) (by kernel_rfl) (fun _ _ _ h => h) (Or.inl ⟨by rfl, ?hy19⟩) (by assumption) ?rest19
        case hy19 => (intro w hSw; (try dsimp only at hSw); go_simp; (try with_reducible rfl))
        try simp only [Act.put, List.setIfInBounds_toArray, List.set_cons_zero, List.set_cons_succ]
        refine wpAnyH_more (S' := (fun w' : World => (w'.cell? ⟨wr.heap.size, 0, none⟩ = some (.int .i64 K) ∧ w'.cell? ⟨wr.heap.size, 1, none⟩ = some (.int .i64 S) ∧ w'.cell? ⟨wr.heap.size, 2, none⟩ = some (.int .i64 N) ∧ w'.cell? ⟨wr.heap.size, 3, none⟩ = some (.int .u64 X) ∧ w'.cell? ⟨wr.heap.size, 4, none⟩ = some (.slice Ab B.length cb)) ∧ w'.cell? ⟨h, 2, none⟩ = some (.slice As D cs))) (fun _ h => h.1) ?_
        have hHeld2 : ((fun w' : World => (w'.cell? ⟨wr.heap.size, 0, none⟩ = some (.int .i64 K) ∧ w'.cell? ⟨wr.heap.size, 1, none⟩ = some (.int .i64 S) ∧ w'.cell? ⟨wr.heap.size, 2, none⟩ = some (.int .i64 N) ∧ w'.cell? ⟨wr.heap.size, 3, none⟩ = some (.int .u64 X) ∧ w'.cell? ⟨wr.heap.size, 4, none⟩ = some (.slice Ab B.length cb)) ∧ w'.cell? ⟨h, 2, none⟩ = some (.slice As D cs))) _ := ⟨hHeld, HSZ.out⟩
        clear hHeld
        refine wpAnyH_take (i := 20) (v := ?v20) (by simp only [List.getElem?_toArray, List.getElem?_cons_succ, List.getElem?_cons_zero]; rfl) (by kernel_rfl) (by kernel_rfl) (by kernel_rfl) (fun _ _ _ h => h) (Or.inl ⟨by rfl, ?hy20⟩) (by assumption) ?rest20
        case hy20 => (intro w hSw; (try dsimp only at hSw); go_simp; (try with_reducible rfl))
        try simp only [Act.put, List.setIfInBounds_toArray, List.set_cons_zero, List.set_cons_succ]
        refine wpAnyH_take (i := 21) (v := ?v21) (by simp only [List.getElem?_toArray, List.getElem?_cons_succ, List.getElem?_cons_zero]; rfl) (by kernel_rfl) (by kernel_rfl) (by kernel_rfl) (fun _ _ _ h => h) (Or.inl ⟨by rfl, ?hy21⟩) (by assumption) ?rest21
        case hy21 => (intro w hSw; (try dsimp only at hSw); go_simp; (try with_reducible rfl))
        try simp only [Act.put, List.setIfInBounds_toArray, List.set_cons_zero, List.set_cons_succ]
        refine wpAnyH_ready (rs := [16]) (by kernel_rfl) (by simp) ?_
        refine AllReadyH.cons (o := _) rfl (fun K hK => ?_) AllReadyH.nil
        go_simp
        refine (bdeep_any _ g _ _ _ _ HB6.out).mono ?_
        rw [HPF.out]
        rintro e w' ⟨rfl, rfl⟩
        dsimp only
        refine hK.out _ _ ⟨he.out, HSZ.out⟩ (fun hHeld => ?_)
        clear hK K
        refine wpAnyH_take (i := 22) (v := ?v22) (by simp only [List.getElem?_toArray, List.getElem?_cons_succ, List.getElem?_cons_zero]; rfl) (by kernel_rfl) (by kernel_rfl) (by kernel_rfl) (fun _ _ _ h => h) (Or.inl ⟨by rfl, ?hy22⟩) (by assumption) ?rest22
        case hy22 => (intro w hSw; (try dsimp only at hSw); go_simp; (try with_reducible rfl))
        try simp only [Act.put, List.setIfInBounds_toArray, List.set_cons_zero, List.set_cons_succ]
        refine wpAnyH_take (i := 23) (v := ?v23) (by simp only [List.getElem?_toArray, List.getElem?_cons_succ, List.getElem?_cons_zero]; rfl) (by kernel_rfl) (by kernel_rfl) (by kernel_rfl) (fun _ _ _ h => h) (Or.inl ⟨by rfl, ?hy23⟩) (by assumption) ?rest23
        case hy23 => (intro w hSw; (try dsimp only at hSw); go_simp; (try with_reducible rfl))
        try simp only [Act.put, List.setIfInBounds_toArray, List.set_cons_zero, List.set_cons_succ]
        refine wpAnyH_done (by kernel_rfl) ?_ _
        all_goals
          refine NoPanic.normal ?_
          go_wp2_with fail
          go_roundw
          case rel =>
            have hwk := hkr.size
            simp at hz5
            refine ⟨k + 1, fr', L', (fun i => (OB i ∨ (wr.alloc (.cells #[.int .i64 K, .int .i64 S, .int .i64 N, .int .u64 X, .slice Ab B.length cb] 67)).drew.heap.size ≤ i) ∧ i < w5.heap.size), (fun i => (OR i ∨ w5.heap.size ≤ i) ∧ i < w6.heap.size), by omega, by go_num, HNX.out.1, by have := HNX.out.2; omega, fun i hi hj => ?_, fun i hi => ?_, fun i hi => ?_, HB6.out, HR6.out, ?_⟩
            · rcases hi.1 with h1 | h1
              · rcases hj.1 with h2 | h2
                · exact HD.out i h1 h2
                · have := HOR.out i h1; simp at h2; omega
              · have := hj.2; omega
            · rcases hi.1 with h1 | h1
              · exact ⟨(HOB.out i h1).1, by omega⟩
              · simp at h1; exact ⟨by omega, by omega⟩
            · rcases hi.1 with h1 | h1
              · exact ⟨(HOR.out i h1).1, hi.2⟩
              · exact ⟨by omega, hi.2⟩
            · exact (HKRA.out.drew.then_ HK5.out (fun i hi => .inr (HOB.out i hi).1)).then_ HK6.out (fun i hi => .inr (HOR.out i hi).1)
          case measure => simp [intOf]; omega
      · obtain rfl : k = l.length := by omega
        have hpf := psF_len fr
        have hlf := lenF fr L
        have hsf : (sizesF fr).length = fr.length := by simp [sizesF]
        obtain ⟨As, cs, hsz⟩ := rb_sizes hrr
        rw [hsf] at hsz
        have HBR := Lib.hid hbr
        have HRR := Lib.hid hrr
        have HPF := Lib.hid hpf
        clear hbr hrr hlf hsf hpf HB4 HR4 HALL HV
        rcases hfr : fr with _ | ⟨p, fr2⟩
        · subst hfr
          have hb0 : Bld wr OB g L n [] := HBR.out
          have hr0 : RB wr OR h n [L] [] := HRR.out
          obtain ⟨gp, cp, AL, cL, hf1, hf2, hbL⟩ := rb_first hr0
          have HB0 := Lib.hid hb0
          have HBL := Lib.hid hbL
          clear HBR HRR hb0 hr0 hbL
          go_wp2_with fail
          refine (bdone_any OB g L n _ HB0.out).mono ?_
          rintro e w8 ⟨A8, c8, rfl, hc8, hy8, hb8, hk8⟩
          have hd2 := hk8.cell hsz (fun h => h)
          have hd1 := hk8.cell hf1 (fun h => h)
          have hdg := hk8.cell hf2 (fun h => h)
          have hs1 : ∀ q, (convert 22 9 (.slice A8 L.length c8)).run Try.prog (w8.drewN q) = .ok (.string (str L)) (w8.drewN q) := fun q => run_str (e := 5) Try.underlying22 Try.underlying5 Try.underlying9 (hy8.kp ((Kp.refl (fun _ => False) w8).drewN q) (fun _ _ h => h))
          have hs2 : ∀ q, (convert 22 9 (.slice AL L.length cL)).run Try.prog (w8.drewN q) = .ok (.string (str L)) (w8.drewN q) := fun q => run_str (e := 5) Try.underlying22 Try.underlying5 Try.underlying9 ((HBL.out.kp hk8 (fun _ _ h => h)).kp ((Kp.refl (fun _ => False) w8).drewN q) (fun _ _ h => h))
          generalize str L = gs at hs1 hs2
          have hkk8 := hkr.then_ hk8 (fun _ h => h.elim)
          clear hb8 hy8 hf1 hf2 hsz
          go_wp2_with fail
          go_quiet (fail)
          go_wp2_with fail
          go_ret
          exact ⟨by simp, (hkk8.drewN _).below⟩
        · have hne : psF fr ≠ [] := by
            intro e
            have := HPF.out
            rw [e, hfr] at this
            simp at this
          have hlt2 : decide ((0 : Int) < (fr.length : Int)) = true := by rw [hfr]; simp
          have hlt3 : 0 < fr.length := by rw [hfr]; simp
          have hlt4 : (0 : Int) < (fr.length : Int) := by omega
          have HNE := Lib.hid hne
          clear hne hfr
          go_wp2_with fail
          refine (bdone_open OB g _ _ _ _ HBR.out HNE.out).mono ?_
          rintro e w8 ⟨rfl, rfl⟩
          go_wp2_with fail
          go_ret
          exact ⟨by simp, hkr.below⟩
  · go_enter Try.func11, Try.ntmps11
    go_wp2_with fail
    refine (alive02 _).mono ?_
    rintro e w1 ⟨rfl, hk1⟩
    go_wp2_with fail
    refine (great02 _ _ _ l (hv.kp hk1 (fun _ _ h => h))).mono ?_
    rw [hgr]
    rintro e w2 ⟨rfl, hk2⟩
    go_wp2_with fail
    refine (alive02 _).mono ?_
    rintro e w3 ⟨rfl, hk3⟩
    go_wp2_with fail
    go_ret
    exact ⟨rfl, ((hk1.then_ hk2 (fun _ h => h.elim)).then_ hk3 (fun _ h => h.elim)).below⟩
end Go.Proofs.Ytgndammlhljfjaa
