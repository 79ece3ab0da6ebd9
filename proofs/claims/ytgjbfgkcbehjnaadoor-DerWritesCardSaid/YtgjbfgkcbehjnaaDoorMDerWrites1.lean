/-
  The law DerWrites: for every input it returns true, and its arguments read behind the call as before it. No condition.
-/
import Derived.Test.YtgjbfgkcbehjnaaDoorRows
import Derived.Test.YtgjbfgkcbehjnaaDoorCards
import Derived.Test.YtgjbfgkcbehjnaaDoorTie
import Derived.SevenTiedAt
import Derived.ProofKit
import Derived.LaidMore
import Derived.Stop.Joined
import Derived.Test.YtgjbfgkcbehjnaaDoorBX1
import Derived.Test.YtgjbfgkcbehjnaaDoorBY1

set_option linter.unusedVariables false
set_option linter.unusedSimpArgs false
namespace Go.Proofs.YtgjbfgkcbehjnaaDoor
open Go.RowKit

set_option maxRecDepth 100000 in
set_option maxHeartbeats 3200000 in
theorem dwrites_walk (w : World) (tab : TabN w) (v : Value) (x : Nd) (hv : NdR w (· < w.heap.size) v x) :
    Calls Tryd.prog 12 #[v] w fun e w' => e = .returned (.bool true) ∧ Below w.heap.size w w' := by
  refine Calls.mono (R := fun e w' => e = .returned (.bool true) ∧ Kp (fun _ => False) w w') ?_ fun _ _ ⟨h1, h2⟩ => ⟨h1, h2.below⟩
  obtain ⟨⟨c, t, m, B⟩, l⟩ := x
  obtain ⟨A1, c1, A2, c2, rfl, _⟩ := hv.parts
  have ka : Kp (fun _ => False) w (w.alloc (.cells #[.int .i64 c, .int .i64 t, .bool m, .slice A1 B.length c1, .slice A2 l.length c2] 25)) := (Kp.refl _ _).alloc _
  have hq1 := Blk.new w 25 #[.int .i64 c, .int .i64 t, .bool m, .slice A1 B.length c1, .slice A2 l.length c2]
  have HT := Lib.hid (fun W (hk : Kp (fun _ => False) w W) => tab.kp0 hk)
  have HV := Lib.hid (fun W (hk : Kp (fun _ => False) w W) => hv.kp hk (fun _ _ h => h))
  have HKA := Lib.hid ka
  have HQ1 := Lib.hid hq1
  have HGR := Lib.hid (fun W (hk : Kp (fun _ => False) w W) => great_anyN (fun _ => True) (.slice (some ⟨W.heap.size, 0, none⟩) 1 1) [.mk ⟨c, t, m, B⟩ l] (W.alloc (.cells #[.int .i64 c, .int .i64 t, .bool m, .slice A1 B.length c1, .slice A2 l.length c2] 25))
    (NsR.one (vs := [.int .i64 c, .int .i64 t, .bool m, .slice A1 B.length c1, .slice A2 l.length c2]) (Blk.new W 25 _) (TR.kp_ NHd_kp ((Kp.refl (fun _ => False) W).alloc _) (fun _ _ h => h) (fun _ h => h) _ _ (hv.kp hk (fun _ _ h => h)).tr5)))
  have hgt := great_tot (l := [.mk ⟨c, t, m, B⟩ l])
  have HGT := Lib.hid hgt
  generalize greatN [.mk ⟨c, t, m, B⟩ l] = gr at HGR HGT
  obtain ⟨X, hX⟩ : ∃ X, RT.mk (⟨c, t, m, B⟩ : NH) l = X := ⟨_, rfl⟩
  rw [hX] at HV HGT
  clear ka hq1 tab hv hX hgt
  go_enter Tryd.func12, Tryd.ntmps12
  go_upto_region 1 with fail
  generalize w.alloc (.cells #[.int .i64 c, .int .i64 t, .bool m, .slice A1 B.length c1, .slice A2 l.length c2] 25) = W0 at HKA HQ1 ⊢
  have HA0 := Lib.hid (alive11 W0 (HT.out _ HKA.out))
  go_wp2_with fail
  refine HA0.out.mono ?_
  rintro e w1 ⟨rfl, hk1⟩
  have HK1 := Lib.hid (HKA.out.then_ hk1 (fun _ h => h.elim))
  have HQ11 := Lib.hid (HQ1.out.kp hk1 (fun h => h))
  have HG1 := Lib.hid (HGR.out _ HK1.out)
  clear hk1 HA0 HKA HQ1 HGR
  have p0 := HQ11.out.cell 0
  have p1 := HQ11.out.cell 1
  have p2 := HQ11.out.cell 2
  have p3 := HQ11.out.cell 3
  have p4 := HQ11.out.cell 4
  simp at p0 p1 p2 p3 p4
  go_wp2_with fail
  refine HG1.out.mono ?_
  rintro e w2 ⟨rfl, hk2⟩
  have k2 : Kp (fun _ => False) w1 w2 := ((Kp.refl (fun _ => False) w1).alloc _).then_ hk2 (fun _ h => h.elim)
  have HK2 := Lib.hid (HK1.out.then_ k2 (fun _ h => h.elim))
  have HQ12 := Lib.hid (HQ11.out.kp k2 (fun h => h))
  clear k2 hk2 HG1 HQ11 HK1 p0 p1 p2 p3 p4
  cases gr with
  | true =>
    have HA2 := Lib.hid (alive11 w2 (HT.out _ HK2.out))
    simp only [if_true]
    go_wp2_with fail
    refine HA2.out.mono ?_
    rintro e w3 ⟨rfl, hk3⟩
    have HK3 := Lib.hid (HK2.out.then_ hk3 (fun _ h => h.elim))
    clear hk3
    go_wp2_with fail
    go_ret
    exact ⟨rfl, HK3.out⟩
  | false =>
    have htot : totN X ≤ 3000 := HGT.out rfl X (by simp)
    have hdep := dep_tot X
    simp only [if_neg (show ¬ (false = true) by decide)]
    clear HGT
    have p0 := HQ12.out.cell 0
    have p1 := HQ12.out.cell 1
    have p2 := HQ12.out.cell 2
    have p3 := HQ12.out.cell 3
    have p4 := HQ12.out.cell 4
    simp at p0 p1 p2 p3 p4
    have hc1 := write_any _ X _ w2 (HV.out _ HK2.out) (by omega) (HT.out _ HK2.out)
    unfold WrP at hc1
    have HC1 := Lib.hid hc1
    have HCD := Lib.hid (fun W (hk : Kp (fun _ => False) w W) => checkD_any _ X _ W (HV.out W hk) (by omega) (HT.out W hk))
    have HRW := Lib.hid (fun W (hk : Kp (fun _ => False) w W) => rwrite_any _ X _ W (HV.out W hk) (by omega) (HT.out W hk))
    have HDP := Lib.hid (fun W (hk : Kp (fun _ => False) w W) => depth_anyN _ X _ W (HV.out W hk) (by omega))
    have hrd := fun W (hk : Kp (fun _ => False) w W) => rdepth_anyN _ X _ W 1099511627776 (HV.out W hk) (by decide)
    have hmn : min (depN X) (1099511627776 + 1) = depN X := by omega
    rw [hmn] at hrd
    have HRD := Lib.hid hrd
    unfold WrP at HRW
    generalize writeN X = R at HC1 HCD HRW
    generalize depN X = dp at HDP HRD
    obtain ⟨rb, re⟩ := R
    simp only at HC1 HRW HCD
    clear hc1 hrd hmn hdep htot HV
    go_upto_region 4 with (go_at_call 29; refine HC1.out.mono ?_; rintro e w3 ⟨A3, c3, rfl, ho3, hk3⟩; have HO3 := Lib.hid ho3; have HK3' := Lib.hid hk3; clear ho3 hk3)
    have HK3 := Lib.hid (HK2.out.then_ HK3'.out (fun _ h => h.elim))
    have HQ3 := Lib.hid (HQ12.out.kp HK3'.out (fun h => h))
    have HB3 := Lib.hid (HO3.out.br rfl)
    clear HC1 HK3' HO3 HK2 HQ12 p0 p1 p2 p3 p4
    have p0 := HQ3.out.cell 0
    have p1 := HQ3.out.cell 1
    have p2 := HQ3.out.cell 2
    have p3 := HQ3.out.cell 3
    have p4 := HQ3.out.cell 4
    simp at p0 p1 p2 p3 p4
    have HRW3 := Lib.hid (HRW.out _ HK3.out)
    go_upto_region 5 with (go_at_call 16; refine HRW3.out.mono ?_; rintro e w4 ⟨A4, c4, rfl, ho4, hk4⟩; have HO4 := Lib.hid ho4; have HK4' := Lib.hid hk4; clear ho4 hk4)
    have HK4 := Lib.hid (HK3.out.then_ HK4'.out (fun _ h => h.elim))
    have HQ4 := Lib.hid (HQ3.out.kp HK4'.out (fun h => h))
    have HB34 := Lib.hid (HB3.out.kp HK4'.out (fun _ _ h => h))
    have HB4 := Lib.hid (HO4.out.br rfl)
    clear HRW HRW3 HK4' HO4 HK3 HQ3 HB3 p0 p1 p2 p3 p4
    obtain ⟨n, hn⟩ : ∃ n, rb.length = n := ⟨_, rfl⟩
    obtain ⟨gs, hgs⟩ : ∃ gs, str rb = gs := ⟨_, rfl⟩
    rw [hn] at HB34 HB4 ⊢
    have HCE := Lib.hid (fun W (hk : Kp (fun _ => False) w4 W) => show (fun w' : World => w'.cell? ⟨w.heap.size, 0, none⟩ = some (.int .i64 c) ∧ w'.cell? ⟨w.heap.size, 1, none⟩ = some (.int .i64 t) ∧ w'.cell? ⟨w.heap.size, 2, none⟩ = some (.bool m) ∧ w'.cell? ⟨w.heap.size, 3, none⟩ = some (.slice A1 B.length c1) ∧ w'.cell? ⟨w.heap.size, 4, none⟩ = some (.slice A2 l.length c2) ∧ (convert 22 9 (.slice A3 n c3)).run Tryd.prog w' = .ok (.string gs) w' ∧ (convert 22 9 (.slice A4 n c4)).run Tryd.prog w' = .ok (.string gs) w') W from by
      have h1 := HQ4.out.kp hk (fun h => h)
      refine ⟨h1.cell 0, h1.cell 1, h1.cell 2, h1.cell 3, h1.cell 4, ?_, ?_⟩
      · rw [← hgs]
        exact run_str (e := 5) Tryd.underlying22 Tryd.underlying5 Tryd.underlying9 (HB34.out.kp hk (fun _ _ h => h))
      · rw [← hgs]
        exact run_str (e := 5) Tryd.underlying22 Tryd.underlying5 Tryd.underlying9 (HB4.out.kp hk (fun _ _ h => h)))
    have HKZ := Lib.hid (Kp.refl (fun _ => False) w4)
    have HKW := Lib.hid (fun W (hk : Kp (fun _ => False) w4 W) => HK4.out.then_ hk (fun _ h => h.elim))
    have hgg : (gs.toList == gs.toList) = true := by simp
    have hrr : (re == re) = true := by simp
    have hdd : ((dp : Int) == (dp : Int)) = true := by simp
    clear hn hgs HQ4 HB34 HB4 HT
    go_cut [2] (fun cv wx => cv = .bool true ∧ Kp (fun _ => False) w4 wx)
    case first =>
      go_region_held3 (fun w' : World => w'.cell? ⟨w.heap.size, 0, none⟩ = some (.int .i64 c) ∧ w'.cell? ⟨w.heap.size, 1, none⟩ = some (.int .i64 t) ∧ w'.cell? ⟨w.heap.size, 2, none⟩ = some (.bool m) ∧ w'.cell? ⟨w.heap.size, 3, none⟩ = some (.slice A1 B.length c1) ∧ w'.cell? ⟨w.heap.size, 4, none⟩ = some (.slice A2 l.length c2) ∧ (convert 22 9 (.slice A3 n c3)).run Tryd.prog w' = .ok (.string gs) w' ∧ (convert 22 9 (.slice A4 n c4)).run Tryd.prog w' = .ok (.string gs) w') (first | exact HCE.out _ HKZ.out | exact HCE.out _ HKZ.out.drew) (first
        | (go_at_call 30; refine (HCD.out _ (HKW.out _ (by first | exact HKZ.out | exact HKZ.out.drew))).mono ?_; rintro e w5 ⟨rfl, hk5⟩; have hq := Kp.then_ (a := w4) (S := fun _ => False) (by first | exact HKZ.out | exact HKZ.out.drew) hk5 (fun _ h => h.elim); clear HKZ; have HKZ := Lib.hid hq; clear hq hk5)
        | (go_at_call 24; refine (HDP.out _ (HKW.out _ (by first | exact HKZ.out | exact HKZ.out.drew))).mono ?_; rintro e w5 ⟨rfl, hk5⟩; have hq := Kp.then_ (a := w4) (S := fun _ => False) (by first | exact HKZ.out | exact HKZ.out.drew) hk5 (fun _ h => h.elim); clear HKZ; have HKZ := Lib.hid hq; clear hq hk5)
        | (go_at_call 31; refine (HRD.out _ (HKW.out _ (by first | exact HKZ.out | exact HKZ.out.drew))).mono ?_; rintro e w5 ⟨rfl, hk5⟩; have hq := Kp.then_ (a := w4) (S := fun _ => False) (by first | exact HKZ.out | exact HKZ.out.drew) hk5 (fun _ h => h.elim); clear HKZ; have HKZ := Lib.hid hq; clear hq hk5))
      go_wp2_with fail
      go_meet
      exact ⟨rfl, HKZ.out⟩
    case rest =>
    obtain ⟨rfl, hkc⟩ := hcut
    have HK9 := Lib.hid (HK4.out.then_ hkc (fun _ h => h.elim))
    clear hkc HCE HCD HDP HRD HKZ HKW
    go_wp2_with fail
    go_ret
    exact ⟨rfl, HK9.out⟩
end Go.Proofs.YtgjbfgkcbehjnaaDoor

namespace Go.Proofs.YtgjbfgkcbehjnaaDoor.derWrites
open Go.ChangeShapes Go.WideShapes Go.ChangeAt Go.RowKit
set_option linter.unusedVariables false

theorem own : ownKnob Tryd.prog.godebug = none := by kernel_rfl
theorem laidOut : laidOutB Tryd.prog = true := by kernel_rfl

theorem door_met (os : Os) (args : Array Value) : laidMetH Tryd.prog Rows.derWritesRow.laid ((World.doorLaid Tryd.prog 77 os).forCall (fun _ _ => 0) ⟨#[], args, []⟩).memory :=
  laidMetH_of_parts3 (fuel := 8) (laidMet_of_run' 8 (by kernel_rfl) (by kernel_rfl)) (by kernel_rfl) (by kernel_rfl)

set_option maxRecDepth 100000 in
theorem lifted (os : Os) (started : os.Started) (H : Type) (enc : TypeId × Value → H) :
    ReturnsInHanded {} Tryd.checked os 12 .any (fun w args => (Rows.derWritesSpec.pre enc Tryd.prog Tryd.f12 [] false w args ∧ laidMetH Tryd.prog Rows.derWritesRow.laid w) ∧ sizedMet enc Tryd.prog Tryd.f12 (OpenSpec.ofChange Rows.derWritesSpec) false w args) (Rows.derWritesSpec.post enc Tryd.prog Tryd.f12 false true false false) := by
  refine returnsInHanded_of_change_and (C := Tryd.checked) (X := fun w _ => laidMetH Tryd.prog Rows.derWritesRow.laid w) (fun _ _ _ hh h => h.of_heap hh) own started (by kernel_rfl) Tryd.func12
    (ChangeSpec.witness_shaped (enc := enc) (C := Tryd.checked) (os := os) (X := fun w _ => laidMetH Tryd.prog Rows.derWritesRow.laid w) false (World.doorLaid Tryd.prog 77 os) #[.agg #[.int .i64 0, .int .i64 0, .bool false, .slice none 0 0, .slice none 0 0]] 8 rfl (World.shaped_of_RefB (by kernel_rfl) (by kernel_rfl)) (by kernel_rfl) (by kernel_rfl) (by kernel_rfl) (door_met os _)) ?_
  intro W base args ds gs before hval0 hW hcnd hsz0 hL _
  have tab := tabN (hf := by kernel_rfl) (hg := by kernel_rfl) hL
  have hval : ∀ (j : Nat) t v, Tryd.f12.params[j]? = some t → args[j]? = some v → Value.okWide Tryd.prog W .any base t v := hval0
  have hW' := hW
  obtain ⟨p, q, hA0, hV, rfl, hfz, hnd⟩ := hW
  have hA : DataW.TrodAll enc Tryd.prog W 0 (fun _ => true) true Tryd.f12.params.toList args.toList ds p := hA0
  obtain ⟨rfl, rfl⟩ := trodVars_none hV
  have hsz : (DataW.weightsEach Tryd.prog (Tryd.f12.params.toList ++ []) (ds ++ [])).all (· ≤ reachBytes) = true := hsz0
  rw [List.append_nil, List.append_nil] at hsz
  rw [Tryd.params12] at hA hval hsz
  obtain ⟨v0, vs0, d0, ds0, p0, q0, hargs, rfl, rfl, h0, r0⟩ := trodAll_cons hA
  obtain ⟨rfl, rfl, rfl⟩ := trodAll_nil r0
  obtain rfl : args = #[v0] := by cases args; simp_all
  have k0 := h0
  have lt0 : ∀ x ∈ p0, x.block < W.heap.size := by obtain ⟨m, hm⟩ := k0; exact DataW.trod_lt m _ _ _ hm
  obtain ⟨l0, b0⟩ := open_node (hval 0 25 v0 rfl rfl) h0 (_hsz := hsz) (j := 0) rfl rfl
  clear hA0 hval0 hsz0
  refine (dwrites_walk W tab v0 l0 b0).mono fun e W' ⟨he, bel⟩ => ?_
  subst he
  exact ⟨_, rfl, _, _, _, [], _, [], hW', trodAll_mk1 (shut_bool Tryd.underlying4 _), (trodAll_cons_mk (Below.trod laidOut (by kernel_rfl) (of_decide_eq_true (by kernel_rfl)) k0 bel lt0) trodAll_mk0), rfl, bel.frame _, fun h => by cases h⟩

theorem over : Rows.derWritesRow.holds Tryd.pinned (OpenSpec.ofChange Rows.derWritesSpec) :=
  OpenClaim.holds_of_wide 12 Tryd.f12 rfl rfl rfl rfl rfl rfl rfl ⟨rfl, rfl, rfl, rfl, rfl⟩ rfl rfl rfl rfl rfl (by kernel_rfl) Tryd.func12 (by kernel_rfl)
    (of_decide_eq_true (by kernel_rfl)) (by unfold Func.isWrapper; first | (rw [if_pos (by decide +kernel)]; kernel_rfl) | (rw [if_neg (by decide +kernel)]; exact ⟨rfl, rfl⟩))
    (fun os started H enc _ => lifted os started H enc)

/-- The tied card. -/
theorem proved : Rows.DerWritesCardSaid :=
  Claim7.holds_tied_plain_at .later [] [.data, .data, .data, .sentinel, .sentinel, .widerDeep, .widerDeep, .data] true (true, "0ab74d96bed3506d8a76af22bf9d6f6d114eadcc4072f4d921186855ad1623b7") true
    over (fun _ h => by cases h) (by kernel_rfl) (fun _ h => by cases h) derWrites_row_tie rfl ⟨rfl, rfl⟩ (by kernel_rfl) rfl
    (fun f fn hf hfn => by
      obtain rfl : f = 12 := Option.some.inj ((show Tryd.prog.funcNamed "passepartout/passepartoutlaw11.DerWrites" = some 12 by kernel_rfl).symm.trans hf) |>.symm
      obtain rfl : fn = Tryd.f12 := (Option.some.inj (Tryd.func12.symm.trans hfn)).symm
      exact ⟨by kernel_rfl, fun j t ht => by
        rw [Tryd.params12] at ht
        have hm : t ∈ [25] := by simpa using Array.mem_of_getElem? ht
        have hall : ([25].all fun u => !Tryd.prog.wantsStandIn u) = true := by kernel_rfl
        exact (show Tryd.prog.wantsStandIn t = false by simpa using List.all_eq_true.1 hall t hm)⟩)
    (by kernel_rfl)
#print axioms proved
end Go.Proofs.YtgjbfgkcbehjnaaDoor.derWrites
