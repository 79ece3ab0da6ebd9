/-
  The law DerReads: for every input it returns true, and its arguments read behind the call as before it. No condition.
-/
import Derived.Test.YtgjbfgkcbehjnaaDoorRows
import Derived.Test.YtgjbfgkcbehjnaaDoorCards
import Derived.Test.YtgjbfgkcbehjnaaDoorTie
import Derived.SevenTiedAt
import Derived.ProofKit
import Derived.LaidMore
import Derived.Stop.Joined
import Derived.Test.YtgjbfgkcbehjnaaDoorBX1
import Derived.Test.YtgjbfgkcbehjnaaDoorBX3

set_option linter.unusedVariables false
set_option linter.unusedSimpArgs false
namespace Go.Proofs.YtgjbfgkcbehjnaaDoor
open Go.RowKit

theorem tabN {W : World} {laid : List (String × DataW Unit)} (h : laidMetH Tryd.prog laid W)
    (hf : (laid.filter fun x => x.1 == "passepartout/dertype.days") = [("passepartout/dertype.days", Lib.tabData .i64 daysT)])
    (hg : (laid.filter fun x => x.1 == "passepartout/dertag.plain" || x.1 == "passepartout/dertag.made") = [("passepartout/dertag.plain", Lib.tabData .i64 plainT), ("passepartout/dertag.made", Lib.tabData .i64 madeT)]) : TabN W := by
  refine ⟨tab09 ?_, tab10 h hf⟩
  rw [← hg]
  exact h.filter _
set_option maxRecDepth 100000 in
set_option maxHeartbeats 3200000 in
theorem dreads_walk (w : World) (tab : TabN w) (v : Value) (l : List UInt8) (hv : BR w (· < w.heap.size) v l) (hl : l.length ≤ 140737488351232) (n : Int) (_hn : (Lit.int .i64 n).wf = true) :
    Calls Tryd.prog 4 #[v, .int .i64 n] w fun e w' => e = .returned (.bool true) ∧ Below w.heap.size w w' := by
  refine Calls.mono (R := fun e w' => e = .returned (.bool true) ∧ Kp (fun _ => False) w w') ?_ fun _ _ ⟨h1, h2⟩ => ⟨h1, h2.below⟩
  obtain ⟨A, cp, rfl, hcp, _⟩ := id hv
  have HAL := Lib.hid (alive11 w tab)
  have HT := Lib.hid (fun W (hk : Kp (fun _ => False) w W) => tab.kp0 hk)
  have HV := Lib.hid (fun W (hk : Kp (fun _ => False) w W) => hv.kp hk (fun _ _ h => h))
  have HL2 := Lib.hid (fun W (hk : Kp (fun _ => False) w W) => alive11 W (tab.kp0 hk))
  obtain ⟨j, hj, hjl⟩ := mod_base n
  clear tab hv
  by_cases hg : 3000 < l.length
  · have hgI : decide ((3000 : Int) < (l.length : Int)) = true := by simp; omega
    go_enter Tryd.func4, Tryd.ntmps4
    go_upto_region 2 with (go_at_call 20; refine HAL.out.mono ?_; rintro e w1 ⟨rfl, hk1⟩; have HK1 := Lib.hid hk1; clear hk1)
    have HL3 := Lib.hid (HL2.out _ HK1.out)
    go_wp2_with (go_at_call 20; refine HL3.out.mono ?_; rintro e w2 ⟨rfl, hk2⟩; have HK2 := Lib.hid (HK1.out.then_ hk2 (fun _ h => h.elim)); clear hk2)
    go_ret
    exact ⟨rfl, HK2.out⟩
  · have hgI : decide ((3000 : Int) < (l.length : Int)) = false := by simp; omega
    have hg2 : l.length ≤ 3000 := by omega
    clear hg
    go_enter Tryd.func4, Tryd.ntmps4
    go_upto_region 4 with (go_at_call 20; refine HAL.out.mono ?_; rintro e w1 ⟨rfl, hk1⟩; have HK1 := Lib.hid hk1; clear hk1)
    obtain ⟨xx, kk, er, hR⟩ : ∃ x k er, readN l = (x, k, er) := ⟨_, _, _, rfl⟩
    have hci := readD_any _ (.slice A l.length cp) l (j : Int) w1 (HV.out _ HK1.out) (HT.out _ HK1.out) (by omega) (by omega) (by omega)
    unfold ReadP at hci
    rw [hR] at hci
    have hkl : kk ≤ l.length := by
      have h := oneN_sound 8 l
      rw [readN] at hR
      cases h8 : oneN 8 l with
      | bad a e =>
        rw [h8] at hR h
        have := (h.2 _ _ rfl).1
        simp only [Prod.mk.injEq] at hR
        omega
      | got x r =>
        rw [h8] at hR
        simp only at hR
        split at hR
        · simp only [Prod.mk.injEq] at hR; omega
        · simp only [Prod.mk.injEq] at hR; omega
    have HC := Lib.hid hci
    clear hci
    go_upto_region 5 with (go_at_call 21; refine HC.out.mono ?_; rintro e w2 ⟨u, rfl, hvx, hk2⟩; obtain ⟨A1, c1, A2, c2, rfl, _⟩ := hvx.shape; have HVX := Lib.hid hvx; have HK2 := Lib.hid (HK1.out.then_ hk2 (fun _ h => h.elim)); clear hvx hk2)
    clear HC HK1 HAL HL2
    generalize xx = x at *
    have ka : Kp (fun _ => False) w2 (w2.alloc (.cells #[.int .i64 x.a.c, .int .i64 x.a.t, .bool x.a.m, .slice A1 x.a.b.length c1, .slice A2 x.l.length c2] 25)) := (Kp.refl _ _).alloc _
    have HX3 := Lib.hid (Blk.new w2 25 #[.int .i64 x.a.c, .int .i64 x.a.t, .bool x.a.m, .slice A1 x.a.b.length c1, .slice A2 x.l.length c2])
    have HK3 := Lib.hid (HK2.out.then_ ka (fun _ h => h.elim))
    have HV3 := Lib.hid ((HVX.out.kp ka (fun _ _ h => h)).mono (ok' := fun _ => True) (fun _ _ => trivial))
    clear ka HVX HK2
    generalize w2.alloc (.cells #[.int .i64 x.a.c, .int .i64 x.a.t, .bool x.a.m, .slice A1 x.a.b.length c1, .slice A2 x.l.length c2] 25) = W3 at HX3 HK3 HV3 ⊢
    generalize w2.heap.size = bx at HX3 ⊢
    have hci := rread11_any _ (.slice A l.length cp) l W3 (HV.out _ HK3.out) (by omega)
    unfold RReadP at hci
    rw [hR] at hci
    have HC := Lib.hid hci
    clear hci
    go_upto_region 6 with (go_at_call 22; refine HC.out.mono ?_; rintro e w4 ⟨u, rfl, hvx, hk4⟩; obtain ⟨A3, c3, A4, c4, rfl, _⟩ := hvx.shape; have HVX := Lib.hid hvx; have HK4' := Lib.hid hk4; clear hvx hk4)
    have ka : Kp (fun _ => False) w4 (w4.alloc (.cells #[.int .i64 x.a.c, .int .i64 x.a.t, .bool x.a.m, .slice A3 x.a.b.length c3, .slice A4 x.l.length c4] 25)) := (Kp.refl _ _).alloc _
    have HX5 := Lib.hid (Blk.new w4 25 #[.int .i64 x.a.c, .int .i64 x.a.t, .bool x.a.m, .slice A3 x.a.b.length c3, .slice A4 x.l.length c4])
    have HK5 := Lib.hid ((HK3.out.then_ HK4'.out (fun _ h => h.elim)).then_ ka (fun _ h => h.elim))
    have HX35 := Lib.hid ((HX3.out.kp HK4'.out (fun h => h)).kp ka (fun h => h))
    have HV35 := Lib.hid ((HV3.out.kp HK4'.out (fun _ _ h => h)).kp ka (fun _ _ h => h))
    have HV5 := Lib.hid ((HVX.out.kp ka (fun _ _ h => h)).mono (ok' := fun _ => True) (fun _ _ => trivial))
    clear ka HVX HK4' HK3 HX3 HV3 HC HV HT
    generalize w4.alloc (.cells #[.int .i64 x.a.c, .int .i64 x.a.t, .bool x.a.m, .slice A3 x.a.b.length c3, .slice A4 x.l.length c4] 25) = W5 at HX5 HK5 HX35 HV35 HV5 ⊢
    generalize w4.heap.size = by_ at HX5 ⊢
    have p0 := HX35.out.cell 0
    have p1 := HX35.out.cell 1
    have p2 := HX35.out.cell 2
    have p3 := HX35.out.cell 3
    have p4 := HX35.out.cell 4
    simp at p0 p1 p2 p3 p4
    have q0 := HX5.out.cell 0
    have q1 := HX5.out.cell 1
    have q2 := HX5.out.cell 2
    have q3 := HX5.out.cell 3
    have q4 := HX5.out.cell 4
    simp at q0 q1 q2 q3 q4
    have hsm := rsame_anyN _ _ x x _ _ W5 HV35.out HV5.out
    rw [sameN_refl] at hsm
    have HC := Lib.hid hsm
    have he1 : (((j : Int) + (kk : Int)) == ((j : Int) + (kk : Int))) = true := by simp
    have he2 : (er == er) = true := by simp
    clear hsm HV35 HV5 HX35 HX5 hR
    go_wp2_with (go_at_call 23; refine HC.out.mono ?_; rintro e w6 ⟨rfl, hk6⟩; have HK6 := Lib.hid (HK5.out.then_ hk6 (fun _ h => h.elim)); clear hk6)
    go_ret
    exact ⟨rfl, HK6.out⟩
end Go.Proofs.YtgjbfgkcbehjnaaDoor

namespace Go.Proofs.YtgjbfgkcbehjnaaDoor.derReads
open Go.ChangeShapes Go.WideShapes Go.ChangeAt Go.RowKit
set_option linter.unusedVariables false

theorem own : ownKnob Tryd.prog.godebug = none := by kernel_rfl
theorem laidOut : laidOutB Tryd.prog = true := by kernel_rfl

theorem door_met (os : Os) (args : Array Value) : laidMetH Tryd.prog Rows.derReadsRow.laid ((World.doorLaid Tryd.prog 77 os).forCall (fun _ _ => 0) ⟨#[], args, []⟩).memory :=
  laidMetH_of_parts3 (fuel := 8) (laidMet_of_run' 8 (by kernel_rfl) (by kernel_rfl)) (by kernel_rfl) (by kernel_rfl)

set_option maxRecDepth 100000 in
theorem lifted (os : Os) (started : os.Started) (H : Type) (enc : TypeId × Value → H) :
    ReturnsInHanded {} Tryd.checked os 4 .any (fun w args => (Rows.derReadsSpec.pre enc Tryd.prog Tryd.f4 [] false w args ∧ laidMetH Tryd.prog Rows.derReadsRow.laid w) ∧ sizedMet enc Tryd.prog Tryd.f4 (OpenSpec.ofChange Rows.derReadsSpec) false w args) (Rows.derReadsSpec.post enc Tryd.prog Tryd.f4 false true false false) := by
  refine returnsInHanded_of_change_and (C := Tryd.checked) (X := fun w _ => laidMetH Tryd.prog Rows.derReadsRow.laid w) (fun _ _ _ hh h => h.of_heap hh) own started (by kernel_rfl) Tryd.func4
    (ChangeSpec.witness_shaped (enc := enc) (C := Tryd.checked) (os := os) (X := fun w _ => laidMetH Tryd.prog Rows.derReadsRow.laid w) false (World.doorLaid Tryd.prog 77 os) #[.slice none 0 0, .int .i64 0] 8 rfl (World.shaped_of_RefB (by kernel_rfl) (by kernel_rfl)) (by kernel_rfl) (by kernel_rfl) (by kernel_rfl) (door_met os _)) ?_
  intro W base args ds gs before hval0 hW hcnd hsz0 hL _
  have tab := tabN (hf := by kernel_rfl) (hg := by kernel_rfl) hL
  have hval : ∀ (j : Nat) t v, Tryd.f4.params[j]? = some t → args[j]? = some v → Value.okWide Tryd.prog W .any base t v := hval0
  have hW' := hW
  obtain ⟨p, q, hA0, hV, rfl, hfz, hnd⟩ := hW
  have hA : DataW.TrodAll enc Tryd.prog W 0 (fun _ => true) true Tryd.f4.params.toList args.toList ds p := hA0
  obtain ⟨rfl, rfl⟩ := trodVars_none hV
  have hsz : (DataW.weightsEach Tryd.prog (Tryd.f4.params.toList ++ []) (ds ++ [])).all (· ≤ reachBytes) = true := hsz0
  rw [List.append_nil, List.append_nil] at hsz
  rw [Tryd.params4] at hA hval hsz
  obtain ⟨v0, vs0, d0, ds0, p0, q0, hargs, rfl, rfl, h0, r0⟩ := trodAll_cons hA
  obtain ⟨v1, vs1, d1, ds1, p1, q1, rfl, rfl, rfl, h1, r1⟩ := trodAll_cons r0
  obtain ⟨rfl, rfl, rfl⟩ := trodAll_nil r1
  obtain rfl : args = #[v0, v1] := by cases args; simp_all
  have k0 := h0
  have lt0 : ∀ x ∈ p0, x.block < W.heap.size := by obtain ⟨m, hm⟩ := k0; exact DataW.trod_lt m _ _ _ hm
  have k1 := h1
  have lt1 : ∀ x ∈ p1, x.block < W.heap.size := by obtain ⟨m, hm⟩ := k1; exact DataW.trod_lt m _ _ _ hm
  obtain ⟨l0, b0, e0⟩ := open_br Tryd.underlying22 Tryd.underlying5 (by kernel_rfl) (hval 0 22 v0 rfl rfl) h0
  have s0 := sized_len hsz (j := 0) (t := 22) (e := 5) rfl rfl Tryd.underlying22 e0
  rw [show Tryd.prog.bytesOf 5 = 1 from by kernel_rfl] at s0
  obtain ⟨a1, rfl, rfl, rfl, w1⟩ := open_int Tryd.underlying3 (hval 1 3 v1 rfl rfl) h1
  clear hA0 hval0 hsz0
  refine (dreads_walk W tab v0 l0 b0 (by omega) a1 w1).mono fun e W' ⟨he, bel⟩ => ?_
  subst he
  exact ⟨_, rfl, _, _, _, [], _, [], hW', trodAll_mk1 (shut_bool Tryd.underlying4 _), (trodAll_cons_mk (Below.trod laidOut (by kernel_rfl) (of_decide_eq_true (by kernel_rfl)) k0 bel lt0) (trodAll_cons_mk (Below.trod laidOut (by kernel_rfl) (of_decide_eq_true (by kernel_rfl)) k1 bel lt1) trodAll_mk0)), rfl, bel.frame _, fun h => by cases h⟩

theorem over : Rows.derReadsRow.holds Tryd.pinned (OpenSpec.ofChange Rows.derReadsSpec) :=
  OpenClaim.holds_of_wide 4 Tryd.f4 rfl rfl rfl rfl rfl rfl rfl ⟨rfl, rfl, rfl, rfl, rfl⟩ rfl rfl rfl rfl rfl (by kernel_rfl) Tryd.func4 (by kernel_rfl)
    (of_decide_eq_true (by kernel_rfl)) (by unfold Func.isWrapper; first | (rw [if_pos (by decide +kernel)]; kernel_rfl) | (rw [if_neg (by decide +kernel)]; exact ⟨rfl, rfl⟩))
    (fun os started H enc _ => lifted os started H enc)

/-- The tied card. -/
theorem proved : Rows.DerReadsCardSaid :=
  Claim7.holds_tied_plain_at .later [] [.data, .data, .data, .sentinel, .sentinel, .widerDeep, .widerDeep, .data] true (true, "0ab74d96bed3506d8a76af22bf9d6f6d114eadcc4072f4d921186855ad1623b7") true
    over (fun _ h => by cases h) (by kernel_rfl) (fun _ h => by cases h) derReads_row_tie rfl ⟨rfl, rfl⟩ (by kernel_rfl) rfl
    (fun f fn hf hfn => by
      obtain rfl : f = 4 := Option.some.inj ((show Tryd.prog.funcNamed "passepartout/passepartoutlaw11.DerReads" = some 4 by kernel_rfl).symm.trans hf) |>.symm
      obtain rfl : fn = Tryd.f4 := (Option.some.inj (Tryd.func4.symm.trans hfn)).symm
      exact ⟨by kernel_rfl, fun j t ht => by
        rw [Tryd.params4] at ht
        have hm : t ∈ [22, 3] := by simpa using Array.mem_of_getElem? ht
        have hall : ([22, 3].all fun u => !Tryd.prog.wantsStandIn u) = true := by kernel_rfl
        exact (show Tryd.prog.wantsStandIn t = false by simpa using List.all_eq_true.1 hall t hm)⟩)
    (by kernel_rfl)
#print axioms proved
end Go.Proofs.YtgjbfgkcbehjnaaDoor.derReads
