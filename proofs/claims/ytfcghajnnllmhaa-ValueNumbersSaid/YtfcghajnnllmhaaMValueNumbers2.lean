/-
  Texts for the law ValueNumbers: part 2.
-/
import Derived.BigQuiet
import Derived.Deep.QuietTactic
import Derived.Test.YtfcghajnnllmhaaProg
import Derived.Maps.OwnSet
import Derived.Maps.OwnOps
import Derived.Laws.EntriesVeiled
import Derived.Test.YtfcghajnnllmhaaMValueNumbers1

set_option linter.unusedVariables false
set_option linter.unusedSimpArgs false
namespace Go.Proofs.Ytfcghajnnllmhaa.QP
open Go.RowKit Go.Proofs.YtfcghajnnllmhaaW.PrintWords Go.Proofs.YtfcghajnnllmhaaW.PrintLast Go.Proofs.YtfcghajnnllmhaaW.PrintMore
attribute [local go_sem] max2_int min2_int max_two min_two max_three min_three max_four min_four   -- for this text's walks alone
set_option linter.unusedVariables false
set_option linter.unusedSimpArgs false

/-! ### passepartoutref04_Count: function 45 -/
mutual
def passepartoutref04_Count.l0 : Nat → Int → Int → List (S27) → Int → Option (Int)
 | 0,_,_,_,_ => none
 | k + 1,x1,x5,x6,x7 => if x7 < (x6.length : Int) then (if x5 ≤ x1 then (if 0 ≤ x7 then ((passepartoutref04_Count.f k ((rd_T27 x6 x7).f0) ((rd_T27 x6 x7).f1) ((rd_T27 x6 x7).f2) ((rd_T27 x6 x7).f3) ((rd_T27 x6 x7).f4) ((rd_T27 x6 x7).f5) (wrap64 (x1 - x5))).bind fun t132 => (passepartoutref04_Count.l0 k x1 (wrap64 (x5 + t132)) x6 (wrap64 (x7 + 1)))) else (none)) else (some x5)) else (some x5)
def passepartoutref04_Count.f : Nat → Int → Int → Int → Int → Int → List (S27) → Int → Option (Int)
 | 0,_,_,_,_,_,_,_ => none
 | k + 1,a0_0,a0_1,a0_2,a0_3,a0_4,l0_5,a1 => (passepartoutref04_parts.f a0_0 a0_1 a0_2 a0_3 a0_4 l0_5).bind fun t128 => (passepartoutref04_Count.l0 k a1 1 t128 0)
end
theorem passepartoutref04_Count.mono_l : ∀ k,(∀ y0 y1 y2 y3 y4 y5 y6,LeO (passepartoutref04_Count.f k y0 y1 y2 y3 y4 y5 y6) (passepartoutref04_Count.f (k + 1) y0 y1 y2 y3 y4 y5 y6)) ∧ (∀ y0 y1 y2 y3,LeO (passepartoutref04_Count.l0 k y0 y1 y2 y3) (passepartoutref04_Count.l0 (k + 1) y0 y1 y2 y3))
 | 0 => ⟨fun _ _ _ _ _ _ _ r h => by simp [passepartoutref04_Count.f] at h,fun _ _ _ _ r h => by simp [passepartoutref04_Count.l0] at h⟩
 | k + 1 => by
  obtain ⟨ih0,ih1⟩ := passepartoutref04_Count.mono_l k
  refine ⟨?_,?_⟩
  ·intro y0 y1 y2 y3 y4 y5 y6
   unfold passepartoutref04_Count.f
   repeat' first
   | (with_reducible exact ih0 _ _ _ _ _ _ _)
   | (with_reducible exact ih1 _ _ _ _)
   | (with_reducible exact LeO.refl _)
   | (with_reducible exact LeO.none _)
   | (with_reducible refine LeO.ite ?_ ?_)
   | (with_reducible refine LeO.bind ?_ (fun _ => ?_))
   | exact ih0 _ _ _ _ _ _ _
   | exact ih1 _ _ _ _
   | exact LeO.none _
   | refine LeO.ite ?_ ?_
   | refine LeO.bind ?_ (fun _ => ?_)
  ·intro y0 y1 y2 y3
   unfold passepartoutref04_Count.l0
   repeat' first
   | (with_reducible exact ih0 _ _ _ _ _ _ _)
   | (with_reducible exact ih1 _ _ _ _)
   | (with_reducible exact LeO.refl _)
   | (with_reducible exact LeO.none _)
   | (with_reducible refine LeO.ite ?_ ?_)
   | (with_reducible refine LeO.bind ?_ (fun _ => ?_))
   | exact ih0 _ _ _ _ _ _ _
   | exact ih1 _ _ _ _
   | exact LeO.none _
   | refine LeO.ite ?_ ?_
   | refine LeO.bind ?_ (fun _ => ?_)
theorem passepartoutref04_Count.mono : ∀ a0 a1 a2 a3 a4 a5 a6 k,LeO (passepartoutref04_Count.f k a0 a1 a2 a3 a4 a5 a6) (passepartoutref04_Count.f (k + 1) a0 a1 a2 a3 a4 a5 a6) := by
 intro a0 a1 a2 a3 a4 a5 a6 k
 obtain ⟨ih0,ih1⟩ := passepartoutref04_Count.mono_l k
 exact ih0 a0 a1 a2 a3 a4 a5 a6
set_option maxHeartbeats 8000000 in
set_option maxRecDepth 100000 in
theorem passepartoutref04_Count.calls (k : Nat) : ∀ (a0_0 : Int) (a0_1 : Int) (a0_2 : Int) (a0_3 : Int) (a0_4 : Int) (A0_5 : Option Addr) (c0_5 : Nat) (l0_5 : List (S27)) (a1 : Int) (r : Int) (w : World) (hr0_5 : Kd.C k27 w A0_5 l0_5.length l0_5) (hc0_5 : l0_5.length ≤ c0_5) (h : passepartoutref04_Count.f k a0_0 a0_1 a0_2 a0_3 a0_4 l0_5 a1 = some r),
  Calls Try.prog 45 #[.agg #[.int .i64 a0_0,.int .i64 a0_1,.int .i64 a0_2,.int .i64 a0_3,.int .i64 a0_4,.slice A0_5 l0_5.length c0_5],.int .i64 a1] w fun e w' => e = .returned (.int .i64 r) ∧ Below w.heap.size w w' := by
 induction k using Nat.strongRecOn with
 | _ k ih =>
 intro a0_0 a0_1 a0_2 a0_3 a0_4 A0_5 c0_5 l0_5 a1 r w hr0_5 hc0_5 h
 cases k with
 | zero => exact absurd h (by simp [passepartoutref04_Count.f])
 | succ k =>
 simp only [passepartoutref04_Count.f] at h
 have hu27 := Try.underlying27
 have HR0_5 := Aside0.mk hr0_5
 have HC0_5 := Aside0.mk hc0_5
 clear hr0_5 hc0_5
 have HB := Aside0.mk (Below.refl w.heap.size w)
 have H : ((passepartoutref04_parts.f a0_0 a0_1 a0_2 a0_3 a0_4 l0_5).bind fun t128 => (passepartoutref04_Count.l0 k a1 1 t128 0)) = some r := h
 clear h
 replace H := Option.bind_eq_some_iff.mp H
 obtain ⟨t128,A30,H⟩ := H
 replace H : (passepartoutref04_Count.l0 k a1 1 t128 0) = some r := H
 have A3 := Aside0.mk A30
 clear A30
 have H' := Aside0.mk H
 clear H
 go_enter Try.func45,Try.ntmps45
 go_wp2_with (first | ((with_reducible refine gate_dst (N := 2) rfl ?_);refine box_event ?hg (N := 2) ?hd (cs := #[.int .i64 a0_0,.int .i64 a0_1,.int .i64 a0_2,.int .i64 a0_3,.int .i64 a0_4,.slice A0_5 l0_5.length c0_5]) (t := 27) ?hr ?_;(case hd => rfl);(case hg => rfl);(case hr => first | (go_simp;done) | (go_simp;rfl));intro gb127 hg w4 hbox hb;have n0_ := Aside0.mk (below_step (by repeat (first | (with_reducible first | exact HB.out | apply below_alloc | apply pw_below_drewN | apply below_drew1) | exact HB.out)) hb);have n1_ := Aside0.mk (hbox);have n2_ := Aside0.mk ((by rw [hg];exact (below_size (by repeat (first | (with_reducible first | exact HB.out | apply below_alloc | apply pw_below_drewN | apply below_drew1) | exact HB.out))) : w.heap.size ≤ gb127));have n3_ := Aside0.mk ((by rw [hg];exact (below_size (by repeat (first | (with_reducible first | exact HB.out | apply below_alloc | apply pw_below_drewN | apply below_drew1) | exact HB.out))) : w.heap.size ≤ gb127));clear HB;have HB := n0_;have BK127 := n1_;have GW127 := n2_;have GE127 := n3_;clear n0_ n1_ n2_ n3_;clear hb hbox hg;have hcz5_0 : w4.cell? ⟨gb127,0,none⟩ = some (.int .i64 a0_0) := (blk_cell BK127.out 0).trans rfl;have hcz5_1 : w4.cell? ⟨gb127,1,none⟩ = some (.int .i64 a0_1) := (blk_cell BK127.out 1).trans rfl;have hcz5_2 : w4.cell? ⟨gb127,2,none⟩ = some (.int .i64 a0_2) := (blk_cell BK127.out 2).trans rfl;have hcz5_3 : w4.cell? ⟨gb127,3,none⟩ = some (.int .i64 a0_3) := (blk_cell BK127.out 3).trans rfl;have hcz5_4 : w4.cell? ⟨gb127,4,none⟩ = some (.int .i64 a0_4) := (blk_cell BK127.out 4).trans rfl;have hcz5_5 : w4.cell? ⟨gb127,5,none⟩ = some (.slice A0_5 l0_5.length c0_5) := (blk_cell BK127.out 5).trans rfl;have hfz5_0 := blk_frozen BK127.out 0;have hfz5_1 := blk_frozen BK127.out 1;have hfz5_2 := blk_frozen BK127.out 2;have hfz5_3 := blk_frozen BK127.out 3;have hfz5_4 := blk_frozen BK127.out 4;have hfz5_5 := blk_frozen BK127.out 5) | ((with_reducible refine gate_callee (f := 47) rfl ?_);refine goesL_ (some 9) rfl rfl Try.func47 (by kernel_rfl) rfl #[.agg #[.int .i64 a0_0,.int .i64 a0_1,.int .i64 a0_2,.int .i64 a0_3,.int .i64 a0_4,.slice A0_5 l0_5.length c0_5]] rfl (by (try simp only [List.map_toArray,List.map_cons,List.map_nil]);first | done | rfl | (simp only [List.length_drop,List.length_take];rfl)) ?_;(with_reducible refine (passepartoutref04_parts.calls a0_0 a0_1 a0_2 a0_3 a0_4 (fun k_ => k_ < w.heap.size) _ _ l0_5 t128 _ ?side1 A3.out).mono ?_);(case side1 => exact Kd.V_mk HC0_5.out (Kd.F_below (Kd.C_F k27_heap HR0_5.out) (by repeat (first | (with_reducible first | exact HB.out | apply below_alloc | apply pw_below_drewN | apply below_drew1 | refine below_set ?_ GE127.out) | exact HB.out))));rintro e w6 ⟨v129,rfl,ho0,hb⟩;refine ⟨_,rfl,?_⟩;have n0_ := Aside0.mk (Kd.V_lower (Kd.V_mono (ok' := fun k_ => k_ ≠ gb127) ho0 (fun k_ hk_ => Or.elim hk_ (fun hs_ => fun e_ => Nat.not_le.2 hs_ (by rw [e_];exact GW127.out)) (fun hn_ => (Kd.freshB (g := gb127) (o := .cells #[.int .i64 a0_0,.int .i64 a0_1,.int .i64 a0_2,.int .i64 a0_3,.int .i64 a0_4,.slice A0_5 l0_5.length c0_5] 27 (0,0)) (by (with_reducible repeat (first | refine blk_drewN ?_ _ | refine blk_drew ?_ | refine blk_alloc ?_ _));exact BK127.out) k_ hn_)))) (below_size (by repeat (first | (with_reducible first | exact HB.out | apply below_alloc | apply pw_below_drewN | apply below_drew1 | refine below_set ?_ GE127.out) | exact HB.out))));have n1_ := Aside0.mk (blk_below (g := gb127) (o := .cells #[.int .i64 a0_0,.int .i64 a0_1,.int .i64 a0_2,.int .i64 a0_3,.int .i64 a0_4,.slice A0_5 l0_5.length c0_5] 27 (0,0)) (by (with_reducible repeat (first | refine blk_drewN ?_ _ | refine blk_drew ?_ | refine blk_alloc ?_ _));exact BK127.out) hb);have n2_ := Aside0.mk (below_step (by repeat (first | (with_reducible first | exact HB.out | apply below_alloc | apply pw_below_drewN | apply below_drew1 | refine below_set ?_ GE127.out) | exact HB.out)) hb);clear BK127;clear HB;have HO130 := n0_;have BK127 := n1_;have HB := n2_;clear n0_ n1_ n2_;(try clear hb);(try clear hb2);(try clear hk);(try clear hi);(try clear ho0)))
 go_loopg [5,7] k (fun kq v5 v7 w' => ∃ (x5_1 : Int) (x7_1 : Int),v5 = .int .i64 x5_1 ∧ v7 = .int .i64 x7_1 ∧ Aside0 (passepartoutref04_Count.l0 kq a1 x5_1 t128 x7_1 = some r) ∧ Aside0 (kq ≤ k) ∧ Aside0 (Kd.V k27 27 w' w.heap.size (fun k_ => k_ ≠ gb127) v129 t128) ∧ Aside0 (w'.heap[gb127]? = some (.cells #[.int .i64 a0_0,.int .i64 a0_1,.int .i64 a0_2,.int .i64 a0_3,.int .i64 a0_4,(.slice A0_5 l0_5.length c0_5)] 27 (0,0))) ∧ Aside0 (Below w.heap.size w w'))
 case atStart => exact ⟨(1),(0),(by first | rfl | (simp;done) | (simp [*];done)),(by first | rfl | (simp;done) | (simp [*];done)),H',⟨Nat.le_refl _⟩,⟨by (with_reducible repeat (first | apply Kd.V_alloc | apply Kd.V_drewN | apply Kd.V_drew));exact HO130.out⟩,⟨by (with_reducible repeat (first | refine blk_drewN ?_ _ | refine blk_drew ?_ | refine blk_alloc ?_ _));exact BK127.out⟩,⟨by repeat (first | (with_reducible first | exact HB.out | apply below_alloc | apply pw_below_drewN | apply below_drew1 | refine below_set ?_ GE127.out) | exact HB.out)⟩⟩
 case round =>
  clear H'
  try clear p2
  try clear c4
  try clear hcz5_0
  try clear hcz5_1
  try clear hcz5_2
  try clear hcz5_3
  try clear hcz5_4
  try clear hcz5_5
  try clear hfz5_0
  try clear hfz5_1
  try clear hfz5_2
  try clear hfz5_3
  try clear hfz5_4
  try clear hfz5_5
  obtain ⟨x5_1,x7_1,rfl,rfl,HA,HK1,HO_6,BK127,HB⟩ := hrel
  cases gk with
  | zero => exact absurd HA.out (by simp [passepartoutref04_Count.l0])
  | succ k1 =>
   have H := HA.out
   clear HA
   simp only [passepartoutref04_Count.l0] at H
   by_cases c7 : x7_1 < (t128.length : Int)
   ·rw [if_pos c7] at H
    have c7b0 : decide (x7_1 < (t128.length : Int)) = true := decide_eq_true c7
    clear c7
    by_cases c8 : x5_1 ≤ a1
    ·rw [if_pos c8] at H
     have c8b0 : decide (x5_1 ≤ a1) = true := decide_eq_true c8
     clear c8
     by_cases c9 : 0 ≤ x7_1
     ·rw [if_pos c9] at H
      have c9b0 : decide (0 ≤ x7_1) = true := decide_eq_true c9
      clear c9
      replace H := Option.bind_eq_some_iff.mp H
      obtain ⟨t132,A100,H⟩ := H
      replace H : (passepartoutref04_Count.l0 k1 a1 (wrap64 (x5_1 + t132)) t128 (wrap64 (x7_1 + 1))) = some r := H
      have A10 := Aside0.mk A100
      clear A100
      have H' := Aside0.mk H
      clear H
      obtain ⟨Ao11,co11,eo11⟩ := Kd.V_slice HO_6.out
      subst eo11
      have p131 : 0 ≤ (x7_1 : Int) := of_decide_eq_true (by first | (with_reducible assumption) | assumption)
      have q131 : x7_1 < (t128.length : Int) := of_decide_eq_true (by first | (with_reducible assumption) | assumption)
      obtain ⟨ad131,A131_5,c131_5,e131,hx131_0,hx131_1,hx131_2,hx131_3,hx131_4,hx131_5,hl131_5,hi131_5⟩ := at_T27 (Kd.V_reads' HO_6.out).2.2 x7_1 p131 q131
      cases e131
      obtain ⟨ce131,hce131,hMe131,hcc131⟩ := Kd.V_get HO_6.out z27 x7_1 p131 (by first | exact q131 | exact of_decide_eq_true (by first | (with_reducible assumption) | assumption) | (have e_ := (Kd.V_reads' HO_6.out).1;omega))
      obtain ⟨ua131_5,uc131_5,rfl,ul131_5,ge131_5⟩ := k27_openF hMe131
      have hv131_5 := hcc131 5 _ rfl
      rw [add_field _ _ 5 (by omega)] at hv131_5
      replace hv131_5 := Option.some.inj (hv131_5.symm.trans hx131_5)
      injection hv131_5 with hva_ hvn_ hvc_
      rw [hva_] at ge131_5
      rw [hvc_] at ul131_5
      have HL131_5 := Aside0.mk (show Kd.V k27 27 _ w.heap.size _ _ ((rd_T27 t128 x7_1).f5) from Kd.V_mk ul131_5 ge131_5)
      clear hva_ hvn_ hvc_ ge131_5 ul131_5
      clear hcc131 hce131
      have HR131_5 := Aside0.mk hi131_5
      have HC131_5 := Aside0.mk hl131_5
      clear hi131_5 hl131_5
      replace p131 := eq_true p131
      replace q131 := eq_true q131
      go_wp2_with (first | ((with_reducible refine gate_callee (f := 45) rfl ?_);refine goesL_ (some 29) rfl rfl Try.func45 (by kernel_rfl) rfl #[.agg #[.int .i64 ((rd_T27 t128 x7_1).f0),.int .i64 ((rd_T27 t128 x7_1).f1),.int .i64 ((rd_T27 t128 x7_1).f2),.int .i64 ((rd_T27 t128 x7_1).f3),.int .i64 ((rd_T27 t128 x7_1).f4),.slice A131_5 ((rd_T27 t128 x7_1).f5).length c131_5],.int .i64 (wrap64 (a1 - x5_1))] rfl (by (try simp only [List.map_toArray,List.map_cons,List.map_nil]);first | done | rfl | (simp only [List.length_drop,List.length_take];rfl)) ?_;(with_reducible refine (ih k1 (by have := HK1.out;omega) ((rd_T27 t128 x7_1).f0) ((rd_T27 t128 x7_1).f1) ((rd_T27 t128 x7_1).f2) ((rd_T27 t128 x7_1).f3) ((rd_T27 t128 x7_1).f4) _ _ ((rd_T27 t128 x7_1).f5) (wrap64 (a1 - x5_1)) t132 _ ?side1 ?side2 A10.out).mono ?_);(case side1 => repeat (first | exact (by repeat (first | (with_reducible exact HR131_5.out) | (with_reducible refine Kd.C_alloc ?_ _) | (with_reducible refine Kd.C_drewN ?_ _) | (with_reducible refine Kd.C_drew ?_) | exact HR131_5.out)) | (with_reducible refine Kd.C_alloc ?_ _) | (with_reducible refine Kd.C_drewN ?_ _) | (with_reducible refine Kd.C_drew ?_)));(case side2 => exact HC131_5.out);rintro e w12 ⟨rfl,hb⟩;refine ⟨_,rfl,?_⟩;have n0_ := Aside0.mk (Kd.V_below (by (with_reducible repeat (first | apply Kd.V_alloc | apply Kd.V_drewN | apply Kd.V_drew));exact HO_6.out) hb);have n1_ := Aside0.mk (Kd.V_below (by (with_reducible repeat (first | apply Kd.V_alloc | apply Kd.V_drewN | apply Kd.V_drew));exact HL131_5.out) hb);have n2_ := Aside0.mk (blk_below (g := gb127) (o := .cells #[.int .i64 a0_0,.int .i64 a0_1,.int .i64 a0_2,.int .i64 a0_3,.int .i64 a0_4,.slice A0_5 l0_5.length c0_5] 27 (0,0)) (by (with_reducible repeat (first | refine blk_drewN ?_ _ | refine blk_drew ?_ | refine blk_alloc ?_ _));exact BK127.out) hb);have n3_ := Aside0.mk (Kd.C_below (by repeat (first | (with_reducible exact HR131_5.out) | (with_reducible refine Kd.C_alloc ?_ _) | (with_reducible refine Kd.C_drewN ?_ _) | (with_reducible refine Kd.C_drew ?_) | exact HR131_5.out)) hb);have n4_ := Aside0.mk (below_step (by repeat (first | (with_reducible first | exact HB.out | apply below_alloc | apply pw_below_drewN | apply below_drew1 | refine below_set ?_ GE127.out) | exact HB.out)) hb);clear HO_6;clear HL131_5;clear BK127;clear HR131_5;clear HB;have HO_6 := n0_;have HL131_5 := n1_;have BK127 := n2_;have HR131_5 := n3_;have HB := n4_;clear n0_ n1_ n2_ n3_ n4_;(try clear hb);(try clear hb2);(try clear hk);(try clear hi)))
      go_roundg k1
      case measure => have := HK1.out;omega
      case rel => exact ⟨(wrap64 (x5_1 + t132)),(wrap64 (x7_1 + 1)),(by first | rfl | (simp;done) | (simp [*];done)),(by first | rfl | (simp;done) | (simp [*];done)),H',⟨by have := HK1.out;omega⟩,⟨by (with_reducible repeat (first | apply Kd.V_alloc | apply Kd.V_drewN | apply Kd.V_drew));exact HO_6.out⟩,⟨by (with_reducible repeat (first | refine blk_drewN ?_ _ | refine blk_drew ?_ | refine blk_alloc ?_ _));exact BK127.out⟩,⟨by repeat (first | (with_reducible first | exact HB.out | apply below_alloc | apply pw_below_drewN | apply below_drew1 | refine below_set ?_ GE127.out) | exact HB.out)⟩⟩
     ·rw [if_neg c9] at H
      exact absurd H (by simp)
    ·rw [if_neg c8] at H
     have c8b0 : decide (x5_1 ≤ a1) = false := decide_eq_false c8
     clear c8
     obtain rfl := Option.some.inj H
     obtain ⟨Ao13,co13,eo13⟩ := Kd.V_slice HO_6.out
     subst eo13
     go_wp2
     go_ret
     exact ⟨by first | rfl | (simp [errW_none,errW_some] <;> rfl) | (simp [*,errW_none,errW_some] <;> rfl),by repeat (first | (with_reducible first | exact HB.out | apply below_alloc | apply pw_below_drewN | apply below_drew1 | refine below_set ?_ GE127.out) | exact HB.out)⟩
   ·rw [if_neg c7] at H
    have c7b0 : decide (x7_1 < (t128.length : Int)) = false := decide_eq_false c7
    clear c7
    obtain rfl := Option.some.inj H
    obtain ⟨Ao14,co14,eo14⟩ := Kd.V_slice HO_6.out
    subst eo14
    go_wp2
    go_ret
    exact ⟨by first | rfl | (simp [errW_none,errW_some] <;> rfl) | (simp [*,errW_none,errW_some] <;> rfl),by repeat (first | (with_reducible first | exact HB.out | apply below_alloc | apply pw_below_drewN | apply below_drew1 | refine below_set ?_ GE127.out) | exact HB.out)⟩

end Go.Proofs.Ytfcghajnnllmhaa.QP

namespace Go.Proofs.Ytfcghajnnllmhaa.QP
open Go.RowKit Go.Proofs.YtfcghajnnllmhaaW.PrintWords Go.Proofs.YtfcghajnnllmhaaW.PrintLast Go.Proofs.YtfcghajnnllmhaaW.PrintMore
attribute [local go_sem] max2_int min2_int max_two min_two max_three min_three max_four min_four   -- for this text's walks alone
set_option linter.unusedVariables false
set_option linter.unusedSimpArgs false

/-! ### passepartoutref04_Depth: function 22 -/
mutual
def passepartoutref04_Depth.l0 : Nat → Int → Int → List (S27) → Int → Option (Int)
 | 0,_,_,_,_ => none
 | k + 1,x1,x5,x6,x7 => if x7 < (x6.length : Int) then (passepartoutref04_Depth.j1 k x1 x5 x6 x7 (decide (x1 > 0))) else (passepartoutref04_Depth.j1 k x1 x5 x6 x7 false)
def passepartoutref04_Depth.j1 : Nat → Int → Int → List (S27) → Int → Bool → Option (Int)
 | 0,_,_,_,_,_ => none
 | k + 1,x1,x5,x6,x7,x18 => if x18 = true then (if 0 ≤ x7 then (if x7 < (x6.length : Int) then ((passepartoutref04_Depth.f k ((rd_T27 x6 x7).f0) ((rd_T27 x6 x7).f1) ((rd_T27 x6 x7).f2) ((rd_T27 x6 x7).f3) ((rd_T27 x6 x7).f4) ((rd_T27 x6 x7).f5) (wrap64 (x1 - 1))).bind fun t140 => (if t140 > x5 then (passepartoutref04_Depth.l0 k x1 t140 x6 (wrap64 (x7 + 1))) else (passepartoutref04_Depth.l0 k x1 x5 x6 (wrap64 (x7 + 1))))) else (none)) else (none)) else (some (wrap64 (x5 + 1)))
def passepartoutref04_Depth.f : Nat → Int → Int → Int → Int → Int → List (S27) → Int → Option (Int)
 | 0,_,_,_,_,_,_,_ => none
 | k + 1,a0_0,a0_1,a0_2,a0_3,a0_4,l0_5,a1 => (passepartoutref04_parts.f a0_0 a0_1 a0_2 a0_3 a0_4 l0_5).bind fun t136 => (passepartoutref04_Depth.l0 k a1 0 t136 0)
end
theorem passepartoutref04_Depth.mono_l : ∀ k,(∀ y0 y1 y2 y3 y4 y5 y6,LeO (passepartoutref04_Depth.f k y0 y1 y2 y3 y4 y5 y6) (passepartoutref04_Depth.f (k + 1) y0 y1 y2 y3 y4 y5 y6)) ∧ (∀ y0 y1 y2 y3,LeO (passepartoutref04_Depth.l0 k y0 y1 y2 y3) (passepartoutref04_Depth.l0 (k + 1) y0 y1 y2 y3)) ∧ (∀ y0 y1 y2 y3 y4,LeO (passepartoutref04_Depth.j1 k y0 y1 y2 y3 y4) (passepartoutref04_Depth.j1 (k + 1) y0 y1 y2 y3 y4))
 | 0 => ⟨fun _ _ _ _ _ _ _ r h => by simp [passepartoutref04_Depth.f] at h,fun _ _ _ _ r h => by simp [passepartoutref04_Depth.l0] at h,fun _ _ _ _ _ r h => by simp [passepartoutref04_Depth.j1] at h⟩
 | k + 1 => by
  obtain ⟨ih0,ih1,ih2⟩ := passepartoutref04_Depth.mono_l k
  refine ⟨?_,?_,?_⟩
  ·intro y0 y1 y2 y3 y4 y5 y6
   unfold passepartoutref04_Depth.f
   repeat' first
   | (with_reducible exact ih0 _ _ _ _ _ _ _)
   | (with_reducible exact ih1 _ _ _ _)
   | (with_reducible exact ih2 _ _ _ _ _)
   | (with_reducible exact LeO.refl _)
   | (with_reducible exact LeO.none _)
   | (with_reducible refine LeO.ite ?_ ?_)
   | (with_reducible refine LeO.bind ?_ (fun _ => ?_))
   | exact ih0 _ _ _ _ _ _ _
   | exact ih1 _ _ _ _
   | exact ih2 _ _ _ _ _
   | exact LeO.none _
   | refine LeO.ite ?_ ?_
   | refine LeO.bind ?_ (fun _ => ?_)
  ·intro y0 y1 y2 y3
   unfold passepartoutref04_Depth.l0
   repeat' first
   | (with_reducible exact ih0 _ _ _ _ _ _ _)
   | (with_reducible exact ih1 _ _ _ _)
   | (with_reducible exact ih2 _ _ _ _ _)
   | (with_reducible exact LeO.refl _)
   | (with_reducible exact LeO.none _)
   | (with_reducible refine LeO.ite ?_ ?_)
   | (with_reducible refine LeO.bind ?_ (fun _ => ?_))
   | exact ih0 _ _ _ _ _ _ _
   | exact ih1 _ _ _ _
   | exact ih2 _ _ _ _ _
   | exact LeO.none _
   | refine LeO.ite ?_ ?_
   | refine LeO.bind ?_ (fun _ => ?_)
  ·intro y0 y1 y2 y3 y4
   unfold passepartoutref04_Depth.j1
   repeat' first
   | (with_reducible exact ih0 _ _ _ _ _ _ _)
   | (with_reducible exact ih1 _ _ _ _)
   | (with_reducible exact ih2 _ _ _ _ _)
   | (with_reducible exact LeO.refl _)
   | (with_reducible exact LeO.none _)
   | (with_reducible refine LeO.ite ?_ ?_)
   | (with_reducible refine LeO.bind ?_ (fun _ => ?_))
   | exact ih0 _ _ _ _ _ _ _
   | exact ih1 _ _ _ _
   | exact ih2 _ _ _ _ _
   | exact LeO.none _
   | refine LeO.ite ?_ ?_
   | refine LeO.bind ?_ (fun _ => ?_)
theorem passepartoutref04_Depth.mono : ∀ a0 a1 a2 a3 a4 a5 a6 k,LeO (passepartoutref04_Depth.f k a0 a1 a2 a3 a4 a5 a6) (passepartoutref04_Depth.f (k + 1) a0 a1 a2 a3 a4 a5 a6) := by
 intro a0 a1 a2 a3 a4 a5 a6 k
 obtain ⟨ih0,ih1,ih2⟩ := passepartoutref04_Depth.mono_l k
 exact ih0 a0 a1 a2 a3 a4 a5 a6
set_option maxHeartbeats 8000000 in
set_option maxRecDepth 100000 in
theorem passepartoutref04_Depth.calls (k : Nat) : ∀ (a0_0 : Int) (a0_1 : Int) (a0_2 : Int) (a0_3 : Int) (a0_4 : Int) (A0_5 : Option Addr) (c0_5 : Nat) (l0_5 : List (S27)) (a1 : Int) (r : Int) (w : World) (hr0_5 : Kd.C k27 w A0_5 l0_5.length l0_5) (hc0_5 : l0_5.length ≤ c0_5) (h : passepartoutref04_Depth.f k a0_0 a0_1 a0_2 a0_3 a0_4 l0_5 a1 = some r),
  Calls Try.prog 22 #[.agg #[.int .i64 a0_0,.int .i64 a0_1,.int .i64 a0_2,.int .i64 a0_3,.int .i64 a0_4,.slice A0_5 l0_5.length c0_5],.int .i64 a1] w fun e w' => e = .returned (.int .i64 r) ∧ Below w.heap.size w w' := by
 induction k using Nat.strongRecOn with
 | _ k ih =>
 intro a0_0 a0_1 a0_2 a0_3 a0_4 A0_5 c0_5 l0_5 a1 r w hr0_5 hc0_5 h
 cases k with
 | zero => exact absurd h (by simp [passepartoutref04_Depth.f])
 | succ k =>
 simp only [passepartoutref04_Depth.f] at h
 have hu27 := Try.underlying27
 have HR0_5 := Aside0.mk hr0_5
 have HC0_5 := Aside0.mk hc0_5
 clear hr0_5 hc0_5
 have HB := Aside0.mk (Below.refl w.heap.size w)
 have H : ((passepartoutref04_parts.f a0_0 a0_1 a0_2 a0_3 a0_4 l0_5).bind fun t136 => (passepartoutref04_Depth.l0 k a1 0 t136 0)) = some r := h
 clear h
 replace H := Option.bind_eq_some_iff.mp H
 obtain ⟨t136,A30,H⟩ := H
 replace H : (passepartoutref04_Depth.l0 k a1 0 t136 0) = some r := H
 have A3 := Aside0.mk A30
 clear A30
 have H' := Aside0.mk H
 clear H
 go_enter Try.func22,Try.ntmps22
 go_wp2_with (first | ((with_reducible refine gate_dst (N := 2) rfl ?_);refine box_event ?hg (N := 2) ?hd (cs := #[.int .i64 a0_0,.int .i64 a0_1,.int .i64 a0_2,.int .i64 a0_3,.int .i64 a0_4,.slice A0_5 l0_5.length c0_5]) (t := 27) ?hr ?_;(case hd => rfl);(case hg => rfl);(case hr => first | (go_simp;done) | (go_simp;rfl));intro gb135 hg w4 hbox hb;have n0_ := Aside0.mk (below_step (by repeat (first | (with_reducible first | exact HB.out | apply below_alloc | apply pw_below_drewN | apply below_drew1) | exact HB.out)) hb);have n1_ := Aside0.mk (hbox);have n2_ := Aside0.mk ((by rw [hg];exact (below_size (by repeat (first | (with_reducible first | exact HB.out | apply below_alloc | apply pw_below_drewN | apply below_drew1) | exact HB.out))) : w.heap.size ≤ gb135));have n3_ := Aside0.mk ((by rw [hg];exact (below_size (by repeat (first | (with_reducible first | exact HB.out | apply below_alloc | apply pw_below_drewN | apply below_drew1) | exact HB.out))) : w.heap.size ≤ gb135));clear HB;have HB := n0_;have BK135 := n1_;have GW135 := n2_;have GE135 := n3_;clear n0_ n1_ n2_ n3_;clear hb hbox hg;have hcz5_0 : w4.cell? ⟨gb135,0,none⟩ = some (.int .i64 a0_0) := (blk_cell BK135.out 0).trans rfl;have hcz5_1 : w4.cell? ⟨gb135,1,none⟩ = some (.int .i64 a0_1) := (blk_cell BK135.out 1).trans rfl;have hcz5_2 : w4.cell? ⟨gb135,2,none⟩ = some (.int .i64 a0_2) := (blk_cell BK135.out 2).trans rfl;have hcz5_3 : w4.cell? ⟨gb135,3,none⟩ = some (.int .i64 a0_3) := (blk_cell BK135.out 3).trans rfl;have hcz5_4 : w4.cell? ⟨gb135,4,none⟩ = some (.int .i64 a0_4) := (blk_cell BK135.out 4).trans rfl;have hcz5_5 : w4.cell? ⟨gb135,5,none⟩ = some (.slice A0_5 l0_5.length c0_5) := (blk_cell BK135.out 5).trans rfl;have hfz5_0 := blk_frozen BK135.out 0;have hfz5_1 := blk_frozen BK135.out 1;have hfz5_2 := blk_frozen BK135.out 2;have hfz5_3 := blk_frozen BK135.out 3;have hfz5_4 := blk_frozen BK135.out 4;have hfz5_5 := blk_frozen BK135.out 5) | ((with_reducible refine gate_callee (f := 47) rfl ?_);refine goesL_ (some 10) rfl rfl Try.func47 (by kernel_rfl) rfl #[.agg #[.int .i64 a0_0,.int .i64 a0_1,.int .i64 a0_2,.int .i64 a0_3,.int .i64 a0_4,.slice A0_5 l0_5.length c0_5]] rfl (by (try simp only [List.map_toArray,List.map_cons,List.map_nil]);first | done | rfl | (simp only [List.length_drop,List.length_take];rfl)) ?_;(with_reducible refine (passepartoutref04_parts.calls a0_0 a0_1 a0_2 a0_3 a0_4 (fun k_ => k_ < w.heap.size) _ _ l0_5 t136 _ ?side1 A3.out).mono ?_);(case side1 => exact Kd.V_mk HC0_5.out (Kd.F_below (Kd.C_F k27_heap HR0_5.out) (by repeat (first | (with_reducible first | exact HB.out | apply below_alloc | apply pw_below_drewN | apply below_drew1 | refine below_set ?_ GE135.out) | exact HB.out))));rintro e w6 ⟨v137,rfl,ho0,hb⟩;refine ⟨_,rfl,?_⟩;have n0_ := Aside0.mk (Kd.V_lower (Kd.V_mono (ok' := fun k_ => k_ ≠ gb135) ho0 (fun k_ hk_ => Or.elim hk_ (fun hs_ => fun e_ => Nat.not_le.2 hs_ (by rw [e_];exact GW135.out)) (fun hn_ => (Kd.freshB (g := gb135) (o := .cells #[.int .i64 a0_0,.int .i64 a0_1,.int .i64 a0_2,.int .i64 a0_3,.int .i64 a0_4,.slice A0_5 l0_5.length c0_5] 27 (0,0)) (by (with_reducible repeat (first | refine blk_drewN ?_ _ | refine blk_drew ?_ | refine blk_alloc ?_ _));exact BK135.out) k_ hn_)))) (below_size (by repeat (first | (with_reducible first | exact HB.out | apply below_alloc | apply pw_below_drewN | apply below_drew1 | refine below_set ?_ GE135.out) | exact HB.out))));have n1_ := Aside0.mk (blk_below (g := gb135) (o := .cells #[.int .i64 a0_0,.int .i64 a0_1,.int .i64 a0_2,.int .i64 a0_3,.int .i64 a0_4,.slice A0_5 l0_5.length c0_5] 27 (0,0)) (by (with_reducible repeat (first | refine blk_drewN ?_ _ | refine blk_drew ?_ | refine blk_alloc ?_ _));exact BK135.out) hb);have n2_ := Aside0.mk (below_step (by repeat (first | (with_reducible first | exact HB.out | apply below_alloc | apply pw_below_drewN | apply below_drew1 | refine below_set ?_ GE135.out) | exact HB.out)) hb);clear BK135;clear HB;have HO138 := n0_;have BK135 := n1_;have HB := n2_;clear n0_ n1_ n2_;(try clear hb);(try clear hb2);(try clear hk);(try clear hi);(try clear ho0)))
 go_loopg [5,7] k (fun kq v5 v7 w' => ∃ (x5_1 : Int) (x7_1 : Int),v5 = .int .i64 x5_1 ∧ v7 = .int .i64 x7_1 ∧ Aside0 (passepartoutref04_Depth.l0 kq a1 x5_1 t136 x7_1 = some r) ∧ Aside0 (kq ≤ k) ∧ Aside0 (Kd.V k27 27 w' w.heap.size (fun k_ => k_ ≠ gb135) v137 t136) ∧ Aside0 (w'.heap[gb135]? = some (.cells #[.int .i64 a0_0,.int .i64 a0_1,.int .i64 a0_2,.int .i64 a0_3,.int .i64 a0_4,(.slice A0_5 l0_5.length c0_5)] 27 (0,0))) ∧ Aside0 (Below w.heap.size w w'))
 case atStart => exact ⟨(0),(0),(by first | rfl | (simp;done) | (simp [*];done)),(by first | rfl | (simp;done) | (simp [*];done)),H',⟨Nat.le_refl _⟩,⟨by (with_reducible repeat (first | apply Kd.V_alloc | apply Kd.V_drewN | apply Kd.V_drew));exact HO138.out⟩,⟨by (with_reducible repeat (first | refine blk_drewN ?_ _ | refine blk_drew ?_ | refine blk_alloc ?_ _));exact BK135.out⟩,⟨by repeat (first | (with_reducible first | exact HB.out | apply below_alloc | apply pw_below_drewN | apply below_drew1 | refine below_set ?_ GE135.out) | exact HB.out)⟩⟩
 case round =>
  clear H'
  try clear c2
  try clear p2
  try clear c4
  try clear hcz5_0
  try clear hcz5_1
  try clear hcz5_2
  try clear hcz5_3
  try clear hcz5_4
  try clear hcz5_5
  try clear hfz5_0
  try clear hfz5_1
  try clear hfz5_2
  try clear hfz5_3
  try clear hfz5_4
  try clear hfz5_5
  obtain ⟨x5_1,x7_1,rfl,rfl,HA,HK1,HO_6,BK135,HB⟩ := hrel
  cases gk with
  | zero => exact absurd HA.out (by simp [passepartoutref04_Depth.l0])
  | succ k1 =>
   have H := HA.out
   clear HA
   simp only [passepartoutref04_Depth.l0] at H
   have HC7 := Aside0.mk H
   clear H
   go_upto_region 4 with (fail)
   go_cut [18] (fun v18 wc => ∃ (kq : Nat) (x18_6 : Bool),v18 = .bool x18_6 ∧ Aside0 (passepartoutref04_Depth.j1 kq a1 x5_1 t136 x7_1 x18_6 = some r) ∧ Aside0 (kq ≤ k1) ∧ Aside0 (Kd.V k27 27 wc w.heap.size (fun k_ => k_ ≠ gb135) v137 t136) ∧ Aside0 (wc.heap[gb135]? = some (.cells #[.int .i64 a0_0,.int .i64 a0_1,.int .i64 a0_2,.int .i64 a0_3,.int .i64 a0_4,(.slice A0_5 l0_5.length c0_5)] 27 (0,0))) ∧ Aside0 (Below w.heap.size w wc))
   case first =>
    have H := HC7.out
    clear HC7
    by_cases c8 : x7_1 < (t136.length : Int)
    ·rw [if_pos c8] at H
     have c8b0 : decide (x7_1 < (t136.length : Int)) = true := decide_eq_true c8
     clear c8
     (first | rw [c8b0] | (simp only [i64_w,i32_w];rw [c8b0]) | skip)
     have H' := Aside0.mk H
     clear H
     obtain ⟨Ao9,co9,eo9⟩ := Kd.V_slice HO_6.out
     subst eo9
     go_wp2
     go_meet
     case rel => exact ⟨_,(decide (a1 > 0)),(by first | rfl | (simp;done) | (simp [*];done)),H',⟨by have := HK1.out;first | omega | exact Nat.le_refl _⟩,⟨by (with_reducible repeat (first | apply Kd.V_alloc | apply Kd.V_drewN | apply Kd.V_drew));exact HO_6.out⟩,⟨by (with_reducible repeat (first | refine blk_drewN ?_ _ | refine blk_drew ?_ | refine blk_alloc ?_ _));exact BK135.out⟩,⟨by repeat (first | (with_reducible first | exact HB.out | apply below_alloc | apply pw_below_drewN | apply below_drew1 | refine below_set ?_ GE135.out) | exact HB.out)⟩⟩
    ·rw [if_neg c8] at H
     have c8b0 : decide (x7_1 < (t136.length : Int)) = false := decide_eq_false c8
     clear c8
     (first | rw [c8b0] | (simp only [i64_w,i32_w];rw [c8b0]) | skip)
     have H' := Aside0.mk H
     clear H
     obtain ⟨Ao10,co10,eo10⟩ := Kd.V_slice HO_6.out
     subst eo10
     go_wp2
     go_meet
     case rel => exact ⟨_,(false),(by first | rfl | (simp;done) | (simp [*];done)),H',⟨by have := HK1.out;first | omega | exact Nat.le_refl _⟩,⟨by (with_reducible repeat (first | apply Kd.V_alloc | apply Kd.V_drewN | apply Kd.V_drew));exact HO_6.out⟩,⟨by (with_reducible repeat (first | refine blk_drewN ?_ _ | refine blk_drew ?_ | refine blk_alloc ?_ _));exact BK135.out⟩,⟨by repeat (first | (with_reducible first | exact HB.out | apply below_alloc | apply pw_below_drewN | apply below_drew1 | refine below_set ?_ GE135.out) | exact HB.out)⟩⟩
   case rest =>
    clear HC7
    try clear c2
    try clear p2
    try clear c4
    try clear c8
    try clear c8b0
    try clear hcz5_0
    try clear hcz5_1
    try clear hcz5_2
    try clear hcz5_3
    try clear hcz5_4
    try clear hcz5_5
    try clear hfz5_0
    try clear hfz5_1
    try clear hfz5_2
    try clear hfz5_3
    try clear hfz5_4
    try clear hfz5_5
    try clear p2
    obtain ⟨kq,x18_6,rfl,HA,HJ6,HO_6,BK135,HB⟩ := hcut
    cases kq with
    | zero => exact absurd HA.out (by simp [passepartoutref04_Depth.j1])
    | succ kj6 =>
     have H := HA.out
     clear HA
     simp only [passepartoutref04_Depth.j1] at H
     by_cases c11 : x18_6 = true
     ·subst c11
      have H1 : (if 0 ≤ x7_1 then (if x7_1 < (t136.length : Int) then ((passepartoutref04_Depth.f kj6 ((rd_T27 t136 x7_1).f0) ((rd_T27 t136 x7_1).f1) ((rd_T27 t136 x7_1).f2) ((rd_T27 t136 x7_1).f3) ((rd_T27 t136 x7_1).f4) ((rd_T27 t136 x7_1).f5) (wrap64 (a1 - 1))).bind fun t140 => (if t140 > x5_1 then (passepartoutref04_Depth.l0 kj6 a1 t140 t136 (wrap64 (x7_1 + 1))) else (passepartoutref04_Depth.l0 kj6 a1 x5_1 t136 (wrap64 (x7_1 + 1))))) else (none)) else (none)) = some r := by rw [if_pos rfl] at H;exact H
      clear H
      have H := H1
      clear H1
      by_cases c12 : 0 ≤ x7_1
      ·rw [if_pos c12] at H
       have c12b0 : decide (0 ≤ x7_1) = true := decide_eq_true c12
       clear c12
       by_cases c13 : x7_1 < (t136.length : Int)
       ·rw [if_pos c13] at H
        have c13b0 : decide (x7_1 < (t136.length : Int)) = true := decide_eq_true c13
        clear c13
        replace H := Option.bind_eq_some_iff.mp H
        obtain ⟨t140,A140,H⟩ := H
        replace H : (if t140 > x5_1 then (passepartoutref04_Depth.l0 kj6 a1 t140 t136 (wrap64 (x7_1 + 1))) else (passepartoutref04_Depth.l0 kj6 a1 x5_1 t136 (wrap64 (x7_1 + 1)))) = some r := H
        have A14 := Aside0.mk A140
        clear A140
        by_cases c15 : t140 > x5_1
        ·rw [if_pos c15] at H
         have c15b0 : decide (x5_1 < t140) = true := decide_eq_true c15
         clear c15
         have H' := Aside0.mk H
         clear H
         obtain ⟨Ao16,co16,eo16⟩ := Kd.V_slice HO_6.out
         subst eo16
         have p139 : 0 ≤ (x7_1 : Int) := of_decide_eq_true (by first | (with_reducible assumption) | assumption)
         have q139 : x7_1 < (t136.length : Int) := of_decide_eq_true (by first | (with_reducible assumption) | assumption)
         obtain ⟨ad139,A139_5,c139_5,e139,hx139_0,hx139_1,hx139_2,hx139_3,hx139_4,hx139_5,hl139_5,hi139_5⟩ := at_T27 (Kd.V_reads' HO_6.out).2.2 x7_1 p139 q139
         cases e139
         obtain ⟨ce139,hce139,hMe139,hcc139⟩ := Kd.V_get HO_6.out z27 x7_1 p139 (by first | exact q139 | exact of_decide_eq_true (by first | (with_reducible assumption) | assumption) | (have e_ := (Kd.V_reads' HO_6.out).1;omega))
         obtain ⟨ua139_5,uc139_5,rfl,ul139_5,ge139_5⟩ := k27_openF hMe139
         have hv139_5 := hcc139 5 _ rfl
         rw [add_field _ _ 5 (by omega)] at hv139_5
         replace hv139_5 := Option.some.inj (hv139_5.symm.trans hx139_5)
         injection hv139_5 with hva_ hvn_ hvc_
         rw [hva_] at ge139_5
         rw [hvc_] at ul139_5
         have HL139_5 := Aside0.mk (show Kd.V k27 27 _ w.heap.size _ _ ((rd_T27 t136 x7_1).f5) from Kd.V_mk ul139_5 ge139_5)
         clear hva_ hvn_ hvc_ ge139_5 ul139_5
         clear hcc139 hce139
         have HR139_5 := Aside0.mk hi139_5
         have HC139_5 := Aside0.mk hl139_5
         clear hi139_5 hl139_5
         replace p139 := eq_true p139
         replace q139 := eq_true q139
         go_wp2_with (first | ((with_reducible refine gate_callee (f := 22) rfl ?_);refine goesL_ (some 27) rfl rfl Try.func22 (by kernel_rfl) rfl #[.agg #[.int .i64 ((rd_T27 t136 x7_1).f0),.int .i64 ((rd_T27 t136 x7_1).f1),.int .i64 ((rd_T27 t136 x7_1).f2),.int .i64 ((rd_T27 t136 x7_1).f3),.int .i64 ((rd_T27 t136 x7_1).f4),.slice A139_5 ((rd_T27 t136 x7_1).f5).length c139_5],.int .i64 (wrap64 (a1 - 1))] rfl (by (try simp only [List.map_toArray,List.map_cons,List.map_nil]);first | done | rfl | (simp only [List.length_drop,List.length_take];rfl)) ?_;(with_reducible refine (ih kj6 (by have := HK1.out;have := HJ6.out;omega) ((rd_T27 t136 x7_1).f0) ((rd_T27 t136 x7_1).f1) ((rd_T27 t136 x7_1).f2) ((rd_T27 t136 x7_1).f3) ((rd_T27 t136 x7_1).f4) _ _ ((rd_T27 t136 x7_1).f5) (wrap64 (a1 - 1)) t140 _ ?side1 ?side2 A14.out).mono ?_);(case side1 => repeat (first | exact (by repeat (first | (with_reducible exact HR139_5.out) | (with_reducible refine Kd.C_alloc ?_ _) | (with_reducible refine Kd.C_drewN ?_ _) | (with_reducible refine Kd.C_drew ?_) | exact HR139_5.out)) | (with_reducible refine Kd.C_alloc ?_ _) | (with_reducible refine Kd.C_drewN ?_ _) | (with_reducible refine Kd.C_drew ?_)));(case side2 => exact HC139_5.out);rintro e w17 ⟨rfl,hb⟩;refine ⟨_,rfl,?_⟩;have n0_ := Aside0.mk (Kd.V_below (by (with_reducible repeat (first | apply Kd.V_alloc | apply Kd.V_drewN | apply Kd.V_drew));exact HO_6.out) hb);have n1_ := Aside0.mk (Kd.V_below (by (with_reducible repeat (first | apply Kd.V_alloc | apply Kd.V_drewN | apply Kd.V_drew));exact HL139_5.out) hb);have n2_ := Aside0.mk (blk_below (g := gb135) (o := .cells #[.int .i64 a0_0,.int .i64 a0_1,.int .i64 a0_2,.int .i64 a0_3,.int .i64 a0_4,.slice A0_5 l0_5.length c0_5] 27 (0,0)) (by (with_reducible repeat (first | refine blk_drewN ?_ _ | refine blk_drew ?_ | refine blk_alloc ?_ _));exact BK135.out) hb);have n3_ := Aside0.mk (Kd.C_below (by repeat (first | (with_reducible exact HR139_5.out) | (with_reducible refine Kd.C_alloc ?_ _) | (with_reducible refine Kd.C_drewN ?_ _) | (with_reducible refine Kd.C_drew ?_) | exact HR139_5.out)) hb);have n4_ := Aside0.mk (below_step (by repeat (first | (with_reducible first | exact HB.out | apply below_alloc | apply pw_below_drewN | apply below_drew1 | refine below_set ?_ GE135.out) | exact HB.out)) hb);clear HO_6;clear HL139_5;clear BK135;clear HR139_5;clear HB;have HO_6 := n0_;have HL139_5 := n1_;have BK135 := n2_;have HR139_5 := n3_;have HB := n4_;clear n0_ n1_ n2_ n3_ n4_;(try clear hb);(try clear hb2);(try clear hk);(try clear hi)))
         go_roundg kj6
         case measure => have := HK1.out;have := HJ6.out;omega
         case rel => exact ⟨(t140),(wrap64 (x7_1 + 1)),(by first | rfl | (simp;done) | (simp [*];done)),(by first | rfl | (simp;done) | (simp [*];done)),H',⟨by have := HK1.out;have := HJ6.out;omega⟩,⟨by (with_reducible repeat (first | apply Kd.V_alloc | apply Kd.V_drewN | apply Kd.V_drew));exact HO_6.out⟩,⟨by (with_reducible repeat (first | refine blk_drewN ?_ _ | refine blk_drew ?_ | refine blk_alloc ?_ _));exact BK135.out⟩,⟨by repeat (first | (with_reducible first | exact HB.out | apply below_alloc | apply pw_below_drewN | apply below_drew1 | refine below_set ?_ GE135.out) | exact HB.out)⟩⟩
        ·rw [if_neg c15] at H
         have c15b0 : decide (x5_1 < t140) = false := decide_eq_false c15
         clear c15
         have H' := Aside0.mk H
         clear H
         obtain ⟨Ao18,co18,eo18⟩ := Kd.V_slice HO_6.out
         subst eo18
         have p139 : 0 ≤ (x7_1 : Int) := of_decide_eq_true (by first | (with_reducible assumption) | assumption)
         have q139 : x7_1 < (t136.length : Int) := of_decide_eq_true (by first | (with_reducible assumption) | assumption)
         obtain ⟨ad139,A139_5,c139_5,e139,hx139_0,hx139_1,hx139_2,hx139_3,hx139_4,hx139_5,hl139_5,hi139_5⟩ := at_T27 (Kd.V_reads' HO_6.out).2.2 x7_1 p139 q139
         cases e139
         obtain ⟨ce139,hce139,hMe139,hcc139⟩ := Kd.V_get HO_6.out z27 x7_1 p139 (by first | exact q139 | exact of_decide_eq_true (by first | (with_reducible assumption) | assumption) | (have e_ := (Kd.V_reads' HO_6.out).1;omega))
         obtain ⟨ua139_5,uc139_5,rfl,ul139_5,ge139_5⟩ := k27_openF hMe139
         have hv139_5 := hcc139 5 _ rfl
         rw [add_field _ _ 5 (by omega)] at hv139_5
         replace hv139_5 := Option.some.inj (hv139_5.symm.trans hx139_5)
         injection hv139_5 with hva_ hvn_ hvc_
         rw [hva_] at ge139_5
         rw [hvc_] at ul139_5
         have HL139_5 := Aside0.mk (show Kd.V k27 27 _ w.heap.size _ _ ((rd_T27 t136 x7_1).f5) from Kd.V_mk ul139_5 ge139_5)
         clear hva_ hvn_ hvc_ ge139_5 ul139_5
         clear hcc139 hce139
         have HR139_5 := Aside0.mk hi139_5
         have HC139_5 := Aside0.mk hl139_5
         clear hi139_5 hl139_5
         replace p139 := eq_true p139
         replace q139 := eq_true q139
         go_wp2_with (first | ((with_reducible refine gate_callee (f := 22) rfl ?_);refine goesL_ (some 27) rfl rfl Try.func22 (by kernel_rfl) rfl #[.agg #[.int .i64 ((rd_T27 t136 x7_1).f0),.int .i64 ((rd_T27 t136 x7_1).f1),.int .i64 ((rd_T27 t136 x7_1).f2),.int .i64 ((rd_T27 t136 x7_1).f3),.int .i64 ((rd_T27 t136 x7_1).f4),.slice A139_5 ((rd_T27 t136 x7_1).f5).length c139_5],.int .i64 (wrap64 (a1 - 1))] rfl (by (try simp only [List.map_toArray,List.map_cons,List.map_nil]);first | done | rfl | (simp only [List.length_drop,List.length_take];rfl)) ?_;(with_reducible refine (ih kj6 (by have := HK1.out;have := HJ6.out;omega) ((rd_T27 t136 x7_1).f0) ((rd_T27 t136 x7_1).f1) ((rd_T27 t136 x7_1).f2) ((rd_T27 t136 x7_1).f3) ((rd_T27 t136 x7_1).f4) _ _ ((rd_T27 t136 x7_1).f5) (wrap64 (a1 - 1)) t140 _ ?side1 ?side2 A14.out).mono ?_);(case side1 => repeat (first | exact (by repeat (first | (with_reducible exact HR139_5.out) | (with_reducible refine Kd.C_alloc ?_ _) | (with_reducible refine Kd.C_drewN ?_ _) | (with_reducible refine Kd.C_drew ?_) | exact HR139_5.out)) | (with_reducible refine Kd.C_alloc ?_ _) | (with_reducible refine Kd.C_drewN ?_ _) | (with_reducible refine Kd.C_drew ?_)));(case side2 => exact HC139_5.out);rintro e w19 ⟨rfl,hb⟩;refine ⟨_,rfl,?_⟩;have n0_ := Aside0.mk (Kd.V_below (by (with_reducible repeat (first | apply Kd.V_alloc | apply Kd.V_drewN | apply Kd.V_drew));exact HO_6.out) hb);have n1_ := Aside0.mk (Kd.V_below (by (with_reducible repeat (first | apply Kd.V_alloc | apply Kd.V_drewN | apply Kd.V_drew));exact HL139_5.out) hb);have n2_ := Aside0.mk (blk_below (g := gb135) (o := .cells #[.int .i64 a0_0,.int .i64 a0_1,.int .i64 a0_2,.int .i64 a0_3,.int .i64 a0_4,.slice A0_5 l0_5.length c0_5] 27 (0,0)) (by (with_reducible repeat (first | refine blk_drewN ?_ _ | refine blk_drew ?_ | refine blk_alloc ?_ _));exact BK135.out) hb);have n3_ := Aside0.mk (Kd.C_below (by repeat (first | (with_reducible exact HR139_5.out) | (with_reducible refine Kd.C_alloc ?_ _) | (with_reducible refine Kd.C_drewN ?_ _) | (with_reducible refine Kd.C_drew ?_) | exact HR139_5.out)) hb);have n4_ := Aside0.mk (below_step (by repeat (first | (with_reducible first | exact HB.out | apply below_alloc | apply pw_below_drewN | apply below_drew1 | refine below_set ?_ GE135.out) | exact HB.out)) hb);clear HO_6;clear HL139_5;clear BK135;clear HR139_5;clear HB;have HO_6 := n0_;have HL139_5 := n1_;have BK135 := n2_;have HR139_5 := n3_;have HB := n4_;clear n0_ n1_ n2_ n3_ n4_;(try clear hb);(try clear hb2);(try clear hk);(try clear hi)))
         go_roundg kj6
         case measure => have := HK1.out;have := HJ6.out;omega
         case rel => exact ⟨(x5_1),(wrap64 (x7_1 + 1)),(by first | rfl | (simp;done) | (simp [*];done)),(by first | rfl | (simp;done) | (simp [*];done)),H',⟨by have := HK1.out;have := HJ6.out;omega⟩,⟨by (with_reducible repeat (first | apply Kd.V_alloc | apply Kd.V_drewN | apply Kd.V_drew));exact HO_6.out⟩,⟨by (with_reducible repeat (first | refine blk_drewN ?_ _ | refine blk_drew ?_ | refine blk_alloc ?_ _));exact BK135.out⟩,⟨by repeat (first | (with_reducible first | exact HB.out | apply below_alloc | apply pw_below_drewN | apply below_drew1 | refine below_set ?_ GE135.out) | exact HB.out)⟩⟩
       ·rw [if_neg c13] at H
        exact absurd H (by simp)
      ·rw [if_neg c12] at H
       exact absurd H (by simp)
     ·replace c11 := Bool.eq_false_iff.mpr c11
      subst c11
      have H1 : (some (wrap64 (x5_1 + 1))) = some r := by rw [if_neg (show ¬ (false = true) by decide)] at H;exact H
      clear H
      have H := H1
      clear H1
      obtain rfl := Option.some.inj H
      go_wp2
      go_ret
      exact ⟨by first | rfl | (simp [errW_none,errW_some] <;> rfl) | (simp [*,errW_none,errW_some] <;> rfl),by repeat (first | (with_reducible first | exact HB.out | apply below_alloc | apply pw_below_drewN | apply below_drew1 | refine below_set ?_ GE135.out) | exact HB.out)⟩

end Go.Proofs.Ytfcghajnnllmhaa.QP

namespace Go.Proofs.Ytfcghajnnllmhaa.QP
open Go.RowKit Go.Proofs.YtfcghajnnllmhaaW.PrintWords Go.Proofs.YtfcghajnnllmhaaW.PrintLast Go.Proofs.YtfcghajnnllmhaaW.PrintMore
attribute [local go_sem] max2_int min2_int max_two min_two max_three min_three max_four min_four   -- for this text's walks alone
set_option linter.unusedVariables false
set_option linter.unusedSimpArgs false

/-! ### passepartoutref04_Least: function 34 -/
mutual
def passepartoutref04_Least.j0 : Nat → Int → Bool → Int → Int → Int → Int → Int → List (S27) → Option (Int)
 | 0,_,_,_,_,_,_,_,_ => none
 | k + 1,x6,x11,x142000,x142001,x142002,x142003,x142004,x142005 => if x11 = true then (some (wrap64 (x142001 + x142002))) else (if x6 = 4 then (some x142002) else (if x6 = 5 then (some x142002) else (passepartoutref04_Least.l0 k 0 0 x142000 x142001 x142002 x142003 x142004 x142005)))
def passepartoutref04_Least.l0 : Nat → Int → Int → Int → Int → Int → Int → Int → List (S27) → Option (Int)
 | 0,_,_,_,_,_,_,_,_ => none
 | k + 1,x3,x4,x142000,x142001,x142002,x142003,x142004,x142005 => if x4 < (x142005.length : Int) then (if 0 ≤ x4 then ((passepartoutref04_Least.f k ((rd_T27 x142005 x4).f0) ((rd_T27 x142005 x4).f1) ((rd_T27 x142005 x4).f2) ((rd_T27 x142005 x4).f3) ((rd_T27 x142005 x4).f4) ((rd_T27 x142005 x4).f5)).bind fun t143 => (passepartoutref04_Least.l0 k (wrap64 (x3 + t143)) (wrap64 (x4 + 1)) x142000 x142001 x142002 x142003 x142004 x142005)) else (none)) else (some x3)
def passepartoutref04_Least.f : Nat → Int → Int → Int → Int → Int → List (S27) → Option (Int)
 | 0,_,_,_,_,_,_ => none
 | k + 1,a0_0,a0_1,a0_2,a0_3,a0_4,l0_5 => if a0_0 = 0 then (some a0_1) else (if a0_0 = 1 then (passepartoutref04_Least.j0 k a0_0 (a0_0 == 1) a0_0 a0_1 a0_2 a0_3 a0_4 l0_5) else (passepartoutref04_Least.j0 k a0_0 (a0_0 == 2) a0_0 a0_1 a0_2 a0_3 a0_4 l0_5))
end
theorem passepartoutref04_Least.mono_l : ∀ k,(∀ y0 y1 y2 y3 y4 y5,LeO (passepartoutref04_Least.f k y0 y1 y2 y3 y4 y5) (passepartoutref04_Least.f (k + 1) y0 y1 y2 y3 y4 y5)) ∧ (∀ y0 y1 y2 y3 y4 y5 y6 y7,LeO (passepartoutref04_Least.j0 k y0 y1 y2 y3 y4 y5 y6 y7) (passepartoutref04_Least.j0 (k + 1) y0 y1 y2 y3 y4 y5 y6 y7)) ∧ (∀ y0 y1 y2 y3 y4 y5 y6 y7,LeO (passepartoutref04_Least.l0 k y0 y1 y2 y3 y4 y5 y6 y7) (passepartoutref04_Least.l0 (k + 1) y0 y1 y2 y3 y4 y5 y6 y7))
 | 0 => ⟨fun _ _ _ _ _ _ r h => by simp [passepartoutref04_Least.f] at h,fun _ _ _ _ _ _ _ _ r h => by simp [passepartoutref04_Least.j0] at h,fun _ _ _ _ _ _ _ _ r h => by simp [passepartoutref04_Least.l0] at h⟩
 | k + 1 => by
  obtain ⟨ih0,ih1,ih2⟩ := passepartoutref04_Least.mono_l k
  refine ⟨?_,?_,?_⟩
  ·intro y0 y1 y2 y3 y4 y5
   unfold passepartoutref04_Least.f
   repeat' first
   | (with_reducible exact ih0 _ _ _ _ _ _)
   | (with_reducible exact ih1 _ _ _ _ _ _ _ _)
   | (with_reducible exact ih2 _ _ _ _ _ _ _ _)
   | (with_reducible exact LeO.refl _)
   | (with_reducible exact LeO.none _)
   | (with_reducible refine LeO.ite ?_ ?_)
   | (with_reducible refine LeO.bind ?_ (fun _ => ?_))
   | exact ih0 _ _ _ _ _ _
   | exact ih1 _ _ _ _ _ _ _ _
   | exact ih2 _ _ _ _ _ _ _ _
   | exact LeO.none _
   | refine LeO.ite ?_ ?_
   | refine LeO.bind ?_ (fun _ => ?_)
  ·intro y0 y1 y2 y3 y4 y5 y6 y7
   unfold passepartoutref04_Least.j0
   repeat' first
   | (with_reducible exact ih0 _ _ _ _ _ _)
   | (with_reducible exact ih1 _ _ _ _ _ _ _ _)
   | (with_reducible exact ih2 _ _ _ _ _ _ _ _)
   | (with_reducible exact LeO.refl _)
   | (with_reducible exact LeO.none _)
   | (with_reducible refine LeO.ite ?_ ?_)
   | (with_reducible refine LeO.bind ?_ (fun _ => ?_))
   | exact ih0 _ _ _ _ _ _
   | exact ih1 _ _ _ _ _ _ _ _
   | exact ih2 _ _ _ _ _ _ _ _
   | exact LeO.none _
   | refine LeO.ite ?_ ?_
   | refine LeO.bind ?_ (fun _ => ?_)
  ·intro y0 y1 y2 y3 y4 y5 y6 y7
   unfold passepartoutref04_Least.l0
   repeat' first
   | (with_reducible exact ih0 _ _ _ _ _ _)
   | (with_reducible exact ih1 _ _ _ _ _ _ _ _)
   | (with_reducible exact ih2 _ _ _ _ _ _ _ _)
   | (with_reducible exact LeO.refl _)
   | (with_reducible exact LeO.none _)
   | (with_reducible refine LeO.ite ?_ ?_)
   | (with_reducible refine LeO.bind ?_ (fun _ => ?_))
   | exact ih0 _ _ _ _ _ _
   | exact ih1 _ _ _ _ _ _ _ _
   | exact ih2 _ _ _ _ _ _ _ _
   | exact LeO.none _
   | refine LeO.ite ?_ ?_
   | refine LeO.bind ?_ (fun _ => ?_)
theorem passepartoutref04_Least.mono : ∀ a0 a1 a2 a3 a4 a5 k,LeO (passepartoutref04_Least.f k a0 a1 a2 a3 a4 a5) (passepartoutref04_Least.f (k + 1) a0 a1 a2 a3 a4 a5) := by
 intro a0 a1 a2 a3 a4 a5 k
 obtain ⟨ih0,ih1,ih2⟩ := passepartoutref04_Least.mono_l k
 exact ih0 a0 a1 a2 a3 a4 a5
set_option maxHeartbeats 8000000 in
set_option maxRecDepth 100000 in
theorem passepartoutref04_Least.calls (k : Nat) : ∀ (a0_0 : Int) (a0_1 : Int) (a0_2 : Int) (a0_3 : Int) (a0_4 : Int) (A0_5 : Option Addr) (c0_5 : Nat) (l0_5 : List (S27)) (r : Int) (w : World) (hr0_5 : Kd.C k27 w A0_5 l0_5.length l0_5) (hc0_5 : l0_5.length ≤ c0_5) (h : passepartoutref04_Least.f k a0_0 a0_1 a0_2 a0_3 a0_4 l0_5 = some r),
  Calls Try.prog 34 #[.agg #[.int .i64 a0_0,.int .i64 a0_1,.int .i64 a0_2,.int .i64 a0_3,.int .i64 a0_4,.slice A0_5 l0_5.length c0_5]] w fun e w' => e = .returned (.int .i64 r) ∧ Below w.heap.size w w' := by
 induction k using Nat.strongRecOn with
 | _ k ih =>
 intro a0_0 a0_1 a0_2 a0_3 a0_4 A0_5 c0_5 l0_5 r w hr0_5 hc0_5 h
 cases k with
 | zero => exact absurd h (by simp [passepartoutref04_Least.f])
 | succ k =>
 simp only [passepartoutref04_Least.f] at h
 have hu27 := Try.underlying27
 have HR0_5 := Aside0.mk hr0_5
 have HC0_5 := Aside0.mk hc0_5
 clear hr0_5 hc0_5
 have HB := Aside0.mk (Below.refl w.heap.size w)
 have H : (if a0_0 = 0 then (some a0_1) else (if a0_0 = 1 then (passepartoutref04_Least.j0 k a0_0 (a0_0 == 1) a0_0 a0_1 a0_2 a0_3 a0_4 l0_5) else (passepartoutref04_Least.j0 k a0_0 (a0_0 == 2) a0_0 a0_1 a0_2 a0_3 a0_4 l0_5))) = some r := h
 clear h
 by_cases c2 : a0_0 = 0
 ·rw [if_pos c2] at H
  have c2b0 : (a0_0 == 0) = true := beq_iff_eq.mpr c2
  have c2b1 : (a0_0 != 0) = false := bne_eq_false_iff_eq.mpr c2
  clear c2
  obtain rfl := Option.some.inj H
  go_enter Try.func34,Try.ntmps34
  go_wp2_with (first | ((with_reducible refine gate_dst (N := 1) rfl ?_);refine box_event ?hg (N := 1) ?hd (cs := #[.int .i64 a0_0,.int .i64 a0_1,.int .i64 a0_2,.int .i64 a0_3,.int .i64 a0_4,.slice A0_5 l0_5.length c0_5]) (t := 27) ?hr ?_;(case hd => rfl);(case hg => rfl);(case hr => first | (go_simp;done) | (go_simp;rfl));intro gb141 hg w3 hbox hb;have n0_ := Aside0.mk (below_step (by repeat (first | (with_reducible first | exact HB.out | apply below_alloc | apply pw_below_drewN | apply below_drew1) | exact HB.out)) hb);have n1_ := Aside0.mk (hbox);have n2_ := Aside0.mk ((by rw [hg];exact (below_size (by repeat (first | (with_reducible first | exact HB.out | apply below_alloc | apply pw_below_drewN | apply below_drew1) | exact HB.out))) : w.heap.size ≤ gb141));have n3_ := Aside0.mk ((by rw [hg];exact (below_size (by repeat (first | (with_reducible first | exact HB.out | apply below_alloc | apply pw_below_drewN | apply below_drew1) | exact HB.out))) : w.heap.size ≤ gb141));clear HB;have HB := n0_;have BK141 := n1_;have GW141 := n2_;have GE141 := n3_;clear n0_ n1_ n2_ n3_;clear hb hbox hg;have hcz4_0 : w3.cell? ⟨gb141,0,none⟩ = some (.int .i64 a0_0) := (blk_cell BK141.out 0).trans rfl;have hcz4_1 : w3.cell? ⟨gb141,1,none⟩ = some (.int .i64 a0_1) := (blk_cell BK141.out 1).trans rfl;have hcz4_2 : w3.cell? ⟨gb141,2,none⟩ = some (.int .i64 a0_2) := (blk_cell BK141.out 2).trans rfl;have hcz4_3 : w3.cell? ⟨gb141,3,none⟩ = some (.int .i64 a0_3) := (blk_cell BK141.out 3).trans rfl;have hcz4_4 : w3.cell? ⟨gb141,4,none⟩ = some (.int .i64 a0_4) := (blk_cell BK141.out 4).trans rfl;have hcz4_5 : w3.cell? ⟨gb141,5,none⟩ = some (.slice A0_5 l0_5.length c0_5) := (blk_cell BK141.out 5).trans rfl;have hfz4_0 := blk_frozen BK141.out 0;have hfz4_1 := blk_frozen BK141.out 1;have hfz4_2 := blk_frozen BK141.out 2;have hfz4_3 := blk_frozen BK141.out 3;have hfz4_4 := blk_frozen BK141.out 4;have hfz4_5 := blk_frozen BK141.out 5))
  go_ret
  exact ⟨by first | rfl | (simp [errW_none,errW_some] <;> rfl) | (simp [*,errW_none,errW_some] <;> rfl),by repeat (first | (with_reducible first | exact HB.out | apply below_alloc | apply pw_below_drewN | apply below_drew1 | refine below_set ?_ GE141.out) | exact HB.out)⟩
 ·rw [if_neg c2] at H
  have c2b0 : (a0_0 == 0) = false := beq_eq_false_iff_ne.mpr c2
  have c2b1 : (a0_0 != 0) = true := bne_iff_ne.mpr c2
  have HC5 := Aside0.mk H
  clear H
  go_enter Try.func34,Try.ntmps34
  go_upto_if 11 with (first | ((with_reducible refine gate_dst (N := 1) rfl ?_);refine box_event ?hg (N := 1) ?hd (cs := #[.int .i64 a0_0,.int .i64 a0_1,.int .i64 a0_2,.int .i64 a0_3,.int .i64 a0_4,.slice A0_5 l0_5.length c0_5]) (t := 27) ?hr ?_;(case hd => rfl);(case hg => rfl);(case hr => first | (go_simp;done) | (go_simp;rfl));intro gb141 hg w6 hbox hb;have n0_ := Aside0.mk (below_step (by repeat (first | (with_reducible first | exact HB.out | apply below_alloc | apply pw_below_drewN | apply below_drew1) | exact HB.out)) hb);have n1_ := Aside0.mk (hbox);have n2_ := Aside0.mk ((by rw [hg];exact (below_size (by repeat (first | (with_reducible first | exact HB.out | apply below_alloc | apply pw_below_drewN | apply below_drew1) | exact HB.out))) : w.heap.size ≤ gb141));have n3_ := Aside0.mk ((by rw [hg];exact (below_size (by repeat (first | (with_reducible first | exact HB.out | apply below_alloc | apply pw_below_drewN | apply below_drew1) | exact HB.out))) : w.heap.size ≤ gb141));clear HB;have HB := n0_;have BK141 := n1_;have GW141 := n2_;have GE141 := n3_;clear n0_ n1_ n2_ n3_;clear hb hbox hg;have hcz7_0 : w6.cell? ⟨gb141,0,none⟩ = some (.int .i64 a0_0) := (blk_cell BK141.out 0).trans rfl;have hcz7_1 : w6.cell? ⟨gb141,1,none⟩ = some (.int .i64 a0_1) := (blk_cell BK141.out 1).trans rfl;have hcz7_2 : w6.cell? ⟨gb141,2,none⟩ = some (.int .i64 a0_2) := (blk_cell BK141.out 2).trans rfl;have hcz7_3 : w6.cell? ⟨gb141,3,none⟩ = some (.int .i64 a0_3) := (blk_cell BK141.out 3).trans rfl;have hcz7_4 : w6.cell? ⟨gb141,4,none⟩ = some (.int .i64 a0_4) := (blk_cell BK141.out 4).trans rfl;have hcz7_5 : w6.cell? ⟨gb141,5,none⟩ = some (.slice A0_5 l0_5.length c0_5) := (blk_cell BK141.out 5).trans rfl;have hfz7_0 := blk_frozen BK141.out 0;have hfz7_1 := blk_frozen BK141.out 1;have hfz7_2 := blk_frozen BK141.out 2;have hfz7_3 := blk_frozen BK141.out 3;have hfz7_4 := blk_frozen BK141.out 4;have hfz7_5 := blk_frozen BK141.out 5))
  (try simp only [Act.put,List.setIfInBounds_toArray,List.set_cons_zero,List.set_cons_succ])
  go_cut [11] (fun v11 wc => ∃ (kq : Nat) (x11_4 : Bool),v11 = .bool x11_4 ∧ Aside0 (passepartoutref04_Least.j0 kq a0_0 x11_4 a0_0 a0_1 a0_2 a0_3 a0_4 l0_5 = some r) ∧ Aside0 (kq ≤ k) ∧ Aside0 (wc.heap[gb141]? = some (.cells #[.int .i64 a0_0,.int .i64 a0_1,.int .i64 a0_2,.int .i64 a0_3,.int .i64 a0_4,(.slice A0_5 l0_5.length c0_5)] 27 (0,0))) ∧ Aside0 (Below w.heap.size w wc))
  case first =>
   have H := HC5.out
   clear HC5
   by_cases c8 : a0_0 = 1
   ·rw [if_pos c8] at H
    have c8b0 : (a0_0 == 1) = true := beq_iff_eq.mpr c8
    have c8b1 : (a0_0 != 1) = false := bne_eq_false_iff_eq.mpr c8
    clear c8
    (first | rw [c8b0] | (simp only [i64_w,i32_w];rw [c8b0]) | skip)
    have H' := Aside0.mk H
    clear H
    go_wp2
    go_meet
    case rel => exact ⟨_,((a0_0 == 1)),(by first | rfl | (simp;done) | (simp [*];done)),H',⟨by first | omega | exact Nat.le_refl _⟩,⟨by (with_reducible repeat (first | refine blk_drewN ?_ _ | refine blk_drew ?_ | refine blk_alloc ?_ _));exact BK141.out⟩,⟨by repeat (first | (with_reducible first | exact HB.out | apply below_alloc | apply pw_below_drewN | apply below_drew1 | refine below_set ?_ GE141.out) | exact HB.out)⟩⟩
   ·rw [if_neg c8] at H
    have c8b0 : (a0_0 == 1) = false := beq_eq_false_iff_ne.mpr c8
    have c8b1 : (a0_0 != 1) = true := bne_iff_ne.mpr c8
    (first | rw [c8b0] | (simp only [i64_w,i32_w];rw [c8b0]) | skip)
    have H' := Aside0.mk H
    clear H
    go_wp2
    go_meet
    case rel => exact ⟨_,((a0_0 == 2)),(by first | rfl | (simp;done) | (simp [*];done)),H',⟨by first | omega | exact Nat.le_refl _⟩,⟨by (with_reducible repeat (first | refine blk_drewN ?_ _ | refine blk_drew ?_ | refine blk_alloc ?_ _));exact BK141.out⟩,⟨by repeat (first | (with_reducible first | exact HB.out | apply below_alloc | apply pw_below_drewN | apply below_drew1 | refine below_set ?_ GE141.out) | exact HB.out)⟩⟩
  case rest =>
   clear HC5
   try clear c2
   try clear c2b0
   try clear c2b1
   try clear p2
   try clear c3
   try clear c8
   try clear c8b0
   try clear c8b1
   try clear hcz4_0
   try clear hcz4_1
   try clear hcz4_2
   try clear hcz4_3
   try clear hcz4_4
   try clear hcz4_5
   try clear hcz7_0
   try clear hcz7_1
   try clear hcz7_2
   try clear hcz7_3
   try clear hcz7_4
   try clear hcz7_5
   try clear hfz4_0
   try clear hfz4_1
   try clear hfz4_2
   try clear hfz4_3
   try clear hfz4_4
   try clear hfz4_5
   try clear hfz7_0
   try clear hfz7_1
   try clear hfz7_2
   try clear hfz7_3
   try clear hfz7_4
   try clear hfz7_5
   obtain ⟨kq,x11_4,rfl,HA,HJ4,BK141,HB⟩ := hcut
   cases kq with
   | zero => exact absurd HA.out (by simp [passepartoutref04_Least.j0])
   | succ kj4 =>
    have H := HA.out
    clear HA
    simp only [passepartoutref04_Least.j0] at H
    by_cases c9 : x11_4 = true
    ·subst c9
     have H1 : (some (wrap64 (a0_1 + a0_2))) = some r := by rw [if_pos rfl] at H;exact H
     clear H
     have H := H1
     clear H1
     obtain rfl := Option.some.inj H
     have hcz10_0 : wc.cell? ⟨gb141,0,none⟩ = some (.int .i64 a0_0) := (blk_cell BK141.out 0).trans rfl
     have hcz10_1 : wc.cell? ⟨gb141,1,none⟩ = some (.int .i64 a0_1) := (blk_cell BK141.out 1).trans rfl
     have hcz10_2 : wc.cell? ⟨gb141,2,none⟩ = some (.int .i64 a0_2) := (blk_cell BK141.out 2).trans rfl
     have hcz10_3 : wc.cell? ⟨gb141,3,none⟩ = some (.int .i64 a0_3) := (blk_cell BK141.out 3).trans rfl
     have hcz10_4 : wc.cell? ⟨gb141,4,none⟩ = some (.int .i64 a0_4) := (blk_cell BK141.out 4).trans rfl
     have hcz10_5 : wc.cell? ⟨gb141,5,none⟩ = some (.slice A0_5 l0_5.length c0_5) := (blk_cell BK141.out 5).trans rfl
     have hfz10_0 := blk_frozen BK141.out 0
     have hfz10_1 := blk_frozen BK141.out 1
     have hfz10_2 := blk_frozen BK141.out 2
     have hfz10_3 := blk_frozen BK141.out 3
     have hfz10_4 := blk_frozen BK141.out 4
     have hfz10_5 := blk_frozen BK141.out 5
     go_wp2
     go_ret
     exact ⟨by first | rfl | (simp [errW_none,errW_some] <;> rfl) | (simp [*,errW_none,errW_some] <;> rfl),by repeat (first | (with_reducible first | exact HB.out | apply below_alloc | apply pw_below_drewN | apply below_drew1 | refine below_set ?_ GE141.out) | exact HB.out)⟩
    ·replace c9 := Bool.eq_false_iff.mpr c9
     subst c9
     have H1 : (if a0_0 = 4 then (some a0_2) else (if a0_0 = 5 then (some a0_2) else (passepartoutref04_Least.l0 kj4 0 0 a0_0 a0_1 a0_2 a0_3 a0_4 l0_5))) = some r := by rw [if_neg (show ¬ (false = true) by decide)] at H;exact H
     clear H
     have H := H1
     clear H1
     by_cases c11 : a0_0 = 4
     ·rw [if_pos c11] at H
      have c11b0 : (a0_0 == 4) = true := beq_iff_eq.mpr c11
      have c11b1 : (a0_0 != 4) = false := bne_eq_false_iff_eq.mpr c11
      clear c11
      obtain rfl := Option.some.inj H
      have hcz12_0 : wc.cell? ⟨gb141,0,none⟩ = some (.int .i64 a0_0) := (blk_cell BK141.out 0).trans rfl
      have hcz12_1 : wc.cell? ⟨gb141,1,none⟩ = some (.int .i64 a0_1) := (blk_cell BK141.out 1).trans rfl
      have hcz12_2 : wc.cell? ⟨gb141,2,none⟩ = some (.int .i64 a0_2) := (blk_cell BK141.out 2).trans rfl
      have hcz12_3 : wc.cell? ⟨gb141,3,none⟩ = some (.int .i64 a0_3) := (blk_cell BK141.out 3).trans rfl
      have hcz12_4 : wc.cell? ⟨gb141,4,none⟩ = some (.int .i64 a0_4) := (blk_cell BK141.out 4).trans rfl
      have hcz12_5 : wc.cell? ⟨gb141,5,none⟩ = some (.slice A0_5 l0_5.length c0_5) := (blk_cell BK141.out 5).trans rfl
      have hfz12_0 := blk_frozen BK141.out 0
      have hfz12_1 := blk_frozen BK141.out 1
      have hfz12_2 := blk_frozen BK141.out 2
      have hfz12_3 := blk_frozen BK141.out 3
      have hfz12_4 := blk_frozen BK141.out 4
      have hfz12_5 := blk_frozen BK141.out 5
      go_wp2
      go_ret
      exact ⟨by first | rfl | (simp [errW_none,errW_some] <;> rfl) | (simp [*,errW_none,errW_some] <;> rfl),by repeat (first | (with_reducible first | exact HB.out | apply below_alloc | apply pw_below_drewN | apply below_drew1 | refine below_set ?_ GE141.out) | exact HB.out)⟩
     ·rw [if_neg c11] at H
      have c11b0 : (a0_0 == 4) = false := beq_eq_false_iff_ne.mpr c11
      have c11b1 : (a0_0 != 4) = true := bne_iff_ne.mpr c11
      by_cases c13 : a0_0 = 5
      ·rw [if_pos c13] at H
       have c13b0 : (a0_0 == 5) = true := beq_iff_eq.mpr c13
       have c13b1 : (a0_0 != 5) = false := bne_eq_false_iff_eq.mpr c13
       clear c13
       obtain rfl := Option.some.inj H
       have hcz14_0 : wc.cell? ⟨gb141,0,none⟩ = some (.int .i64 a0_0) := (blk_cell BK141.out 0).trans rfl
       have hcz14_1 : wc.cell? ⟨gb141,1,none⟩ = some (.int .i64 a0_1) := (blk_cell BK141.out 1).trans rfl
       have hcz14_2 : wc.cell? ⟨gb141,2,none⟩ = some (.int .i64 a0_2) := (blk_cell BK141.out 2).trans rfl
       have hcz14_3 : wc.cell? ⟨gb141,3,none⟩ = some (.int .i64 a0_3) := (blk_cell BK141.out 3).trans rfl
       have hcz14_4 : wc.cell? ⟨gb141,4,none⟩ = some (.int .i64 a0_4) := (blk_cell BK141.out 4).trans rfl
       have hcz14_5 : wc.cell? ⟨gb141,5,none⟩ = some (.slice A0_5 l0_5.length c0_5) := (blk_cell BK141.out 5).trans rfl
       have hfz14_0 := blk_frozen BK141.out 0
       have hfz14_1 := blk_frozen BK141.out 1
       have hfz14_2 := blk_frozen BK141.out 2
       have hfz14_3 := blk_frozen BK141.out 3
       have hfz14_4 := blk_frozen BK141.out 4
       have hfz14_5 := blk_frozen BK141.out 5
       go_wp2
       go_ret
       exact ⟨by first | rfl | (simp [errW_none,errW_some] <;> rfl) | (simp [*,errW_none,errW_some] <;> rfl),by repeat (first | (with_reducible first | exact HB.out | apply below_alloc | apply pw_below_drewN | apply below_drew1 | refine below_set ?_ GE141.out) | exact HB.out)⟩
      ·rw [if_neg c13] at H
       have c13b0 : (a0_0 == 5) = false := beq_eq_false_iff_ne.mpr c13
       have c13b1 : (a0_0 != 5) = true := bne_iff_ne.mpr c13
       have H' := Aside0.mk H
       clear H
       go_wp2
       go_loopg [3,4] kj4 (fun kq v3 v4 w' => ∃ (x3_2 : Int) (x4_2 : Int),v3 = .int .i64 x3_2 ∧ v4 = .int .i64 x4_2 ∧ Aside0 (passepartoutref04_Least.l0 kq x3_2 x4_2 a0_0 a0_1 a0_2 a0_3 a0_4 l0_5 = some r) ∧ Aside0 (kq ≤ kj4) ∧ Aside0 (w'.heap[gb141]? = some (.cells #[.int .i64 a0_0,.int .i64 a0_1,.int .i64 a0_2,.int .i64 a0_3,.int .i64 a0_4,(.slice A0_5 l0_5.length c0_5)] 27 (0,0))) ∧ Aside0 (Below w.heap.size w w'))
       case atStart => exact ⟨(0),(0),(by first | rfl | (simp;done) | (simp [*];done)),(by first | rfl | (simp;done) | (simp [*];done)),H',⟨Nat.le_refl _⟩,⟨by (with_reducible repeat (first | refine blk_drewN ?_ _ | refine blk_drew ?_ | refine blk_alloc ?_ _));exact BK141.out⟩,⟨by repeat (first | (with_reducible first | exact HB.out | apply below_alloc | apply pw_below_drewN | apply below_drew1 | refine below_set ?_ GE141.out) | exact HB.out)⟩⟩
       case round =>
        clear H'
        try clear c1
        try clear c2
        try clear c2b0
        try clear c2b1
        try clear p2
        try clear c3
        try clear p6
        try clear c8
        try clear c8b0
        try clear c8b1
        try clear c9
        try clear c11
        try clear c11b0
        try clear c11b1
        try clear c13
        try clear c13b0
        try clear c13b1
        try clear hcz10_0
        try clear hcz10_1
        try clear hcz10_2
        try clear hcz10_3
        try clear hcz10_4
        try clear hcz10_5
        try clear hcz12_0
        try clear hcz12_1
        try clear hcz12_2
        try clear hcz12_3
        try clear hcz12_4
        try clear hcz12_5
        try clear hcz14_0
        try clear hcz14_1
        try clear hcz14_2
        try clear hcz14_3
        try clear hcz14_4
        try clear hcz14_5
        try clear hcz4_0
        try clear hcz4_1
        try clear hcz4_2
        try clear hcz4_3
        try clear hcz4_4
        try clear hcz4_5
        try clear hcz7_0
        try clear hcz7_1
        try clear hcz7_2
        try clear hcz7_3
        try clear hcz7_4
        try clear hcz7_5
        try clear hfz10_0
        try clear hfz10_1
        try clear hfz10_2
        try clear hfz10_3
        try clear hfz10_4
        try clear hfz10_5
        try clear hfz12_0
        try clear hfz12_1
        try clear hfz12_2
        try clear hfz12_3
        try clear hfz12_4
        try clear hfz12_5
        try clear hfz14_0
        try clear hfz14_1
        try clear hfz14_2
        try clear hfz14_3
        try clear hfz14_4
        try clear hfz14_5
        try clear hfz4_0
        try clear hfz4_1
        try clear hfz4_2
        try clear hfz4_3
        try clear hfz4_4
        try clear hfz4_5
        try clear hfz7_0
        try clear hfz7_1
        try clear hfz7_2
        try clear hfz7_3
        try clear hfz7_4
        try clear hfz7_5
        try clear p2
        obtain ⟨x3_2,x4_2,rfl,rfl,HA,HK2,BK141,HB⟩ := hrel
        cases gk with
        | zero => exact absurd HA.out (by simp [passepartoutref04_Least.l0])
        | succ k2 =>
         have H := HA.out
         clear HA
         simp only [passepartoutref04_Least.l0] at H
         by_cases c15 : x4_2 < (l0_5.length : Int)
         ·rw [if_pos c15] at H
          have c15b0 : decide (x4_2 < (l0_5.length : Int)) = true := decide_eq_true c15
          clear c15
          by_cases c16 : 0 ≤ x4_2
          ·rw [if_pos c16] at H
           have c16b0 : decide (0 ≤ x4_2) = true := decide_eq_true c16
           clear c16
           replace H := Option.bind_eq_some_iff.mp H
           obtain ⟨t143,A170,H⟩ := H
           replace H : (passepartoutref04_Least.l0 k2 (wrap64 (x3_2 + t143)) (wrap64 (x4_2 + 1)) a0_0 a0_1 a0_2 a0_3 a0_4 l0_5) = some r := H
           have A17 := Aside0.mk A170
           clear A170
           have H' := Aside0.mk H
           clear H
           have hcz18_0 : wr.cell? ⟨gb141,0,none⟩ = some (.int .i64 a0_0) := (blk_cell BK141.out 0).trans rfl
           have hcz18_1 : wr.cell? ⟨gb141,1,none⟩ = some (.int .i64 a0_1) := (blk_cell BK141.out 1).trans rfl
           have hcz18_2 : wr.cell? ⟨gb141,2,none⟩ = some (.int .i64 a0_2) := (blk_cell BK141.out 2).trans rfl
           have hcz18_3 : wr.cell? ⟨gb141,3,none⟩ = some (.int .i64 a0_3) := (blk_cell BK141.out 3).trans rfl
           have hcz18_4 : wr.cell? ⟨gb141,4,none⟩ = some (.int .i64 a0_4) := (blk_cell BK141.out 4).trans rfl
           have hcz18_5 : wr.cell? ⟨gb141,5,none⟩ = some (.slice A0_5 l0_5.length c0_5) := (blk_cell BK141.out 5).trans rfl
           have hfz18_0 := blk_frozen BK141.out 0
           have hfz18_1 := blk_frozen BK141.out 1
           have hfz18_2 := blk_frozen BK141.out 2
           have hfz18_3 := blk_frozen BK141.out 3
           have hfz18_4 := blk_frozen BK141.out 4
           have hfz18_5 := blk_frozen BK141.out 5
           have p142 : 0 ≤ (x4_2 : Int) := of_decide_eq_true (by first | (with_reducible assumption) | assumption)
           have q142 : x4_2 < (l0_5.length : Int) := of_decide_eq_true (by first | (with_reducible assumption) | assumption)
           obtain ⟨ad142,A142_5,c142_5,e142,hx142_0,hx142_1,hx142_2,hx142_3,hx142_4,hx142_5,hl142_5,hi142_5⟩ := at_T27 HR0_5.out x4_2 p142 q142
           cases e142
           replace hx142_0 := (HB.out.cell (World.block_lt_of_cell? w _ hx142_0)).trans hx142_0
           replace hx142_1 := (HB.out.cell (World.block_lt_of_cell? w _ hx142_1)).trans hx142_1
           replace hx142_2 := (HB.out.cell (World.block_lt_of_cell? w _ hx142_2)).trans hx142_2
           replace hx142_3 := (HB.out.cell (World.block_lt_of_cell? w _ hx142_3)).trans hx142_3
           replace hx142_4 := (HB.out.cell (World.block_lt_of_cell? w _ hx142_4)).trans hx142_4
           replace hx142_5 := (HB.out.cell (World.block_lt_of_cell? w _ hx142_5)).trans hx142_5
           have HR142_5 := Aside0.mk hi142_5
           have HC142_5 := Aside0.mk hl142_5
           clear hi142_5 hl142_5
           replace p142 := eq_true p142
           replace q142 := eq_true q142
           go_wp2_with (first | ((with_reducible refine gate_callee (f := 34) rfl ?_);refine goesL_ (some 37) rfl rfl Try.func34 (by kernel_rfl) rfl #[.agg #[.int .i64 ((rd_T27 l0_5 x4_2).f0),.int .i64 ((rd_T27 l0_5 x4_2).f1),.int .i64 ((rd_T27 l0_5 x4_2).f2),.int .i64 ((rd_T27 l0_5 x4_2).f3),.int .i64 ((rd_T27 l0_5 x4_2).f4),.slice A142_5 ((rd_T27 l0_5 x4_2).f5).length c142_5]] rfl (by (try simp only [List.map_toArray,List.map_cons,List.map_nil]);first | done | rfl | (simp only [List.length_drop,List.length_take];rfl)) ?_;(with_reducible refine (ih k2 (by have := HJ4.out;have := HK2.out;omega) ((rd_T27 l0_5 x4_2).f0) ((rd_T27 l0_5 x4_2).f1) ((rd_T27 l0_5 x4_2).f2) ((rd_T27 l0_5 x4_2).f3) ((rd_T27 l0_5 x4_2).f4) _ _ ((rd_T27 l0_5 x4_2).f5) t143 _ ?side1 ?side2 A17.out).mono ?_);(case side1 => repeat (first | exact (Kd.C_below HR142_5.out HB.out) | (with_reducible refine Kd.C_alloc ?_ _) | (with_reducible refine Kd.C_drewN ?_ _) | (with_reducible refine Kd.C_drew ?_)));(case side2 => exact HC142_5.out);rintro e w19 ⟨rfl,hb⟩;refine ⟨_,rfl,?_⟩;have n0_ := Aside0.mk (blk_below (g := gb141) (o := .cells #[.int .i64 a0_0,.int .i64 a0_1,.int .i64 a0_2,.int .i64 a0_3,.int .i64 a0_4,.slice (some ad142) l0_5.length c0_5] 27 (0,0)) (by (with_reducible repeat (first | refine blk_drewN ?_ _ | refine blk_drew ?_ | refine blk_alloc ?_ _));exact BK141.out) hb);have n1_ := Aside0.mk (below_step (by repeat (first | (with_reducible first | exact HB.out | apply below_alloc | apply pw_below_drewN | apply below_drew1 | refine below_set ?_ GE141.out) | exact HB.out)) hb);clear BK141;clear HB;have BK141 := n0_;have HB := n1_;clear n0_ n1_;(try clear hb);(try clear hb2);(try clear hk);(try clear hi)))
           go_roundg k2
           case measure => have := HJ4.out;have := HK2.out;omega
           case rel => exact ⟨(wrap64 (x3_2 + t143)),(wrap64 (x4_2 + 1)),(by first | rfl | (simp;done) | (simp [*];done)),(by first | rfl | (simp;done) | (simp [*];done)),H',⟨by have := HJ4.out;have := HK2.out;omega⟩,⟨by (with_reducible repeat (first | refine blk_drewN ?_ _ | refine blk_drew ?_ | refine blk_alloc ?_ _));exact BK141.out⟩,⟨by repeat (first | (with_reducible first | exact HB.out | apply below_alloc | apply pw_below_drewN | apply below_drew1 | refine below_set ?_ GE141.out) | exact HB.out)⟩⟩
          ·rw [if_neg c16] at H
           exact absurd H (by simp)
         ·rw [if_neg c15] at H
          have c15b0 : decide (x4_2 < (l0_5.length : Int)) = false := decide_eq_false c15
          clear c15
          obtain rfl := Option.some.inj H
          have hcz20_0 : wr.cell? ⟨gb141,0,none⟩ = some (.int .i64 a0_0) := (blk_cell BK141.out 0).trans rfl
          have hcz20_1 : wr.cell? ⟨gb141,1,none⟩ = some (.int .i64 a0_1) := (blk_cell BK141.out 1).trans rfl
          have hcz20_2 : wr.cell? ⟨gb141,2,none⟩ = some (.int .i64 a0_2) := (blk_cell BK141.out 2).trans rfl
          have hcz20_3 : wr.cell? ⟨gb141,3,none⟩ = some (.int .i64 a0_3) := (blk_cell BK141.out 3).trans rfl
          have hcz20_4 : wr.cell? ⟨gb141,4,none⟩ = some (.int .i64 a0_4) := (blk_cell BK141.out 4).trans rfl
          have hcz20_5 : wr.cell? ⟨gb141,5,none⟩ = some (.slice A0_5 l0_5.length c0_5) := (blk_cell BK141.out 5).trans rfl
          have hfz20_0 := blk_frozen BK141.out 0
          have hfz20_1 := blk_frozen BK141.out 1
          have hfz20_2 := blk_frozen BK141.out 2
          have hfz20_3 := blk_frozen BK141.out 3
          have hfz20_4 := blk_frozen BK141.out 4
          have hfz20_5 := blk_frozen BK141.out 5
          go_wp2
          go_ret
          exact ⟨by first | rfl | (simp [errW_none,errW_some] <;> rfl) | (simp [*,errW_none,errW_some] <;> rfl),by repeat (first | (with_reducible first | exact HB.out | apply below_alloc | apply pw_below_drewN | apply below_drew1 | refine below_set ?_ GE141.out) | exact HB.out)⟩

end Go.Proofs.Ytfcghajnnllmhaa.QP

namespace Go.Proofs.Ytfcghajnnllmhaa
open Go.RowKit

set_option maxRecDepth 100000 in
theorem rtop_any (s : Int) (hs : s = 1 ∨ s = 2 ∨ s = 3) (w : World) : Calls Try.prog 69 #[.int .i64 s] w fun e w' => e = .returned (.int .i64 (256 ^ s.toNat - 1)) ∧ w' = w := by
 rcases hs with rfl | rfl | rfl
 all_goals
  go_enter Try.func69,Try.ntmps69
  go_wp2_with fail
  refine wp_loop_rounds 5 ?_
  iterate 5 (first | (rw [rounds_succ];go_wp2_with fail) | skip)
  go_ret
  exact ⟨by first | rfl | (congr 2),rfl⟩
set_option maxRecDepth 100000 in
set_option maxHeartbeats 6400000 in
theorem rown_any (ok : Nat → Prop) (v : Value) (f : Fm) (w : World) (hv : FmR w ok v f) :
  Calls Try.prog 64 #[v] w fun e w' => e = .returned (.int .i64 (ownR f)) ∧ Kp (fun _ => False) w w' := by
 obtain ⟨⟨k,s,lo,hi,st⟩,ps⟩ := f
 obtain ⟨r,hr⟩ : ∃ r,ownR (.mk ⟨k,s,lo,hi,st⟩ ps) = r := ⟨_,rfl⟩
 rw [hr]
 have hr' : ownN k s lo hi st ps.length = r := hr
 clear hr
 obtain ⟨A,c,rfl,h1,h2,_,_,_,_,_,_⟩ := hv.parts
 clear hv
 have hk1 := (Kp.refl (fun _ => False) w).alloc (.cells #[.int .i64 k,.int .i64 s,.int .i64 lo,.int .i64 hi,.int .i64 st,.slice A ps.length c] 27)
 have HK := Lib.hid (fun n => hk1.drewN n)
 have HK0 := Lib.hid hk1
 clear hk1
 unfold ownN at hr'
 by_cases kl : k < 0
 ·rw [if_neg (by omega),if_neg (by omega),if_neg (by omega),if_neg (by omega),if_neg (by omega)] at hr'
  subst hr'
  have t : decide (k < 0) = true := decide_eq_true kl
  clear kl
  go_enter Try.func64,Try.ntmps64
  go_wp2_with fail
  go_ret
  exact ⟨rfl,HK0.out⟩
 by_cases kg : 5 < k
 ·rw [if_neg (by omega),if_neg (by omega),if_neg (by omega),if_neg (by omega),if_neg (by omega)] at hr'
  subst hr'
  have t : decide (k < 0) = false := decide_eq_false kl
  have t2 : decide (5 < k) = true := decide_eq_true kg
  clear kl kg
  go_enter Try.func64,Try.ntmps64
  go_wp2_with fail
  go_ret
  exact ⟨rfl,HK0.out⟩
 by_cases k0 : k = 0
 ·subst k0
  rw [if_pos rfl] at hr'
  clear kl kg
  by_cases s1 : s = 1
  ·subst s1
   obtain rfl : (0 : Int) = r := by simpa using hr'
   go_enter Try.func64,Try.ntmps64
   go_wp2_with fail
   go_ret
   exact ⟨rfl,HK0.out⟩
  by_cases s2 : s = 2
  ·subst s2
   obtain rfl : (0 : Int) = r := by simpa using hr'
   go_enter Try.func64,Try.ntmps64
   go_wp2_with fail
   go_ret
   exact ⟨rfl,HK0.out⟩
  by_cases s3 : s = 3
  ·subst s3
   obtain rfl : (0 : Int) = r := by simpa using hr'
   go_enter Try.func64,Try.ntmps64
   go_wp2_with fail
   go_ret
   exact ⟨rfl,HK0.out⟩
  by_cases s4 : s = 4
  ·subst s4
   obtain rfl : (0 : Int) = r := by simpa using hr'
   go_enter Try.func64,Try.ntmps64
   go_wp2_with fail
   go_ret
   exact ⟨rfl,HK0.out⟩
  by_cases s8 : s = 8
  ·subst s8
   obtain rfl : (0 : Int) = r := by simpa using hr'
   go_enter Try.func64,Try.ntmps64
   go_wp2_with fail
   go_ret
   exact ⟨rfl,HK0.out⟩
  rw [if_pos (by omega)] at hr'
  subst hr'
  have t1 : (s != 1) = true := by simpa using s1
  have t2 : (s != 2) = true := by simpa using s2
  have t3 : (s != 3) = true := by simpa using s3
  have t4 : (s != 4) = true := by simpa using s4
  have t8 : (s != 8) = true := by simpa using s8
  clear s1 s2 s3 s4 s8
  go_enter Try.func64,Try.ntmps64
  go_wp2_with fail
  go_ret
  exact ⟨rfl,HK0.out⟩
 rw [if_neg k0] at hr'
 by_cases k12 : k = 2 ∨ k = 1
 ·rw [if_pos k12] at hr'
  have tl : decide (k < 0) = false := decide_eq_false kl
  have tg : decide (5 < k) = false := decide_eq_false kg
  have t0 : (k == 0) = false := by simpa using k0
  have t4 : (k == 4) = false := by simp;omega
  have t5 : (k == 5) = false := by simp;omega
  have t3 : (k == 3) = false := by simp;omega
  have hlen : ((ps.length : Int) != 1) = decide (ps.length ≠ 1) := by rw [Bool.eq_iff_iff];simp;omega
  have htk : ((k == 1) = true ∧ (k == 2) = false ∧ k ≠ 2) ∨ ((k == 1) = false ∧ (k == 2) = true ∧ k = 2) := by
   rcases k12 with rfl | rfl
   ·exact .inr ⟨by simp,by simp,rfl⟩
   ·exact .inl ⟨by simp,by simp,by omega⟩
  clear kl kg k0 k12
  by_cases s1 : s < 1
  ·have u1 : decide (s < 1) = true := decide_eq_true s1
   rw [if_pos (.inl s1)] at hr'
   subst hr'
   clear s1
   rcases htk with ⟨t1,t2,_⟩ | ⟨t1,t2,rfl⟩
   all_goals
    go_enter Try.func64,Try.ntmps64
    go_wp2_with fail
    go_ret
    exact ⟨rfl,HK0.out⟩
  have u1 : decide (s < 1) = false := decide_eq_false s1
  by_cases s3 : 3 < s
  ·have u3 : decide (3 < s) = true := decide_eq_true s3
   rw [if_pos (.inr s3)] at hr'
   subst hr'
   clear s1 s3
   rcases htk with ⟨t1,t2,_⟩ | ⟨t1,t2,rfl⟩
   all_goals
    go_enter Try.func64,Try.ntmps64
    go_wp2_with fail
    go_ret
    exact ⟨rfl,HK0.out⟩
  have u3 : decide (3 < s) = false := decide_eq_false s3
  rw [if_neg (by omega)] at hr'
  have HT := Lib.hid (fun W => rtop_any s (by omega) W)
  clear s1 s3
  generalize (256 : Int) ^ s.toNat - 1 = M at HT hr'
  have hb : boundsR lo hi M = if lo < 0 ∨ hi < lo ∨ M < hi then 5 else 0 := rfl
  by_cases a1 : lo < 0
  ·have e5 : boundsR lo hi M = 5 := by rw [hb,if_pos (.inl a1)]
   rw [if_pos (.inl (by omega))] at hr'
   subst hr'
   have v1 : decide (lo < 0) = true := decide_eq_true a1
   clear a1 hb e5
   rcases htk with ⟨t1,t2,_⟩ | ⟨t1,t2,rfl⟩
   all_goals
    go_enter Try.func64,Try.ntmps64
    go_wp2_with fail
    go_quiet ((go_at_call 69;exact Calls.quiet_of_same (HT.out _)))
    go_wp2_with fail
    go_ret
    exact ⟨rfl,HK.out _⟩
  have v1 : decide (lo < 0) = false := decide_eq_false a1
  by_cases a2 : hi < lo
  ·have e5 : boundsR lo hi M = 5 := by rw [hb,if_pos (.inr (.inl a2))]
   rw [if_pos (.inl (by omega))] at hr'
   subst hr'
   have v2 : decide (hi < lo) = true := decide_eq_true a2
   clear a1 a2 hb e5
   rcases htk with ⟨t1,t2,_⟩ | ⟨t1,t2,rfl⟩
   all_goals
    go_enter Try.func64,Try.ntmps64
    go_wp2_with fail
    go_quiet ((go_at_call 69;exact Calls.quiet_of_same (HT.out _)))
    go_wp2_with fail
    go_ret
    exact ⟨rfl,HK.out _⟩
  have v2 : decide (hi < lo) = false := decide_eq_false a2
  by_cases a3 : M < hi
  ·have e5 : boundsR lo hi M = 5 := by rw [hb,if_pos (.inr (.inr a3))]
   rw [if_pos (.inl (by omega))] at hr'
   subst hr'
   have v3 : decide (M < hi) = true := decide_eq_true a3
   clear a1 a2 a3 hb e5
   rcases htk with ⟨t1,t2,_⟩ | ⟨t1,t2,rfl⟩
   all_goals
    go_enter Try.func64,Try.ntmps64
    go_wp2_with fail
    go_quiet ((go_at_call 69;exact Calls.quiet_of_same (HT.out _)))
    go_wp2_with fail
    go_ret
    exact ⟨rfl,HK.out _⟩
  have v3 : decide (M < hi) = false := decide_eq_false a3
  have e0 : boundsR lo hi M = 0 := by rw [hb,if_neg (by omega)]
  by_cases a4 : st < 1
  ·rw [if_pos (.inr (.inl a4))] at hr'
   subst hr'
   have v4 : decide (st < 1) = true := decide_eq_true a4
   clear a1 a2 a3 a4 hb e0
   rcases htk with ⟨t1,t2,_⟩ | ⟨t1,t2,rfl⟩
   all_goals
    go_enter Try.func64,Try.ntmps64
    go_wp2_with fail
    go_quiet ((go_at_call 69;exact Calls.quiet_of_same (HT.out _)))
    go_wp2_with fail
    go_ret
    exact ⟨rfl,HK.out _⟩
  have v4 : decide (st < 1) = false := decide_eq_false a4
  by_cases a5 : 65536 < st
  ·rw [if_pos (.inr (.inr a5))] at hr'
   subst hr'
   have v5 : decide (65536 < st) = true := decide_eq_true a5
   clear a1 a2 a3 a4 a5 hb e0
   rcases htk with ⟨t1,t2,_⟩ | ⟨t1,t2,rfl⟩
   all_goals
    go_enter Try.func64,Try.ntmps64
    go_wp2_with fail
    go_quiet ((go_at_call 69;exact Calls.quiet_of_same (HT.out _)))
    go_wp2_with fail
    go_ret
    exact ⟨rfl,HK.out _⟩
  have v5 : decide (65536 < st) = false := decide_eq_false a5
  rw [if_neg (by omega)] at hr'
  clear a1 a2 a3 a4 a5 hb e0
  rcases htk with ⟨t1,t2,k2⟩ | ⟨t1,t2,rfl⟩
  ·rw [if_neg (fun h => k2 h.1)] at hr'
   subst hr'
   clear k2 hlen
   go_enter Try.func64,Try.ntmps64
   go_wp2_with fail
   go_quiet ((go_at_call 69;exact Calls.quiet_of_same (HT.out _)))
   go_wp2_with fail
   go_ret
   exact ⟨rfl,HK.out _⟩
  ·by_cases hl : ps.length = 1
   ·rw [if_neg (fun h => h.2 hl)] at hr'
    subst hr'
    rw [decide_eq_false (by simpa using hl)] at hlen
    clear hl
    go_enter Try.func64,Try.ntmps64
    go_wp2_with fail
    go_quiet ((go_at_call 69;exact Calls.quiet_of_same (HT.out _)))
    go_wp2_with fail
    go_ret
    exact ⟨rfl,HK.out _⟩
   ·rw [if_pos ⟨rfl,hl⟩] at hr'
    subst hr'
    rw [decide_eq_true hl] at hlen
    clear hl
    go_enter Try.func64,Try.ntmps64
    go_wp2_with fail
    go_quiet ((go_at_call 69;exact Calls.quiet_of_same (HT.out _)))
    go_wp2_with fail
    go_ret
    exact ⟨rfl,HK.out _⟩
 rw [if_neg k12] at hr'
 by_cases k3 : k = 3
 ·subst k3
  rw [if_pos rfl] at hr'
  clear kl kg k0 k12
  have hlen : decide (32 < (ps.length : Int)) = decide (32 < ps.length) := by rw [Bool.eq_iff_iff];simp;omega
  by_cases hl : 32 < ps.length
  ·rw [if_pos hl] at hr'
   subst hr'
   rw [decide_eq_true hl] at hlen
   have hl2 : decide (32 < ps.length) = true := decide_eq_true hl
   clear hl
   go_enter Try.func64,Try.ntmps64
   go_wp2_with fail
   go_ret
   exact ⟨rfl,HK0.out⟩
  ·rw [if_neg hl] at hr'
   subst hr'
   rw [decide_eq_false hl] at hlen
   have hl2 : decide (32 < ps.length) = false := decide_eq_false hl
   clear hl
   go_enter Try.func64,Try.ntmps64
   go_wp2_with fail
   go_ret
   exact ⟨rfl,HK0.out⟩
 rw [if_neg k3] at hr'
 have hb : ∀ x y M : Int,boundsR x y M = if x < 0 ∨ y < x ∨ M < y then 5 else 0 := fun _ _ _ => rfl
 by_cases k4 : k = 4
 ·subst k4
  rw [if_pos rfl,hb] at hr'
  clear kl kg k0 k12 k3 hb
  by_cases a1 : lo < 0
  ·rw [if_pos (.inl a1)] at hr'
   subst hr'
   have v1 : decide (lo < 0) = true := decide_eq_true a1
   clear a1
   go_enter Try.func64,Try.ntmps64
   go_wp2_with fail
   go_ret
   exact ⟨rfl,HK0.out⟩
  have v1 : decide (lo < 0) = false := decide_eq_false a1
  by_cases a2 : hi < lo
  ·rw [if_pos (.inr (.inl a2))] at hr'
   subst hr'
   have v2 : decide (hi < lo) = true := decide_eq_true a2
   clear a1 a2
   go_enter Try.func64,Try.ntmps64
   go_wp2_with fail
   go_ret
   exact ⟨rfl,HK0.out⟩
  have v2 : decide (hi < lo) = false := decide_eq_false a2
  by_cases a3 : 16777215 < hi
  ·rw [if_pos (.inr (.inr a3))] at hr'
   subst hr'
   have v3 : decide (16777215 < hi) = true := decide_eq_true a3
   clear a1 a2 a3
   go_enter Try.func64,Try.ntmps64
   go_wp2_with fail
   go_ret
   exact ⟨rfl,HK0.out⟩
  have v3 : decide (16777215 < hi) = false := decide_eq_false a3
  rw [if_neg (by omega)] at hr'
  subst hr'
  clear a1 a2 a3
  go_enter Try.func64,Try.ntmps64
  go_wp2_with fail
  go_ret
  exact ⟨rfl,HK0.out⟩
 rw [if_neg k4] at hr'
 obtain rfl : k = 5 := by omega
 rw [if_pos rfl,hb] at hr'
 clear kl kg k0 k12 k3 k4 hb
 by_cases a1 : lo < 0
 ·rw [if_pos (.inl a1)] at hr'
  subst hr'
  have v1 : decide (lo < 0) = true := decide_eq_true a1
  clear a1
  go_enter Try.func64,Try.ntmps64
  go_wp2_with fail
  go_ret
  exact ⟨rfl,HK0.out⟩
 have v1 : decide (lo < 0) = false := decide_eq_false a1
 by_cases a3 : 16777215 < lo
 ·rw [if_pos (.inr (.inr a3))] at hr'
  subst hr'
  have v3 : decide (16777215 < lo) = true := decide_eq_true a3
  clear a1 a3
  go_enter Try.func64,Try.ntmps64
  go_wp2_with fail
  go_ret
  exact ⟨rfl,HK0.out⟩
 have v3 : decide (16777215 < lo) = false := decide_eq_false a3
 rw [if_neg (by omega)] at hr'
 subst hr'
 clear a1 a3
 go_enter Try.func64,Try.ntmps64
 go_wp2_with fail
 go_ret
 exact ⟨rfl,HK0.out⟩
end Go.Proofs.Ytfcghajnnllmhaa

namespace Go.Proofs.Ytfcghajnnllmhaa.QP
open Go.RowKit Go.Proofs.YtfcghajnnllmhaaW.PrintWords Go.Proofs.YtfcghajnnllmhaaW.PrintLast Go.Proofs.YtfcghajnnllmhaaW.PrintMore
attribute [local go_sem] max2_int min2_int max_two min_two max_three min_three max_four min_four   -- for this text's walks alone
set_option linter.unusedVariables false
set_option linter.unusedSimpArgs false

/-! ### passepartoutref04_own: function 64 -/
def passepartoutref04_own.f (a0_0 : Int) (a0_1 : Int) (a0_2 : Int) (a0_3 : Int) (a0_4 : Int) (l0_5 : List (S27)) : Option (Int) := if wfF (toF ⟨a0_0,a0_1,a0_2,a0_3,a0_4,l0_5⟩) = true then some (ownR (toF ⟨a0_0,a0_1,a0_2,a0_3,a0_4,l0_5⟩)) else none
set_option maxHeartbeats 8000000 in
set_option maxRecDepth 100000 in
theorem passepartoutref04_own.calls (a0_0 : Int) (a0_1 : Int) (a0_2 : Int) (a0_3 : Int) (a0_4 : Int) (A0_5 : Option Addr) (c0_5 : Nat) (l0_5 : List (S27)) (r : Int) (w : World) (hr0_5 : Kd.C k27 w A0_5 l0_5.length l0_5) (hc0_5 : l0_5.length ≤ c0_5) (h : passepartoutref04_own.f a0_0 a0_1 a0_2 a0_3 a0_4 l0_5 = some r) :
  Calls Try.prog 64 #[.agg #[.int .i64 a0_0,.int .i64 a0_1,.int .i64 a0_2,.int .i64 a0_3,.int .i64 a0_4,.slice A0_5 l0_5.length c0_5]] w fun e w' => e = .returned (.int .i64 r) ∧ Below w.heap.size w w' := by
 unfold passepartoutref04_own.f at h
 split at h
 ·rename_i hw
  injection h with h
  subst h
  exact (rown_any (fun x => x < w.heap.size) _ (toF ⟨a0_0,a0_1,a0_2,a0_3,a0_4,l0_5⟩) w (c_FmR hr0_5 hc0_5 hw)).mono fun e w' h => ⟨h.1,h.2.below⟩
 ·cases h

end Go.Proofs.Ytfcghajnnllmhaa.QP

namespace Go.Proofs.Ytfcghajnnllmhaa.QP
open Go.RowKit Go.Proofs.YtfcghajnnllmhaaW.PrintWords Go.Proofs.YtfcghajnnllmhaaW.PrintLast Go.Proofs.YtfcghajnnllmhaaW.PrintMore
attribute [local go_sem] max2_int min2_int max_two min_two max_three min_three max_four min_four   -- for this text's walks alone
set_option linter.unusedVariables false
set_option linter.unusedSimpArgs false

/-! ### passepartoutref04_Open: function 65 -/
def passepartoutref04_Open.f : Nat → Int → Int → Int → Int → Int → List (S27) → Option (Bool)
 | 0,_,_,_,_,_,_ => none
 | k + 1,a0_0,a0_1,a0_2,a0_3,a0_4,l0_5 => if a0_0 = 4 then (some true) else (if a0_0 = 3 then (if (l0_5.length : Int) = 0 then (some false) else (if 0 ≤ (wrap64 ((l0_5.length : Int) - 1)) then (if (wrap64 ((l0_5.length : Int) - 1)) < (l0_5.length : Int) then ((passepartoutref04_Open.f k ((rd_T27 l0_5 (wrap64 ((l0_5.length : Int) - 1))).f0) ((rd_T27 l0_5 (wrap64 ((l0_5.length : Int) - 1))).f1) ((rd_T27 l0_5 (wrap64 ((l0_5.length : Int) - 1))).f2) ((rd_T27 l0_5 (wrap64 ((l0_5.length : Int) - 1))).f3) ((rd_T27 l0_5 (wrap64 ((l0_5.length : Int) - 1))).f4) ((rd_T27 l0_5 (wrap64 ((l0_5.length : Int) - 1))).f5)).bind fun t146 => (some t146)) else (none)) else (none))) else (some false))
theorem passepartoutref04_Open.mono_l : ∀ k,(∀ y0 y1 y2 y3 y4 y5,LeO (passepartoutref04_Open.f k y0 y1 y2 y3 y4 y5) (passepartoutref04_Open.f (k + 1) y0 y1 y2 y3 y4 y5))
 | 0 => fun _ _ _ _ _ _ r h => by simp [passepartoutref04_Open.f] at h
 | k + 1 => by
  have ih0 := passepartoutref04_Open.mono_l k
  ·intro y0 y1 y2 y3 y4 y5
   unfold passepartoutref04_Open.f
   repeat' first
   | (with_reducible exact ih0 _ _ _ _ _ _)
   | (with_reducible exact LeO.refl _)
   | (with_reducible exact LeO.none _)
   | (with_reducible refine LeO.ite ?_ ?_)
   | (with_reducible refine LeO.bind ?_ (fun _ => ?_))
   | exact ih0 _ _ _ _ _ _
   | exact LeO.none _
   | refine LeO.ite ?_ ?_
   | refine LeO.bind ?_ (fun _ => ?_)
theorem passepartoutref04_Open.mono : ∀ a0 a1 a2 a3 a4 a5 k,LeO (passepartoutref04_Open.f k a0 a1 a2 a3 a4 a5) (passepartoutref04_Open.f (k + 1) a0 a1 a2 a3 a4 a5) := by
 intro a0 a1 a2 a3 a4 a5 k
 have ih0 := passepartoutref04_Open.mono_l k
 exact ih0 a0 a1 a2 a3 a4 a5
set_option maxHeartbeats 8000000 in
set_option maxRecDepth 100000 in
theorem passepartoutref04_Open.calls (k : Nat) : ∀ (a0_0 : Int) (a0_1 : Int) (a0_2 : Int) (a0_3 : Int) (a0_4 : Int) (A0_5 : Option Addr) (c0_5 : Nat) (l0_5 : List (S27)) (r : Bool) (w : World) (hr0_5 : Kd.C k27 w A0_5 l0_5.length l0_5) (hc0_5 : l0_5.length ≤ c0_5) (h : passepartoutref04_Open.f k a0_0 a0_1 a0_2 a0_3 a0_4 l0_5 = some r),
  Calls Try.prog 65 #[.agg #[.int .i64 a0_0,.int .i64 a0_1,.int .i64 a0_2,.int .i64 a0_3,.int .i64 a0_4,.slice A0_5 l0_5.length c0_5]] w fun e w' => e = .returned (.bool r) ∧ Below w.heap.size w w' := by
 induction k using Nat.strongRecOn with
 | _ k ih =>
 intro a0_0 a0_1 a0_2 a0_3 a0_4 A0_5 c0_5 l0_5 r w hr0_5 hc0_5 h
 cases k with
 | zero => exact absurd h (by simp [passepartoutref04_Open.f])
 | succ k =>
 simp only [passepartoutref04_Open.f] at h
 have hu27 := Try.underlying27
 have HR0_5 := Aside0.mk hr0_5
 have HC0_5 := Aside0.mk hc0_5
 clear hr0_5 hc0_5
 have HB := Aside0.mk (Below.refl w.heap.size w)
 have H : (if a0_0 = 4 then (some true) else (if a0_0 = 3 then (if (l0_5.length : Int) = 0 then (some false) else (if 0 ≤ (wrap64 ((l0_5.length : Int) - 1)) then (if (wrap64 ((l0_5.length : Int) - 1)) < (l0_5.length : Int) then ((passepartoutref04_Open.f k ((rd_T27 l0_5 (wrap64 ((l0_5.length : Int) - 1))).f0) ((rd_T27 l0_5 (wrap64 ((l0_5.length : Int) - 1))).f1) ((rd_T27 l0_5 (wrap64 ((l0_5.length : Int) - 1))).f2) ((rd_T27 l0_5 (wrap64 ((l0_5.length : Int) - 1))).f3) ((rd_T27 l0_5 (wrap64 ((l0_5.length : Int) - 1))).f4) ((rd_T27 l0_5 (wrap64 ((l0_5.length : Int) - 1))).f5)).bind fun t146 => (some t146)) else (none)) else (none))) else (some false))) = some r := h
 clear h
 by_cases c2 : a0_0 = 4
 ·rw [if_pos c2] at H
  have c2b0 : (a0_0 == 4) = true := beq_iff_eq.mpr c2
  have c2b1 : (a0_0 != 4) = false := bne_eq_false_iff_eq.mpr c2
  clear c2
  obtain rfl := Option.some.inj H
  go_enter Try.func65,Try.ntmps65
  go_wp2_with (first | ((with_reducible refine gate_dst (N := 1) rfl ?_);(try (refine gate_guard (by rfl) ?_;dsimp only));refine box_event ?hg (N := 1) ?hd (cs := #[.int .i64 a0_0,.int .i64 a0_1,.int .i64 a0_2,.int .i64 a0_3,.int .i64 a0_4,.slice A0_5 l0_5.length c0_5]) (t := 27) ?hr ?_;(case hd => rfl);(case hg => rfl);(case hr => first | (go_simp;done) | (go_simp;rfl));intro gb144 hg w3 hbox hb;have n0_ := Aside0.mk (below_step (by repeat (first | (with_reducible first | exact HB.out | apply below_alloc | apply pw_below_drewN | apply below_drew1) | exact HB.out)) hb);have n1_ := Aside0.mk (hbox);have n2_ := Aside0.mk ((by rw [hg];exact (below_size (by repeat (first | (with_reducible first | exact HB.out | apply below_alloc | apply pw_below_drewN | apply below_drew1) | exact HB.out))) : w.heap.size ≤ gb144));have n3_ := Aside0.mk ((by rw [hg];exact (below_size (by repeat (first | (with_reducible first | exact HB.out | apply below_alloc | apply pw_below_drewN | apply below_drew1) | exact HB.out))) : w.heap.size ≤ gb144));clear HB;have HB := n0_;have BK144 := n1_;have GW144 := n2_;have GE144 := n3_;clear n0_ n1_ n2_ n3_;clear hb hbox hg;have hcz4_0 : w3.cell? ⟨gb144,0,none⟩ = some (.int .i64 a0_0) := (blk_cell BK144.out 0).trans rfl;have hcz4_1 : w3.cell? ⟨gb144,1,none⟩ = some (.int .i64 a0_1) := (blk_cell BK144.out 1).trans rfl;have hcz4_2 : w3.cell? ⟨gb144,2,none⟩ = some (.int .i64 a0_2) := (blk_cell BK144.out 2).trans rfl;have hcz4_3 : w3.cell? ⟨gb144,3,none⟩ = some (.int .i64 a0_3) := (blk_cell BK144.out 3).trans rfl;have hcz4_4 : w3.cell? ⟨gb144,4,none⟩ = some (.int .i64 a0_4) := (blk_cell BK144.out 4).trans rfl;have hcz4_5 : w3.cell? ⟨gb144,5,none⟩ = some (.slice A0_5 l0_5.length c0_5) := (blk_cell BK144.out 5).trans rfl;have hfz4_0 := blk_frozen BK144.out 0;have hfz4_1 := blk_frozen BK144.out 1;have hfz4_2 := blk_frozen BK144.out 2;have hfz4_3 := blk_frozen BK144.out 3;have hfz4_4 := blk_frozen BK144.out 4;have hfz4_5 := blk_frozen BK144.out 5))
  go_ret
  exact ⟨by first | rfl | (simp [errW_none,errW_some] <;> rfl) | (simp [*,errW_none,errW_some] <;> rfl),by repeat (first | (with_reducible first | exact HB.out | apply below_alloc | apply pw_below_drewN | apply below_drew1 | refine below_set ?_ GE144.out) | exact HB.out)⟩
 ·rw [if_neg c2] at H
  have c2b0 : (a0_0 == 4) = false := beq_eq_false_iff_ne.mpr c2
  have c2b1 : (a0_0 != 4) = true := bne_iff_ne.mpr c2
  by_cases c5 : a0_0 = 3
  ·rw [if_pos c5] at H
   have c5b0 : (a0_0 == 3) = true := beq_iff_eq.mpr c5
   have c5b1 : (a0_0 != 3) = false := bne_eq_false_iff_eq.mpr c5
   clear c5
   by_cases c6 : (l0_5.length : Int) = 0
   ·rw [if_pos c6] at H
    have c6b0 : ((l0_5.length : Int) == 0) = true := beq_iff_eq.mpr c6
    have c6b1 : ((l0_5.length : Int) != 0) = false := bne_eq_false_iff_eq.mpr c6
    clear c6
    obtain rfl := Option.some.inj H
    go_enter Try.func65,Try.ntmps65
    go_wp2_with (first | ((with_reducible refine gate_dst (N := 1) rfl ?_);(try (refine gate_guard (by rfl) ?_;dsimp only));refine box_event ?hg (N := 1) ?hd (cs := #[.int .i64 a0_0,.int .i64 a0_1,.int .i64 a0_2,.int .i64 a0_3,.int .i64 a0_4,.slice A0_5 l0_5.length c0_5]) (t := 27) ?hr ?_;(case hd => rfl);(case hg => rfl);(case hr => first | (go_simp;done) | (go_simp;rfl));intro gb144 hg w7 hbox hb;have n0_ := Aside0.mk (below_step (by repeat (first | (with_reducible first | exact HB.out | apply below_alloc | apply pw_below_drewN | apply below_drew1) | exact HB.out)) hb);have n1_ := Aside0.mk (hbox);have n2_ := Aside0.mk ((by rw [hg];exact (below_size (by repeat (first | (with_reducible first | exact HB.out | apply below_alloc | apply pw_below_drewN | apply below_drew1) | exact HB.out))) : w.heap.size ≤ gb144));have n3_ := Aside0.mk ((by rw [hg];exact (below_size (by repeat (first | (with_reducible first | exact HB.out | apply below_alloc | apply pw_below_drewN | apply below_drew1) | exact HB.out))) : w.heap.size ≤ gb144));clear HB;have HB := n0_;have BK144 := n1_;have GW144 := n2_;have GE144 := n3_;clear n0_ n1_ n2_ n3_;clear hb hbox hg;have hcz8_0 : w7.cell? ⟨gb144,0,none⟩ = some (.int .i64 a0_0) := (blk_cell BK144.out 0).trans rfl;have hcz8_1 : w7.cell? ⟨gb144,1,none⟩ = some (.int .i64 a0_1) := (blk_cell BK144.out 1).trans rfl;have hcz8_2 : w7.cell? ⟨gb144,2,none⟩ = some (.int .i64 a0_2) := (blk_cell BK144.out 2).trans rfl;have hcz8_3 : w7.cell? ⟨gb144,3,none⟩ = some (.int .i64 a0_3) := (blk_cell BK144.out 3).trans rfl;have hcz8_4 : w7.cell? ⟨gb144,4,none⟩ = some (.int .i64 a0_4) := (blk_cell BK144.out 4).trans rfl;have hcz8_5 : w7.cell? ⟨gb144,5,none⟩ = some (.slice A0_5 l0_5.length c0_5) := (blk_cell BK144.out 5).trans rfl;have hfz8_0 := blk_frozen BK144.out 0;have hfz8_1 := blk_frozen BK144.out 1;have hfz8_2 := blk_frozen BK144.out 2;have hfz8_3 := blk_frozen BK144.out 3;have hfz8_4 := blk_frozen BK144.out 4;have hfz8_5 := blk_frozen BK144.out 5))
    go_ret
    exact ⟨by first | rfl | (simp [errW_none,errW_some] <;> rfl) | (simp [*,errW_none,errW_some] <;> rfl),by repeat (first | (with_reducible first | exact HB.out | apply below_alloc | apply pw_below_drewN | apply below_drew1 | refine below_set ?_ GE144.out) | exact HB.out)⟩
   ·rw [if_neg c6] at H
    have c6b0 : ((l0_5.length : Int) == 0) = false := beq_eq_false_iff_ne.mpr c6
    have c6b1 : ((l0_5.length : Int) != 0) = true := bne_iff_ne.mpr c6
    have c6b2 : ¬ (l0_5 = []) := fun h_ => c6 (by rw [h_];rfl)
    obtain ⟨ji9,hji9⟩ : ∃ j_ : Int,(wrap64 ((l0_5.length : Int) - 1)) = j_ := ⟨_,rfl⟩
    replace H : (if 0 ≤ (ji9) then (if (ji9) < (l0_5.length : Int) then ((passepartoutref04_Open.f k ((rd_T27 l0_5 (ji9)).f0) ((rd_T27 l0_5 (ji9)).f1) ((rd_T27 l0_5 (ji9)).f2) ((rd_T27 l0_5 (ji9)).f3) ((rd_T27 l0_5 (ji9)).f4) ((rd_T27 l0_5 (ji9)).f5)).bind fun t146 => (some t146)) else (none)) else (none)) = some r := by first | (rw [hji9] at H;exact H) | (simp only [hji9] at H ⊢;exact H)
    have hji9w : (IntKind.i64.wrap ((l0_5.length : Int) - 1)) = ji9 := (i64_w _).trans hji9
    by_cases c10 : 0 ≤ (ji9)
    ·rw [if_pos c10] at H
     have c10b0 : decide (0 ≤ (ji9)) = true := decide_eq_true c10
     clear c10
     by_cases c11 : (ji9) < (l0_5.length : Int)
     ·rw [if_pos c11] at H
      have c11b0 : decide ((ji9) < (l0_5.length : Int)) = true := decide_eq_true c11
      clear c11
      replace H := Option.bind_eq_some_iff.mp H
      obtain ⟨t146,A120,H⟩ := H
      replace H : (some t146) = some r := H
      have A12 := Aside0.mk A120
      clear A120
      obtain rfl := Option.some.inj H
      go_enter Try.func65,Try.ntmps65
      go_wp2_with (first | ((with_reducible refine gate_dst (N := 1) rfl ?_);(try (refine gate_guard (by rfl) ?_;dsimp only));refine box_event ?hg (N := 1) ?hd (cs := #[.int .i64 a0_0,.int .i64 a0_1,.int .i64 a0_2,.int .i64 a0_3,.int .i64 a0_4,.slice A0_5 l0_5.length c0_5]) (t := 27) ?hr ?_;(case hd => rfl);(case hg => rfl);(case hr => first | (go_simp;done) | (go_simp;rfl));intro gb144 hg w13 hbox hb;have n0_ := Aside0.mk (below_step (by repeat (first | (with_reducible first | exact HB.out | apply below_alloc | apply pw_below_drewN | apply below_drew1) | exact HB.out)) hb);have n1_ := Aside0.mk (hbox);have n2_ := Aside0.mk ((by rw [hg];exact (below_size (by repeat (first | (with_reducible first | exact HB.out | apply below_alloc | apply pw_below_drewN | apply below_drew1) | exact HB.out))) : w.heap.size ≤ gb144));have n3_ := Aside0.mk ((by rw [hg];exact (below_size (by repeat (first | (with_reducible first | exact HB.out | apply below_alloc | apply pw_below_drewN | apply below_drew1) | exact HB.out))) : w.heap.size ≤ gb144));clear HB;have HB := n0_;have BK144 := n1_;have GW144 := n2_;have GE144 := n3_;clear n0_ n1_ n2_ n3_;clear hb hbox hg;have hcz14_0 : w13.cell? ⟨gb144,0,none⟩ = some (.int .i64 a0_0) := (blk_cell BK144.out 0).trans rfl;have hcz14_1 : w13.cell? ⟨gb144,1,none⟩ = some (.int .i64 a0_1) := (blk_cell BK144.out 1).trans rfl;have hcz14_2 : w13.cell? ⟨gb144,2,none⟩ = some (.int .i64 a0_2) := (blk_cell BK144.out 2).trans rfl;have hcz14_3 : w13.cell? ⟨gb144,3,none⟩ = some (.int .i64 a0_3) := (blk_cell BK144.out 3).trans rfl;have hcz14_4 : w13.cell? ⟨gb144,4,none⟩ = some (.int .i64 a0_4) := (blk_cell BK144.out 4).trans rfl;have hcz14_5 : w13.cell? ⟨gb144,5,none⟩ = some (.slice A0_5 l0_5.length c0_5) := (blk_cell BK144.out 5).trans rfl;have hfz14_0 := blk_frozen BK144.out 0;have hfz14_1 := blk_frozen BK144.out 1;have hfz14_2 := blk_frozen BK144.out 2;have hfz14_3 := blk_frozen BK144.out 3;have hfz14_4 := blk_frozen BK144.out 4;have hfz14_5 := blk_frozen BK144.out 5;have p145 : 0 ≤ ((ji9) : Int) := of_decide_eq_true (by first | (with_reducible assumption) | assumption);have q145 : (ji9) < (l0_5.length : Int) := of_decide_eq_true (by first | (with_reducible assumption) | assumption);obtain ⟨ad145,A145_5,c145_5,e145,hx145_0,hx145_1,hx145_2,hx145_3,hx145_4,hx145_5,hl145_5,hi145_5⟩ := at_T27 HR0_5.out (ji9) p145 q145;cases e145;replace hx145_0 := (HB.out.cell (World.block_lt_of_cell? w _ hx145_0)).trans hx145_0;replace hx145_1 := (HB.out.cell (World.block_lt_of_cell? w _ hx145_1)).trans hx145_1;replace hx145_2 := (HB.out.cell (World.block_lt_of_cell? w _ hx145_2)).trans hx145_2;replace hx145_3 := (HB.out.cell (World.block_lt_of_cell? w _ hx145_3)).trans hx145_3;replace hx145_4 := (HB.out.cell (World.block_lt_of_cell? w _ hx145_4)).trans hx145_4;replace hx145_5 := (HB.out.cell (World.block_lt_of_cell? w _ hx145_5)).trans hx145_5;have HR145_5 := Aside0.mk hi145_5;have HC145_5 := Aside0.mk hl145_5;clear hi145_5 hl145_5;replace p145 := eq_true p145;replace q145 := eq_true q145) | ((with_reducible refine gate_callee (f := 65) rfl ?_);refine goesL_ (some 23) rfl rfl Try.func65 (by kernel_rfl) rfl #[.agg #[.int .i64 ((rd_T27 l0_5 (ji9)).f0),.int .i64 ((rd_T27 l0_5 (ji9)).f1),.int .i64 ((rd_T27 l0_5 (ji9)).f2),.int .i64 ((rd_T27 l0_5 (ji9)).f3),.int .i64 ((rd_T27 l0_5 (ji9)).f4),.slice A145_5 ((rd_T27 l0_5 (ji9)).f5).length c145_5]] rfl (by (try simp only [List.map_toArray,List.map_cons,List.map_nil]);first | done | (simp only [hji9];rfl) | rfl | (simp only [List.length_drop,List.length_take];rfl)) ?_;(with_reducible refine (ih k (by omega) ((rd_T27 l0_5 (ji9)).f0) ((rd_T27 l0_5 (ji9)).f1) ((rd_T27 l0_5 (ji9)).f2) ((rd_T27 l0_5 (ji9)).f3) ((rd_T27 l0_5 (ji9)).f4) _ _ ((rd_T27 l0_5 (ji9)).f5) t146 _ ?side1 ?side2 A12.out).mono ?_);(case side1 => repeat (first | exact (Kd.C_below HR145_5.out HB.out) | (with_reducible refine Kd.C_alloc ?_ _) | (with_reducible refine Kd.C_drewN ?_ _) | (with_reducible refine Kd.C_drew ?_)));(case side2 => exact HC145_5.out);rintro e w15 ⟨rfl,hb⟩;refine ⟨_,rfl,?_⟩;have n0_ := Aside0.mk (blk_below (g := gb144) (o := .cells #[.int .i64 a0_0,.int .i64 a0_1,.int .i64 a0_2,.int .i64 a0_3,.int .i64 a0_4,.slice (some ad145) l0_5.length c0_5] 27 (0,0)) (by (with_reducible repeat (first | refine blk_drewN ?_ _ | refine blk_drew ?_ | refine blk_alloc ?_ _));exact BK144.out) hb);have n1_ := Aside0.mk (below_step (by repeat (first | (with_reducible first | exact HB.out | apply below_alloc | apply pw_below_drewN | apply below_drew1 | refine below_set ?_ GE144.out) | exact HB.out)) hb);clear BK144;clear HB;have BK144 := n0_;have HB := n1_;clear n0_ n1_;(try clear hb);(try clear hb2);(try clear hk);(try clear hi)))
      go_ret
      exact ⟨by first | rfl | (simp [errW_none,errW_some] <;> rfl) | (simp only [← hji9];first | rfl | (simp [errW_none,errW_some] <;> rfl)) | (simp [*,errW_none,errW_some] <;> rfl),by repeat (first | (with_reducible first | exact HB.out | apply below_alloc | apply pw_below_drewN | apply below_drew1 | refine below_set ?_ GE144.out) | exact HB.out)⟩
     ·rw [if_neg c11] at H
      exact absurd H (by simp)
    ·rw [if_neg c10] at H
     exact absurd H (by simp)
  ·rw [if_neg c5] at H
   have c5b0 : (a0_0 == 3) = false := beq_eq_false_iff_ne.mpr c5
   have c5b1 : (a0_0 != 3) = true := bne_iff_ne.mpr c5
   obtain rfl := Option.some.inj H
   go_enter Try.func65,Try.ntmps65
   go_wp2_with (first | ((with_reducible refine gate_dst (N := 1) rfl ?_);(try (refine gate_guard (by rfl) ?_;dsimp only));refine box_event ?hg (N := 1) ?hd (cs := #[.int .i64 a0_0,.int .i64 a0_1,.int .i64 a0_2,.int .i64 a0_3,.int .i64 a0_4,.slice A0_5 l0_5.length c0_5]) (t := 27) ?hr ?_;(case hd => rfl);(case hg => rfl);(case hr => first | (go_simp;done) | (go_simp;rfl));intro gb144 hg w16 hbox hb;have n0_ := Aside0.mk (below_step (by repeat (first | (with_reducible first | exact HB.out | apply below_alloc | apply pw_below_drewN | apply below_drew1) | exact HB.out)) hb);have n1_ := Aside0.mk (hbox);have n2_ := Aside0.mk ((by rw [hg];exact (below_size (by repeat (first | (with_reducible first | exact HB.out | apply below_alloc | apply pw_below_drewN | apply below_drew1) | exact HB.out))) : w.heap.size ≤ gb144));have n3_ := Aside0.mk ((by rw [hg];exact (below_size (by repeat (first | (with_reducible first | exact HB.out | apply below_alloc | apply pw_below_drewN | apply below_drew1) | exact HB.out))) : w.heap.size ≤ gb144));clear HB;have HB := n0_;have BK144 := n1_;have GW144 := n2_;have GE144 := n3_;clear n0_ n1_ n2_ n3_;clear hb hbox hg;have hcz17_0 : w16.cell? ⟨gb144,0,none⟩ = some (.int .i64 a0_0) := (blk_cell BK144.out 0).trans rfl;have hcz17_1 : w16.cell? ⟨gb144,1,none⟩ = some (.int .i64 a0_1) := (blk_cell BK144.out 1).trans rfl;have hcz17_2 : w16.cell? ⟨gb144,2,none⟩ = some (.int .i64 a0_2) := (blk_cell BK144.out 2).trans rfl;have hcz17_3 : w16.cell? ⟨gb144,3,none⟩ = some (.int .i64 a0_3) := (blk_cell BK144.out 3).trans rfl;have hcz17_4 : w16.cell? ⟨gb144,4,none⟩ = some (.int .i64 a0_4) := (blk_cell BK144.out 4).trans rfl;have hcz17_5 : w16.cell? ⟨gb144,5,none⟩ = some (.slice A0_5 l0_5.length c0_5) := (blk_cell BK144.out 5).trans rfl;have hfz17_0 := blk_frozen BK144.out 0;have hfz17_1 := blk_frozen BK144.out 1;have hfz17_2 := blk_frozen BK144.out 2;have hfz17_3 := blk_frozen BK144.out 3;have hfz17_4 := blk_frozen BK144.out 4;have hfz17_5 := blk_frozen BK144.out 5))
   go_ret
   exact ⟨by first | rfl | (simp [errW_none,errW_some] <;> rfl) | (simp [*,errW_none,errW_some] <;> rfl),by repeat (first | (with_reducible first | exact HB.out | apply below_alloc | apply pw_below_drewN | apply below_drew1 | refine below_set ?_ GE144.out) | exact HB.out)⟩

end Go.Proofs.Ytfcghajnnllmhaa.QP

namespace Go.Proofs.Ytfcghajnnllmhaa.QP
open Go.RowKit Go.Proofs.YtfcghajnnllmhaaW.PrintWords Go.Proofs.YtfcghajnnllmhaaW.PrintLast Go.Proofs.YtfcghajnnllmhaaW.PrintMore
attribute [local go_sem] max2_int min2_int max_two min_two max_three min_three max_four min_four   -- for this text's walks alone
set_option linter.unusedVariables false
set_option linter.unusedSimpArgs false

/-! ### passepartoutref04_check: function 46 -/
mutual
def passepartoutref04_check.l0 : Nat → List (S27) → Int → Int → Int → Int → Int → Int → List (S27) → Option (Int)
 | 0,_,_,_,_,_,_,_,_ => none
 | k + 1,x4,x5,x148000,x148001,x148002,x148003,x148004,x148005 => if x5 < (x4.length : Int) then (if 0 ≤ x5 then ((passepartoutref04_check.f k ((rd_T27 x4 x5).f0) ((rd_T27 x4 x5).f1) ((rd_T27 x4 x5).f2) ((rd_T27 x4 x5).f3) ((rd_T27 x4 x5).f4) ((rd_T27 x4 x5).f5)).bind fun t153 => (if t153 = 0 then (passepartoutref04_check.l0 k x4 (wrap64 (x5 + 1)) x148000 x148001 x148002 x148003 x148004 x148005) else (some t153))) else (none)) else (passepartoutref04_check.l1 k x4 0 x148000 x148001 x148002 x148003 x148004 x148005)
def passepartoutref04_check.l1 : Nat → List (S27) → Int → Int → Int → Int → Int → Int → List (S27) → Option (Int)
 | 0,_,_,_,_,_,_,_,_ => none
 | k + 1,x4,x6,x148000,x148001,x148002,x148003,x148004,x148005 => if x6 < (x4.length : Int) then (if 0 ≤ x6 then ((passepartoutref04_Open.f k ((rd_T27 x4 x6).f0) ((rd_T27 x4 x6).f1) ((rd_T27 x4 x6).f2) ((rd_T27 x4 x6).f3) ((rd_T27 x4 x6).f4) ((rd_T27 x4 x6).f5)).bind fun t155 => (if t155 = true then (if x148000 = 2 then (some 15) else (if (wrap64 (x6 + 1)) < (x4.length : Int) then (some 15) else (passepartoutref04_check.l1 k x4 (wrap64 (x6 + 1)) x148000 x148001 x148002 x148003 x148004 x148005))) else (passepartoutref04_check.l1 k x4 (wrap64 (x6 + 1)) x148000 x148001 x148002 x148003 x148004 x148005))) else (none)) else (if x148000 = 2 then (if 0 < (x4.length : Int) then ((passepartoutref04_Least.f k ((rd_T27 x4 0).f0) ((rd_T27 x4 0).f1) ((rd_T27 x4 0).f2) ((rd_T27 x4 0).f3) ((rd_T27 x4 0).f4) ((rd_T27 x4 0).f5)).bind fun t157 => (if t157 = 0 then (some 15) else (some 0))) else (none)) else (some 0))
def passepartoutref04_check.f : Nat → Int → Int → Int → Int → Int → List (S27) → Option (Int)
 | 0,_,_,_,_,_,_ => none
 | k + 1,a0_0,a0_1,a0_2,a0_3,a0_4,l0_5 => (passepartoutref04_own.f a0_0 a0_1 a0_2 a0_3 a0_4 l0_5).bind fun t148 => (if t148 = 0 then ((passepartoutref04_parts.f a0_0 a0_1 a0_2 a0_3 a0_4 l0_5).bind fun t149 => (passepartoutref04_check.l0 k t149 0 a0_0 a0_1 a0_2 a0_3 a0_4 l0_5)) else (some t148))
end
theorem passepartoutref04_check.mono_l : ∀ k,(∀ y0 y1 y2 y3 y4 y5,LeO (passepartoutref04_check.f k y0 y1 y2 y3 y4 y5) (passepartoutref04_check.f (k + 1) y0 y1 y2 y3 y4 y5)) ∧ (∀ y0 y1 y2 y3 y4 y5 y6 y7,LeO (passepartoutref04_check.l0 k y0 y1 y2 y3 y4 y5 y6 y7) (passepartoutref04_check.l0 (k + 1) y0 y1 y2 y3 y4 y5 y6 y7)) ∧ (∀ y0 y1 y2 y3 y4 y5 y6 y7,LeO (passepartoutref04_check.l1 k y0 y1 y2 y3 y4 y5 y6 y7) (passepartoutref04_check.l1 (k + 1) y0 y1 y2 y3 y4 y5 y6 y7))
 | 0 => ⟨fun _ _ _ _ _ _ r h => by simp [passepartoutref04_check.f] at h,fun _ _ _ _ _ _ _ _ r h => by simp [passepartoutref04_check.l0] at h,fun _ _ _ _ _ _ _ _ r h => by simp [passepartoutref04_check.l1] at h⟩
 | k + 1 => by
  obtain ⟨ih0,ih1,ih2⟩ := passepartoutref04_check.mono_l k
  refine ⟨?_,?_,?_⟩
  ·intro y0 y1 y2 y3 y4 y5
   unfold passepartoutref04_check.f
   repeat' first
   | (with_reducible exact ih0 _ _ _ _ _ _)
   | (with_reducible exact ih1 _ _ _ _ _ _ _ _)
   | (with_reducible exact ih2 _ _ _ _ _ _ _ _)
   | (with_reducible exact passepartoutref04_Least.mono _ _ _ _ _ _ _)
   | (with_reducible exact passepartoutref04_Open.mono _ _ _ _ _ _ _)
   | (with_reducible exact LeO.refl _)
   | (with_reducible exact LeO.none _)
   | (with_reducible refine LeO.ite ?_ ?_)
   | (with_reducible refine LeO.bind ?_ (fun _ => ?_))
   | exact ih0 _ _ _ _ _ _
   | exact ih1 _ _ _ _ _ _ _ _
   | exact ih2 _ _ _ _ _ _ _ _
   | exact passepartoutref04_Least.mono _ _ _ _ _ _ _
   | exact passepartoutref04_Open.mono _ _ _ _ _ _ _
   | exact LeO.none _
   | refine LeO.ite ?_ ?_
   | refine LeO.bind ?_ (fun _ => ?_)
  ·intro y0 y1 y2 y3 y4 y5 y6 y7
   unfold passepartoutref04_check.l0
   repeat' first
   | (with_reducible exact ih0 _ _ _ _ _ _)
   | (with_reducible exact ih1 _ _ _ _ _ _ _ _)
   | (with_reducible exact ih2 _ _ _ _ _ _ _ _)
   | (with_reducible exact passepartoutref04_Least.mono _ _ _ _ _ _ _)
   | (with_reducible exact passepartoutref04_Open.mono _ _ _ _ _ _ _)
   | (with_reducible exact LeO.refl _)
   | (with_reducible exact LeO.none _)
   | (with_reducible refine LeO.ite ?_ ?_)
   | (with_reducible refine LeO.bind ?_ (fun _ => ?_))
   | exact ih0 _ _ _ _ _ _
   | exact ih1 _ _ _ _ _ _ _ _
   | exact ih2 _ _ _ _ _ _ _ _
   | exact passepartoutref04_Least.mono _ _ _ _ _ _ _
   | exact passepartoutref04_Open.mono _ _ _ _ _ _ _
   | exact LeO.none _
   | refine LeO.ite ?_ ?_
   | refine LeO.bind ?_ (fun _ => ?_)
  ·intro y0 y1 y2 y3 y4 y5 y6 y7
   unfold passepartoutref04_check.l1
   repeat' first
   | (with_reducible exact ih0 _ _ _ _ _ _)
   | (with_reducible exact ih1 _ _ _ _ _ _ _ _)
   | (with_reducible exact ih2 _ _ _ _ _ _ _ _)
   | (with_reducible exact passepartoutref04_Least.mono _ _ _ _ _ _ _)
   | (with_reducible exact passepartoutref04_Open.mono _ _ _ _ _ _ _)
   | (with_reducible exact LeO.refl _)
   | (with_reducible exact LeO.none _)
   | (with_reducible refine LeO.ite ?_ ?_)
   | (with_reducible refine LeO.bind ?_ (fun _ => ?_))
   | exact ih0 _ _ _ _ _ _
   | exact ih1 _ _ _ _ _ _ _ _
   | exact ih2 _ _ _ _ _ _ _ _
   | exact passepartoutref04_Least.mono _ _ _ _ _ _ _
   | exact passepartoutref04_Open.mono _ _ _ _ _ _ _
   | exact LeO.none _
   | refine LeO.ite ?_ ?_
   | refine LeO.bind ?_ (fun _ => ?_)
theorem passepartoutref04_check.mono : ∀ a0 a1 a2 a3 a4 a5 k,LeO (passepartoutref04_check.f k a0 a1 a2 a3 a4 a5) (passepartoutref04_check.f (k + 1) a0 a1 a2 a3 a4 a5) := by
 intro a0 a1 a2 a3 a4 a5 k
 obtain ⟨ih0,ih1,ih2⟩ := passepartoutref04_check.mono_l k
 exact ih0 a0 a1 a2 a3 a4 a5
set_option maxHeartbeats 8000000 in
set_option maxRecDepth 100000 in
theorem passepartoutref04_check.calls (k : Nat) : ∀ (a0_0 : Int) (a0_1 : Int) (a0_2 : Int) (a0_3 : Int) (a0_4 : Int) (A0_5 : Option Addr) (c0_5 : Nat) (l0_5 : List (S27)) (r : Int) (w : World) (hr0_5 : Kd.C k27 w A0_5 l0_5.length l0_5) (hc0_5 : l0_5.length ≤ c0_5) (h : passepartoutref04_check.f k a0_0 a0_1 a0_2 a0_3 a0_4 l0_5 = some r),
  Calls Try.prog 46 #[.agg #[.int .i64 a0_0,.int .i64 a0_1,.int .i64 a0_2,.int .i64 a0_3,.int .i64 a0_4,.slice A0_5 l0_5.length c0_5]] w fun e w' => e = .returned (.int .i64 r) ∧ Below w.heap.size w w' := by
 induction k using Nat.strongRecOn with
 | _ k ih =>
 intro a0_0 a0_1 a0_2 a0_3 a0_4 A0_5 c0_5 l0_5 r w hr0_5 hc0_5 h
 cases k with
 | zero => exact absurd h (by simp [passepartoutref04_check.f])
 | succ k =>
 simp only [passepartoutref04_check.f] at h
 have hu27 := Try.underlying27
 have HR0_5 := Aside0.mk hr0_5
 have HC0_5 := Aside0.mk hc0_5
 clear hr0_5 hc0_5
 have HB := Aside0.mk (Below.refl w.heap.size w)
 have H : ((passepartoutref04_own.f a0_0 a0_1 a0_2 a0_3 a0_4 l0_5).bind fun t148 => (if t148 = 0 then ((passepartoutref04_parts.f a0_0 a0_1 a0_2 a0_3 a0_4 l0_5).bind fun t149 => (passepartoutref04_check.l0 k t149 0 a0_0 a0_1 a0_2 a0_3 a0_4 l0_5)) else (some t148))) = some r := h
 clear h
 replace H := Option.bind_eq_some_iff.mp H
 obtain ⟨t148,A20,H⟩ := H
 replace H : (if t148 = 0 then ((passepartoutref04_parts.f a0_0 a0_1 a0_2 a0_3 a0_4 l0_5).bind fun t149 => (passepartoutref04_check.l0 k t149 0 a0_0 a0_1 a0_2 a0_3 a0_4 l0_5)) else (some t148)) = some r := H
 have A2 := Aside0.mk A20
 clear A20
 by_cases c3 : t148 = 0
 ·rw [if_pos c3] at H
  have c3b0 : (t148 == 0) = true := beq_iff_eq.mpr c3
  have c3b1 : (t148 != 0) = false := bne_eq_false_iff_eq.mpr c3
  clear c3
  replace H := Option.bind_eq_some_iff.mp H
  obtain ⟨t149,A40,H⟩ := H
  replace H : (passepartoutref04_check.l0 k t149 0 a0_0 a0_1 a0_2 a0_3 a0_4 l0_5) = some r := H
  have A4 := Aside0.mk A40
  clear A40
  have H' := Aside0.mk H
  clear H
  go_enter Try.func46,Try.ntmps46
  go_wp2_with (first | ((with_reducible refine gate_dst (N := 1) rfl ?_);(try (refine gate_guard (by rfl) ?_;dsimp only));refine box_event ?hg (N := 1) ?hd (cs := #[.int .i64 a0_0,.int .i64 a0_1,.int .i64 a0_2,.int .i64 a0_3,.int .i64 a0_4,.slice A0_5 l0_5.length c0_5]) (t := 27) ?hr ?_;(case hd => rfl);(case hg => rfl);(case hr => first | (go_simp;done) | (go_simp;rfl));intro gb147 hg w5 hbox hb;have n0_ := Aside0.mk (below_step (by repeat (first | (with_reducible first | exact HB.out | apply below_alloc | apply pw_below_drewN | apply below_drew1) | exact HB.out)) hb);have n1_ := Aside0.mk (hbox);have n2_ := Aside0.mk ((by rw [hg];exact (below_size (by repeat (first | (with_reducible first | exact HB.out | apply below_alloc | apply pw_below_drewN | apply below_drew1) | exact HB.out))) : w.heap.size ≤ gb147));have n3_ := Aside0.mk ((by rw [hg];exact (below_size (by repeat (first | (with_reducible first | exact HB.out | apply below_alloc | apply pw_below_drewN | apply below_drew1) | exact HB.out))) : w.heap.size ≤ gb147));clear HB;have HB := n0_;have BK147 := n1_;have GW147 := n2_;have GE147 := n3_;clear n0_ n1_ n2_ n3_;clear hb hbox hg;have hcz6_0 : w5.cell? ⟨gb147,0,none⟩ = some (.int .i64 a0_0) := (blk_cell BK147.out 0).trans rfl;have hcz6_1 : w5.cell? ⟨gb147,1,none⟩ = some (.int .i64 a0_1) := (blk_cell BK147.out 1).trans rfl;have hcz6_2 : w5.cell? ⟨gb147,2,none⟩ = some (.int .i64 a0_2) := (blk_cell BK147.out 2).trans rfl;have hcz6_3 : w5.cell? ⟨gb147,3,none⟩ = some (.int .i64 a0_3) := (blk_cell BK147.out 3).trans rfl;have hcz6_4 : w5.cell? ⟨gb147,4,none⟩ = some (.int .i64 a0_4) := (blk_cell BK147.out 4).trans rfl;have hcz6_5 : w5.cell? ⟨gb147,5,none⟩ = some (.slice A0_5 l0_5.length c0_5) := (blk_cell BK147.out 5).trans rfl;have hfz6_0 := blk_frozen BK147.out 0;have hfz6_1 := blk_frozen BK147.out 1;have hfz6_2 := blk_frozen BK147.out 2;have hfz6_3 := blk_frozen BK147.out 3;have hfz6_4 := blk_frozen BK147.out 4;have hfz6_5 := blk_frozen BK147.out 5) | ((with_reducible refine gate_callee (f := 64) rfl ?_);refine goesL_ (some 9) rfl rfl Try.func64 (by kernel_rfl) rfl #[.agg #[.int .i64 a0_0,.int .i64 a0_1,.int .i64 a0_2,.int .i64 a0_3,.int .i64 a0_4,.slice A0_5 l0_5.length c0_5]] rfl (by (try simp only [List.map_toArray,List.map_cons,List.map_nil]);first | done | rfl | (simp only [List.length_drop,List.length_take];rfl)) ?_;(with_reducible refine (passepartoutref04_own.calls a0_0 a0_1 a0_2 a0_3 a0_4 _ _ l0_5 t148 _ ?side1 ?side2 A2.out).mono ?_);(case side1 => repeat (first | exact (Kd.C_below HR0_5.out HB.out) | (with_reducible refine Kd.C_alloc ?_ _) | (with_reducible refine Kd.C_drewN ?_ _) | (with_reducible refine Kd.C_drew ?_)));(case side2 => exact HC0_5.out);rintro e w7 ⟨rfl,hb⟩;refine ⟨_,rfl,?_⟩;have n0_ := Aside0.mk (blk_below (g := gb147) (o := .cells #[.int .i64 a0_0,.int .i64 a0_1,.int .i64 a0_2,.int .i64 a0_3,.int .i64 a0_4,.slice A0_5 l0_5.length c0_5] 27 (0,0)) (by (with_reducible repeat (first | refine blk_drewN ?_ _ | refine blk_drew ?_ | refine blk_alloc ?_ _));exact BK147.out) hb);have n1_ := Aside0.mk (below_step (by repeat (first | (with_reducible first | exact HB.out | apply below_alloc | apply pw_below_drewN | apply below_drew1 | refine below_set ?_ GE147.out) | exact HB.out)) hb);clear BK147;clear HB;have BK147 := n0_;have HB := n1_;clear n0_ n1_;(try clear hb);(try clear hb2);(try clear hk);(try clear hi);have hcz8_0 : w7.cell? ⟨gb147,0,none⟩ = some (.int .i64 a0_0) := (blk_cell BK147.out 0).trans rfl;have hcz8_1 : w7.cell? ⟨gb147,1,none⟩ = some (.int .i64 a0_1) := (blk_cell BK147.out 1).trans rfl;have hcz8_2 : w7.cell? ⟨gb147,2,none⟩ = some (.int .i64 a0_2) := (blk_cell BK147.out 2).trans rfl;have hcz8_3 : w7.cell? ⟨gb147,3,none⟩ = some (.int .i64 a0_3) := (blk_cell BK147.out 3).trans rfl;have hcz8_4 : w7.cell? ⟨gb147,4,none⟩ = some (.int .i64 a0_4) := (blk_cell BK147.out 4).trans rfl;have hcz8_5 : w7.cell? ⟨gb147,5,none⟩ = some (.slice A0_5 l0_5.length c0_5) := (blk_cell BK147.out 5).trans rfl;have hfz8_0 := blk_frozen BK147.out 0;have hfz8_1 := blk_frozen BK147.out 1;have hfz8_2 := blk_frozen BK147.out 2;have hfz8_3 := blk_frozen BK147.out 3;have hfz8_4 := blk_frozen BK147.out 4;have hfz8_5 := blk_frozen BK147.out 5) | ((with_reducible refine gate_callee (f := 47) rfl ?_);refine goesL_ (some 14) rfl rfl Try.func47 (by kernel_rfl) rfl #[.agg #[.int .i64 a0_0,.int .i64 a0_1,.int .i64 a0_2,.int .i64 a0_3,.int .i64 a0_4,.slice A0_5 l0_5.length c0_5]] rfl (by (try simp only [List.map_toArray,List.map_cons,List.map_nil]);first | done | rfl | (simp only [List.length_drop,List.length_take];rfl)) ?_;(with_reducible refine (passepartoutref04_parts.calls a0_0 a0_1 a0_2 a0_3 a0_4 (fun k_ => k_ < w.heap.size) _ _ l0_5 t149 _ ?side1 A4.out).mono ?_);(case side1 => exact Kd.V_mk HC0_5.out (Kd.F_below (Kd.C_F k27_heap HR0_5.out) (by repeat (first | (with_reducible first | exact HB.out | apply below_alloc | apply pw_below_drewN | apply below_drew1 | refine below_set ?_ GE147.out) | exact HB.out))));rintro e w9 ⟨v150,rfl,ho0,hb⟩;refine ⟨_,rfl,?_⟩;have n0_ := Aside0.mk (Kd.V_lower (Kd.V_mono (ok' := fun k_ => k_ ≠ gb147) ho0 (fun k_ hk_ => Or.elim hk_ (fun hs_ => fun e_ => Nat.not_le.2 hs_ (by rw [e_];exact GW147.out)) (fun hn_ => (Kd.freshB (g := gb147) (o := .cells #[.int .i64 a0_0,.int .i64 a0_1,.int .i64 a0_2,.int .i64 a0_3,.int .i64 a0_4,.slice A0_5 l0_5.length c0_5] 27 (0,0)) (by (with_reducible repeat (first | refine blk_drewN ?_ _ | refine blk_drew ?_ | refine blk_alloc ?_ _));exact BK147.out) k_ hn_)))) (below_size (by repeat (first | (with_reducible first | exact HB.out | apply below_alloc | apply pw_below_drewN | apply below_drew1 | refine below_set ?_ GE147.out) | exact HB.out))));have n1_ := Aside0.mk (blk_below (g := gb147) (o := .cells #[.int .i64 a0_0,.int .i64 a0_1,.int .i64 a0_2,.int .i64 a0_3,.int .i64 a0_4,.slice A0_5 l0_5.length c0_5] 27 (0,0)) (by (with_reducible repeat (first | refine blk_drewN ?_ _ | refine blk_drew ?_ | refine blk_alloc ?_ _));exact BK147.out) hb);have n2_ := Aside0.mk (below_step (by repeat (first | (with_reducible first | exact HB.out | apply below_alloc | apply pw_below_drewN | apply below_drew1 | refine below_set ?_ GE147.out) | exact HB.out)) hb);clear BK147;clear HB;have HO151 := n0_;have BK147 := n1_;have HB := n2_;clear n0_ n1_ n2_;(try clear hb);(try clear hb2);(try clear hk);(try clear hi);(try clear ho0)))
  go_loopg [5] k (fun kq v5 w' => ∃ (x5_1 : Int),v5 = .int .i64 x5_1 ∧ Aside0 (passepartoutref04_check.l0 kq t149 x5_1 a0_0 a0_1 a0_2 a0_3 a0_4 l0_5 = some r) ∧ Aside0 (kq ≤ k) ∧ Aside0 (Kd.V k27 27 w' w.heap.size (fun k_ => k_ ≠ gb147) v150 t149) ∧ Aside0 (w'.heap[gb147]? = some (.cells #[.int .i64 a0_0,.int .i64 a0_1,.int .i64 a0_2,.int .i64 a0_3,.int .i64 a0_4,(.slice A0_5 l0_5.length c0_5)] 27 (0,0))) ∧ Aside0 (Below w.heap.size w w'))
  case atStart => exact ⟨(0),(by first | rfl | (simp;done) | (simp [*];done)),H',⟨Nat.le_refl _⟩,⟨by (with_reducible repeat (first | apply Kd.V_alloc | apply Kd.V_drewN | apply Kd.V_drew));exact HO151.out⟩,⟨by (with_reducible repeat (first | refine blk_drewN ?_ _ | refine blk_drew ?_ | refine blk_alloc ?_ _));exact BK147.out⟩,⟨by repeat (first | (with_reducible first | exact HB.out | apply below_alloc | apply pw_below_drewN | apply below_drew1 | refine below_set ?_ GE147.out) | exact HB.out)⟩⟩
  case round =>
   clear H'
   try clear p2
   try clear c3
   try clear c3b0
   try clear c3b1
   try clear c4
   try clear c6
   try clear hcz6_0
   try clear hcz6_1
   try clear hcz6_2
   try clear hcz6_3
   try clear hcz6_4
   try clear hcz6_5
   try clear hcz8_0
   try clear hcz8_1
   try clear hcz8_2
   try clear hcz8_3
   try clear hcz8_4
   try clear hcz8_5
   try clear hfz6_0
   try clear hfz6_1
   try clear hfz6_2
   try clear hfz6_3
   try clear hfz6_4
   try clear hfz6_5
   try clear hfz8_0
   try clear hfz8_1
   try clear hfz8_2
   try clear hfz8_3
   try clear hfz8_4
   try clear hfz8_5
   obtain ⟨x5_1,rfl,HA,HK1,HO_4,BK147,HB⟩ := hrel
   cases gk with
   | zero => exact absurd HA.out (by simp [passepartoutref04_check.l0])
   | succ k1 =>
    have H := HA.out
    clear HA
    simp only [passepartoutref04_check.l0] at H
    by_cases c10 : x5_1 < (t149.length : Int)
    ·rw [if_pos c10] at H
     have c10b0 : decide (x5_1 < (t149.length : Int)) = true := decide_eq_true c10
     clear c10
     by_cases c11 : 0 ≤ x5_1
     ·rw [if_pos c11] at H
      have c11b0 : decide (0 ≤ x5_1) = true := decide_eq_true c11
      clear c11
      replace H := Option.bind_eq_some_iff.mp H
      obtain ⟨t153,A120,H⟩ := H
      replace H : (if t153 = 0 then (passepartoutref04_check.l0 k1 t149 (wrap64 (x5_1 + 1)) a0_0 a0_1 a0_2 a0_3 a0_4 l0_5) else (some t153)) = some r := H
      have A12 := Aside0.mk A120
      clear A120
      by_cases c13 : t153 = 0
      ·rw [if_pos c13] at H
       have c13b0 : (t153 == 0) = true := beq_iff_eq.mpr c13
       have c13b1 : (t153 != 0) = false := bne_eq_false_iff_eq.mpr c13
       clear c13
       have H' := Aside0.mk H
       clear H
       obtain ⟨Ao14,co14,eo14⟩ := Kd.V_slice HO_4.out
       subst eo14
       have p152 : 0 ≤ (x5_1 : Int) := of_decide_eq_true (by first | (with_reducible assumption) | assumption)
       have q152 : x5_1 < (t149.length : Int) := of_decide_eq_true (by first | (with_reducible assumption) | assumption)
       obtain ⟨ad152,A152_5,c152_5,e152,hx152_0,hx152_1,hx152_2,hx152_3,hx152_4,hx152_5,hl152_5,hi152_5⟩ := at_T27 (Kd.V_reads' HO_4.out).2.2 x5_1 p152 q152
       cases e152
       obtain ⟨ce152,hce152,hMe152,hcc152⟩ := Kd.V_get HO_4.out z27 x5_1 p152 (by first | exact q152 | exact of_decide_eq_true (by first | (with_reducible assumption) | assumption) | (have e_ := (Kd.V_reads' HO_4.out).1;omega))
       obtain ⟨ua152_5,uc152_5,rfl,ul152_5,ge152_5⟩ := k27_openF hMe152
       have hv152_5 := hcc152 5 _ rfl
       rw [add_field _ _ 5 (by omega)] at hv152_5
       replace hv152_5 := Option.some.inj (hv152_5.symm.trans hx152_5)
       injection hv152_5 with hva_ hvn_ hvc_
       rw [hva_] at ge152_5
       rw [hvc_] at ul152_5
       have HL152_5 := Aside0.mk (show Kd.V k27 27 _ w.heap.size _ _ ((rd_T27 t149 x5_1).f5) from Kd.V_mk ul152_5 ge152_5)
       clear hva_ hvn_ hvc_ ge152_5 ul152_5
       clear hcc152 hce152
       have HR152_5 := Aside0.mk hi152_5
       have HC152_5 := Aside0.mk hl152_5
       clear hi152_5 hl152_5
       replace p152 := eq_true p152
       replace q152 := eq_true q152
       go_wp2_with (first | ((with_reducible refine gate_callee (f := 46) rfl ?_);refine goesL_ (some 25) rfl rfl Try.func46 (by kernel_rfl) rfl #[.agg #[.int .i64 ((rd_T27 t149 x5_1).f0),.int .i64 ((rd_T27 t149 x5_1).f1),.int .i64 ((rd_T27 t149 x5_1).f2),.int .i64 ((rd_T27 t149 x5_1).f3),.int .i64 ((rd_T27 t149 x5_1).f4),.slice A152_5 ((rd_T27 t149 x5_1).f5).length c152_5]] rfl (by (try simp only [List.map_toArray,List.map_cons,List.map_nil]);first | done | rfl | (simp only [List.length_drop,List.length_take];rfl)) ?_;(with_reducible refine (ih k1 (by have := HK1.out;omega) ((rd_T27 t149 x5_1).f0) ((rd_T27 t149 x5_1).f1) ((rd_T27 t149 x5_1).f2) ((rd_T27 t149 x5_1).f3) ((rd_T27 t149 x5_1).f4) _ _ ((rd_T27 t149 x5_1).f5) t153 _ ?side1 ?side2 A12.out).mono ?_);(case side1 => repeat (first | exact (by repeat (first | (with_reducible exact HR152_5.out) | (with_reducible refine Kd.C_alloc ?_ _) | (with_reducible refine Kd.C_drewN ?_ _) | (with_reducible refine Kd.C_drew ?_) | exact HR152_5.out)) | (with_reducible refine Kd.C_alloc ?_ _) | (with_reducible refine Kd.C_drewN ?_ _) | (with_reducible refine Kd.C_drew ?_)));(case side2 => exact HC152_5.out);rintro e w15 ⟨rfl,hb⟩;refine ⟨_,rfl,?_⟩;have n0_ := Aside0.mk (Kd.V_below (by (with_reducible repeat (first | apply Kd.V_alloc | apply Kd.V_drewN | apply Kd.V_drew));exact HO_4.out) hb);have n1_ := Aside0.mk (Kd.V_below (by (with_reducible repeat (first | apply Kd.V_alloc | apply Kd.V_drewN | apply Kd.V_drew));exact HL152_5.out) hb);have n2_ := Aside0.mk (blk_below (g := gb147) (o := .cells #[.int .i64 a0_0,.int .i64 a0_1,.int .i64 a0_2,.int .i64 a0_3,.int .i64 a0_4,.slice A0_5 l0_5.length c0_5] 27 (0,0)) (by (with_reducible repeat (first | refine blk_drewN ?_ _ | refine blk_drew ?_ | refine blk_alloc ?_ _));exact BK147.out) hb);have n3_ := Aside0.mk (Kd.C_below (by repeat (first | (with_reducible exact HR152_5.out) | (with_reducible refine Kd.C_alloc ?_ _) | (with_reducible refine Kd.C_drewN ?_ _) | (with_reducible refine Kd.C_drew ?_) | exact HR152_5.out)) hb);have n4_ := Aside0.mk (below_step (by repeat (first | (with_reducible first | exact HB.out | apply below_alloc | apply pw_below_drewN | apply below_drew1 | refine below_set ?_ GE147.out) | exact HB.out)) hb);clear HO_4;clear HL152_5;clear BK147;clear HR152_5;clear HB;have HO_4 := n0_;have HL152_5 := n1_;have BK147 := n2_;have HR152_5 := n3_;have HB := n4_;clear n0_ n1_ n2_ n3_ n4_;(try clear hb);(try clear hb2);(try clear hk);(try clear hi)))
       go_roundg k1
       case measure => have := HK1.out;omega
       case rel => exact ⟨(wrap64 (x5_1 + 1)),(by first | rfl | (simp;done) | (simp [*];done)),H',⟨by have := HK1.out;omega⟩,⟨by (with_reducible repeat (first | apply Kd.V_alloc | apply Kd.V_drewN | apply Kd.V_drew));exact HO_4.out⟩,⟨by (with_reducible repeat (first | refine blk_drewN ?_ _ | refine blk_drew ?_ | refine blk_alloc ?_ _));exact BK147.out⟩,⟨by repeat (first | (with_reducible first | exact HB.out | apply below_alloc | apply pw_below_drewN | apply below_drew1 | refine below_set ?_ GE147.out) | exact HB.out)⟩⟩
      ·rw [if_neg c13] at H
       have c13b0 : (t153 == 0) = false := beq_eq_false_iff_ne.mpr c13
       have c13b1 : (t153 != 0) = true := bne_iff_ne.mpr c13
       obtain rfl := Option.some.inj H
       obtain ⟨Ao16,co16,eo16⟩ := Kd.V_slice HO_4.out
       subst eo16
       have p152 : 0 ≤ (x5_1 : Int) := of_decide_eq_true (by first | (with_reducible assumption) | assumption)
       have q152 : x5_1 < (t149.length : Int) := of_decide_eq_true (by first | (with_reducible assumption) | assumption)
       obtain ⟨ad152,A152_5,c152_5,e152,hx152_0,hx152_1,hx152_2,hx152_3,hx152_4,hx152_5,hl152_5,hi152_5⟩ := at_T27 (Kd.V_reads' HO_4.out).2.2 x5_1 p152 q152
       cases e152
       obtain ⟨ce152,hce152,hMe152,hcc152⟩ := Kd.V_get HO_4.out z27 x5_1 p152 (by first | exact q152 | exact of_decide_eq_true (by first | (with_reducible assumption) | assumption) | (have e_ := (Kd.V_reads' HO_4.out).1;omega))
       obtain ⟨ua152_5,uc152_5,rfl,ul152_5,ge152_5⟩ := k27_openF hMe152
       have hv152_5 := hcc152 5 _ rfl
       rw [add_field _ _ 5 (by omega)] at hv152_5
       replace hv152_5 := Option.some.inj (hv152_5.symm.trans hx152_5)
       injection hv152_5 with hva_ hvn_ hvc_
       rw [hva_] at ge152_5
       rw [hvc_] at ul152_5
       have HL152_5 := Aside0.mk (show Kd.V k27 27 _ w.heap.size _ _ ((rd_T27 t149 x5_1).f5) from Kd.V_mk ul152_5 ge152_5)
       clear hva_ hvn_ hvc_ ge152_5 ul152_5
       clear hcc152 hce152
       have HR152_5 := Aside0.mk hi152_5
       have HC152_5 := Aside0.mk hl152_5
       clear hi152_5 hl152_5
       replace p152 := eq_true p152
       replace q152 := eq_true q152
       go_wp2_with (first | ((with_reducible refine gate_callee (f := 46) rfl ?_);refine goesL_ (some 25) rfl rfl Try.func46 (by kernel_rfl) rfl #[.agg #[.int .i64 ((rd_T27 t149 x5_1).f0),.int .i64 ((rd_T27 t149 x5_1).f1),.int .i64 ((rd_T27 t149 x5_1).f2),.int .i64 ((rd_T27 t149 x5_1).f3),.int .i64 ((rd_T27 t149 x5_1).f4),.slice A152_5 ((rd_T27 t149 x5_1).f5).length c152_5]] rfl (by (try simp only [List.map_toArray,List.map_cons,List.map_nil]);first | done | rfl | (simp only [List.length_drop,List.length_take];rfl)) ?_;(with_reducible refine (ih k1 (by have := HK1.out;omega) ((rd_T27 t149 x5_1).f0) ((rd_T27 t149 x5_1).f1) ((rd_T27 t149 x5_1).f2) ((rd_T27 t149 x5_1).f3) ((rd_T27 t149 x5_1).f4) _ _ ((rd_T27 t149 x5_1).f5) t153 _ ?side1 ?side2 A12.out).mono ?_);(case side1 => repeat (first | exact (by repeat (first | (with_reducible exact HR152_5.out) | (with_reducible refine Kd.C_alloc ?_ _) | (with_reducible refine Kd.C_drewN ?_ _) | (with_reducible refine Kd.C_drew ?_) | exact HR152_5.out)) | (with_reducible refine Kd.C_alloc ?_ _) | (with_reducible refine Kd.C_drewN ?_ _) | (with_reducible refine Kd.C_drew ?_)));(case side2 => exact HC152_5.out);rintro e w17 ⟨rfl,hb⟩;refine ⟨_,rfl,?_⟩;have n0_ := Aside0.mk (Kd.V_below (by (with_reducible repeat (first | apply Kd.V_alloc | apply Kd.V_drewN | apply Kd.V_drew));exact HO_4.out) hb);have n1_ := Aside0.mk (Kd.V_below (by (with_reducible repeat (first | apply Kd.V_alloc | apply Kd.V_drewN | apply Kd.V_drew));exact HL152_5.out) hb);have n2_ := Aside0.mk (blk_below (g := gb147) (o := .cells #[.int .i64 a0_0,.int .i64 a0_1,.int .i64 a0_2,.int .i64 a0_3,.int .i64 a0_4,.slice A0_5 l0_5.length c0_5] 27 (0,0)) (by (with_reducible repeat (first | refine blk_drewN ?_ _ | refine blk_drew ?_ | refine blk_alloc ?_ _));exact BK147.out) hb);have n3_ := Aside0.mk (Kd.C_below (by repeat (first | (with_reducible exact HR152_5.out) | (with_reducible refine Kd.C_alloc ?_ _) | (with_reducible refine Kd.C_drewN ?_ _) | (with_reducible refine Kd.C_drew ?_) | exact HR152_5.out)) hb);have n4_ := Aside0.mk (below_step (by repeat (first | (with_reducible first | exact HB.out | apply below_alloc | apply pw_below_drewN | apply below_drew1 | refine below_set ?_ GE147.out) | exact HB.out)) hb);clear HO_4;clear HL152_5;clear BK147;clear HR152_5;clear HB;have HO_4 := n0_;have HL152_5 := n1_;have BK147 := n2_;have HR152_5 := n3_;have HB := n4_;clear n0_ n1_ n2_ n3_ n4_;(try clear hb);(try clear hb2);(try clear hk);(try clear hi)))
       go_ret
       exact ⟨by first | rfl | (simp [errW_none,errW_some] <;> rfl) | (simp [*,errW_none,errW_some] <;> rfl),by repeat (first | (with_reducible first | exact HB.out | apply below_alloc | apply pw_below_drewN | apply below_drew1 | refine below_set ?_ GE147.out) | exact HB.out)⟩
     ·rw [if_neg c11] at H
      exact absurd H (by simp)
    ·rw [if_neg c10] at H
     have c10b0 : decide (x5_1 < (t149.length : Int)) = false := decide_eq_false c10
     clear c10
     have H' := Aside0.mk H
     clear H
     obtain ⟨Ao18,co18,eo18⟩ := Kd.V_slice HO_4.out
     subst eo18
     go_wp2
     go_loopg [6] k1 (fun kq v6 w' => ∃ (x6_2 : Int),v6 = .int .i64 x6_2 ∧ Aside0 (passepartoutref04_check.l1 kq t149 x6_2 a0_0 a0_1 a0_2 a0_3 a0_4 l0_5 = some r) ∧ Aside0 (kq ≤ k1) ∧ Aside0 (Kd.V k27 27 w' w.heap.size (fun k_ => k_ ≠ gb147) (.slice Ao18 t149.length co18) t149) ∧ Aside0 (w'.heap[gb147]? = some (.cells #[.int .i64 a0_0,.int .i64 a0_1,.int .i64 a0_2,.int .i64 a0_3,.int .i64 a0_4,(.slice A0_5 l0_5.length c0_5)] 27 (0,0))) ∧ Aside0 (Below w.heap.size w w'))
     case atStart => exact ⟨(0),(by first | rfl | (simp;done) | (simp [*];done)),H',⟨Nat.le_refl _⟩,⟨by (with_reducible repeat (first | apply Kd.V_alloc | apply Kd.V_drewN | apply Kd.V_drew));exact HO_4.out⟩,⟨by (with_reducible repeat (first | refine blk_drewN ?_ _ | refine blk_drew ?_ | refine blk_alloc ?_ _));exact BK147.out⟩,⟨by repeat (first | (with_reducible first | exact HB.out | apply below_alloc | apply pw_below_drewN | apply below_drew1 | refine below_set ?_ GE147.out) | exact HB.out)⟩⟩
     case round =>
      clear H'
      try clear c1
      try clear p1
      try clear q1
      try clear hx1
      try clear p2
      try clear c3
      try clear c3b0
      try clear c3b1
      try clear c4
      try clear c6
      try clear p6
      try clear c10
      try clear c10b0
      try clear c11
      try clear c11b0
      try clear c13
      try clear c13b0
      try clear c13b1
      try clear c15
      try clear p15
      try clear q15
      try clear hx15
      try clear hcz6_0
      try clear hcz6_1
      try clear hcz6_2
      try clear hcz6_3
      try clear hcz6_4
      try clear hcz6_5
      try clear hcz8_0
      try clear hcz8_1
      try clear hcz8_2
      try clear hcz8_3
      try clear hcz8_4
      try clear hcz8_5
      try clear hfz6_0
      try clear hfz6_1
      try clear hfz6_2
      try clear hfz6_3
      try clear hfz6_4
      try clear hfz6_5
      try clear hfz8_0
      try clear hfz8_1
      try clear hfz8_2
      try clear hfz8_3
      try clear hfz8_4
      try clear hfz8_5
      try clear hx152_0
      try clear hx152_1
      try clear hx152_2
      try clear hx152_3
      try clear hx152_4
      try clear hx152_5
      try clear p152
      try clear p2
      try clear q152
      obtain ⟨x6_2,rfl,HA,HK2,HO_4,BK147,HB⟩ := hrel
      cases gk with
      | zero => exact absurd HA.out (by simp [passepartoutref04_check.l1])
      | succ k2 =>
       have H := HA.out
       clear HA
       simp only [passepartoutref04_check.l1] at H
       by_cases c19 : x6_2 < (t149.length : Int)
       ·rw [if_pos c19] at H
        have c19b0 : decide (x6_2 < (t149.length : Int)) = true := decide_eq_true c19
        clear c19
        by_cases c20 : 0 ≤ x6_2
        ·rw [if_pos c20] at H
         have c20b0 : decide (0 ≤ x6_2) = true := decide_eq_true c20
         clear c20
         replace H := Option.bind_eq_some_iff.mp H
         obtain ⟨t155,A210,H⟩ := H
         replace H : (if t155 = true then (if a0_0 = 2 then (some 15) else (if (wrap64 (x6_2 + 1)) < (t149.length : Int) then (some 15) else (passepartoutref04_check.l1 k2 t149 (wrap64 (x6_2 + 1)) a0_0 a0_1 a0_2 a0_3 a0_4 l0_5))) else (passepartoutref04_check.l1 k2 t149 (wrap64 (x6_2 + 1)) a0_0 a0_1 a0_2 a0_3 a0_4 l0_5)) = some r := H
         have A21 := Aside0.mk A210
         clear A210
         by_cases c22 : t155 = true
         ·subst c22
          have H1 : (if a0_0 = 2 then (some 15) else (if (wrap64 (x6_2 + 1)) < (t149.length : Int) then (some 15) else (passepartoutref04_check.l1 k2 t149 (wrap64 (x6_2 + 1)) a0_0 a0_1 a0_2 a0_3 a0_4 l0_5))) = some r := by rw [if_pos rfl] at H;exact H
          clear H
          have H := H1
          clear H1
          by_cases c23 : a0_0 = 2
          ·rw [if_pos c23] at H
           have c23b0 : (a0_0 == 2) = true := beq_iff_eq.mpr c23
           have c23b1 : (a0_0 != 2) = false := bne_eq_false_iff_eq.mpr c23
           clear c23
           obtain rfl := Option.some.inj H
           have p154 : 0 ≤ (x6_2 : Int) := of_decide_eq_true (by first | (with_reducible assumption) | assumption)
           have q154 : x6_2 < (t149.length : Int) := of_decide_eq_true (by first | (with_reducible assumption) | assumption)
           obtain ⟨ad154,A154_5,c154_5,e154,hx154_0,hx154_1,hx154_2,hx154_3,hx154_4,hx154_5,hl154_5,hi154_5⟩ := at_T27 (Kd.V_reads' HO_4.out).2.2 x6_2 p154 q154
           cases e154
           obtain ⟨ce154,hce154,hMe154,hcc154⟩ := Kd.V_get HO_4.out z27 x6_2 p154 (by first | exact q154 | exact of_decide_eq_true (by first | (with_reducible assumption) | assumption) | (have e_ := (Kd.V_reads' HO_4.out).1;omega))
           obtain ⟨ua154_5,uc154_5,rfl,ul154_5,ge154_5⟩ := k27_openF hMe154
           have hv154_5 := hcc154 5 _ rfl
           rw [add_field _ _ 5 (by omega)] at hv154_5
           replace hv154_5 := Option.some.inj (hv154_5.symm.trans hx154_5)
           injection hv154_5 with hva_ hvn_ hvc_
           rw [hva_] at ge154_5
           rw [hvc_] at ul154_5
           have HL154_5 := Aside0.mk (show Kd.V k27 27 _ w.heap.size _ _ ((rd_T27 t149 x6_2).f5) from Kd.V_mk ul154_5 ge154_5)
           clear hva_ hvn_ hvc_ ge154_5 ul154_5
           clear hcc154 hce154
           have HR154_5 := Aside0.mk hi154_5
           have HC154_5 := Aside0.mk hl154_5
           clear hi154_5 hl154_5
           replace p154 := eq_true p154
           replace q154 := eq_true q154
           go_wp2_with (first | ((with_reducible refine gate_callee (f := 65) rfl ?_);refine goesL_ (some 39) rfl rfl Try.func65 (by kernel_rfl) rfl #[.agg #[.int .i64 ((rd_T27 t149 x6_2).f0),.int .i64 ((rd_T27 t149 x6_2).f1),.int .i64 ((rd_T27 t149 x6_2).f2),.int .i64 ((rd_T27 t149 x6_2).f3),.int .i64 ((rd_T27 t149 x6_2).f4),.slice A154_5 ((rd_T27 t149 x6_2).f5).length c154_5]] rfl (by (try simp only [List.map_toArray,List.map_cons,List.map_nil]);first | done | rfl | (simp only [List.length_drop,List.length_take];rfl)) ?_;(with_reducible refine (passepartoutref04_Open.calls k2 ((rd_T27 t149 x6_2).f0) ((rd_T27 t149 x6_2).f1) ((rd_T27 t149 x6_2).f2) ((rd_T27 t149 x6_2).f3) ((rd_T27 t149 x6_2).f4) _ _ ((rd_T27 t149 x6_2).f5) true _ ?side1 ?side2 A21.out).mono ?_);(case side1 => repeat (first | exact (by repeat (first | (with_reducible exact HR154_5.out) | (with_reducible refine Kd.C_alloc ?_ _) | (with_reducible refine Kd.C_drewN ?_ _) | (with_reducible refine Kd.C_drew ?_) | exact HR154_5.out)) | (with_reducible refine Kd.C_alloc ?_ _) | (with_reducible refine Kd.C_drewN ?_ _) | (with_reducible refine Kd.C_drew ?_)));(case side2 => exact HC154_5.out);rintro e w24 ⟨rfl,hb⟩;refine ⟨_,rfl,?_⟩;have n0_ := Aside0.mk (Kd.V_below (by (with_reducible repeat (first | apply Kd.V_alloc | apply Kd.V_drewN | apply Kd.V_drew));exact HO_4.out) hb);have n1_ := Aside0.mk (Kd.V_below (by (with_reducible repeat (first | apply Kd.V_alloc | apply Kd.V_drewN | apply Kd.V_drew));exact HL154_5.out) hb);have n2_ := Aside0.mk (blk_below (g := gb147) (o := .cells #[.int .i64 a0_0,.int .i64 a0_1,.int .i64 a0_2,.int .i64 a0_3,.int .i64 a0_4,.slice A0_5 l0_5.length c0_5] 27 (0,0)) (by (with_reducible repeat (first | refine blk_drewN ?_ _ | refine blk_drew ?_ | refine blk_alloc ?_ _));exact BK147.out) hb);have n3_ := Aside0.mk (Kd.C_below (by repeat (first | (with_reducible exact HR154_5.out) | (with_reducible refine Kd.C_alloc ?_ _) | (with_reducible refine Kd.C_drewN ?_ _) | (with_reducible refine Kd.C_drew ?_) | exact HR154_5.out)) hb);have n4_ := Aside0.mk (below_step (by repeat (first | (with_reducible first | exact HB.out | apply below_alloc | apply pw_below_drewN | apply below_drew1 | refine below_set ?_ GE147.out) | exact HB.out)) hb);clear HO_4;clear HL154_5;clear BK147;clear HR154_5;clear HB;have HO_4 := n0_;have HL154_5 := n1_;have BK147 := n2_;have HR154_5 := n3_;have HB := n4_;clear n0_ n1_ n2_ n3_ n4_;(try clear hb);(try clear hb2);(try clear hk);(try clear hi);have hcz25_0 : w24.cell? ⟨gb147,0,none⟩ = some (.int .i64 a0_0) := (blk_cell BK147.out 0).trans rfl;have hcz25_1 : w24.cell? ⟨gb147,1,none⟩ = some (.int .i64 a0_1) := (blk_cell BK147.out 1).trans rfl;have hcz25_2 : w24.cell? ⟨gb147,2,none⟩ = some (.int .i64 a0_2) := (blk_cell BK147.out 2).trans rfl;have hcz25_3 : w24.cell? ⟨gb147,3,none⟩ = some (.int .i64 a0_3) := (blk_cell BK147.out 3).trans rfl;have hcz25_4 : w24.cell? ⟨gb147,4,none⟩ = some (.int .i64 a0_4) := (blk_cell BK147.out 4).trans rfl;have hcz25_5 : w24.cell? ⟨gb147,5,none⟩ = some (.slice A0_5 l0_5.length c0_5) := (blk_cell BK147.out 5).trans rfl;have hfz25_0 := blk_frozen BK147.out 0;have hfz25_1 := blk_frozen BK147.out 1;have hfz25_2 := blk_frozen BK147.out 2;have hfz25_3 := blk_frozen BK147.out 3;have hfz25_4 := blk_frozen BK147.out 4;have hfz25_5 := blk_frozen BK147.out 5))
           go_ret
           exact ⟨by first | rfl | (simp [errW_none,errW_some] <;> rfl) | (simp [*,errW_none,errW_some] <;> rfl),by repeat (first | (with_reducible first | exact HB.out | apply below_alloc | apply pw_below_drewN | apply below_drew1 | refine below_set ?_ GE147.out) | exact HB.out)⟩
          ·rw [if_neg c23] at H
           have c23b0 : (a0_0 == 2) = false := beq_eq_false_iff_ne.mpr c23
           have c23b1 : (a0_0 != 2) = true := bne_iff_ne.mpr c23
           by_cases c26 : (wrap64 (x6_2 + 1)) < (t149.length : Int)
           ·rw [if_pos c26] at H
            have c26b0 : decide ((wrap64 (x6_2 + 1)) < (t149.length : Int)) = true := decide_eq_true c26
            clear c26
            obtain rfl := Option.some.inj H
            have p154 : 0 ≤ (x6_2 : Int) := of_decide_eq_true (by first | (with_reducible assumption) | assumption)
            have q154 : x6_2 < (t149.length : Int) := of_decide_eq_true (by first | (with_reducible assumption) | assumption)
            obtain ⟨ad154,A154_5,c154_5,e154,hx154_0,hx154_1,hx154_2,hx154_3,hx154_4,hx154_5,hl154_5,hi154_5⟩ := at_T27 (Kd.V_reads' HO_4.out).2.2 x6_2 p154 q154
            cases e154
            obtain ⟨ce154,hce154,hMe154,hcc154⟩ := Kd.V_get HO_4.out z27 x6_2 p154 (by first | exact q154 | exact of_decide_eq_true (by first | (with_reducible assumption) | assumption) | (have e_ := (Kd.V_reads' HO_4.out).1;omega))
            obtain ⟨ua154_5,uc154_5,rfl,ul154_5,ge154_5⟩ := k27_openF hMe154
            have hv154_5 := hcc154 5 _ rfl
            rw [add_field _ _ 5 (by omega)] at hv154_5
            replace hv154_5 := Option.some.inj (hv154_5.symm.trans hx154_5)
            injection hv154_5 with hva_ hvn_ hvc_
            rw [hva_] at ge154_5
            rw [hvc_] at ul154_5
            have HL154_5 := Aside0.mk (show Kd.V k27 27 _ w.heap.size _ _ ((rd_T27 t149 x6_2).f5) from Kd.V_mk ul154_5 ge154_5)
            clear hva_ hvn_ hvc_ ge154_5 ul154_5
            clear hcc154 hce154
            have HR154_5 := Aside0.mk hi154_5
            have HC154_5 := Aside0.mk hl154_5
            clear hi154_5 hl154_5
            replace p154 := eq_true p154
            replace q154 := eq_true q154
            go_wp2_with (first | ((with_reducible refine gate_callee (f := 65) rfl ?_);refine goesL_ (some 39) rfl rfl Try.func65 (by kernel_rfl) rfl #[.agg #[.int .i64 ((rd_T27 t149 x6_2).f0),.int .i64 ((rd_T27 t149 x6_2).f1),.int .i64 ((rd_T27 t149 x6_2).f2),.int .i64 ((rd_T27 t149 x6_2).f3),.int .i64 ((rd_T27 t149 x6_2).f4),.slice A154_5 ((rd_T27 t149 x6_2).f5).length c154_5]] rfl (by (try simp only [List.map_toArray,List.map_cons,List.map_nil]);first | done | rfl | (simp only [List.length_drop,List.length_take];rfl)) ?_;(with_reducible refine (passepartoutref04_Open.calls k2 ((rd_T27 t149 x6_2).f0) ((rd_T27 t149 x6_2).f1) ((rd_T27 t149 x6_2).f2) ((rd_T27 t149 x6_2).f3) ((rd_T27 t149 x6_2).f4) _ _ ((rd_T27 t149 x6_2).f5) true _ ?side1 ?side2 A21.out).mono ?_);(case side1 => repeat (first | exact (by repeat (first | (with_reducible exact HR154_5.out) | (with_reducible refine Kd.C_alloc ?_ _) | (with_reducible refine Kd.C_drewN ?_ _) | (with_reducible refine Kd.C_drew ?_) | exact HR154_5.out)) | (with_reducible refine Kd.C_alloc ?_ _) | (with_reducible refine Kd.C_drewN ?_ _) | (with_reducible refine Kd.C_drew ?_)));(case side2 => exact HC154_5.out);rintro e w27 ⟨rfl,hb⟩;refine ⟨_,rfl,?_⟩;have n0_ := Aside0.mk (Kd.V_below (by (with_reducible repeat (first | apply Kd.V_alloc | apply Kd.V_drewN | apply Kd.V_drew));exact HO_4.out) hb);have n1_ := Aside0.mk (Kd.V_below (by (with_reducible repeat (first | apply Kd.V_alloc | apply Kd.V_drewN | apply Kd.V_drew));exact HL154_5.out) hb);have n2_ := Aside0.mk (blk_below (g := gb147) (o := .cells #[.int .i64 a0_0,.int .i64 a0_1,.int .i64 a0_2,.int .i64 a0_3,.int .i64 a0_4,.slice A0_5 l0_5.length c0_5] 27 (0,0)) (by (with_reducible repeat (first | refine blk_drewN ?_ _ | refine blk_drew ?_ | refine blk_alloc ?_ _));exact BK147.out) hb);have n3_ := Aside0.mk (Kd.C_below (by repeat (first | (with_reducible exact HR154_5.out) | (with_reducible refine Kd.C_alloc ?_ _) | (with_reducible refine Kd.C_drewN ?_ _) | (with_reducible refine Kd.C_drew ?_) | exact HR154_5.out)) hb);have n4_ := Aside0.mk (below_step (by repeat (first | (with_reducible first | exact HB.out | apply below_alloc | apply pw_below_drewN | apply below_drew1 | refine below_set ?_ GE147.out) | exact HB.out)) hb);clear HO_4;clear HL154_5;clear BK147;clear HR154_5;clear HB;have HO_4 := n0_;have HL154_5 := n1_;have BK147 := n2_;have HR154_5 := n3_;have HB := n4_;clear n0_ n1_ n2_ n3_ n4_;(try clear hb);(try clear hb2);(try clear hk);(try clear hi);have hcz28_0 : w27.cell? ⟨gb147,0,none⟩ = some (.int .i64 a0_0) := (blk_cell BK147.out 0).trans rfl;have hcz28_1 : w27.cell? ⟨gb147,1,none⟩ = some (.int .i64 a0_1) := (blk_cell BK147.out 1).trans rfl;have hcz28_2 : w27.cell? ⟨gb147,2,none⟩ = some (.int .i64 a0_2) := (blk_cell BK147.out 2).trans rfl;have hcz28_3 : w27.cell? ⟨gb147,3,none⟩ = some (.int .i64 a0_3) := (blk_cell BK147.out 3).trans rfl;have hcz28_4 : w27.cell? ⟨gb147,4,none⟩ = some (.int .i64 a0_4) := (blk_cell BK147.out 4).trans rfl;have hcz28_5 : w27.cell? ⟨gb147,5,none⟩ = some (.slice A0_5 l0_5.length c0_5) := (blk_cell BK147.out 5).trans rfl;have hfz28_0 := blk_frozen BK147.out 0;have hfz28_1 := blk_frozen BK147.out 1;have hfz28_2 := blk_frozen BK147.out 2;have hfz28_3 := blk_frozen BK147.out 3;have hfz28_4 := blk_frozen BK147.out 4;have hfz28_5 := blk_frozen BK147.out 5))
            go_ret
            exact ⟨by first | rfl | (simp [errW_none,errW_some] <;> rfl) | (simp [*,errW_none,errW_some] <;> rfl),by repeat (first | (with_reducible first | exact HB.out | apply below_alloc | apply pw_below_drewN | apply below_drew1 | refine below_set ?_ GE147.out) | exact HB.out)⟩
           ·rw [if_neg c26] at H
            have c26b0 : decide ((wrap64 (x6_2 + 1)) < (t149.length : Int)) = false := decide_eq_false c26
            clear c26
            have H' := Aside0.mk H
            clear H
            have p154 : 0 ≤ (x6_2 : Int) := of_decide_eq_true (by first | (with_reducible assumption) | assumption)
            have q154 : x6_2 < (t149.length : Int) := of_decide_eq_true (by first | (with_reducible assumption) | assumption)
            obtain ⟨ad154,A154_5,c154_5,e154,hx154_0,hx154_1,hx154_2,hx154_3,hx154_4,hx154_5,hl154_5,hi154_5⟩ := at_T27 (Kd.V_reads' HO_4.out).2.2 x6_2 p154 q154
            cases e154
            obtain ⟨ce154,hce154,hMe154,hcc154⟩ := Kd.V_get HO_4.out z27 x6_2 p154 (by first | exact q154 | exact of_decide_eq_true (by first | (with_reducible assumption) | assumption) | (have e_ := (Kd.V_reads' HO_4.out).1;omega))
            obtain ⟨ua154_5,uc154_5,rfl,ul154_5,ge154_5⟩ := k27_openF hMe154
            have hv154_5 := hcc154 5 _ rfl
            rw [add_field _ _ 5 (by omega)] at hv154_5
            replace hv154_5 := Option.some.inj (hv154_5.symm.trans hx154_5)
            injection hv154_5 with hva_ hvn_ hvc_
            rw [hva_] at ge154_5
            rw [hvc_] at ul154_5
            have HL154_5 := Aside0.mk (show Kd.V k27 27 _ w.heap.size _ _ ((rd_T27 t149 x6_2).f5) from Kd.V_mk ul154_5 ge154_5)
            clear hva_ hvn_ hvc_ ge154_5 ul154_5
            clear hcc154 hce154
            have HR154_5 := Aside0.mk hi154_5
            have HC154_5 := Aside0.mk hl154_5
            clear hi154_5 hl154_5
            replace p154 := eq_true p154
            replace q154 := eq_true q154
            go_wp2_with (first | ((with_reducible refine gate_callee (f := 65) rfl ?_);refine goesL_ (some 39) rfl rfl Try.func65 (by kernel_rfl) rfl #[.agg #[.int .i64 ((rd_T27 t149 x6_2).f0),.int .i64 ((rd_T27 t149 x6_2).f1),.int .i64 ((rd_T27 t149 x6_2).f2),.int .i64 ((rd_T27 t149 x6_2).f3),.int .i64 ((rd_T27 t149 x6_2).f4),.slice A154_5 ((rd_T27 t149 x6_2).f5).length c154_5]] rfl (by (try simp only [List.map_toArray,List.map_cons,List.map_nil]);first | done | rfl | (simp only [List.length_drop,List.length_take];rfl)) ?_;(with_reducible refine (passepartoutref04_Open.calls k2 ((rd_T27 t149 x6_2).f0) ((rd_T27 t149 x6_2).f1) ((rd_T27 t149 x6_2).f2) ((rd_T27 t149 x6_2).f3) ((rd_T27 t149 x6_2).f4) _ _ ((rd_T27 t149 x6_2).f5) true _ ?side1 ?side2 A21.out).mono ?_);(case side1 => repeat (first | exact (by repeat (first | (with_reducible exact HR154_5.out) | (with_reducible refine Kd.C_alloc ?_ _) | (with_reducible refine Kd.C_drewN ?_ _) | (with_reducible refine Kd.C_drew ?_) | exact HR154_5.out)) | (with_reducible refine Kd.C_alloc ?_ _) | (with_reducible refine Kd.C_drewN ?_ _) | (with_reducible refine Kd.C_drew ?_)));(case side2 => exact HC154_5.out);rintro e w29 ⟨rfl,hb⟩;refine ⟨_,rfl,?_⟩;have n0_ := Aside0.mk (Kd.V_below (by (with_reducible repeat (first | apply Kd.V_alloc | apply Kd.V_drewN | apply Kd.V_drew));exact HO_4.out) hb);have n1_ := Aside0.mk (Kd.V_below (by (with_reducible repeat (first | apply Kd.V_alloc | apply Kd.V_drewN | apply Kd.V_drew));exact HL154_5.out) hb);have n2_ := Aside0.mk (blk_below (g := gb147) (o := .cells #[.int .i64 a0_0,.int .i64 a0_1,.int .i64 a0_2,.int .i64 a0_3,.int .i64 a0_4,.slice A0_5 l0_5.length c0_5] 27 (0,0)) (by (with_reducible repeat (first | refine blk_drewN ?_ _ | refine blk_drew ?_ | refine blk_alloc ?_ _));exact BK147.out) hb);have n3_ := Aside0.mk (Kd.C_below (by repeat (first | (with_reducible exact HR154_5.out) | (with_reducible refine Kd.C_alloc ?_ _) | (with_reducible refine Kd.C_drewN ?_ _) | (with_reducible refine Kd.C_drew ?_) | exact HR154_5.out)) hb);have n4_ := Aside0.mk (below_step (by repeat (first | (with_reducible first | exact HB.out | apply below_alloc | apply pw_below_drewN | apply below_drew1 | refine below_set ?_ GE147.out) | exact HB.out)) hb);clear HO_4;clear HL154_5;clear BK147;clear HR154_5;clear HB;have HO_4 := n0_;have HL154_5 := n1_;have BK147 := n2_;have HR154_5 := n3_;have HB := n4_;clear n0_ n1_ n2_ n3_ n4_;(try clear hb);(try clear hb2);(try clear hk);(try clear hi);have hcz30_0 : w29.cell? ⟨gb147,0,none⟩ = some (.int .i64 a0_0) := (blk_cell BK147.out 0).trans rfl;have hcz30_1 : w29.cell? ⟨gb147,1,none⟩ = some (.int .i64 a0_1) := (blk_cell BK147.out 1).trans rfl;have hcz30_2 : w29.cell? ⟨gb147,2,none⟩ = some (.int .i64 a0_2) := (blk_cell BK147.out 2).trans rfl;have hcz30_3 : w29.cell? ⟨gb147,3,none⟩ = some (.int .i64 a0_3) := (blk_cell BK147.out 3).trans rfl;have hcz30_4 : w29.cell? ⟨gb147,4,none⟩ = some (.int .i64 a0_4) := (blk_cell BK147.out 4).trans rfl;have hcz30_5 : w29.cell? ⟨gb147,5,none⟩ = some (.slice A0_5 l0_5.length c0_5) := (blk_cell BK147.out 5).trans rfl;have hfz30_0 := blk_frozen BK147.out 0;have hfz30_1 := blk_frozen BK147.out 1;have hfz30_2 := blk_frozen BK147.out 2;have hfz30_3 := blk_frozen BK147.out 3;have hfz30_4 := blk_frozen BK147.out 4;have hfz30_5 := blk_frozen BK147.out 5))
            go_roundg k2
            case measure => have := HK1.out;have := HK2.out;omega
            case rel => exact ⟨(wrap64 (x6_2 + 1)),(by first | rfl | (simp;done) | (simp [*];done)),H',⟨by have := HK1.out;have := HK2.out;omega⟩,⟨by (with_reducible repeat (first | apply Kd.V_alloc | apply Kd.V_drewN | apply Kd.V_drew));exact HO_4.out⟩,⟨by (with_reducible repeat (first | refine blk_drewN ?_ _ | refine blk_drew ?_ | refine blk_alloc ?_ _));exact BK147.out⟩,⟨by repeat (first | (with_reducible first | exact HB.out | apply below_alloc | apply pw_below_drewN | apply below_drew1 | refine below_set ?_ GE147.out) | exact HB.out)⟩⟩
         ·replace c22 := Bool.eq_false_iff.mpr c22
          subst c22
          have H1 : (passepartoutref04_check.l1 k2 t149 (wrap64 (x6_2 + 1)) a0_0 a0_1 a0_2 a0_3 a0_4 l0_5) = some r := by rw [if_neg (show ¬ (false = true) by decide)] at H;exact H
          clear H
          have H := H1
          clear H1
          have H' := Aside0.mk H
          clear H
          have p154 : 0 ≤ (x6_2 : Int) := of_decide_eq_true (by first | (with_reducible assumption) | assumption)
          have q154 : x6_2 < (t149.length : Int) := of_decide_eq_true (by first | (with_reducible assumption) | assumption)
          obtain ⟨ad154,A154_5,c154_5,e154,hx154_0,hx154_1,hx154_2,hx154_3,hx154_4,hx154_5,hl154_5,hi154_5⟩ := at_T27 (Kd.V_reads' HO_4.out).2.2 x6_2 p154 q154
          cases e154
          obtain ⟨ce154,hce154,hMe154,hcc154⟩ := Kd.V_get HO_4.out z27 x6_2 p154 (by first | exact q154 | exact of_decide_eq_true (by first | (with_reducible assumption) | assumption) | (have e_ := (Kd.V_reads' HO_4.out).1;omega))
          obtain ⟨ua154_5,uc154_5,rfl,ul154_5,ge154_5⟩ := k27_openF hMe154
          have hv154_5 := hcc154 5 _ rfl
          rw [add_field _ _ 5 (by omega)] at hv154_5
          replace hv154_5 := Option.some.inj (hv154_5.symm.trans hx154_5)
          injection hv154_5 with hva_ hvn_ hvc_
          rw [hva_] at ge154_5
          rw [hvc_] at ul154_5
          have HL154_5 := Aside0.mk (show Kd.V k27 27 _ w.heap.size _ _ ((rd_T27 t149 x6_2).f5) from Kd.V_mk ul154_5 ge154_5)
          clear hva_ hvn_ hvc_ ge154_5 ul154_5
          clear hcc154 hce154
          have HR154_5 := Aside0.mk hi154_5
          have HC154_5 := Aside0.mk hl154_5
          clear hi154_5 hl154_5
          replace p154 := eq_true p154
          replace q154 := eq_true q154
          go_wp2_with (first | ((with_reducible refine gate_callee (f := 65) rfl ?_);refine goesL_ (some 39) rfl rfl Try.func65 (by kernel_rfl) rfl #[.agg #[.int .i64 ((rd_T27 t149 x6_2).f0),.int .i64 ((rd_T27 t149 x6_2).f1),.int .i64 ((rd_T27 t149 x6_2).f2),.int .i64 ((rd_T27 t149 x6_2).f3),.int .i64 ((rd_T27 t149 x6_2).f4),.slice A154_5 ((rd_T27 t149 x6_2).f5).length c154_5]] rfl (by (try simp only [List.map_toArray,List.map_cons,List.map_nil]);first | done | rfl | (simp only [List.length_drop,List.length_take];rfl)) ?_;(with_reducible refine (passepartoutref04_Open.calls k2 ((rd_T27 t149 x6_2).f0) ((rd_T27 t149 x6_2).f1) ((rd_T27 t149 x6_2).f2) ((rd_T27 t149 x6_2).f3) ((rd_T27 t149 x6_2).f4) _ _ ((rd_T27 t149 x6_2).f5) false _ ?side1 ?side2 A21.out).mono ?_);(case side1 => repeat (first | exact (by repeat (first | (with_reducible exact HR154_5.out) | (with_reducible refine Kd.C_alloc ?_ _) | (with_reducible refine Kd.C_drewN ?_ _) | (with_reducible refine Kd.C_drew ?_) | exact HR154_5.out)) | (with_reducible refine Kd.C_alloc ?_ _) | (with_reducible refine Kd.C_drewN ?_ _) | (with_reducible refine Kd.C_drew ?_)));(case side2 => exact HC154_5.out);rintro e w31 ⟨rfl,hb⟩;refine ⟨_,rfl,?_⟩;have n0_ := Aside0.mk (Kd.V_below (by (with_reducible repeat (first | apply Kd.V_alloc | apply Kd.V_drewN | apply Kd.V_drew));exact HO_4.out) hb);have n1_ := Aside0.mk (Kd.V_below (by (with_reducible repeat (first | apply Kd.V_alloc | apply Kd.V_drewN | apply Kd.V_drew));exact HL154_5.out) hb);have n2_ := Aside0.mk (blk_below (g := gb147) (o := .cells #[.int .i64 a0_0,.int .i64 a0_1,.int .i64 a0_2,.int .i64 a0_3,.int .i64 a0_4,.slice A0_5 l0_5.length c0_5] 27 (0,0)) (by (with_reducible repeat (first | refine blk_drewN ?_ _ | refine blk_drew ?_ | refine blk_alloc ?_ _));exact BK147.out) hb);have n3_ := Aside0.mk (Kd.C_below (by repeat (first | (with_reducible exact HR154_5.out) | (with_reducible refine Kd.C_alloc ?_ _) | (with_reducible refine Kd.C_drewN ?_ _) | (with_reducible refine Kd.C_drew ?_) | exact HR154_5.out)) hb);have n4_ := Aside0.mk (below_step (by repeat (first | (with_reducible first | exact HB.out | apply below_alloc | apply pw_below_drewN | apply below_drew1 | refine below_set ?_ GE147.out) | exact HB.out)) hb);clear HO_4;clear HL154_5;clear BK147;clear HR154_5;clear HB;have HO_4 := n0_;have HL154_5 := n1_;have BK147 := n2_;have HR154_5 := n3_;have HB := n4_;clear n0_ n1_ n2_ n3_ n4_;(try clear hb);(try clear hb2);(try clear hk);(try clear hi)))
          go_roundg k2
          case measure => have := HK1.out;have := HK2.out;omega
          case rel => exact ⟨(wrap64 (x6_2 + 1)),(by first | rfl | (simp;done) | (simp [*];done)),H',⟨by have := HK1.out;have := HK2.out;omega⟩,⟨by (with_reducible repeat (first | apply Kd.V_alloc | apply Kd.V_drewN | apply Kd.V_drew));exact HO_4.out⟩,⟨by (with_reducible repeat (first | refine blk_drewN ?_ _ | refine blk_drew ?_ | refine blk_alloc ?_ _));exact BK147.out⟩,⟨by repeat (first | (with_reducible first | exact HB.out | apply below_alloc | apply pw_below_drewN | apply below_drew1 | refine below_set ?_ GE147.out) | exact HB.out)⟩⟩
        ·rw [if_neg c20] at H
         exact absurd H (by simp)
       ·rw [if_neg c19] at H
        have c19b0 : decide (x6_2 < (t149.length : Int)) = false := decide_eq_false c19
        clear c19
        by_cases c32 : a0_0 = 2
        ·rw [if_pos c32] at H
         have c32b0 : (a0_0 == 2) = true := beq_iff_eq.mpr c32
         have c32b1 : (a0_0 != 2) = false := bne_eq_false_iff_eq.mpr c32
         clear c32
         by_cases c33 : 0 < (t149.length : Int)
         ·rw [if_pos c33] at H
          have c33b0 : decide (0 < (t149.length : Int)) = true := decide_eq_true c33
          have c33b1 : decide (0 < t149.length) = true := decide_eq_true (by omega)
          clear c33
          replace H := Option.bind_eq_some_iff.mp H
          obtain ⟨t157,A340,H⟩ := H
          replace H : (if t157 = 0 then (some 15) else (some 0)) = some r := H
          have A34 := Aside0.mk A340
          clear A340
          by_cases c35 : t157 = 0
          ·rw [if_pos c35] at H
           have c35b0 : (t157 == 0) = true := beq_iff_eq.mpr c35
           have c35b1 : (t157 != 0) = false := bne_eq_false_iff_eq.mpr c35
           clear c35
           obtain rfl := Option.some.inj H
           have hcz36_0 : wr.cell? ⟨gb147,0,none⟩ = some (.int .i64 a0_0) := (blk_cell BK147.out 0).trans rfl
           have hcz36_1 : wr.cell? ⟨gb147,1,none⟩ = some (.int .i64 a0_1) := (blk_cell BK147.out 1).trans rfl
           have hcz36_2 : wr.cell? ⟨gb147,2,none⟩ = some (.int .i64 a0_2) := (blk_cell BK147.out 2).trans rfl
           have hcz36_3 : wr.cell? ⟨gb147,3,none⟩ = some (.int .i64 a0_3) := (blk_cell BK147.out 3).trans rfl
           have hcz36_4 : wr.cell? ⟨gb147,4,none⟩ = some (.int .i64 a0_4) := (blk_cell BK147.out 4).trans rfl
           have hcz36_5 : wr.cell? ⟨gb147,5,none⟩ = some (.slice A0_5 l0_5.length c0_5) := (blk_cell BK147.out 5).trans rfl
           have hfz36_0 := blk_frozen BK147.out 0
           have hfz36_1 := blk_frozen BK147.out 1
           have hfz36_2 := blk_frozen BK147.out 2
           have hfz36_3 := blk_frozen BK147.out 3
           have hfz36_4 := blk_frozen BK147.out 4
           have hfz36_5 := blk_frozen BK147.out 5
           have p156 : 0 ≤ (0 : Int) := (by omega)
           have q156 : 0 < (t149.length : Int) := of_decide_eq_true (by first | (with_reducible assumption) | assumption)
           obtain ⟨ad156,A156_5,c156_5,e156,hx156_0,hx156_1,hx156_2,hx156_3,hx156_4,hx156_5,hl156_5,hi156_5⟩ := at_T27 (Kd.V_reads' HO_4.out).2.2 0 p156 q156
           cases e156
           obtain ⟨ce156,hce156,hMe156,hcc156⟩ := Kd.V_get HO_4.out z27 0 p156 (by first | exact q156 | exact of_decide_eq_true (by first | (with_reducible assumption) | assumption) | (have e_ := (Kd.V_reads' HO_4.out).1;omega))
           obtain ⟨ua156_5,uc156_5,rfl,ul156_5,ge156_5⟩ := k27_openF hMe156
           have hv156_5 := hcc156 5 _ rfl
           rw [add_field _ _ 5 (by omega)] at hv156_5
           replace hv156_5 := Option.some.inj (hv156_5.symm.trans hx156_5)
           injection hv156_5 with hva_ hvn_ hvc_
           rw [hva_] at ge156_5
           rw [hvc_] at ul156_5
           have HL156_5 := Aside0.mk (show Kd.V k27 27 _ w.heap.size _ _ ((rd_T27 t149 0).f5) from Kd.V_mk ul156_5 ge156_5)
           clear hva_ hvn_ hvc_ ge156_5 ul156_5
           clear hcc156 hce156
           have qi156 : (0 < t149.length) = True := eq_true (by omega)
           (try rw [show ((0 : Int)).toNat = 0 from rfl] at hx156_0)
           (try rw [show 0 * 6 = 0 from rfl] at hx156_0)
           (try rw [Addr.add_zero'] at hx156_0)
           (try rw [show ((0 : Int)).toNat = 0 from rfl] at hx156_1)
           (try rw [show 0 * 6 = 0 from rfl] at hx156_1)
           (try rw [Addr.add_zero'] at hx156_1)
           (try rw [show ((0 : Int)).toNat = 0 from rfl] at hx156_2)
           (try rw [show 0 * 6 = 0 from rfl] at hx156_2)
           (try rw [Addr.add_zero'] at hx156_2)
           (try rw [show ((0 : Int)).toNat = 0 from rfl] at hx156_3)
           (try rw [show 0 * 6 = 0 from rfl] at hx156_3)
           (try rw [Addr.add_zero'] at hx156_3)
           (try rw [show ((0 : Int)).toNat = 0 from rfl] at hx156_4)
           (try rw [show 0 * 6 = 0 from rfl] at hx156_4)
           (try rw [Addr.add_zero'] at hx156_4)
           (try rw [show ((0 : Int)).toNat = 0 from rfl] at hx156_5)
           (try rw [show 0 * 6 = 0 from rfl] at hx156_5)
           (try rw [Addr.add_zero'] at hx156_5)
           have HR156_5 := Aside0.mk hi156_5
           have HC156_5 := Aside0.mk hl156_5
           clear hi156_5 hl156_5
           replace p156 := eq_true p156
           replace q156 := eq_true q156
           go_wp2_with (first | (go_at_call 34;(with_reducible refine (passepartoutref04_Least.calls k2 ((rd_T27 t149 0).f0) ((rd_T27 t149 0).f1) ((rd_T27 t149 0).f2) ((rd_T27 t149 0).f3) ((rd_T27 t149 0).f4) _ _ ((rd_T27 t149 0).f5) t157 _ ?side1 ?side2 A34.out).mono ?_);(case side1 => repeat (first | exact (by repeat (first | (with_reducible exact HR156_5.out) | (with_reducible refine Kd.C_alloc ?_ _) | (with_reducible refine Kd.C_drewN ?_ _) | (with_reducible refine Kd.C_drew ?_) | exact HR156_5.out)) | (with_reducible refine Kd.C_alloc ?_ _) | (with_reducible refine Kd.C_drewN ?_ _) | (with_reducible refine Kd.C_drew ?_)));(case side2 => exact HC156_5.out);rintro e w37 ⟨rfl,hb⟩;have n0_ := Aside0.mk (Kd.V_below (by (with_reducible repeat (first | apply Kd.V_alloc | apply Kd.V_drewN | apply Kd.V_drew));exact HO_4.out) hb);have n1_ := Aside0.mk (Kd.V_below (by (with_reducible repeat (first | apply Kd.V_alloc | apply Kd.V_drewN | apply Kd.V_drew));exact HL156_5.out) hb);have n2_ := Aside0.mk (blk_below (g := gb147) (o := .cells #[.int .i64 a0_0,.int .i64 a0_1,.int .i64 a0_2,.int .i64 a0_3,.int .i64 a0_4,.slice A0_5 l0_5.length c0_5] 27 (0,0)) (by (with_reducible repeat (first | refine blk_drewN ?_ _ | refine blk_drew ?_ | refine blk_alloc ?_ _));exact BK147.out) hb);have n3_ := Aside0.mk (Kd.C_below (by repeat (first | (with_reducible exact HR156_5.out) | (with_reducible refine Kd.C_alloc ?_ _) | (with_reducible refine Kd.C_drewN ?_ _) | (with_reducible refine Kd.C_drew ?_) | exact HR156_5.out)) hb);have n4_ := Aside0.mk (below_step (by repeat (first | (with_reducible first | exact HB.out | apply below_alloc | apply pw_below_drewN | apply below_drew1 | refine below_set ?_ GE147.out) | exact HB.out)) hb);clear HO_4;clear HL156_5;clear BK147;clear HR156_5;clear HB;have HO_4 := n0_;have HL156_5 := n1_;have BK147 := n2_;have HR156_5 := n3_;have HB := n4_;clear n0_ n1_ n2_ n3_ n4_;(try clear hb);(try clear hb2);(try clear hk);(try clear hi)))
           go_ret
           exact ⟨by first | rfl | (simp [errW_none,errW_some] <;> rfl) | (simp [*,errW_none,errW_some] <;> rfl),by repeat (first | (with_reducible first | exact HB.out | apply below_alloc | apply pw_below_drewN | apply below_drew1 | refine below_set ?_ GE147.out) | exact HB.out)⟩
          ·rw [if_neg c35] at H
           have c35b0 : (t157 == 0) = false := beq_eq_false_iff_ne.mpr c35
           have c35b1 : (t157 != 0) = true := bne_iff_ne.mpr c35
           obtain rfl := Option.some.inj H
           have hcz38_0 : wr.cell? ⟨gb147,0,none⟩ = some (.int .i64 a0_0) := (blk_cell BK147.out 0).trans rfl
           have hcz38_1 : wr.cell? ⟨gb147,1,none⟩ = some (.int .i64 a0_1) := (blk_cell BK147.out 1).trans rfl
           have hcz38_2 : wr.cell? ⟨gb147,2,none⟩ = some (.int .i64 a0_2) := (blk_cell BK147.out 2).trans rfl
           have hcz38_3 : wr.cell? ⟨gb147,3,none⟩ = some (.int .i64 a0_3) := (blk_cell BK147.out 3).trans rfl
           have hcz38_4 : wr.cell? ⟨gb147,4,none⟩ = some (.int .i64 a0_4) := (blk_cell BK147.out 4).trans rfl
           have hcz38_5 : wr.cell? ⟨gb147,5,none⟩ = some (.slice A0_5 l0_5.length c0_5) := (blk_cell BK147.out 5).trans rfl
           have hfz38_0 := blk_frozen BK147.out 0
           have hfz38_1 := blk_frozen BK147.out 1
           have hfz38_2 := blk_frozen BK147.out 2
           have hfz38_3 := blk_frozen BK147.out 3
           have hfz38_4 := blk_frozen BK147.out 4
           have hfz38_5 := blk_frozen BK147.out 5
           have p156 : 0 ≤ (0 : Int) := (by omega)
           have q156 : 0 < (t149.length : Int) := of_decide_eq_true (by first | (with_reducible assumption) | assumption)
           obtain ⟨ad156,A156_5,c156_5,e156,hx156_0,hx156_1,hx156_2,hx156_3,hx156_4,hx156_5,hl156_5,hi156_5⟩ := at_T27 (Kd.V_reads' HO_4.out).2.2 0 p156 q156
           cases e156
           obtain ⟨ce156,hce156,hMe156,hcc156⟩ := Kd.V_get HO_4.out z27 0 p156 (by first | exact q156 | exact of_decide_eq_true (by first | (with_reducible assumption) | assumption) | (have e_ := (Kd.V_reads' HO_4.out).1;omega))
           obtain ⟨ua156_5,uc156_5,rfl,ul156_5,ge156_5⟩ := k27_openF hMe156
           have hv156_5 := hcc156 5 _ rfl
           rw [add_field _ _ 5 (by omega)] at hv156_5
           replace hv156_5 := Option.some.inj (hv156_5.symm.trans hx156_5)
           injection hv156_5 with hva_ hvn_ hvc_
           rw [hva_] at ge156_5
           rw [hvc_] at ul156_5
           have HL156_5 := Aside0.mk (show Kd.V k27 27 _ w.heap.size _ _ ((rd_T27 t149 0).f5) from Kd.V_mk ul156_5 ge156_5)
           clear hva_ hvn_ hvc_ ge156_5 ul156_5
           clear hcc156 hce156
           have qi156 : (0 < t149.length) = True := eq_true (by omega)
           (try rw [show ((0 : Int)).toNat = 0 from rfl] at hx156_0)
           (try rw [show 0 * 6 = 0 from rfl] at hx156_0)
           (try rw [Addr.add_zero'] at hx156_0)
           (try rw [show ((0 : Int)).toNat = 0 from rfl] at hx156_1)
           (try rw [show 0 * 6 = 0 from rfl] at hx156_1)
           (try rw [Addr.add_zero'] at hx156_1)
           (try rw [show ((0 : Int)).toNat = 0 from rfl] at hx156_2)
           (try rw [show 0 * 6 = 0 from rfl] at hx156_2)
           (try rw [Addr.add_zero'] at hx156_2)
           (try rw [show ((0 : Int)).toNat = 0 from rfl] at hx156_3)
           (try rw [show 0 * 6 = 0 from rfl] at hx156_3)
           (try rw [Addr.add_zero'] at hx156_3)
           (try rw [show ((0 : Int)).toNat = 0 from rfl] at hx156_4)
           (try rw [show 0 * 6 = 0 from rfl] at hx156_4)
           (try rw [Addr.add_zero'] at hx156_4)
           (try rw [show ((0 : Int)).toNat = 0 from rfl] at hx156_5)
           (try rw [show 0 * 6 = 0 from rfl] at hx156_5)
           (try rw [Addr.add_zero'] at hx156_5)
           have HR156_5 := Aside0.mk hi156_5
           have HC156_5 := Aside0.mk hl156_5
           clear hi156_5 hl156_5
           replace p156 := eq_true p156
           replace q156 := eq_true q156
           go_wp2_with (first | (go_at_call 34;(with_reducible refine (passepartoutref04_Least.calls k2 ((rd_T27 t149 0).f0) ((rd_T27 t149 0).f1) ((rd_T27 t149 0).f2) ((rd_T27 t149 0).f3) ((rd_T27 t149 0).f4) _ _ ((rd_T27 t149 0).f5) t157 _ ?side1 ?side2 A34.out).mono ?_);(case side1 => repeat (first | exact (by repeat (first | (with_reducible exact HR156_5.out) | (with_reducible refine Kd.C_alloc ?_ _) | (with_reducible refine Kd.C_drewN ?_ _) | (with_reducible refine Kd.C_drew ?_) | exact HR156_5.out)) | (with_reducible refine Kd.C_alloc ?_ _) | (with_reducible refine Kd.C_drewN ?_ _) | (with_reducible refine Kd.C_drew ?_)));(case side2 => exact HC156_5.out);rintro e w39 ⟨rfl,hb⟩;have n0_ := Aside0.mk (Kd.V_below (by (with_reducible repeat (first | apply Kd.V_alloc | apply Kd.V_drewN | apply Kd.V_drew));exact HO_4.out) hb);have n1_ := Aside0.mk (Kd.V_below (by (with_reducible repeat (first | apply Kd.V_alloc | apply Kd.V_drewN | apply Kd.V_drew));exact HL156_5.out) hb);have n2_ := Aside0.mk (blk_below (g := gb147) (o := .cells #[.int .i64 a0_0,.int .i64 a0_1,.int .i64 a0_2,.int .i64 a0_3,.int .i64 a0_4,.slice A0_5 l0_5.length c0_5] 27 (0,0)) (by (with_reducible repeat (first | refine blk_drewN ?_ _ | refine blk_drew ?_ | refine blk_alloc ?_ _));exact BK147.out) hb);have n3_ := Aside0.mk (Kd.C_below (by repeat (first | (with_reducible exact HR156_5.out) | (with_reducible refine Kd.C_alloc ?_ _) | (with_reducible refine Kd.C_drewN ?_ _) | (with_reducible refine Kd.C_drew ?_) | exact HR156_5.out)) hb);have n4_ := Aside0.mk (below_step (by repeat (first | (with_reducible first | exact HB.out | apply below_alloc | apply pw_below_drewN | apply below_drew1 | refine below_set ?_ GE147.out) | exact HB.out)) hb);clear HO_4;clear HL156_5;clear BK147;clear HR156_5;clear HB;have HO_4 := n0_;have HL156_5 := n1_;have BK147 := n2_;have HR156_5 := n3_;have HB := n4_;clear n0_ n1_ n2_ n3_ n4_;(try clear hb);(try clear hb2);(try clear hk);(try clear hi)))
           go_ret
           exact ⟨by first | rfl | (simp [errW_none,errW_some] <;> rfl) | (simp [*,errW_none,errW_some] <;> rfl),by repeat (first | (with_reducible first | exact HB.out | apply below_alloc | apply pw_below_drewN | apply below_drew1 | refine below_set ?_ GE147.out) | exact HB.out)⟩
         ·rw [if_neg c33] at H
          exact absurd H (by simp)
        ·rw [if_neg c32] at H
         have c32b0 : (a0_0 == 2) = false := beq_eq_false_iff_ne.mpr c32
         have c32b1 : (a0_0 != 2) = true := bne_iff_ne.mpr c32
         obtain rfl := Option.some.inj H
         have hcz40_0 : wr.cell? ⟨gb147,0,none⟩ = some (.int .i64 a0_0) := (blk_cell BK147.out 0).trans rfl
         have hcz40_1 : wr.cell? ⟨gb147,1,none⟩ = some (.int .i64 a0_1) := (blk_cell BK147.out 1).trans rfl
         have hcz40_2 : wr.cell? ⟨gb147,2,none⟩ = some (.int .i64 a0_2) := (blk_cell BK147.out 2).trans rfl
         have hcz40_3 : wr.cell? ⟨gb147,3,none⟩ = some (.int .i64 a0_3) := (blk_cell BK147.out 3).trans rfl
         have hcz40_4 : wr.cell? ⟨gb147,4,none⟩ = some (.int .i64 a0_4) := (blk_cell BK147.out 4).trans rfl
         have hcz40_5 : wr.cell? ⟨gb147,5,none⟩ = some (.slice A0_5 l0_5.length c0_5) := (blk_cell BK147.out 5).trans rfl
         have hfz40_0 := blk_frozen BK147.out 0
         have hfz40_1 := blk_frozen BK147.out 1
         have hfz40_2 := blk_frozen BK147.out 2
         have hfz40_3 := blk_frozen BK147.out 3
         have hfz40_4 := blk_frozen BK147.out 4
         have hfz40_5 := blk_frozen BK147.out 5
         go_wp2
         go_ret
         exact ⟨by first | rfl | (simp [errW_none,errW_some] <;> rfl) | (simp [*,errW_none,errW_some] <;> rfl),by repeat (first | (with_reducible first | exact HB.out | apply below_alloc | apply pw_below_drewN | apply below_drew1 | refine below_set ?_ GE147.out) | exact HB.out)⟩
 ·rw [if_neg c3] at H
  have c3b0 : (t148 == 0) = false := beq_eq_false_iff_ne.mpr c3
  have c3b1 : (t148 != 0) = true := bne_iff_ne.mpr c3
  obtain rfl := Option.some.inj H
  go_enter Try.func46,Try.ntmps46
  go_wp2_with (first | ((with_reducible refine gate_dst (N := 1) rfl ?_);(try (refine gate_guard (by rfl) ?_;dsimp only));refine box_event ?hg (N := 1) ?hd (cs := #[.int .i64 a0_0,.int .i64 a0_1,.int .i64 a0_2,.int .i64 a0_3,.int .i64 a0_4,.slice A0_5 l0_5.length c0_5]) (t := 27) ?hr ?_;(case hd => rfl);(case hg => rfl);(case hr => first | (go_simp;done) | (go_simp;rfl));intro gb147 hg w41 hbox hb;have n0_ := Aside0.mk (below_step (by repeat (first | (with_reducible first | exact HB.out | apply below_alloc | apply pw_below_drewN | apply below_drew1) | exact HB.out)) hb);have n1_ := Aside0.mk (hbox);have n2_ := Aside0.mk ((by rw [hg];exact (below_size (by repeat (first | (with_reducible first | exact HB.out | apply below_alloc | apply pw_below_drewN | apply below_drew1) | exact HB.out))) : w.heap.size ≤ gb147));have n3_ := Aside0.mk ((by rw [hg];exact (below_size (by repeat (first | (with_reducible first | exact HB.out | apply below_alloc | apply pw_below_drewN | apply below_drew1) | exact HB.out))) : w.heap.size ≤ gb147));clear HB;have HB := n0_;have BK147 := n1_;have GW147 := n2_;have GE147 := n3_;clear n0_ n1_ n2_ n3_;clear hb hbox hg;have hcz42_0 : w41.cell? ⟨gb147,0,none⟩ = some (.int .i64 a0_0) := (blk_cell BK147.out 0).trans rfl;have hcz42_1 : w41.cell? ⟨gb147,1,none⟩ = some (.int .i64 a0_1) := (blk_cell BK147.out 1).trans rfl;have hcz42_2 : w41.cell? ⟨gb147,2,none⟩ = some (.int .i64 a0_2) := (blk_cell BK147.out 2).trans rfl;have hcz42_3 : w41.cell? ⟨gb147,3,none⟩ = some (.int .i64 a0_3) := (blk_cell BK147.out 3).trans rfl;have hcz42_4 : w41.cell? ⟨gb147,4,none⟩ = some (.int .i64 a0_4) := (blk_cell BK147.out 4).trans rfl;have hcz42_5 : w41.cell? ⟨gb147,5,none⟩ = some (.slice A0_5 l0_5.length c0_5) := (blk_cell BK147.out 5).trans rfl;have hfz42_0 := blk_frozen BK147.out 0;have hfz42_1 := blk_frozen BK147.out 1;have hfz42_2 := blk_frozen BK147.out 2;have hfz42_3 := blk_frozen BK147.out 3;have hfz42_4 := blk_frozen BK147.out 4;have hfz42_5 := blk_frozen BK147.out 5) | ((with_reducible refine gate_callee (f := 64) rfl ?_);refine goesL_ (some 9) rfl rfl Try.func64 (by kernel_rfl) rfl #[.agg #[.int .i64 a0_0,.int .i64 a0_1,.int .i64 a0_2,.int .i64 a0_3,.int .i64 a0_4,.slice A0_5 l0_5.length c0_5]] rfl (by (try simp only [List.map_toArray,List.map_cons,List.map_nil]);first | done | rfl | (simp only [List.length_drop,List.length_take];rfl)) ?_;(with_reducible refine (passepartoutref04_own.calls a0_0 a0_1 a0_2 a0_3 a0_4 _ _ l0_5 t148 _ ?side1 ?side2 A2.out).mono ?_);(case side1 => repeat (first | exact (Kd.C_below HR0_5.out HB.out) | (with_reducible refine Kd.C_alloc ?_ _) | (with_reducible refine Kd.C_drewN ?_ _) | (with_reducible refine Kd.C_drew ?_)));(case side2 => exact HC0_5.out);rintro e w43 ⟨rfl,hb⟩;refine ⟨_,rfl,?_⟩;have n0_ := Aside0.mk (blk_below (g := gb147) (o := .cells #[.int .i64 a0_0,.int .i64 a0_1,.int .i64 a0_2,.int .i64 a0_3,.int .i64 a0_4,.slice A0_5 l0_5.length c0_5] 27 (0,0)) (by (with_reducible repeat (first | refine blk_drewN ?_ _ | refine blk_drew ?_ | refine blk_alloc ?_ _));exact BK147.out) hb);have n1_ := Aside0.mk (below_step (by repeat (first | (with_reducible first | exact HB.out | apply below_alloc | apply pw_below_drewN | apply below_drew1 | refine below_set ?_ GE147.out) | exact HB.out)) hb);clear BK147;clear HB;have BK147 := n0_;have HB := n1_;clear n0_ n1_;(try clear hb);(try clear hb2);(try clear hk);(try clear hi)))
  go_ret
  exact ⟨by first | rfl | (simp [errW_none,errW_some] <;> rfl) | (simp [*,errW_none,errW_some] <;> rfl),by repeat (first | (with_reducible first | exact HB.out | apply below_alloc | apply pw_below_drewN | apply below_drew1 | refine below_set ?_ GE147.out) | exact HB.out)⟩

end Go.Proofs.Ytfcghajnnllmhaa.QP

namespace Go.Proofs.Ytfcghajnnllmhaa.QP
open Go.RowKit Go.Proofs.YtfcghajnnllmhaaW.PrintWords Go.Proofs.YtfcghajnnllmhaaW.PrintLast Go.Proofs.YtfcghajnnllmhaaW.PrintMore
attribute [local go_sem] max2_int min2_int max_two min_two max_three min_three max_four min_four   -- for this text's walks alone
set_option linter.unusedVariables false
set_option linter.unusedSimpArgs false

/-! ### passepartoutref04_Check: function 21 -/
def passepartoutref04_Check.f (k : Nat) (a0_0 : Int) (a0_1 : Int) (a0_2 : Int) (a0_3 : Int) (a0_4 : Int) (l0_5 : List (S27)) : Option (Int) := (passepartoutref04_Depth.f k a0_0 a0_1 a0_2 a0_3 a0_4 l0_5 9).bind fun t159 => (if t159 > 8 then (some 14) else ((passepartoutref04_check.f k a0_0 a0_1 a0_2 a0_3 a0_4 l0_5).bind fun t160 => (some t160)))
theorem passepartoutref04_Check.mono : ∀ a0 a1 a2 a3 a4 a5 k,LeO (passepartoutref04_Check.f k a0 a1 a2 a3 a4 a5) (passepartoutref04_Check.f (k + 1) a0 a1 a2 a3 a4 a5) := by
 intro a0 a1 a2 a3 a4 a5 k
 unfold passepartoutref04_Check.f
 repeat' first
   | (with_reducible exact passepartoutref04_Depth.mono _ _ _ _ _ _ _ _)
   | (with_reducible exact passepartoutref04_check.mono _ _ _ _ _ _ _)
   | (with_reducible exact LeO.refl _)
   | (with_reducible exact LeO.none _)
   | (with_reducible refine LeO.ite ?_ ?_)
   | (with_reducible refine LeO.bind ?_ (fun _ => ?_))
   | exact passepartoutref04_Depth.mono _ _ _ _ _ _ _ _
   | exact passepartoutref04_check.mono _ _ _ _ _ _ _
   | exact LeO.none _
   | refine LeO.ite ?_ ?_
   | refine LeO.bind ?_ (fun _ => ?_)
set_option maxHeartbeats 8000000 in
set_option maxRecDepth 100000 in
theorem passepartoutref04_Check.calls (k : Nat) (a0_0 : Int) (a0_1 : Int) (a0_2 : Int) (a0_3 : Int) (a0_4 : Int) (A0_5 : Option Addr) (c0_5 : Nat) (l0_5 : List (S27)) (r : Int) (w : World) (hr0_5 : Kd.C k27 w A0_5 l0_5.length l0_5) (hc0_5 : l0_5.length ≤ c0_5) (h : passepartoutref04_Check.f k a0_0 a0_1 a0_2 a0_3 a0_4 l0_5 = some r) :
  Calls Try.prog 21 #[.agg #[.int .i64 a0_0,.int .i64 a0_1,.int .i64 a0_2,.int .i64 a0_3,.int .i64 a0_4,.slice A0_5 l0_5.length c0_5]] w fun e w' => e = .returned (.int .i64 r) ∧ Below w.heap.size w w' := by
 have hu27 := Try.underlying27
 have HR0_5 := Aside0.mk hr0_5
 have HC0_5 := Aside0.mk hc0_5
 clear hr0_5 hc0_5
 have HB := Aside0.mk (Below.refl w.heap.size w)
 have H : ((passepartoutref04_Depth.f k a0_0 a0_1 a0_2 a0_3 a0_4 l0_5 9).bind fun t159 => (if t159 > 8 then (some 14) else ((passepartoutref04_check.f k a0_0 a0_1 a0_2 a0_3 a0_4 l0_5).bind fun t160 => (some t160)))) = some r := h
 clear h
 replace H := Option.bind_eq_some_iff.mp H
 obtain ⟨t159,A20,H⟩ := H
 replace H : (if t159 > 8 then (some 14) else ((passepartoutref04_check.f k a0_0 a0_1 a0_2 a0_3 a0_4 l0_5).bind fun t160 => (some t160))) = some r := H
 have A2 := Aside0.mk A20
 clear A20
 by_cases c3 : t159 > 8
 ·rw [if_pos c3] at H
  have c3b0 : decide (8 < t159) = true := decide_eq_true c3
  clear c3
  obtain rfl := Option.some.inj H
  go_enter Try.func21,Try.ntmps21
  go_wp2_with (first | ((with_reducible refine gate_dst (N := 1) rfl ?_);refine box_event ?hg (N := 1) ?hd (cs := #[.int .i64 a0_0,.int .i64 a0_1,.int .i64 a0_2,.int .i64 a0_3,.int .i64 a0_4,.slice A0_5 l0_5.length c0_5]) (t := 27) ?hr ?_;(case hd => rfl);(case hg => rfl);(case hr => first | (go_simp;done) | (go_simp;rfl));intro gb158 hg w4 hbox hb;have n0_ := Aside0.mk (below_step (by repeat (first | (with_reducible first | exact HB.out | apply below_alloc | apply pw_below_drewN | apply below_drew1) | exact HB.out)) hb);have n1_ := Aside0.mk (hbox);have n2_ := Aside0.mk ((by rw [hg];exact (below_size (by repeat (first | (with_reducible first | exact HB.out | apply below_alloc | apply pw_below_drewN | apply below_drew1) | exact HB.out))) : w.heap.size ≤ gb158));have n3_ := Aside0.mk ((by rw [hg];exact (below_size (by repeat (first | (with_reducible first | exact HB.out | apply below_alloc | apply pw_below_drewN | apply below_drew1) | exact HB.out))) : w.heap.size ≤ gb158));clear HB;have HB := n0_;have BK158 := n1_;have GW158 := n2_;have GE158 := n3_;clear n0_ n1_ n2_ n3_;clear hb hbox hg;have hcz5_0 : w4.cell? ⟨gb158,0,none⟩ = some (.int .i64 a0_0) := (blk_cell BK158.out 0).trans rfl;have hcz5_1 : w4.cell? ⟨gb158,1,none⟩ = some (.int .i64 a0_1) := (blk_cell BK158.out 1).trans rfl;have hcz5_2 : w4.cell? ⟨gb158,2,none⟩ = some (.int .i64 a0_2) := (blk_cell BK158.out 2).trans rfl;have hcz5_3 : w4.cell? ⟨gb158,3,none⟩ = some (.int .i64 a0_3) := (blk_cell BK158.out 3).trans rfl;have hcz5_4 : w4.cell? ⟨gb158,4,none⟩ = some (.int .i64 a0_4) := (blk_cell BK158.out 4).trans rfl;have hcz5_5 : w4.cell? ⟨gb158,5,none⟩ = some (.slice A0_5 l0_5.length c0_5) := (blk_cell BK158.out 5).trans rfl;have hfz5_0 := blk_frozen BK158.out 0;have hfz5_1 := blk_frozen BK158.out 1;have hfz5_2 := blk_frozen BK158.out 2;have hfz5_3 := blk_frozen BK158.out 3;have hfz5_4 := blk_frozen BK158.out 4;have hfz5_5 := blk_frozen BK158.out 5) | ((with_reducible refine gate_callee (f := 22) rfl ?_);refine goesL_ (some 4) rfl rfl Try.func22 (by kernel_rfl) rfl #[.agg #[.int .i64 a0_0,.int .i64 a0_1,.int .i64 a0_2,.int .i64 a0_3,.int .i64 a0_4,.slice A0_5 l0_5.length c0_5],.int .i64 9] rfl (by (try simp only [List.map_toArray,List.map_cons,List.map_nil]);first | done | rfl | (simp only [List.length_drop,List.length_take];rfl)) ?_;(with_reducible refine (passepartoutref04_Depth.calls k a0_0 a0_1 a0_2 a0_3 a0_4 _ _ l0_5 9 t159 _ ?side1 ?side2 A2.out).mono ?_);(case side1 => repeat (first | exact (Kd.C_below HR0_5.out HB.out) | (with_reducible refine Kd.C_alloc ?_ _) | (with_reducible refine Kd.C_drewN ?_ _) | (with_reducible refine Kd.C_drew ?_)));(case side2 => exact HC0_5.out);rintro e w6 ⟨rfl,hb⟩;refine ⟨_,rfl,?_⟩;have n0_ := Aside0.mk (blk_below (g := gb158) (o := .cells #[.int .i64 a0_0,.int .i64 a0_1,.int .i64 a0_2,.int .i64 a0_3,.int .i64 a0_4,.slice A0_5 l0_5.length c0_5] 27 (0,0)) (by (with_reducible repeat (first | refine blk_drewN ?_ _ | refine blk_drew ?_ | refine blk_alloc ?_ _));exact BK158.out) hb);have n1_ := Aside0.mk (below_step (by repeat (first | (with_reducible first | exact HB.out | apply below_alloc | apply pw_below_drewN | apply below_drew1 | refine below_set ?_ GE158.out) | exact HB.out)) hb);clear BK158;clear HB;have BK158 := n0_;have HB := n1_;clear n0_ n1_;(try clear hb);(try clear hb2);(try clear hk);(try clear hi)))
  go_ret
  exact ⟨by first | rfl | (simp [errW_none,errW_some] <;> rfl) | (simp [*,errW_none,errW_some] <;> rfl),by repeat (first | (with_reducible first | exact HB.out | apply below_alloc | apply pw_below_drewN | apply below_drew1 | refine below_set ?_ GE158.out) | exact HB.out)⟩
 ·rw [if_neg c3] at H
  have c3b0 : decide (8 < t159) = false := decide_eq_false c3
  clear c3
  replace H := Option.bind_eq_some_iff.mp H
  obtain ⟨t160,A70,H⟩ := H
  replace H : (some t160) = some r := H
  have A7 := Aside0.mk A70
  clear A70
  obtain rfl := Option.some.inj H
  go_enter Try.func21,Try.ntmps21
  go_wp2_with (first | ((with_reducible refine gate_dst (N := 1) rfl ?_);refine box_event ?hg (N := 1) ?hd (cs := #[.int .i64 a0_0,.int .i64 a0_1,.int .i64 a0_2,.int .i64 a0_3,.int .i64 a0_4,.slice A0_5 l0_5.length c0_5]) (t := 27) ?hr ?_;(case hd => rfl);(case hg => rfl);(case hr => first | (go_simp;done) | (go_simp;rfl));intro gb158 hg w8 hbox hb;have n0_ := Aside0.mk (below_step (by repeat (first | (with_reducible first | exact HB.out | apply below_alloc | apply pw_below_drewN | apply below_drew1) | exact HB.out)) hb);have n1_ := Aside0.mk (hbox);have n2_ := Aside0.mk ((by rw [hg];exact (below_size (by repeat (first | (with_reducible first | exact HB.out | apply below_alloc | apply pw_below_drewN | apply below_drew1) | exact HB.out))) : w.heap.size ≤ gb158));have n3_ := Aside0.mk ((by rw [hg];exact (below_size (by repeat (first | (with_reducible first | exact HB.out | apply below_alloc | apply pw_below_drewN | apply below_drew1) | exact HB.out))) : w.heap.size ≤ gb158));clear HB;have HB := n0_;have BK158 := n1_;have GW158 := n2_;have GE158 := n3_;clear n0_ n1_ n2_ n3_;clear hb hbox hg;have hcz9_0 : w8.cell? ⟨gb158,0,none⟩ = some (.int .i64 a0_0) := (blk_cell BK158.out 0).trans rfl;have hcz9_1 : w8.cell? ⟨gb158,1,none⟩ = some (.int .i64 a0_1) := (blk_cell BK158.out 1).trans rfl;have hcz9_2 : w8.cell? ⟨gb158,2,none⟩ = some (.int .i64 a0_2) := (blk_cell BK158.out 2).trans rfl;have hcz9_3 : w8.cell? ⟨gb158,3,none⟩ = some (.int .i64 a0_3) := (blk_cell BK158.out 3).trans rfl;have hcz9_4 : w8.cell? ⟨gb158,4,none⟩ = some (.int .i64 a0_4) := (blk_cell BK158.out 4).trans rfl;have hcz9_5 : w8.cell? ⟨gb158,5,none⟩ = some (.slice A0_5 l0_5.length c0_5) := (blk_cell BK158.out 5).trans rfl;have hfz9_0 := blk_frozen BK158.out 0;have hfz9_1 := blk_frozen BK158.out 1;have hfz9_2 := blk_frozen BK158.out 2;have hfz9_3 := blk_frozen BK158.out 3;have hfz9_4 := blk_frozen BK158.out 4;have hfz9_5 := blk_frozen BK158.out 5) | ((with_reducible refine gate_callee (f := 22) rfl ?_);refine goesL_ (some 4) rfl rfl Try.func22 (by kernel_rfl) rfl #[.agg #[.int .i64 a0_0,.int .i64 a0_1,.int .i64 a0_2,.int .i64 a0_3,.int .i64 a0_4,.slice A0_5 l0_5.length c0_5],.int .i64 9] rfl (by (try simp only [List.map_toArray,List.map_cons,List.map_nil]);first | done | rfl | (simp only [List.length_drop,List.length_take];rfl)) ?_;(with_reducible refine (passepartoutref04_Depth.calls k a0_0 a0_1 a0_2 a0_3 a0_4 _ _ l0_5 9 t159 _ ?side1 ?side2 A2.out).mono ?_);(case side1 => repeat (first | exact (Kd.C_below HR0_5.out HB.out) | (with_reducible refine Kd.C_alloc ?_ _) | (with_reducible refine Kd.C_drewN ?_ _) | (with_reducible refine Kd.C_drew ?_)));(case side2 => exact HC0_5.out);rintro e w10 ⟨rfl,hb⟩;refine ⟨_,rfl,?_⟩;have n0_ := Aside0.mk (blk_below (g := gb158) (o := .cells #[.int .i64 a0_0,.int .i64 a0_1,.int .i64 a0_2,.int .i64 a0_3,.int .i64 a0_4,.slice A0_5 l0_5.length c0_5] 27 (0,0)) (by (with_reducible repeat (first | refine blk_drewN ?_ _ | refine blk_drew ?_ | refine blk_alloc ?_ _));exact BK158.out) hb);have n1_ := Aside0.mk (below_step (by repeat (first | (with_reducible first | exact HB.out | apply below_alloc | apply pw_below_drewN | apply below_drew1 | refine below_set ?_ GE158.out) | exact HB.out)) hb);clear BK158;clear HB;have BK158 := n0_;have HB := n1_;clear n0_ n1_;(try clear hb);(try clear hb2);(try clear hk);(try clear hi);have hcz11_0 : w10.cell? ⟨gb158,0,none⟩ = some (.int .i64 a0_0) := (blk_cell BK158.out 0).trans rfl;have hcz11_1 : w10.cell? ⟨gb158,1,none⟩ = some (.int .i64 a0_1) := (blk_cell BK158.out 1).trans rfl;have hcz11_2 : w10.cell? ⟨gb158,2,none⟩ = some (.int .i64 a0_2) := (blk_cell BK158.out 2).trans rfl;have hcz11_3 : w10.cell? ⟨gb158,3,none⟩ = some (.int .i64 a0_3) := (blk_cell BK158.out 3).trans rfl;have hcz11_4 : w10.cell? ⟨gb158,4,none⟩ = some (.int .i64 a0_4) := (blk_cell BK158.out 4).trans rfl;have hcz11_5 : w10.cell? ⟨gb158,5,none⟩ = some (.slice A0_5 l0_5.length c0_5) := (blk_cell BK158.out 5).trans rfl;have hfz11_0 := blk_frozen BK158.out 0;have hfz11_1 := blk_frozen BK158.out 1;have hfz11_2 := blk_frozen BK158.out 2;have hfz11_3 := blk_frozen BK158.out 3;have hfz11_4 := blk_frozen BK158.out 4;have hfz11_5 := blk_frozen BK158.out 5) | ((with_reducible refine gate_callee (f := 46) rfl ?_);refine goesL_ (some 7) rfl rfl Try.func46 (by kernel_rfl) rfl #[.agg #[.int .i64 a0_0,.int .i64 a0_1,.int .i64 a0_2,.int .i64 a0_3,.int .i64 a0_4,.slice A0_5 l0_5.length c0_5]] rfl (by (try simp only [List.map_toArray,List.map_cons,List.map_nil]);first | done | rfl | (simp only [List.length_drop,List.length_take];rfl)) ?_;(with_reducible refine (passepartoutref04_check.calls k a0_0 a0_1 a0_2 a0_3 a0_4 _ _ l0_5 t160 _ ?side1 ?side2 A7.out).mono ?_);(case side1 => repeat (first | exact (Kd.C_below HR0_5.out HB.out) | (with_reducible refine Kd.C_alloc ?_ _) | (with_reducible refine Kd.C_drewN ?_ _) | (with_reducible refine Kd.C_drew ?_)));(case side2 => exact HC0_5.out);rintro e w12 ⟨rfl,hb⟩;refine ⟨_,rfl,?_⟩;have n0_ := Aside0.mk (blk_below (g := gb158) (o := .cells #[.int .i64 a0_0,.int .i64 a0_1,.int .i64 a0_2,.int .i64 a0_3,.int .i64 a0_4,.slice A0_5 l0_5.length c0_5] 27 (0,0)) (by (with_reducible repeat (first | refine blk_drewN ?_ _ | refine blk_drew ?_ | refine blk_alloc ?_ _));exact BK158.out) hb);have n1_ := Aside0.mk (below_step (by repeat (first | (with_reducible first | exact HB.out | apply below_alloc | apply pw_below_drewN | apply below_drew1 | refine below_set ?_ GE158.out) | exact HB.out)) hb);clear BK158;clear HB;have BK158 := n0_;have HB := n1_;clear n0_ n1_;(try clear hb);(try clear hb2);(try clear hk);(try clear hi)))
  go_ret
  exact ⟨by first | rfl | (simp [errW_none,errW_some] <;> rfl) | (simp [*,errW_none,errW_some] <;> rfl),by repeat (first | (with_reducible first | exact HB.out | apply below_alloc | apply pw_below_drewN | apply below_drew1 | refine below_set ?_ GE158.out) | exact HB.out)⟩

end Go.Proofs.Ytfcghajnnllmhaa.QP

namespace Go.Proofs.Ytfcghajnnllmhaa
open Go.RowKit YtfcghajnnllmhaaW.PrintWords

theorem of_f0 (x : Fm) : (ofF x).f0 = x.a.k := by cases x;rw [ofF_mk];rfl
theorem of_f1 (x : Fm) : (ofF x).f1 = x.a.s := by cases x;rw [ofF_mk];rfl
theorem of_f2 (x : Fm) : (ofF x).f2 = x.a.lo := by cases x;rw [ofF_mk];rfl
theorem of_f3 (x : Fm) : (ofF x).f3 = x.a.hi := by cases x;rw [ofF_mk];rfl
theorem of_f4 (x : Fm) : (ofF x).f4 = x.a.st := by cases x;rw [ofF_mk];rfl
theorem of_f5 (x : Fm) : (ofF x).f5 = x.l.map ofF := by cases x;rw [ofF_mk];rfl
mutual
/-- How deep; no more than so much (and one) is told. -/
def depR : Nat → Fm → Nat
 | m,.mk a l => (if a.k = 2 ∨ a.k = 3 then depL m 0 l else 0) + 1
def depL : Nat → Nat → List Fm → Nat
 | _,b,[] => b
 | 0,b,_ :: _ => b
 | m + 1,b,f :: t => depL (m + 1) (max b (depR m f)) t
end
theorem bounds_ne (lo hi M : Int) : boundsR lo hi M ≠ 0 ↔ lo < 0 ∨ hi < lo ∨ M < hi := by
 unfold boundsR
 split
 ·rename_i h
  simp [h]
 ·rename_i h
  simp only [ne_eq,not_true_eq_false,false_iff]
  exact h
theorem to_mk (f : Fm) : toF ⟨f.a.k,f.a.s,f.a.lo,f.a.hi,f.a.st,f.l.map ofF⟩ = f := by
 obtain ⟨a,l⟩ := f
 rw [toF_mk,map_to_ofF]
 rfl
end Go.Proofs.Ytfcghajnnllmhaa

namespace Go.Proofs.Ytfcghajnnllmhaa.QP
open Go.RowKit Go.Proofs.YtfcghajnnllmhaaW.PrintWords Go.Proofs.YtfcghajnnllmhaaW.PrintLast Go.Proofs.YtfcghajnnllmhaaW.PrintMore
attribute [local go_sem] max2_int min2_int max_two min_two max_three min_three max_four min_four   -- for this text's walks alone
set_option linter.unusedVariables false
set_option linter.unusedSimpArgs false

/-! ### layout_Check: function 14 -/
def layout_Check.f (a0_0 : Int) (a0_1 : Int) (a0_2 : Int) (a0_3 : Int) (a0_4 : Int) (l0_5 : List (S27)) : Option (Int) := if wfF (toF ⟨a0_0,a0_1,a0_2,a0_3,a0_4,l0_5⟩) = true then some (if deepB 8 (toF ⟨a0_0,a0_1,a0_2,a0_3,a0_4,l0_5⟩) then 14 else checkR (toF ⟨a0_0,a0_1,a0_2,a0_3,a0_4,l0_5⟩)) else none
set_option maxHeartbeats 8000000 in
set_option maxRecDepth 100000 in
theorem layout_Check.calls (a0_0 : Int) (a0_1 : Int) (a0_2 : Int) (a0_3 : Int) (a0_4 : Int) (A0_5 : Option Addr) (c0_5 : Nat) (l0_5 : List (S27)) (r : Int) (w : World) (hr0_5 : Kd.C k27 w A0_5 l0_5.length l0_5) (hc0_5 : l0_5.length ≤ c0_5) (h : layout_Check.f a0_0 a0_1 a0_2 a0_3 a0_4 l0_5 = some r) :
  Calls Try.prog 14 #[.agg #[.int .i64 a0_0,.int .i64 a0_1,.int .i64 a0_2,.int .i64 a0_3,.int .i64 a0_4,.slice A0_5 l0_5.length c0_5]] w fun e w' => e = .returned (.int .i64 r) ∧ Below w.heap.size w w' := by
 unfold layout_Check.f at h
 split at h
 ·rename_i hw
  injection h with h
  subst h
  exact (check_any (fun x => x < w.heap.size) (toF ⟨a0_0,a0_1,a0_2,a0_3,a0_4,l0_5⟩) _ w (fun _ h => h) (c_FmR hr0_5 hc0_5 hw)).mono fun e w' h => ⟨h.1,h.2.below⟩
 ·cases h

end Go.Proofs.Ytfcghajnnllmhaa.QP

namespace Go.Proofs.Ytfcghajnnllmhaa.QP
open Go.RowKit Go.Proofs.YtfcghajnnllmhaaW.PrintWords Go.Proofs.YtfcghajnnllmhaaW.PrintLast Go.Proofs.YtfcghajnnllmhaaW.PrintMore
attribute [local go_sem] max2_int min2_int max_two min_two max_three min_three max_four min_four   -- for this text's walks alone
set_option linter.unusedVariables false
set_option linter.unusedSimpArgs false

/-! ### layout_Open: function 23 -/
def layout_Open.f (a0_0 : Int) (a0_1 : Int) (a0_2 : Int) (a0_3 : Int) (a0_4 : Int) (l0_5 : List (S27)) : Option (Bool) := if wfF (toF ⟨a0_0,a0_1,a0_2,a0_3,a0_4,l0_5⟩) = true then some (openR (toF ⟨a0_0,a0_1,a0_2,a0_3,a0_4,l0_5⟩)) else none
set_option maxHeartbeats 8000000 in
set_option maxRecDepth 100000 in
theorem layout_Open.calls (a0_0 : Int) (a0_1 : Int) (a0_2 : Int) (a0_3 : Int) (a0_4 : Int) (A0_5 : Option Addr) (c0_5 : Nat) (l0_5 : List (S27)) (r : Bool) (w : World) (hr0_5 : Kd.C k27 w A0_5 l0_5.length l0_5) (hc0_5 : l0_5.length ≤ c0_5) (h : layout_Open.f a0_0 a0_1 a0_2 a0_3 a0_4 l0_5 = some r) :
  Calls Try.prog 23 #[.agg #[.int .i64 a0_0,.int .i64 a0_1,.int .i64 a0_2,.int .i64 a0_3,.int .i64 a0_4,.slice A0_5 l0_5.length c0_5]] w fun e w' => e = .returned (.bool r) ∧ Below w.heap.size w w' := by
 unfold layout_Open.f at h
 split at h
 ·rename_i hw
  injection h with h
  subst h
  exact (open_any (fun x => x < w.heap.size) _ (toF ⟨a0_0,a0_1,a0_2,a0_3,a0_4,l0_5⟩) w (fun _ h => h) (c_FmR hr0_5 hc0_5 hw)).mono fun e w' h => ⟨h.1,h.2.below⟩
 ·cases h

end Go.Proofs.Ytfcghajnnllmhaa.QP

namespace Go.Proofs.Ytfcghajnnllmhaa.QP
open Go.RowKit Go.Proofs.YtfcghajnnllmhaaW.PrintWords Go.Proofs.YtfcghajnnllmhaaW.PrintLast Go.Proofs.YtfcghajnnllmhaaW.PrintMore
attribute [local go_sem] max2_int min2_int max_two min_two max_three min_three max_four min_four   -- for this text's walks alone
set_option linter.unusedVariables false
set_option linter.unusedSimpArgs false

/-! ### layout_Most: function 25 -/
def layout_Most.f (a0_0 : Int) (a0_1 : Int) (a0_2 : Int) (a0_3 : Int) (a0_4 : Int) (l0_5 : List (S27)) : Option (Int) := if wfF (toF ⟨a0_0,a0_1,a0_2,a0_3,a0_4,l0_5⟩) = true then some (mostR (toF ⟨a0_0,a0_1,a0_2,a0_3,a0_4,l0_5⟩)) else none
set_option maxHeartbeats 8000000 in
set_option maxRecDepth 100000 in
theorem layout_Most.calls (a0_0 : Int) (a0_1 : Int) (a0_2 : Int) (a0_3 : Int) (a0_4 : Int) (A0_5 : Option Addr) (c0_5 : Nat) (l0_5 : List (S27)) (r : Int) (w : World) (hr0_5 : Kd.C k27 w A0_5 l0_5.length l0_5) (hc0_5 : l0_5.length ≤ c0_5) (h : layout_Most.f a0_0 a0_1 a0_2 a0_3 a0_4 l0_5 = some r) :
  Calls Try.prog 25 #[.agg #[.int .i64 a0_0,.int .i64 a0_1,.int .i64 a0_2,.int .i64 a0_3,.int .i64 a0_4,.slice A0_5 l0_5.length c0_5]] w fun e w' => e = .returned (.int .i64 r) ∧ Below w.heap.size w w' := by
 unfold layout_Most.f at h
 split at h
 ·rename_i hw
  injection h with h
  subst h
  exact (most_any (fun x => x < w.heap.size) _ (toF ⟨a0_0,a0_1,a0_2,a0_3,a0_4,l0_5⟩) w (c_FmR hr0_5 hc0_5 hw)).mono fun e w' h => ⟨h.1,h.2.below⟩
 ·cases h

end Go.Proofs.Ytfcghajnnllmhaa.QP

namespace Go.Proofs.Ytfcghajnnllmhaa.QP
open Go.RowKit Go.Proofs.YtfcghajnnllmhaaW.PrintWords Go.Proofs.YtfcghajnnllmhaaW.PrintLast Go.Proofs.YtfcghajnnllmhaaW.PrintMore
attribute [local go_sem] max2_int min2_int max_two min_two max_three min_three max_four min_four   -- for this text's walks alone
set_option linter.unusedVariables false
set_option linter.unusedSimpArgs false

/-! ### layout_Least: function 24 -/
def layout_Least.f (a0_0 : Int) (a0_1 : Int) (a0_2 : Int) (a0_3 : Int) (a0_4 : Int) (l0_5 : List (S27)) : Option (Int) := if wfF (toF ⟨a0_0,a0_1,a0_2,a0_3,a0_4,l0_5⟩) = true then some (leastR (toF ⟨a0_0,a0_1,a0_2,a0_3,a0_4,l0_5⟩)) else none
set_option maxHeartbeats 8000000 in
set_option maxRecDepth 100000 in
theorem layout_Least.calls (a0_0 : Int) (a0_1 : Int) (a0_2 : Int) (a0_3 : Int) (a0_4 : Int) (A0_5 : Option Addr) (c0_5 : Nat) (l0_5 : List (S27)) (r : Int) (w : World) (hr0_5 : Kd.C k27 w A0_5 l0_5.length l0_5) (hc0_5 : l0_5.length ≤ c0_5) (h : layout_Least.f a0_0 a0_1 a0_2 a0_3 a0_4 l0_5 = some r) :
  Calls Try.prog 24 #[.agg #[.int .i64 a0_0,.int .i64 a0_1,.int .i64 a0_2,.int .i64 a0_3,.int .i64 a0_4,.slice A0_5 l0_5.length c0_5]] w fun e w' => e = .returned (.int .i64 r) ∧ Below w.heap.size w w' := by
 unfold layout_Least.f at h
 split at h
 ·rename_i hw
  injection h with h
  subst h
  exact (least_any (fun x => x < w.heap.size) _ (toF ⟨a0_0,a0_1,a0_2,a0_3,a0_4,l0_5⟩) w (c_FmR hr0_5 hc0_5 hw)).mono fun e w' h => ⟨h.1,h.2.below⟩
 ·cases h

end Go.Proofs.Ytfcghajnnllmhaa.QP

namespace Go.Proofs.Ytfcghajnnllmhaa.QP
open Go.RowKit Go.Proofs.YtfcghajnnllmhaaW.PrintWords Go.Proofs.YtfcghajnnllmhaaW.PrintLast Go.Proofs.YtfcghajnnllmhaaW.PrintMore
attribute [local go_sem] max2_int min2_int max_two min_two max_three min_three max_four min_four   -- for this text's walks alone
set_option linter.unusedVariables false
set_option linter.unusedSimpArgs false

/-! ### passepartoutlaw04_great: function 20 -/
def passepartoutlaw04_great.f (k : Nat) (a0_0 : Int) (a0_1 : Int) (a0_2 : Int) (a0_3 : Int) (a0_4 : Int) (l0_5 : List (S27)) : Option (Bool) := (passepartoutref04_Count.f k a0_0 a0_1 a0_2 a0_3 a0_4 l0_5 500).bind fun t134 => (some (decide (t134 > 500)))
theorem passepartoutlaw04_great.mono : ∀ a0 a1 a2 a3 a4 a5 k,LeO (passepartoutlaw04_great.f k a0 a1 a2 a3 a4 a5) (passepartoutlaw04_great.f (k + 1) a0 a1 a2 a3 a4 a5) := by
 intro a0 a1 a2 a3 a4 a5 k
 unfold passepartoutlaw04_great.f
 repeat' first
   | (with_reducible exact passepartoutref04_Count.mono _ _ _ _ _ _ _ _)
   | (with_reducible exact LeO.refl _)
   | (with_reducible exact LeO.none _)
   | (with_reducible refine LeO.ite ?_ ?_)
   | (with_reducible refine LeO.bind ?_ (fun _ => ?_))
   | exact passepartoutref04_Count.mono _ _ _ _ _ _ _ _
   | exact LeO.none _
   | refine LeO.ite ?_ ?_
   | refine LeO.bind ?_ (fun _ => ?_)
set_option maxHeartbeats 8000000 in
set_option maxRecDepth 100000 in
theorem passepartoutlaw04_great.calls (k : Nat) (a0_0 : Int) (a0_1 : Int) (a0_2 : Int) (a0_3 : Int) (a0_4 : Int) (A0_5 : Option Addr) (c0_5 : Nat) (l0_5 : List (S27)) (r : Bool) (w : World) (hr0_5 : Kd.C k27 w A0_5 l0_5.length l0_5) (hc0_5 : l0_5.length ≤ c0_5) (h : passepartoutlaw04_great.f k a0_0 a0_1 a0_2 a0_3 a0_4 l0_5 = some r) :
  Calls Try.prog 20 #[.agg #[.int .i64 a0_0,.int .i64 a0_1,.int .i64 a0_2,.int .i64 a0_3,.int .i64 a0_4,.slice A0_5 l0_5.length c0_5]] w fun e w' => e = .returned (.bool r) ∧ Below w.heap.size w w' := by
 have hu27 := Try.underlying27
 have HR0_5 := Aside0.mk hr0_5
 have HC0_5 := Aside0.mk hc0_5
 clear hr0_5 hc0_5
 have HB := Aside0.mk (Below.refl w.heap.size w)
 have H : ((passepartoutref04_Count.f k a0_0 a0_1 a0_2 a0_3 a0_4 l0_5 500).bind fun t134 => (some (decide (t134 > 500)))) = some r := h
 clear h
 replace H := Option.bind_eq_some_iff.mp H
 obtain ⟨t134,A20,H⟩ := H
 replace H : (some (decide (t134 > 500))) = some r := H
 have A2 := Aside0.mk A20
 clear A20
 obtain rfl := Option.some.inj H
 go_enter Try.func20,Try.ntmps20
 go_wp2_with (first | ((with_reducible refine gate_dst (N := 1) rfl ?_);refine box_event ?hg (N := 1) ?hd (cs := #[.int .i64 a0_0,.int .i64 a0_1,.int .i64 a0_2,.int .i64 a0_3,.int .i64 a0_4,.slice A0_5 l0_5.length c0_5]) (t := 27) ?hr ?_;(case hd => rfl);(case hg => rfl);(case hr => first | (go_simp;done) | (go_simp;rfl));intro gb133 hg w3 hbox hb;have n0_ := Aside0.mk (below_step (by repeat (first | (with_reducible first | exact HB.out | apply below_alloc | apply pw_below_drewN | apply below_drew1) | exact HB.out)) hb);have n1_ := Aside0.mk (hbox);have n2_ := Aside0.mk ((by rw [hg];exact (below_size (by repeat (first | (with_reducible first | exact HB.out | apply below_alloc | apply pw_below_drewN | apply below_drew1) | exact HB.out))) : w.heap.size ≤ gb133));have n3_ := Aside0.mk ((by rw [hg];exact (below_size (by repeat (first | (with_reducible first | exact HB.out | apply below_alloc | apply pw_below_drewN | apply below_drew1) | exact HB.out))) : w.heap.size ≤ gb133));clear HB;have HB := n0_;have BK133 := n1_;have GW133 := n2_;have GE133 := n3_;clear n0_ n1_ n2_ n3_;clear hb hbox hg;have hcz4_0 : w3.cell? ⟨gb133,0,none⟩ = some (.int .i64 a0_0) := (blk_cell BK133.out 0).trans rfl;have hcz4_1 : w3.cell? ⟨gb133,1,none⟩ = some (.int .i64 a0_1) := (blk_cell BK133.out 1).trans rfl;have hcz4_2 : w3.cell? ⟨gb133,2,none⟩ = some (.int .i64 a0_2) := (blk_cell BK133.out 2).trans rfl;have hcz4_3 : w3.cell? ⟨gb133,3,none⟩ = some (.int .i64 a0_3) := (blk_cell BK133.out 3).trans rfl;have hcz4_4 : w3.cell? ⟨gb133,4,none⟩ = some (.int .i64 a0_4) := (blk_cell BK133.out 4).trans rfl;have hcz4_5 : w3.cell? ⟨gb133,5,none⟩ = some (.slice A0_5 l0_5.length c0_5) := (blk_cell BK133.out 5).trans rfl;have hfz4_0 := blk_frozen BK133.out 0;have hfz4_1 := blk_frozen BK133.out 1;have hfz4_2 := blk_frozen BK133.out 2;have hfz4_3 := blk_frozen BK133.out 3;have hfz4_4 := blk_frozen BK133.out 4;have hfz4_5 := blk_frozen BK133.out 5) | ((with_reducible refine gate_callee (f := 45) rfl ?_);refine goesL_ (some 4) rfl rfl Try.func45 (by kernel_rfl) rfl #[.agg #[.int .i64 a0_0,.int .i64 a0_1,.int .i64 a0_2,.int .i64 a0_3,.int .i64 a0_4,.slice A0_5 l0_5.length c0_5],.int .i64 500] rfl (by (try simp only [List.map_toArray,List.map_cons,List.map_nil]);first | done | rfl | (simp only [List.length_drop,List.length_take];rfl)) ?_;(with_reducible refine (passepartoutref04_Count.calls k a0_0 a0_1 a0_2 a0_3 a0_4 _ _ l0_5 500 t134 _ ?side1 ?side2 A2.out).mono ?_);(case side1 => repeat (first | exact (Kd.C_below HR0_5.out HB.out) | (with_reducible refine Kd.C_alloc ?_ _) | (with_reducible refine Kd.C_drewN ?_ _) | (with_reducible refine Kd.C_drew ?_)));(case side2 => exact HC0_5.out);rintro e w5 ⟨rfl,hb⟩;refine ⟨_,rfl,?_⟩;have n0_ := Aside0.mk (blk_below (g := gb133) (o := .cells #[.int .i64 a0_0,.int .i64 a0_1,.int .i64 a0_2,.int .i64 a0_3,.int .i64 a0_4,.slice A0_5 l0_5.length c0_5] 27 (0,0)) (by (with_reducible repeat (first | refine blk_drewN ?_ _ | refine blk_drew ?_ | refine blk_alloc ?_ _));exact BK133.out) hb);have n1_ := Aside0.mk (below_step (by repeat (first | (with_reducible first | exact HB.out | apply below_alloc | apply pw_below_drewN | apply below_drew1 | refine below_set ?_ GE133.out) | exact HB.out)) hb);clear BK133;clear HB;have BK133 := n0_;have HB := n1_;clear n0_ n1_;(try clear hb);(try clear hb2);(try clear hk);(try clear hi)))
 go_ret
 exact ⟨by first | rfl | (simp [errW_none,errW_some] <;> rfl) | (simp [*,errW_none,errW_some] <;> rfl),by repeat (first | (with_reducible first | exact HB.out | apply below_alloc | apply pw_below_drewN | apply below_drew1 | refine below_set ?_ GE133.out) | exact HB.out)⟩

end Go.Proofs.Ytfcghajnnllmhaa.QP

namespace Go.Proofs.Ytfcghajnnllmhaa
open Go.RowKit YtfcghajnnllmhaaW.PrintWords

structure OwnOk (a : FH) : Prop where
 k0 : a.k = 0 → 1 ≤ a.s ∧ a.s ≤ 8
 k12 : a.k = 1 ∨ a.k = 2 → 1 ≤ a.s ∧ a.s ≤ 3 ∧ 0 ≤ a.lo ∧ a.lo ≤ a.hi ∧ a.hi ≤ 16777215 ∧ a.hi ≤ 256 ^ a.s.toNat - 1 ∧ 1 ≤ a.st ∧ a.st ≤ 65536
 k4 : a.k = 4 → 0 ≤ a.lo ∧ a.lo ≤ a.hi ∧ a.hi ≤ 16777215
 k5 : a.k = 5 → 0 ≤ a.lo ∧ a.lo ≤ 16777215
 k : 0 ≤ a.k ∧ a.k ≤ 5
theorem own_ok {a : FH} {n : Nat} (h : ownN a.k a.s a.lo a.hi a.st n = 0) : OwnOk a ∧ (a.k = 2 → n = 1) ∧ (a.k = 3 → n ≤ 32) := by
 obtain ⟨k,s,lo,hi,st⟩ := a
 simp only [] at h ⊢
 unfold ownN at h
 by_cases k0 : k = 0
 ·rw [if_pos k0] at h
  split at h
  ·omega
  ·exact ⟨⟨fun _ => ⟨by simp only [];omega,by simp only [];omega⟩,fun h => by simp only [] at h;omega,fun h => by simp only [] at h;omega,fun h => by simp only [] at h;omega,⟨by simp only [];omega,by simp only [];omega⟩⟩,by omega,by omega⟩
 rw [if_neg k0] at h
 by_cases k12 : k = 2 ∨ k = 1
 ·rw [if_pos k12] at h
  split at h
  ·omega
  rename_i hs
  split at h
  ·omega
  rename_i hb
  have hb1 : ¬ boundsR lo hi (256 ^ s.toNat - 1) ≠ 0 := fun x => hb (.inl x)
  rw [bounds_ne] at hb1
  have hM : (256 : Int) ^ s.toNat - 1 ≤ 16777215 := by
   rcases (show s.toNat = 1 ∨ s.toNat = 2 ∨ s.toNat = 3 by omega) with e | e | e <;> rw [e] <;> decide
  refine ⟨⟨fun h => by simp only [] at h;omega,fun _ => ⟨by simp only [];omega,by simp only [];omega,by simp only [];omega,by simp only [];omega,by simp only [];omega,?_,by simp only [];omega,by simp only [];omega⟩,fun h => by simp only [] at h;omega,fun h => by simp only [] at h;omega,⟨by simp only [];omega,by simp only [];omega⟩⟩,fun k2 => ?_,by omega⟩
  ·show hi ≤ (256 : Int) ^ s.toNat - 1
   omega
  ·split at h
   ·omega
   ·omega
 rw [if_neg k12] at h
 by_cases k3 : k = 3
 ·rw [if_pos k3] at h
  split at h
  ·omega
  ·exact ⟨⟨fun h => by simp only [] at h;omega,fun h => by simp only [] at h;omega,fun h => by simp only [] at h;omega,fun h => by simp only [] at h;omega,⟨by simp only [];omega,by simp only [];omega⟩⟩,by omega,by omega⟩
 rw [if_neg k3] at h
 by_cases k4 : k = 4
 ·rw [if_pos k4] at h
  have hb : ¬ boundsR lo hi 16777215 ≠ 0 := by omega
  rw [bounds_ne] at hb
  exact ⟨⟨fun h => by simp only [] at h;omega,fun h => by simp only [] at h;omega,fun _ => ⟨by simp only [];omega,by simp only [];omega,by simp only [];omega⟩,fun h => by simp only [] at h;omega,⟨by simp only [];omega,by simp only [];omega⟩⟩,by omega,by omega⟩
 rw [if_neg k4] at h
 by_cases k5 : k = 5
 ·rw [if_pos k5] at h
  have hb : ¬ boundsR lo lo 16777215 ≠ 0 := by omega
  rw [bounds_ne] at hb
  exact ⟨⟨fun h => by simp only [] at h;omega,fun h => by simp only [] at h;omega,fun h => by simp only [] at h;omega,fun _ => ⟨by simp only [];omega,by simp only [];omega⟩,⟨by simp only [];omega,by simp only [];omega⟩⟩,by omega,by omega⟩
 ·rw [if_neg k5] at h
  omega
/-- What a right form is. -/
theorem check_ok {a : FH} {l : List Fm} (h : checkR (.mk a l) = 0) : OwnOk a ∧ (a.k = 2 → l.length = 1) ∧ (a.k = 3 → l.length ≤ 32) ∧ ((a.k = 2 ∨ a.k = 3) → (∀ x ∈ l,checkR x = 0) ∧ badF a.k l.length 0 l = false) := by
 rw [checkR_mk] at h
 by_cases h0 : ownN a.k a.s a.lo a.hi a.st l.length ≠ 0
 ·rw [if_pos h0] at h
  exact absurd h h0
 rw [if_neg h0] at h
 have ho := own_ok (Decidable.not_not.1 h0)
 refine ⟨ho.1,ho.2.1,ho.2.2,fun hk => ?_⟩
 rw [if_pos hk] at h
 have hL : ∀ t : List Fm,checkL t = 0 → ∀ x ∈ t,checkR x = 0 := by
  intro t
  induction t with
  | nil => intro _ x hx;simp at hx
  | cons f t ih =>
   intro h x hx
   rw [checkL] at h
   split at h
   ·omega
   ·rcases List.mem_cons.1 hx with rfl | hx
    ·omega
    ·exact ih h x hx
 split at h
 ·omega
 ·rename_i h1
  refine ⟨hL l (by omega),?_⟩
  split at h
  ·omega
  ·rename_i h2
   simpa using h2

/-! ### My contracts' answers among the printed ones. -/
theorem lay_check (f : Fm) (hw : wfF f = true) : QP.layout_Check.f f.a.k f.a.s f.a.lo f.a.hi f.a.st (f.l.map ofF) = some (if deepB 8 f then 14 else checkR f) := by
 rw [QP.layout_Check.f,to_mk,if_pos hw]
end Go.Proofs.Ytfcghajnnllmhaa

namespace Go.Proofs.Ytfcghajnnllmhaa
open Go.RowKit Go.Maps

/-- A store at a map's making, at the operation. -/
theorem wpList_insert_own {H : Type} {P : Program} (w : World) {ops : Array Oper} {rest : List Oper} {o : Oper} {a : Act} {Q : Exit → Act → World → Prop}
  (hg : o.guard = none) (m x v : Operand) (t : TypeId) (hop : o.op = Op.insert t m x v)
  (k e : TypeId) (K : Keyed P k) (ht : P.underlying t = some (.map k e)) (R : Value → Option (DataW H × List MemPlace)) (b n : Nat) (D : DataW H)
  (hm : a.eval m = .map (some b)) (hown : w.ownsMap P k R b n D) (hn : n < maxLen) (key val : Value) (kl : Lit) (hx : a.eval x = key) (hv : a.eval v = val) (hkey : keyOf P k key = some kl)
  (d : DataW H) (ps : List MemPlace) (hval : R val = some (d,ps))
  (hK : ∀ w',w'.ownsMap P k R b (n + 1) (D.put kl d) → w.grownBy w' (some b) → wpList P ops Q rest (a.put o.dst undef) w') :
  wpList P ops Q (o :: rest) a w := by
 refine wpList_plain hg fun K' hK' => ?_
 obtain ⟨w',hrun,r1,r2⟩ := hown.update K ht hn hkey hval
 unfold Oper.wp
 simp [execOp,hop,hm,hx,hv,hrun,Result.andThen]
 exact hK' _ _ (hK w' r1 r2)
theorem lawInt : Keyed Try.prog 3 := int_keyed Try.underlying3
/-- Which field is a kind's own. -/
def fld (k : Int) : Int := if k = 1 ∨ k = 4 ∨ k = 5 then 1 else if k = 2 ∨ k = 3 then 2 else 0
def fieldsD : DataW Unit := ((((((.map [] : DataW Unit).put (.int .i64 0) (.lit (.int .i64 0))).put (.int .i64 1) (.lit (.int .i64 1))).put (.int .i64 4) (.lit (.int .i64 1))).put (.int .i64 5) (.lit (.int .i64 1))).put (.int .i64 2) (.lit (.int .i64 2))).put (.int .i64 3) (.lit (.int .i64 2))
theorem fields_at (k : Int) : fieldsD.atKey (.int .i64 k) (.lit (.int .i64 0)) = .lit (.int .i64 (fld k)) := by
 by_cases h0 : k = 0
 ·subst h0;rfl
 by_cases h1 : k = 1
 ·subst h1;rfl
 by_cases h2 : k = 2
 ·subst h2;rfl
 by_cases h3 : k = 3
 ·subst h3;rfl
 by_cases h4 : k = 4
 ·subst h4;rfl
 by_cases h5 : k = 5
 ·subst h5;rfl
 have ne : ∀ q : Int,k ≠ q → (Lit.int .i64 k) ≠ .int .i64 q := fun q h e => h (by injection e)
 unfold fieldsD
 iterate 6 rw [atKey_put_other (ne _ (by assumption))]
 rw [fld,if_neg (by omega),if_neg (by omega)]
 rfl
set_option maxRecDepth 100000 in
theorem fields_any (w : World) : Calls Try.prog 72 #[] w fun e w' => ∃ b,e = .returned (.map (some b)) ∧ w'.ownsMap Try.prog 3 (plainElem Try.prog 81) b 6 fieldsD ∧ Kp (fun _ => False) w w' := by
 have hmm := @run_makeMap Try.prog
 have HM := Lib.hid (by simpa using World.ownsMap_made (H := Unit) w Try.prog 3 (plainElem Try.prog 81))
 have hk0 := (Kp.refl (fun _ => False) w).alloc (.map #[] 0)
 obtain ⟨W0,hW0⟩ : ∃ W0,w.alloc (.map #[] 0) = W0 := ⟨_,rfl⟩
 have hsz : W0.heap.size = w.heap.size + 1 := by rw [← hW0];simp
 rw [hW0] at HM hk0
 have kr := Kp.refl (fun j => j = w.heap.size) W0
 have HW := Lib.hid hW0
 clear hW0
 go_enter Try.func72,Try.ntmps72
 go_wp2_with (first
  | (rw [HW.out];refine wpList_insert_own _ rfl _ _ _ 82 rfl 3 81 lawInt Try.underlying82 (plainElem Try.prog 81) _ _ _ rfl HM.out (by unfold maxLen;omega) _ _ _ rfl rfl (keyOf_int_mk Try.underlying3 (by decide)) _ _ (plainElem_int Try.underlying81 (by decide)) ?_;intro w1 hown1 hg1;have hk1 := kr.grown hg1 (fun j hj => by cases hj;exact .inl rfl);clear hg1)
  | (refine wpList_insert_own _ rfl _ _ _ 82 rfl 3 81 lawInt Try.underlying82 (plainElem Try.prog 81) _ _ _ rfl hown1 (by unfold maxLen;omega) _ _ _ rfl rfl (keyOf_int_mk Try.underlying3 (by decide)) _ _ (plainElem_int Try.underlying81 (by decide)) ?_;clear hown1;intro w2 hown1 hg1;have hk2 := hk1.grown hg1 (fun j hj => by cases hj;exact .inl rfl);clear hg1 hk1;have hk1 := hk2;clear hk2)
  | fail)
 go_ret
 exact ⟨_,rfl,hown1,hk0.then_ hk1 (fun j hj => .inr (by omega))⟩

/-- Is only a kind's field filled? -/
def aloneB (k n : Int) (b l : Nat) : Bool := (decide (fld k = 0) || decide (n = 0)) && ((decide (fld k = 1) || decide (b = 0)) && (decide (fld k = 2) || decide (l = 0)))
set_option maxRecDepth 100000 in
set_option maxHeartbeats 3200000 in
theorem alone_any (k n : Int) (hk : (Lit.int .i64 k).wf = true) (A1 A2 : Option Addr) (m1 m2 c1 c2 : Nat) (w : World) :
  Calls Try.prog 70 #[.int .i64 k,.agg #[.int .u64 n,.slice A1 m1 c1,.slice A2 m2 c2]] w fun e w' => e = .returned (.bool (aloneB k n m1 m2)) ∧ Kp (fun _ => False) w w' := by
 have hkey := Lib.hid (keyOf_int_mk Try.underlying3 hk)
 have HB := Lib.hid (Blk.new w 46 #[.int .u64 n,.slice A1 m1 c1,.slice A2 m2 c2])
 have HK := Lib.hid ((Kp.refl (fun _ => False) w).alloc (.cells #[.int .u64 n,.slice A1 m1 c1,.slice A2 m2 c2] 46))
 have hzv : ∀ W : World,(zeroValue 81).run Try.prog W = .ok (.int .i64 0) W := fun W => by kernel_rfl
 have HZV := Lib.hid hzv
 obtain ⟨f,hf⟩ : ∃ f,fld k = f := ⟨_,rfl⟩
 have hf3 : f = 0 ∨ f = 1 ∨ f = 2 := by rw [← hf,fld];split <;> (try split) <;> omega
 have HAT := Lib.hid (show fieldsD.atKey (.int .i64 k) (.lit (.int .i64 0)) = .lit (.int .i64 f) by rw [fields_at,hf])
 obtain ⟨r,hr⟩ : ∃ r,aloneB k n m1 m2 = r := ⟨_,rfl⟩
 rw [hr]
 rw [aloneB,hf] at hr
 have hn : ((n == 0) = true ∧ n = 0) ∨ ((n == 0) = false ∧ n ≠ 0) := by by_cases h : n = 0 <;> simp [h]
 have hm1 : (((m1 : Int) == 0) = true ∧ m1 = 0) ∨ (((m1 : Int) == 0) = false ∧ m1 ≠ 0) := by by_cases h : m1 = 0 <;> simp [h]
 have hm2 : (((m2 : Int) == 0) = true ∧ m2 = 0) ∨ (((m2 : Int) == 0) = false ∧ m2 ≠ 0) := by by_cases h : m2 = 0 <;> simp [h]
 clear hk hf hzv
 rcases hf3 with rfl | rfl | rfl <;> rcases hn with ⟨t1,e1⟩ | ⟨t1,e1⟩ <;> rcases hm1 with ⟨t2,e2⟩ | ⟨t2,e2⟩ <;> rcases hm2 with ⟨t3,e3⟩ | ⟨t3,e3⟩
 all_goals
  simp [e1,e2,e3] at hr
  subst hr
  clear e1 e2 e3
  go_enter Try.func70,Try.ntmps70
  go_wp2_with fail
  refine (fields_any _).mono ?_
  rintro e w1 ⟨b,rfl,hown,hk1⟩
  have HOWN := Lib.hid hown
  have HK1 := Lib.hid (HK.out.then_ hk1 (fun _ h => h.elim))
  have hb1 := HB.out.kp hk1 (fun h => h)
  have c0 := hb1.cell 0
  have c1' := hb1.cell 1
  have c2' := hb1.cell 2
  simp at c0 c1' c2'
  clear hown hk1 hb1
  go_wp2_with (first
   | (at_lookup;refine wpList_lookup_own_int _ rfl _ _ 82 rfl 3 81 .i64 lawInt Try.underlying82 Try.underlying81 (HZV.out _) _ _ _ rfl HOWN.out _ _ rfl hkey.out ?_;intro c hc _;rw [HAT.out] at hc;injection hc with hc;injection hc with _ hc;subst hc)
   | fail)
  go_ret
  exact ⟨rfl,HK1.out⟩
end Go.Proofs.Ytfcghajnnllmhaa

namespace Go.Proofs.Ytfcghajnnllmhaa
open Go.RowKit

/-- A value's number and bytes. -/
structure VH where
 n : Int
 b : List UInt8
deriving DecidableEq
def u64B (x : Int) : Prop := 0 ≤ x ∧ x < 18446744073709551616
def VHd : Head VH := fun w ok a hd => ∃ v,hd = [.int .u64 a.n,v] ∧ u64B a.n ∧ BR w ok v a.b ∧ a.b.length ≤ 140737488355328
theorem VHd_kp : HeadKp VHd :=
 ⟨fun ⟨v,e,h1,h2,h3⟩ hk hd => ⟨v,e,h1,h2.kp hk hd,h3⟩,fun ⟨v,e,h1,h2,h3⟩ hm => ⟨v,e,h1,h2.mono hm,h3⟩⟩
theorem VHd_one {w : World} {ok : Nat → Prop} {a : VH} {hd : List Value} (h : VHd w ok a hd) : ∀ u ∈ hd,u.oneCell' = true := by
 obtain ⟨v,e,_,⟨A,c,e2,_⟩,_⟩ := h
 subst e e2
 intro u hu
 simp at hu
 rcases hu with rfl | rfl <;> rfl
abbrev Vt := RT VH
/-- A slice value that reads as these values. -/
def VsR (w : World) (ok : Nat → Prop) (v : Value) (l : List Vt) : Prop := ∃ A c,v = .slice A l.length c ∧ l.length ≤ c ∧ l.length ≤ 140737488355328 ∧ TL VHd 3 w ok l A
/-- A value that reads as a value. -/
def VtR (w : World) (ok : Nat → Prop) (v : Value) (x : Vt) : Prop :=
 ∃ bv sv,v = .agg #[.int .u64 x.a.n,bv,sv] ∧ u64B x.a.n ∧ BR w ok bv x.a.b ∧ x.a.b.length ≤ 140737488355328 ∧ VsR w ok sv x.l
section
variable {w w' : World} {ok ok' S : Nat → Prop} {v : Value} {l : List Vt} {x : Vt}
theorem VsR.kp (h : VsR w ok v l) (hk : Kp S w w') (hd : ∀ i,ok i → ¬ S i) : VsR w' ok v l := by
 obtain ⟨A,c,e,h1,h2,h3⟩ := h
 exact ⟨A,c,e,h1,h2,h3.kp_ VHd_kp hk hd (fun _ h => h)⟩
theorem VsR.mono (h : VsR w ok v l) (hm : ∀ i,ok i → ok' i) : VsR w ok' v l := by
 obtain ⟨A,c,e,h1,h2,h3⟩ := h
 exact ⟨A,c,e,h1,h2,h3.kp_ VHd_kp (Kp.refl (fun _ => False) w) (fun _ _ h => h) hm⟩
theorem VtR.kp (h : VtR w ok v x) (hk : Kp S w w') (hd : ∀ i,ok i → ¬ S i) : VtR w' ok v x := by
 obtain ⟨bv,sv,e,h1,h2,h3,h4⟩ := h
 exact ⟨bv,sv,e,h1,h2.kp hk hd,h3,h4.kp hk hd⟩
theorem VtR.mono (h : VtR w ok v x) (hm : ∀ i,ok i → ok' i) : VtR w ok' v x := by
 obtain ⟨bv,sv,e,h1,h2,h3,h4⟩ := h
 exact ⟨bv,sv,e,h1,h2.mono hm,h3,h4.mono hm⟩
theorem VsR.nil : VsR w ok (.slice none 0 0) [] := ⟨none,0,rfl,Nat.le_refl _,by simp,fun h => by simp at h⟩
theorem VtR.of_tr {cs : List Value} (h : TR VHd 3 w ok x cs) : VtR w ok (.agg cs.toArray) x ∧ cs.length = 3 := by
 obtain ⟨hd,A,c,e,hl,⟨bv,hh,ho,hb,hbl⟩,h1,h2,h3⟩ := (TR_def _ _ _ _ _ _).1 h
 subst hh
 subst e
 exact ⟨⟨bv,_,rfl,ho,hb,hbl,A,c,rfl,h1,h2,h3⟩,by simp⟩
theorem VtR.tr (h : VtR w ok v x) : ∃ bv sv,v = .agg #[.int .u64 x.a.n,bv,sv] ∧ TR VHd 3 w ok x [.int .u64 x.a.n,bv,sv] := by
 obtain ⟨bv,sv,e,h1,h2,h3,A,c,e2,h4,h5,h6⟩ := h
 subst e2
 exact ⟨_,_,e,(TR_def _ _ _ _ _ _).2 ⟨[.int .u64 x.a.n,bv],A,c,rfl,rfl,⟨bv,rfl,h1,h2,h3⟩,h4,h5,h6⟩⟩
/-- The parts of a value. -/
theorem VtR.parts {n : Int} {B : List UInt8} {ps : List Vt} (h : VtR w ok v (.mk ⟨n,B⟩ ps)) :
  ∃ A1 c1 A2 c2,v = .agg #[.int .u64 n,.slice A1 B.length c1,.slice A2 ps.length c2] ∧ u64B n ∧ B.length ≤ c1 ∧ B.length ≤ 140737488355328 ∧ BR w ok (.slice A1 B.length c1) B ∧ ps.length ≤ c2 ∧ ps.length ≤ 140737488355328 ∧ VsR w ok (.slice A2 ps.length c2) ps := by
 obtain ⟨bv,sv,rfl,h1,h2,h3,A2,c2,rfl,h4,h5,h6⟩ := h
 obtain ⟨A1,c1,e,h7,h8⟩ := id h2
 have e' : bv = .slice A1 B.length c1 := e
 subst e'
 exact ⟨A1,c1,A2,c2,rfl,h1,h7,h3,h2,h4,h5,A2,c2,rfl,h4,h5,h6⟩
/-- An element: its value, and its cells. -/
theorem VsR.at_ {A : Option Addr} {n c : Nat} (h : VsR w ok (.slice A n c) l) {i : Nat} (hi : i < l.length) :
  ∃ b off A1 c1 A2 c2,A = some ⟨b,off,none⟩ ∧ ok b ∧ VtR w ok (.agg #[.int .u64 (l[i]'hi).a.n,.slice A1 (l[i]'hi).a.b.length c1,.slice A2 (l[i]'hi).l.length c2]) (l[i]'hi) ∧
   w.cell? ⟨b,off + i * 3,none⟩ = some (.int .u64 (l[i]'hi).a.n) ∧ w.cell? ⟨b,off + i * 3 + 1,none⟩ = some (.slice A1 (l[i]'hi).a.b.length c1) ∧ w.cell? ⟨b,off + i * 3 + 2,none⟩ = some (.slice A2 (l[i]'hi).l.length c2) := by
 obtain ⟨A',c',e,_,_,h3⟩ := h
 injection e with e1 e2 e3
 subst e1
 obtain ⟨b,off,cs,hA,hb,ht,hc⟩ := h3.at_ hi
 have h1 := (VtR.of_tr ht).1
 obtain ⟨hd,A2,c2,e,hl,⟨bv,hh,ho,hbr,hbl⟩,_,_,_⟩ := (TR_def _ _ _ _ _ _).1 ht
 subst hh
 subst e
 obtain ⟨A1,c1,e,_,_⟩ := hbr
 subst e
 exact ⟨b,off,_,_,_,_,hA,hb,h1,hc 0 _ rfl,hc 1 _ rfl,hc 2 _ rfl⟩
theorem VsR.len {A : Option Addr} {n c : Nat} (h : VsR w ok (.slice A n c) l) : n = l.length ∧ n ≤ c ∧ n ≤ 140737488355328 := by
 obtain ⟨A',c',e,h1,h2,_⟩ := h
 injection e with _ e2 e3
 omega
end
mutual
/-- Are two values the same? -/
def sameV : Vt → Vt → Bool
 | .mk a l,.mk b m => decide (a.n = b.n) && (decide (a.b = b.b) && sameVs l m)
def sameVs : List Vt → List Vt → Bool
 | [],[] => true
 | x :: l,y :: m => sameV x y && sameVs l m
 | _,_ => false
end
end Go.Proofs.Ytfcghajnnllmhaa

namespace Go.Proofs.Ytfcghajnnllmhaa
open Go.RowKit

/-- May a length be? -/
def mayR (n lo hi st : Int) : Int := if n < lo then 5 else if hi < n then 5 else if Int.tmod n st = 0 then 0 else 5
def nilF : Fm := .mk ⟨0,0,0,0,0⟩ []
mutual
/-- The size of a value of a right form, or why it is none. -/
def fitR : Fm → Vt → Int × Int
 | f,.mk a l =>
  if aloneB f.a.k a.n a.b.length l.length = false then (0,15)
  else if f.a.k = 0 then (if f.a.s < 8 ∧ (2 : Int) ^ (8 * f.a.s.toNat) ≤ a.n then (0,3) else (f.a.s,0))
  else if f.a.k = 1 then (wrap64 (f.a.s + (a.b.length : Int)),mayR a.b.length f.a.lo f.a.hi f.a.st)
  else if f.a.k = 4 then ((a.b.length : Int),mayR a.b.length f.a.lo f.a.hi 1)
  else if f.a.k = 5 then (f.a.lo,mayR a.b.length f.a.lo f.a.lo 1)
  else if f.a.k = 3 ∧ l.length ≠ f.l.length then (0,15)
  else fitL f 0 0 l
def fitL : Fm → Int → Nat → List Vt → Int × Int
 | f,q,_,[] => if f.a.k = 3 then (q,0) else (wrap64 (f.a.s + q),mayR q f.a.lo f.a.hi f.a.st)
 | f,q,j,x :: t =>
  if (fitR (f.l.getD (j % f.l.length) nilF) x).2 = 0 then fitL f (wrap64 (q + (fitR (f.l.getD (j % f.l.length) nilF) x).1)) (j + 1) t
  else (0,(fitR (f.l.getD (j % f.l.length) nilF) x).2)
end
theorem fitR_mk (h : FH) (P : List Fm) (a : VH) (l : List Vt) : fitR (.mk h P) (.mk a l) =
  if aloneB h.k a.n a.b.length l.length = false then (0,15)
  else if h.k = 0 then (if h.s < 8 ∧ (2 : Int) ^ (8 * h.s.toNat) ≤ a.n then (0,3) else (h.s,0))
  else if h.k = 1 then (wrap64 (h.s + (a.b.length : Int)),mayR a.b.length h.lo h.hi h.st)
  else if h.k = 4 then ((a.b.length : Int),mayR a.b.length h.lo h.hi 1)
  else if h.k = 5 then (h.lo,mayR a.b.length h.lo h.lo 1)
  else if h.k = 3 ∧ l.length ≠ P.length then (0,15)
  else fitL (.mk h P) 0 0 l := by
 rw [fitR]
 rfl
theorem fitL_nil (h : FH) (P : List Fm) (q : Int) (j : Nat) : fitL (.mk h P) q j [] = if h.k = 3 then (q,0) else (wrap64 (h.s + q),mayR q h.lo h.hi h.st) := by
 rw [fitL]
 rfl
theorem fitL_drop (h : FH) (P : List Fm) (q : Int) (l : List Vt) (j : Nat) (hj : j < l.length) : fitL (.mk h P) q j (l.drop j) =
  if (fitR (P.getD (j % P.length) nilF) l[j]).2 = 0 then fitL (.mk h P) (wrap64 (q + (fitR (P.getD (j % P.length) nilF) l[j]).1)) (j + 1) (l.drop (j + 1))
  else (0,(fitR (P.getD (j % P.length) nilF) l[j]).2) := by
 rw [List.drop_eq_getElem_cons hj,fitL]
 rfl
/-- The size, the error, of any form. -/
def sizeR (f : Fm) (x : Vt) : Int × Int :=
 if (if deepB 8 f then 14 else checkR f) = 0 then (if (fitR f x).2 = 0 then ((fitR f x).1,0) else (0,(fitR f x).2)) else (0,if deepB 8 f then 14 else checkR f)
end Go.Proofs.Ytfcghajnnllmhaa

namespace Go.Proofs.Ytfcghajnnllmhaa
open Go.RowKit

def bI (l : List UInt8) : List Int := l.map fun b => (b.toNat : Int)
def iB (l : List Int) : List UInt8 := l.map fun x => UInt8.ofNat x.toNat
def okB (l : List Int) : Bool := l.all fun x => decide (0 ≤ x) && decide (x < 256)
theorem bI_len (l : List UInt8) : (bI l).length = l.length := by simp [bI]
theorem iB_len (l : List Int) : (iB l).length = l.length := by simp [iB]
theorem iB_bI (l : List UInt8) : iB (bI l) = l := by
 unfold iB bI
 rw [List.map_map]
 conv => rhs;rw [← List.map_id l]
 exact List.map_congr_left (fun b _ => by simp)
theorem okB_bI (l : List UInt8) : okB (bI l) = true := by
 unfold okB bI
 simp only [List.all_map,List.all_eq_true,Function.comp,Bool.and_eq_true,decide_eq_true_eq]
 intro b _
 have := b.toNat_lt
 omega
theorem okB_mem {l : List Int} (h : okB l = true) {x : Int} (hx : x ∈ l) : 0 ≤ x ∧ x < 256 := by
 have := List.all_eq_true.1 h x hx
 simpa using this
theorem bI_iB {l : List Int} (h : okB l = true) : bI (iB l) = l := by
 unfold iB bI
 rw [List.map_map]
 conv => rhs;rw [← List.map_id l]
 refine List.map_congr_left (fun x hx => ?_)
 obtain ⟨h1,h2⟩ := okB_mem h hx
 simp only [Function.comp]
 rw [UInt8.toNat_ofNat_of_lt' (by show x.toNat < 256;omega)]
 simp
 omega
section
open YtfcghajnnllmhaaW.PrintWords
theorem br_c {w : World} {ok : Nat → Prop} {A : Option Addr} {n c : Nat} {l : List UInt8} (h : BR w ok (.slice A n c) l) (hl : l.length ≤ 140737488355328) : n = (bI l).length ∧ (bI l).length ≤ c ∧ (Kd.int .u8).C w A (bI l).length (bI l) := by
 obtain ⟨A',c',e,h1,h2⟩ := h
 injection e with e1 e2 e3
 subst e1 e2 e3
 refine ⟨(bI_len l).symm,by rw [bI_len];exact h1,rfl,by rw [bI_len];omega,fun h0 => ?_⟩
 rw [bI_len] at h0
 obtain ⟨ad,e,hsp,_,hc⟩ := h2.2 h0
 refine ⟨ad,e,fun j p hj => ⟨[.int .u8 p],rfl,rfl,fun i u hu => ?_⟩⟩
 obtain rfl : i = 0 := by
  have := (List.getElem?_eq_some_iff.1 hu).1
  simpa using this
 obtain rfl : .int .u8 p = u := by simpa using hu
 refine hc _ _ ?_
 show (bc l)[j * 1 + 0]? = _
 rw [Nat.mul_one,Nat.add_zero]
 rw [bI,List.getElem?_map] at hj
 obtain ⟨b,hb,rfl⟩ := Option.map_eq_some_iff.1 hj
 rw [bc,List.getElem?_map,hb]
 rfl
theorem c_br {w : World} {A : Option Addr} {n c : Nat} {xs : List Int} (h : (Kd.int .u8).C w A n xs) (hb : okB xs = true) (hc : xs.length ≤ c) : BR w (· < w.heap.size) (.slice A xs.length c) (iB xs) := by
 obtain ⟨h1,_,h2⟩ := h
 refine ⟨A,c,by rw [iB_len],by rw [iB_len];exact hc,by rw [bc_length];omega,fun h0 => ?_⟩
 rw [iB_len] at h0
 obtain ⟨ad,e,hcell⟩ := h2 (by omega)
 have each : ∀ j (hj : j < xs.length),w.cell? (ad.add j) = some (.int .u8 xs[j]) := by
  intro j hj
  obtain ⟨cs,_,hK,hx⟩ := hcell j _ (List.getElem?_eq_getElem hj)
  have hK' : cs = [.int .u8 xs[j]] := hK
  subst hK'
  have := hx 0 _ rfl
  have e1 : (Kd.int .u8).sz = 1 := rfl
  rw [e1,Nat.mul_one,Nat.add_zero] at this
  exact this
 have hc0 := each 0 h0
 have hbk := cell_lt hc0
 rw [block_add] at hbk
 have hsp := World.cell?_spot hc0
 refine ⟨ad,e,by simpa [Addr.add] using hsp,hbk,fun j u hu => ?_⟩
 have hjl : j < xs.length := by
  have := (List.getElem?_eq_some_iff.1 hu).1
  rw [bc_length,iB_len] at this
  exact this
 rw [each j hjl]
 have hx := okB_mem hb (List.getElem_mem hjl)
 have e3 : (bc (iB xs))[j]? = some (.int .u8 xs[j]) := by
  have := bI_iB hb
  rw [bc,List.getElem?_map]
  have e4 : (iB xs)[j]? = some (UInt8.ofNat xs[j].toNat) := by
   rw [iB,List.getElem?_map,List.getElem?_eq_getElem hjl]
   rfl
  rw [e4]
  simp only [Option.map_some]
  rw [UInt8.toNat_ofNat_of_lt' (by show xs[j].toNat < 256;omega)]
  congr 2
  omega
 rw [e3] at hu
 injection hu with hu
 rw [hu]
end

abbrev SV := QP.S46
abbrev kV : YtfcghajnnllmhaaW.PrintWords.Kd SV := QP.k46
mutual
def toV : SV → Vt
 | ⟨n,b,l⟩ => .mk ⟨n,iB b⟩ (toVs l)
def toVs : List SV → List Vt
 | [] => []
 | x :: l => toV x :: toVs l
end
mutual
def ofV : Vt → SV
 | .mk a l => ⟨a.n,bI a.b,ofVs l⟩
def ofVs : List Vt → List SV
 | [] => []
 | x :: l => ofV x :: ofVs l
end
theorem toVs_map (l : List SV) : toVs l = l.map toV := by
 induction l with
 | nil => rw [toVs];rfl
 | cons x l ih => rw [toVs,ih];rfl
theorem ofVs_map (l : List Vt) : ofVs l = l.map ofV := by
 induction l with
 | nil => rw [ofVs];rfl
 | cons x l ih => rw [ofVs,ih];rfl
theorem toV_mk (n : Int) (b : List Int) (l : List SV) : toV ⟨n,b,l⟩ = .mk ⟨n,iB b⟩ (l.map toV) := by rw [toV,toVs_map]
theorem ofV_mk (a : VH) (l : List Vt) : ofV (.mk a l) = ⟨a.n,bI a.b,l.map ofV⟩ := by rw [ofV,ofVs_map]
theorem rd_ofV (l : List Vt) (j : Nat) (h : j < l.length) : QP.rd_T46 (l.map ofV) (j : Int) = ofV l[j] := by
 simp [QP.rd_T46,h]
theorem ofV_f0 (x : Vt) : (ofV x).f0 = x.a.n := by cases x;rw [ofV_mk];rfl
theorem ofV_f1 (x : Vt) : (ofV x).f1 = bI x.a.b := by cases x;rw [ofV_mk];rfl
theorem ofV_f2 (x : Vt) : (ofV x).f2 = x.l.map ofV := by cases x;rw [ofV_mk];rfl
mutual
/-- Numbers of 64 bits, bytes that are bytes, and lengths that there may be. -/
def wfSV : SV → Bool
 | ⟨n,b,l⟩ => (decide (0 ≤ n) && decide (n < 18446744073709551616)) && (okB b && (decide (b.length ≤ 140737488355328) && (decide (l.length ≤ 140737488355328) && wfSVs l)))
def wfSVs : List SV → Bool
 | [] => true
 | x :: l => wfSV x && wfSVs l
end
theorem wfSVs_iff (l : List SV) : wfSVs l = true ↔ ∀ x ∈ l,wfSV x = true := by
 induction l with
 | nil => rw [wfSVs];simp
 | cons x l ih => rw [wfSVs];simp [ih]
theorem wfSV_mk (n : Int) (b : List Int) (l : List SV) : wfSV ⟨n,b,l⟩ = true ↔ u64B n ∧ okB b = true ∧ b.length ≤ 140737488355328 ∧ l.length ≤ 140737488355328 ∧ ∀ x ∈ l,wfSV x = true := by
 rw [wfSV]
 simp only [Bool.and_eq_true,decide_eq_true_eq,wfSVs_iff,u64B]
def wfV (x : Vt) : Bool := wfSV (ofV x)
theorem wfV_mk (a : VH) (l : List Vt) : wfV (.mk a l) = true ↔ u64B a.n ∧ a.b.length ≤ 140737488355328 ∧ l.length ≤ 140737488355328 ∧ ∀ x ∈ l,wfV x = true := by
 unfold wfV
 rw [ofV_mk,wfSV_mk,bI_len,List.length_map]
 simp only [okB_bI,true_and,List.mem_map,forall_exists_index,and_imp,forall_apply_eq_imp_iff₂]
section
open YtfcghajnnllmhaaW.PrintWords
theorem tr_wfV {w : World} {ok : Nat → Prop} (x : Vt) : ∀ cs,TR VHd 3 w ok x cs → wfV x = true := by
 induction x using RT.induct with
 | h a l ih =>
 intro cs h
 obtain ⟨hd,A,c,_,_,⟨_,_,ho,_,hb⟩,_,h2,h3⟩ := (TR_def _ _ _ _ _ _).1 h
 refine (wfV_mk _ _).2 ⟨ho,hb,h2,fun x hx => ?_⟩
 obtain ⟨i,hi,rfl⟩ := List.mem_iff_getElem.1 hx
 obtain ⟨b,off,cs',_,_,ht,_⟩ := h3.at_ hi
 exact ih _ hx cs' ht
theorem tl_cV {w : World} {ok : Nat → Prop} {l : List Vt} {A : Option Addr} (hl : l.length ≤ 140737488355328) (h : TL VHd 3 w ok l A) (hk : ∀ x ∈ l,∀ cs,TR VHd 3 w ok x cs → kV.K w (ofV x) cs) : kV.C w A (l.map ofV).length (l.map ofV) := by
 refine ⟨rfl,by rw [List.length_map];omega,fun h0 => ?_⟩
 rw [List.length_map] at h0
 obtain ⟨b,off,e,_,ht⟩ := h h0
 refine ⟨_,e,fun j p hj => ?_⟩
 rw [List.getElem?_map] at hj
 obtain ⟨x,hx,rfl⟩ := Option.map_eq_some_iff.1 hj
 obtain ⟨hjl,rfl⟩ := List.getElem?_eq_some_iff.1 hx
 obtain ⟨cs,h1,h2⟩ := ht.at_ hjl
 refine ⟨cs,?_,hk _ (List.getElem_mem hjl) cs h1,fun i u hu => ?_⟩
 ·obtain ⟨hd,A',c',e',hl',_⟩ := (TR_def _ _ _ _ _ _).1 h1
  rw [e',List.length_append]
  exact hl'
 ·rw [add_spot]
  have := h2 i u hu
  rwa [Nat.add_assoc] at this
theorem tr_kV {w : World} {ok : Nat → Prop} (x : Vt) : ∀ cs,TR VHd 3 w ok x cs → kV.K w (ofV x) cs := by
 induction x using RT.induct with
 | h a l ih =>
 intro cs h
 obtain ⟨hd,A,c,e,_,⟨bv,hh,_,hb,hbl⟩,h1,h2,h3⟩ := (TR_def _ _ _ _ _ _).1 h
 subst hh
 subst e
 rw [ofV_mk]
 have hc := tl_cV h2 h3 ih
 obtain ⟨A1,c1,e1,_,_⟩ := id hb
 subst e1
 obtain ⟨g1,g2,g3⟩ := br_c hb hbl
 have := QP.k46_mk w ⟨a.n,bI a.b,l.map ofV⟩ (A1 := A1) (c1 := c1) g2 g3 (A2 := A) (c2 := c) (by simpa using (show l.length ≤ c from h1)) hc
 rw [List.length_map,bI_len] at this
 exact this
/-- Values in a slice, for the printed texts. -/
theorem VsR.c {w : World} {ok : Nat → Prop} {A : Option Addr} {n c : Nat} {l : List Vt} (h : VsR w ok (.slice A n c) l) : n = (l.map ofV).length ∧ (l.map ofV).length ≤ c ∧ kV.C w A (l.map ofV).length (l.map ofV) := by
 obtain ⟨A',c',e,h1,h2,h3⟩ := h
 injection e with e1 e2 e3
 subst e1 e2 e3
 exact ⟨by simp,by simpa using h1,tl_cV h2 h3 (fun x _ => tr_kV x)⟩
theorem VsR.wf {w : World} {ok : Nat → Prop} {v : Value} {l : List Vt} (h : VsR w ok v l) : l.length ≤ 140737488355328 ∧ ∀ x ∈ l,wfV x = true := by
 obtain ⟨A',c',e,h1,h2,h3⟩ := h
 refine ⟨h2,fun x hx => ?_⟩
 obtain ⟨i,hi,rfl⟩ := List.mem_iff_getElem.1 hx
 obtain ⟨b,off,cs',_,_,ht,_⟩ := h3.at_ hi
 exact tr_wfV _ cs' ht
theorem c_tlV {w : World} {l : List SV} {A : Option Addr} {n : Nat} (h : kV.C w A n l) (hk : ∀ x ∈ l,∀ cs,kV.K w x cs → TR VHd 3 w (· < w.heap.size) (toV x) cs) : TL VHd 3 w (· < w.heap.size) (l.map toV) A := by
 intro h0
 rw [List.length_map] at h0
 obtain ⟨hl,_,hc⟩ := h
 obtain ⟨ad,e,hcell⟩ := hc (by omega)
 have each : ∀ i (hi : i < l.length),∃ cs,TR VHd 3 w (· < w.heap.size) (toV l[i]) cs ∧ ∀ j u,cs[j]? = some u → w.cell? (ad.add (i * 3 + j)) = some u := by
  intro i hi
  obtain ⟨cs,_,h2,h3⟩ := hcell i _ (List.getElem?_eq_getElem hi)
  exact ⟨cs,hk _ (List.getElem_mem hi) cs h2,h3⟩
 obtain ⟨cs0,t0,c0⟩ := each 0 h0
 obtain ⟨hd,A',c',e',hl',_⟩ := (TR_def _ _ _ _ _ _).1 t0
 have hlen : 0 < cs0.length := by rw [e'];simp
 have hc0 := c0 0 _ (List.getElem?_eq_getElem hlen)
 have hsp := World.cell?_spot hc0
 have hbk := cell_lt hc0
 rw [block_add] at hbk
 obtain ⟨b,off,spot⟩ := ad
 obtain rfl : spot = none := by simpa [Addr.add] using hsp
 refine ⟨b,off,e,hbk,TRs.of (fun i hi => ?_)⟩
 rw [List.length_map] at hi
 obtain ⟨cs,h1,h2⟩ := each i hi
 refine ⟨cs,by simpa using h1,fun j u hu => ?_⟩
 have := h2 j u hu
 rw [add_spot] at this
 rwa [Nat.add_assoc]
theorem k_trV {w : World} : ∀ (f : Vt) (x : SV),toV x = f → wfSV x = true → ∀ cs,kV.K w x cs → TR VHd 3 w (· < w.heap.size) f cs := by
 intro f
 induction f using RT.induct with
 | h a l ih =>
 intro x hx hw cs hk
 obtain ⟨x0,xb,xl⟩ := x
 rw [toV_mk] at hx
 injection hx with ha hl
 subst ha hl
 obtain ⟨ho,hb,hbl,hl,hws⟩ := (wfSV_mk _ _ _).1 hw
 obtain ⟨A1,c1,A2,c2,rfl,g1,g2,h1,h2⟩ := QP.k46_open hk
 have ht := c_tlV h2 (fun y hy cs' hk' => ih _ (List.mem_map_of_mem hy) y rfl (hws _ hy) cs' hk')
 have hbr := c_br g2 hb g1
 refine (TR_def _ _ _ _ _ _).2 ⟨[.int .u64 x0,.slice A1 xb.length c1],A2,c2,?_,rfl,⟨_,rfl,ho,hbr,by rw [show (RT.a (RT.mk (⟨x0,iB xb⟩ : VH) (xl.map toV))).b = iB xb from rfl,iB_len];exact hbl⟩,?_,?_,ht⟩
 ·simp [RT.l]
 ·simpa [RT.l] using h1
 ·simpa [RT.l] using hl
theorem c_VsR {w : World} {l : List SV} {A : Option Addr} {c : Nat} (h : kV.C w A l.length l) (hc : l.length ≤ c) (hw : ∀ x ∈ l,wfSV x = true) (hl : l.length ≤ 140737488355328) : VsR w (· < w.heap.size) (.slice A l.length c) (l.map toV) :=
 ⟨A,c,by simp,by simpa using hc,by simpa using hl,c_tlV h (fun x hx cs hk => k_trV _ x rfl (hw _ hx) cs hk)⟩
/-- A value that is handed over. -/
theorem c_VtR {w : World} {a0 : Int} {l1 : List Int} {l2 : List SV} {A1 A2 : Option Addr} {c1 c2 : Nat} (h1 : (Kd.int .u8).C w A1 l1.length l1) (hc1 : l1.length ≤ c1) (h2 : kV.C w A2 l2.length l2) (hc2 : l2.length ≤ c2) (hw : wfSV ⟨a0,l1,l2⟩ = true) :
  VtR w (· < w.heap.size) (.agg #[.int .u64 a0,.slice A1 l1.length c1,.slice A2 l2.length c2]) (toV ⟨a0,l1,l2⟩) := by
 rw [toV_mk]
 obtain ⟨ho,hb,hbl,hl,hws⟩ := (wfSV_mk _ _ _).1 hw
 exact ⟨_,_,rfl,ho,c_br h1 hb hc1,by rw [show (RT.a (RT.mk (⟨a0,iB l1⟩ : VH) (l2.map toV))).b = iB l1 from rfl,iB_len];exact hbl,c_VsR h2 hc2 hws hl⟩
end
end Go.Proofs.Ytfcghajnnllmhaa

namespace Go.Proofs.Ytfcghajnnllmhaa.QP
open Go.RowKit Go.Proofs.YtfcghajnnllmhaaW.PrintWords Go.Proofs.YtfcghajnnllmhaaW.PrintLast Go.Proofs.YtfcghajnnllmhaaW.PrintMore
attribute [local go_sem] max2_int min2_int max_two min_two max_three min_three max_four min_four   -- for this text's walks alone
set_option linter.unusedVariables false
set_option linter.unusedSimpArgs false

/-! ### value_alone: function 70 -/
def value_alone.f (a0 : Int) (a1_0 : Int) (l1_1 : List Int) (l1_2 : List (S46)) : Option (Bool) := if okI a0 = true then some (aloneB a0 a1_0 l1_1.length l1_2.length) else none
set_option maxHeartbeats 8000000 in
set_option maxRecDepth 100000 in
theorem value_alone.calls (a0 : Int) (a1_0 : Int) (A1_1 : Option Addr) (c1_1 : Nat) (l1_1 : List Int) (A1_2 : Option Addr) (c1_2 : Nat) (l1_2 : List (S46)) (r : Bool) (w : World)  (hr1_1 : Kd.C (Kd.int .u8) w A1_1 l1_1.length l1_1) (hc1_1 : l1_1.length ≤ c1_1) (hr1_2 : Kd.C k46 w A1_2 l1_2.length l1_2) (hc1_2 : l1_2.length ≤ c1_2) (h : value_alone.f a0 a1_0 l1_1 l1_2 = some r) :
  Calls Try.prog 70 #[.int .i64 a0,.agg #[.int .u64 a1_0,.slice A1_1 l1_1.length c1_1,.slice A1_2 l1_2.length c1_2]] w fun e w' => e = .returned (.bool r) ∧ Below w.heap.size w w' := by
 unfold value_alone.f at h
 split at h
 ·rename_i hw
  injection h with h
  subst h
  exact (alone_any a0 a1_0 (okI_wf hw) A1_1 A1_2 l1_1.length l1_2.length c1_1 c1_2 w).mono fun e w' h => ⟨h.1,h.2.below⟩
 ·cases h

end Go.Proofs.Ytfcghajnnllmhaa.QP

namespace Go.Proofs.Ytfcghajnnllmhaa.QP
open Go.RowKit Go.Proofs.YtfcghajnnllmhaaW.PrintWords Go.Proofs.YtfcghajnnllmhaaW.PrintLast Go.Proofs.YtfcghajnnllmhaaW.PrintMore
attribute [local go_sem] max2_int min2_int max_two min_two max_three min_three max_four min_four   -- for this text's walks alone
set_option linter.unusedVariables false
set_option linter.unusedSimpArgs false

/-! ### value_may: function 71 -/
def value_may.f (a0 : Int) (a1 : Int) (a2 : Int) (a3 : Int) : Option (Int) := if a0 < a1 then (some 5) else (if a0 > a2 then (some 5) else (if a3 = 0 then (none) else (if (Int.tmod a0 a3) = 0 then (some 0) else (some 5))))
set_option maxHeartbeats 8000000 in
set_option maxRecDepth 100000 in
theorem value_may.calls (a0 : Int) (a1 : Int) (a2 : Int) (a3 : Int) (r : Int) (w : World) (h : value_may.f a0 a1 a2 a3 = some r) :
  Calls Try.prog 71 #[.int .i64 a0,.int .i64 a1,.int .i64 a2,.int .i64 a3] w fun e w' => e = .returned (.int .i64 r) ∧ Drawn0 w w' := by
 have H : (if a0 < a1 then (some 5) else (if a0 > a2 then (some 5) else (if a3 = 0 then (none) else (if (Int.tmod a0 a3) = 0 then (some 0) else (some 5))))) = some r := h
 clear h
 by_cases c5 : a0 < a1
 ·rw [if_pos c5] at H
  have c5b0 : decide (a0 < a1) = true := decide_eq_true c5
  clear c5
  obtain rfl := Option.some.inj H
  go_enter Try.func71,Try.ntmps71
  go_wp2
  go_ret
  exact ⟨by first | rfl | (simp;done) | (simp [*];done),by repeat (first | exact Drawn0.refl _ | apply Drawn0.step)⟩
 ·rw [if_neg c5] at H
  have c5b0 : decide (a0 < a1) = false := decide_eq_false c5
  clear c5
  by_cases c6 : a0 > a2
  ·rw [if_pos c6] at H
   have c6b0 : decide (a2 < a0) = true := decide_eq_true c6
   clear c6
   obtain rfl := Option.some.inj H
   go_enter Try.func71,Try.ntmps71
   go_wp2
   go_ret
   exact ⟨by first | rfl | (simp;done) | (simp [*];done),by repeat (first | exact Drawn0.refl _ | apply Drawn0.step)⟩
  ·rw [if_neg c6] at H
   have c6b0 : decide (a2 < a0) = false := decide_eq_false c6
   clear c6
   by_cases c7 : a3 = 0
   ·rw [if_pos c7] at H
    exact absurd H (by simp)
   ·rw [if_neg c7] at H
    have c7b0 : (a3 == 0) = false := beq_eq_false_iff_ne.mpr c7
    have c7b1 : (a3 != 0) = true := bne_iff_ne.mpr c7
    by_cases c8 : (Int.tmod a0 a3) = 0
    ·rw [if_pos c8] at H
     have c8b0 : ((Int.tmod a0 a3) == 0) = true := beq_iff_eq.mpr c8
     have c8b1 : ((Int.tmod a0 a3) != 0) = false := bne_eq_false_iff_eq.mpr c8
     clear c8
     obtain rfl := Option.some.inj H
     go_enter Try.func71,Try.ntmps71
     go_wp2
     go_ret
     exact ⟨by first | rfl | (simp;done) | (simp [*];done),by repeat (first | exact Drawn0.refl _ | apply Drawn0.step)⟩
    ·rw [if_neg c8] at H
     have c8b0 : ((Int.tmod a0 a3) == 0) = false := beq_eq_false_iff_ne.mpr c8
     have c8b1 : ((Int.tmod a0 a3) != 0) = true := bne_iff_ne.mpr c8
     obtain rfl := Option.some.inj H
     go_enter Try.func71,Try.ntmps71
     go_wp2
     go_ret
     exact ⟨by first | rfl | (simp;done) | (simp [*];done),by repeat (first | exact Drawn0.refl _ | apply Drawn0.step)⟩

end Go.Proofs.Ytfcghajnnllmhaa.QP
