/-
  The law DerSames: for every input it returns true, and its arguments read behind the call as before it. No condition.
-/
import Derived.Test.YtgjbfgkcbehjnaaDoorRows
import Derived.Test.YtgjbfgkcbehjnaaDoorCards
import Derived.Test.YtgjbfgkcbehjnaaDoorTie
import Derived.SevenTiedAt
import Derived.ProofKit
import Derived.LaidMore
import Derived.Stop.Joined
import Derived.Test.YtgjbfgkcbehjnaaDoorBX1
import Derived.Test.YtgjbfgkcbehjnaaDoorBX3

set_option linter.unusedVariables false
set_option linter.unusedSimpArgs false
namespace Go.Proofs.YtgjbfgkcbehjnaaDoor
open Go.RowKit

theorem tlN_two {W : World} {ok : Nat → Prop} {g : Nat} {t : TypeId} {cs : Array Value} (hb : Blk W g t cs) (hok : ok g) (x y : Nd) (l k : List Value) (hx : TR NHd 5 W ok x l) (hy : TR NHd 5 W ok y k) (hm : l.length = 5) (he : cs.toList = l ++ k) : TL NHd 5 W ok [x, y] (some ⟨g, 0, none⟩) := by
  refine fun _ => ⟨g, 0, rfl, hok, ?_⟩
  rw [TRs, TRs, TRs]
  refine ⟨⟨_, hx, fun j u hu => ?_⟩, ⟨_, hy, fun j u hu => ?_⟩, trivial⟩
  · rw [hb.cell, Nat.zero_add, ← Array.getElem?_toList, he]
    rw [List.getElem?_append_left (by rcases Nat.lt_or_ge j l.length with h | h; exact h; rw [List.getElem?_eq_none h] at hu; cases hu)]
    exact hu
  · rw [hb.cell, Nat.zero_add, ← Array.getElem?_toList, he, List.getElem?_append_right (by omega), show 5 + j - l.length = j from by omega]
    exact hu
theorem NdR.tr5 {w : World} {ok : Nat → Prop} {c t : Int} {m : Bool} {B : List UInt8} {l : List Nd} {A1 A2 : Option Addr} {n1 c1 n2 c2 : Nat} (h : NdR w ok (.agg #[.int .i64 c, .int .i64 t, .bool m, .slice A1 n1 c1, .slice A2 n2 c2]) (.mk ⟨c, t, m, B⟩ l)) : TR NHd 5 w (fun _ => True) (.mk ⟨c, t, m, B⟩ l) [.int .i64 c, .int .i64 t, .bool m, .slice A1 n1 c1, .slice A2 n2 c2] := by
  obtain ⟨bv, sv, e, h1⟩ := (h.mono (ok' := fun _ => True) (fun _ _ => trivial)).tr
  simp only [RT.a, Value.agg.injEq, Array.mk.injEq, List.cons.injEq, and_true, true_and] at e
  obtain ⟨rfl, rfl⟩ := e
  exact h1
theorem NsR.two {w : World} {g : Nat} {t : TypeId} {vs us : List Value} {x y : Nd} (hb : Blk w g t (vs ++ us).toArray) (hx : TR NHd 5 w (fun _ => True) x vs) (hy : TR NHd 5 w (fun _ => True) y us) (hm : vs.length = 5) : NsR w (fun _ => True) (.slice (some ⟨g, 0, none⟩) 2 2) [x, y] :=
  ⟨_, _, rfl, Nat.le_refl _, by simp, tlN_two hb trivial x y vs us hx hy hm (by simp)⟩
set_option maxRecDepth 100000 in
set_option maxHeartbeats 3200000 in
theorem dsames_walk (w : World) (tab : TabN w) (v : Value) (x : Nd) (hv : NdR w (· < w.heap.size) v x) (u : Value) (y : Nd) (hu : NdR w (· < w.heap.size) u y) :
    Calls Tryd.prog 6 #[v, u] w fun e w' => e = .returned (.bool true) ∧ Below w.heap.size w w' := by
  refine Calls.mono (R := fun e w' => e = .returned (.bool true) ∧ Kp (fun _ => False) w w') ?_ fun _ _ ⟨h1, h2⟩ => ⟨h1, h2.below⟩
  obtain ⟨⟨c, t, m, B⟩, l⟩ := x
  obtain ⟨⟨c', t', m', B'⟩, l'⟩ := y
  obtain ⟨A1, c1, A2, c2, rfl, _⟩ := hv.parts
  obtain ⟨A3, c3, A4, c4, rfl, _⟩ := hu.parts
  have ka : Kp (fun _ => False) w ((w.alloc (.cells #[.int .i64 c, .int .i64 t, .bool m, .slice A1 B.length c1, .slice A2 l.length c2] 25)).alloc (.cells #[.int .i64 c', .int .i64 t', .bool m', .slice A3 B'.length c3, .slice A4 l'.length c4] 25)) := ((Kp.refl _ _).alloc _).alloc _
  have hq1 := (Blk.new w 25 #[.int .i64 c, .int .i64 t, .bool m, .slice A1 B.length c1, .slice A2 l.length c2]).alloc (.cells #[.int .i64 c', .int .i64 t', .bool m', .slice A3 B'.length c3, .slice A4 l'.length c4] 25)
  have hq2 := Blk.new (w.alloc (.cells #[.int .i64 c, .int .i64 t, .bool m, .slice A1 B.length c1, .slice A2 l.length c2] 25)) 25 #[.int .i64 c', .int .i64 t', .bool m', .slice A3 B'.length c3, .slice A4 l'.length c4]
  rw [World.size_alloc] at hq2
  have HT := Lib.hid (fun W (hk : Kp (fun _ => False) w W) => alive11 W (tab.kp0 hk))
  have HV := Lib.hid (fun W (hk : Kp (fun _ => False) w W) => hv.kp hk (fun _ _ h => h))
  have HU := Lib.hid (fun W (hk : Kp (fun _ => False) w W) => hu.kp hk (fun _ _ h => h))
  have HKA := Lib.hid ka
  have HQ1 := Lib.hid hq1
  have HQ2 := Lib.hid hq2
  have HGR := Lib.hid (fun W (hk : Kp (fun _ => False) w W) => great_anyN (fun _ => True) (.slice (some ⟨W.heap.size, 0, none⟩) 2 2) [.mk ⟨c, t, m, B⟩ l, .mk ⟨c', t', m', B'⟩ l'] (W.alloc (.cells #[.int .i64 c, .int .i64 t, .bool m, .slice A1 B.length c1, .slice A2 l.length c2, .int .i64 c', .int .i64 t', .bool m', .slice A3 B'.length c3, .slice A4 l'.length c4] 25))
    (NsR.two (vs := [.int .i64 c, .int .i64 t, .bool m, .slice A1 B.length c1, .slice A2 l.length c2]) (us := [.int .i64 c', .int .i64 t', .bool m', .slice A3 B'.length c3, .slice A4 l'.length c4]) (Blk.new W 25 _) (TR.kp_ NHd_kp ((Kp.refl (fun _ => False) W).alloc _) (fun _ _ h => h) (fun _ h => h) _ _ (hv.kp hk (fun _ _ h => h)).tr5) (TR.kp_ NHd_kp ((Kp.refl (fun _ => False) W).alloc _) (fun _ _ h => h) (fun _ h => h) _ _ (hu.kp hk (fun _ _ h => h)).tr5) rfl))
  generalize greatN [.mk ⟨c, t, m, B⟩ l, .mk ⟨c', t', m', B'⟩ l'] = gr at HGR
  clear ka hq1 hq2 tab hv hu
  go_enter Tryd.func6, Tryd.ntmps6
  go_upto_region 1 with fail
  generalize (w.alloc (.cells #[.int .i64 c, .int .i64 t, .bool m, .slice A1 B.length c1, .slice A2 l.length c2] 25)).alloc (.cells #[.int .i64 c', .int .i64 t', .bool m', .slice A3 B'.length c3, .slice A4 l'.length c4] 25) = W0 at HKA HQ1 HQ2 ⊢
  have HA0 := Lib.hid (HT.out _ HKA.out)
  go_wp2_with fail
  refine HA0.out.mono ?_
  rintro e w1 ⟨rfl, hk1⟩
  have HK1 := Lib.hid (HKA.out.then_ hk1 (fun _ h => h.elim))
  have HQ11 := Lib.hid (HQ1.out.kp hk1 (fun h => h))
  have HQ21 := Lib.hid (HQ2.out.kp hk1 (fun h => h))
  have HG1 := Lib.hid (HGR.out _ HK1.out)
  clear hk1 HA0 HKA HQ1 HQ2 HGR
  have p0 := HQ11.out.cell 0
  have p1 := HQ11.out.cell 1
  have p2 := HQ11.out.cell 2
  have p3 := HQ11.out.cell 3
  have p4 := HQ11.out.cell 4
  simp at p0 p1 p2 p3 p4
  have q0 := HQ21.out.cell 0
  have q1 := HQ21.out.cell 1
  have q2 := HQ21.out.cell 2
  have q3 := HQ21.out.cell 3
  have q4 := HQ21.out.cell 4
  simp at q0 q1 q2 q3 q4
  go_wp2_with fail
  refine HG1.out.mono ?_
  rintro e w2 ⟨rfl, hk2⟩
  have k2 : Kp (fun _ => False) w1 w2 := ((Kp.refl (fun _ => False) w1).alloc _).then_ hk2 (fun _ h => h.elim)
  have HK2 := Lib.hid (HK1.out.then_ k2 (fun _ h => h.elim))
  have HQ12 := Lib.hid (HQ11.out.kp k2 (fun h => h))
  have HQ22 := Lib.hid (HQ21.out.kp k2 (fun h => h))
  clear k2 hk2 HG1 HQ11 HQ21 HK1 p0 q0 p1 q1 p2 q2 p3 q3 p4 q4
  cases gr with
  | true =>
    have HA2 := Lib.hid (HT.out _ HK2.out)
    simp only [if_true]
    go_wp2_with fail
    refine HA2.out.mono ?_
    rintro e w3 ⟨rfl, hk3⟩
    have HK3 := Lib.hid (HK2.out.then_ hk3 (fun _ h => h.elim))
    clear hk3
    go_wp2_with fail
    go_ret
    exact ⟨rfl, HK3.out⟩
  | false =>
    have HCE := Lib.hid (fun W (hk : Kp (fun _ => False) w2 W) => show (fun w' : World => w'.cell? ⟨w.heap.size, 0, none⟩ = some (.int .i64 c) ∧ w'.cell? ⟨w.heap.size, 1, none⟩ = some (.int .i64 t) ∧ w'.cell? ⟨w.heap.size, 2, none⟩ = some (.bool m) ∧ w'.cell? ⟨w.heap.size, 3, none⟩ = some (.slice A1 B.length c1) ∧ w'.cell? ⟨w.heap.size, 4, none⟩ = some (.slice A2 l.length c2) ∧ w'.cell? ⟨w.heap.size + 1, 0, none⟩ = some (.int .i64 c') ∧ w'.cell? ⟨w.heap.size + 1, 1, none⟩ = some (.int .i64 t') ∧ w'.cell? ⟨w.heap.size + 1, 2, none⟩ = some (.bool m') ∧ w'.cell? ⟨w.heap.size + 1, 3, none⟩ = some (.slice A3 B'.length c3) ∧ w'.cell? ⟨w.heap.size + 1, 4, none⟩ = some (.slice A4 l'.length c4)) W from by
      have h1 := HQ12.out.kp hk (fun h => h)
      have h2 := HQ22.out.kp hk (fun h => h)
      exact ⟨h1.cell 0, h1.cell 1, h1.cell 2, h1.cell 3, h1.cell 4, h2.cell 0, h2.cell 1, h2.cell 2, h2.cell 3, h2.cell 4⟩)
    have HKZ := Lib.hid (Kp.refl (fun _ => False) w2)
    obtain ⟨r, hr⟩ : ∃ r, sameN (.mk ⟨c, t, m, B⟩ l) (.mk ⟨c', t', m', B'⟩ l') = r := ⟨_, rfl⟩
    have HSM := Lib.hid (show ∀ (v u : Value) (d : Bool), ((v = .agg #[.int .i64 c, .int .i64 t, .bool m, .slice A1 B.length c1, .slice A2 l.length c2] ∧ u = .agg #[.int .i64 c', .int .i64 t', .bool m', .slice A3 B'.length c3, .slice A4 l'.length c4] ∧ d = r) ∨ (v = .agg #[.int .i64 c', .int .i64 t', .bool m', .slice A3 B'.length c3, .slice A4 l'.length c4] ∧ u = .agg #[.int .i64 c, .int .i64 t, .bool m, .slice A1 B.length c1, .slice A2 l.length c2] ∧ d = r) ∨ (v = .agg #[.int .i64 c, .int .i64 t, .bool m, .slice A1 B.length c1, .slice A2 l.length c2] ∧ u = .agg #[.int .i64 c, .int .i64 t, .bool m, .slice A1 B.length c1, .slice A2 l.length c2] ∧ d = true)) → ∀ W, Kp (fun _ => False) w2 W →
        Calls Tryd.prog 26 #[v, u] W fun e w' => e = .returned (.bool d) ∧ Kp (fun _ => False) W w' from by
      intro v u d h W hk
      have hV := HV.out W (HK2.out.then_ hk (fun _ h => h.elim))
      have hU := HU.out W (HK2.out.then_ hk (fun _ h => h.elim))
      rcases h with ⟨rfl, rfl, rfl⟩ | ⟨rfl, rfl, rfl⟩ | ⟨rfl, rfl, rfl⟩
      · rw [← hr]
        exact same_anyN _ _ _ _ _ _ W hV hU
      · rw [← hr, sameN_comm]
        exact same_anyN _ _ _ _ _ _ W hU hV
      · have h := same_anyN _ _ _ _ _ _ W hV hV
        rw [sameN_refl] at h
        exact h)
    have HRS := Lib.hid (fun W (hk : Kp (fun _ => False) w2 W) => by
      have h := rsame_anyN _ _ _ _ _ _ W (HV.out W (HK2.out.then_ hk (fun _ h => h.elim))) (HU.out W (HK2.out.then_ hk (fun _ h => h.elim)))
      rw [hr] at h
      exact h)
    have hrr : (r == r) = true := by simp
    clear hr HQ12 HQ22 HT HV HU
    simp only [if_neg (show ¬ (false = true) by decide)]
    go_upto_region 3 with fail
    go_cut [4] (fun cv wx => cv = .bool true ∧ Kp (fun _ => False) w2 wx)
    case first =>
      go_region_held3 (fun w' : World => w'.cell? ⟨w.heap.size, 0, none⟩ = some (.int .i64 c) ∧ w'.cell? ⟨w.heap.size, 1, none⟩ = some (.int .i64 t) ∧ w'.cell? ⟨w.heap.size, 2, none⟩ = some (.bool m) ∧ w'.cell? ⟨w.heap.size, 3, none⟩ = some (.slice A1 B.length c1) ∧ w'.cell? ⟨w.heap.size, 4, none⟩ = some (.slice A2 l.length c2) ∧ w'.cell? ⟨w.heap.size + 1, 0, none⟩ = some (.int .i64 c') ∧ w'.cell? ⟨w.heap.size + 1, 1, none⟩ = some (.int .i64 t') ∧ w'.cell? ⟨w.heap.size + 1, 2, none⟩ = some (.bool m') ∧ w'.cell? ⟨w.heap.size + 1, 3, none⟩ = some (.slice A3 B'.length c3) ∧ w'.cell? ⟨w.heap.size + 1, 4, none⟩ = some (.slice A4 l'.length c4)) (first | exact HCE.out _ HKZ.out | exact HCE.out _ HKZ.out.drew) (first
        | (go_at_call 23; refine (HRS.out _ (by first | exact HKZ.out | exact HKZ.out.drew)).mono ?_; rintro e w5 ⟨rfl, hk5⟩; have hq := Kp.then_ (a := w2) (S := fun _ => False) (by first | exact HKZ.out | exact HKZ.out.drew) hk5 (fun _ h => h.elim); clear HKZ; have HKZ := Lib.hid hq; clear hq hk5)
        | (go_at_call 26; refine (HSM.out _ _ _ (by first | exact .inl ⟨rfl, rfl, rfl⟩ | exact .inr (.inl ⟨rfl, rfl, rfl⟩) | exact .inr (.inr ⟨rfl, rfl, rfl⟩)) _ (by first | exact HKZ.out | exact HKZ.out.drew)).mono ?_; rintro e w5 ⟨rfl, hk5⟩; have hq := Kp.then_ (a := w2) (S := fun _ => False) (by first | exact HKZ.out | exact HKZ.out.drew) hk5 (fun _ h => h.elim); clear HKZ; have HKZ := Lib.hid hq; clear hq hk5))
      go_wp2_with fail
      go_meet
      exact ⟨rfl, HKZ.out⟩
    case rest =>
    obtain ⟨rfl, hkc⟩ := hcut
    have HK9 := Lib.hid (HK2.out.then_ hkc (fun _ h => h.elim))
    clear hkc HCE HSM HRS HKZ
    go_wp2_with fail
    go_ret
    exact ⟨rfl, HK9.out⟩
end Go.Proofs.YtgjbfgkcbehjnaaDoor

namespace Go.Proofs.YtgjbfgkcbehjnaaDoor
open Go.RowKit

theorem tabN {W : World} {laid : List (String × DataW Unit)} (h : laidMetH Tryd.prog laid W)
    (hf : (laid.filter fun x => x.1 == "passepartout/dertype.days") = [("passepartout/dertype.days", Lib.tabData .i64 daysT)])
    (hg : (laid.filter fun x => x.1 == "passepartout/dertag.plain" || x.1 == "passepartout/dertag.made") = [("passepartout/dertag.plain", Lib.tabData .i64 plainT), ("passepartout/dertag.made", Lib.tabData .i64 madeT)]) : TabN W := by
  refine ⟨tab09 ?_, tab10 h hf⟩
  rw [← hg]
  exact h.filter _
end Go.Proofs.YtgjbfgkcbehjnaaDoor

namespace Go.Proofs.YtgjbfgkcbehjnaaDoor
open Go.ChangeShapes Go.WideShapes Go.ChangeAt Go.RowKit Go.Deep

section
variable {H : Type} {enc : TypeId × Value → H} {P : Program} {w : World} {sp : Nat → Bool} {held : Bool}

theorem weights_agg {t : TypeId} {fs : Array Field} {ds : List (DataW H)} (ht : P.underlying t = some (.struct fs)) (h : ((DataW.agg ds).weights P t).all (· ≤ reachBytes) = true) {i : Nat} {f : Field} {d : DataW H} (hf : fs[i]? = some f) (hd : ds[i]? = some d) :
    (d.weights P f.type).all (· ≤ reachBytes) = true := by
  rw [DataW.weights, ht] at h
  refine List.all_eq_true.2 fun n hn => List.all_eq_true.1 h n ?_
  exact DataW.weights_mem_each (ts := fs.toList.map (·.type)) (j := i) (t := f.type) (by simp [hf]) hd n hn
theorem weights_mem_all {e : TypeId} : ∀ {ds : List (DataW H)} {i : Nat} {d : DataW H}, ds[i]? = some d → ∀ n ∈ d.weights P e, n ∈ DataW.weightsAll P e ds
  | d0 :: ds, 0, d, hd, n, hn => by
    simp only [List.getElem?_cons_zero, Option.some.injEq] at hd
    subst hd
    simp only [DataW.weightsAll, List.mem_append]
    exact .inl hn
  | d0 :: ds, i + 1, d, hd, n, hn => by
    simp only [List.getElem?_cons_succ] at hd
    simp only [DataW.weightsAll, List.mem_append]
    exact .inr (weights_mem_all hd n hn)
  | [], _, _, hd, _, _ => by simp at hd
theorem weights_elem {t e : TypeId} {es rest : List (DataW H)} (ht : P.underlying t = some (.slice e)) (h : ((DataW.slice es rest).weights P t).all (· ≤ reachBytes) = true) {i : Nat} {d : DataW H} (hd : es[i]? = some d) :
    (d.weights P e).all (· ≤ reachBytes) = true := by
  rw [DataW.weights, ht] at h
  refine List.all_eq_true.2 fun n hn => List.all_eq_true.1 h n ?_
  simp only [List.mem_cons, List.mem_append]
  exact .inr (.inl (weights_mem_all hd n hn))
theorem weights_len {t e : TypeId} {es rest : List (DataW H)} (ht : P.underlying t = some (.slice e)) (h : ((DataW.slice es rest).weights P t).all (· ≤ reachBytes) = true) : es.length * P.bytesOf e ≤ 140737488351232 := by
  have h1 := List.all_eq_true.1 h ((es.length + rest.length) * P.bytesOf e) (by rw [DataW.weights, ht]; simp)
  have h2 := Nat.mul_le_mul_right (P.bytesOf e) (Nat.le_add_right es.length rest.length)
  have h3 : reachBytes = 140737488351232 := by decide
  simp only [decide_eq_true_eq] at h1
  omega

/-- What a tree's type must be. -/
structure TreeType (P : Program) (t ts : TypeId) (fs : Array Field) (n : Nat) : Prop where
  ht : P.underlying t = some (.struct fs)
  hone : oneCellFields P fs = true
  hC : P.cellsOf t = n + 1
  hn : fs.size = n + 1
  hlast : (fs[n]?).map (·.type) = some ts
  hts : P.underlying ts = some (.slice t)
  hB : 1 ≤ P.bytesOf t

/-- How the fields ahead of the slice are opened. -/
def HeadOpen {α : Type} (enc : TypeId × Value → H) (P : Program) (w : World) (sp : Nat → Bool) (held : Bool) (fs : Array Field) (n : Nat) (Hd : Head α) : Prop :=
  ∀ (vs : List Value) (ds : List (DataW H)), vs.length = n → (∀ i, i < n → ∃ f v d ps fuel, fs[i]? = some f ∧ vs[i]? = some v ∧ ds[i]? = some d ∧ DataW.trod enc P w 0 sp held fuel f.type [v] = some (d, ps) ∧ (d.weights P f.type).all (· ≤ reachBytes) = true) →
    ∃ a, Hd w (· < w.heap.size) a vs

theorem open_tree_ {α : Type} {Hd : Head α} {t ts : TypeId} {fs : Array Field} {n : Nat} (T : TreeType P t ts fs n) (hH : HeadOpen enc P w sp held fs n Hd) :
    ∀ (fuel : Nat),
      (∀ (cs : List Value) (d : DataW H) (ps : List MemPlace), DataW.trod enc P w 0 sp held fuel t cs = some (d, ps) → (d.weights P t).all (· ≤ reachBytes) = true → ∃ x : RT α, TR Hd (n + 1) w (· < w.heap.size) x cs) ∧
      (∀ (cs : List Value) (d : DataW H) (ps : List MemPlace), DataW.trod enc P w 0 sp held fuel ts cs = some (d, ps) → (d.weights P ts).all (· ≤ reachBytes) = true →
        ∃ (l : List (RT α)) (A : Option Addr) (c : Nat), cs = [.slice A l.length c] ∧ l.length ≤ c ∧ l.length ≤ 140737488355328 ∧ TL Hd (n + 1) w (· < w.heap.size) l A) := by
  intro fuel
  induction fuel with
  | zero =>
    constructor <;> intro cs d ps h <;> simp [DataW.trod] at h
  | succ fuel ih =>
    constructor
    · intro cs d ps h hw
      obtain ⟨ys, m, hm, hx, hlen, hyl, hf⟩ := DataW.trod_struct T.ht h
      obtain rfl : m = fuel := by omega
      simp only [Prod.mk.injEq] at hx
      obtain ⟨rfl, _⟩ := hx
      rw [T.hC] at hlen
      have field : ∀ i (hi : i < n + 1), ∃ f v y, fs[i]? = some f ∧ cs[i]? = some v ∧ ys[i]? = some y ∧ DataW.trod enc P w 0 sp held m f.type [v] = some y := by
        intro i hi
        have hfi : fs[i]? = some (fs[i]'(by rw [T.hn]; omega)) := Array.getElem?_eq_getElem _
        obtain ⟨ho, hk⟩ := hone_of T.hone i _ hfi
        have h1 := hf i _ hfi
        rw [ho, hk] at h1
        have hone' : (cs.drop i).take 1 = [cs[i]'(by omega)] := by
          rw [List.drop_eq_getElem_cons (by omega)]
          rfl
        rw [hone'] at h1
        have hys : ys[i]? = some (ys[i]'(by rw [hyl, T.hn]; omega)) := List.getElem?_eq_getElem _
        exact ⟨_, _, _, hfi, List.getElem?_eq_getElem (by omega), hys, h1.trans hys⟩
      obtain ⟨fl, vl, yl, hfl, hvl, hyl', htl⟩ := field n (by omega)
      have htt : fl.type = ts := by
        have := T.hlast
        rw [hfl] at this
        simpa using this
      rw [htt] at htl
      have hwl := weights_agg T.ht hw hfl (d := yl.1) (by simp [hyl'])
      rw [htt] at hwl
      obtain ⟨l, A, c, e1, e2, e3, e4⟩ := ih.2 [vl] yl.1 yl.2 (by rw [htl]) hwl
      simp only [List.cons.injEq, and_true] at e1
      subst e1
      obtain ⟨a, ha⟩ := hH (cs.take n) (ys.map (·.1)) (by rw [List.length_take]; omega) (fun i hi => by
        obtain ⟨f, v, y, h1, h2, h3, h4⟩ := field i (by omega)
        exact ⟨f, v, y.1, y.2, m, h1, by rw [List.getElem?_take, if_pos hi, h2], by simp [h3], by rw [h4], weights_agg T.ht hw h1 (by simp [h3])⟩)
      refine ⟨.mk a l, (TR_def _ _ _ _ _ _).2 ⟨cs.take n, A, c, ?_, by rw [List.length_take]; omega, ha, e2, e3, e4⟩⟩
      have hcl : cs = cs.take n ++ cs.drop n := (List.take_append_drop n cs).symm
      have hdr : cs.drop n = [.slice A l.length c] := by
        have hlt : n < cs.length := by omega
        rw [List.drop_eq_getElem_cons hlt, List.drop_of_length_le (by omega)]
        rw [List.getElem?_eq_getElem hlt] at hvl
        injection hvl with hvl
        rw [hvl]
      rw [hdr] at hcl
      exact hcl
    · intro cs d ps h hw
      rcases DataW.trod_slice T.hts h with ⟨rfl, hx⟩ | ⟨x, len, cap, es, rest, m, hm, rfl, hx, _, hlc, hcm, hel, hat, _, _⟩
      · exact ⟨[], none, 0, rfl, by simp, by simp, fun h => by simp at h⟩
      · obtain rfl : m = fuel := by omega
        simp only [Prod.mk.injEq] at hx
        obtain ⟨rfl, _⟩ := hx
        have hw2 := weights_len T.hts hw
        rw [List.length_map, hel] at hw2
        have hlen2 : len ≤ 140737488355328 := by
          have := Nat.mul_le_mul_left len T.hB
          omega
        have each : ∀ i, i < len → ∃ y : RT α, (i = 0 → x.spot = none) ∧ x.block < w.heap.size ∧ ∃ cs', TR Hd (n + 1) w (· < w.heap.size) y cs' ∧ ∀ j u, cs'[j]? = some u → w.cell? (x.add (i * (n + 1) + j)) = some u := by
          intro i hi
          have hb := hat i hi
          rw [T.hC, List.getElem?_eq_getElem (by omega)] at hb
          simp only [Option.bind_eq_some_iff] at hb
          obtain ⟨cs', hc, ht'⟩ := hb
          obtain ⟨_, hcl, hcat⟩ := World.cells?_some hc
          obtain ⟨y, hy⟩ := ih.1 cs' _ _ (show _ = some ((es[i]'(by omega)).1, (es[i]'(by omega)).2) from ht') (weights_elem T.hts hw (i := i) (by simp [List.getElem?_eq_getElem (show i < es.length by omega)]))
          have hj : ∀ j u, cs'[j]? = some u → w.cell? (x.add (i * (n + 1) + j)) = some u := by
            intro j u hu
            have hjl : j < n + 1 := by rw [← hcl]; exact (List.getElem?_eq_some_iff.1 hu).1
            have := hcat j hjl
            rw [Go.Deep.add_add, hu] at this
            exact this
          have h0 : cs'[0]? = some (cs'[0]'(by omega)) := List.getElem?_eq_getElem (by omega)
          have hc0 := hj 0 _ h0
          have hsp : i = 0 → x.spot = none := by
            rintro rfl
            have := World.cell?_spot hc0
            simpa [Addr.add] using this
          have hbk := cell_lt hc0
          rw [block_add] at hbk
          exact ⟨y, hsp, hbk, cs', hy, hj⟩
        obtain ⟨l, hll, hlp⟩ := list_of each
        refine ⟨l, some x, cap, by rw [hll], by omega, by omega, fun h0 => ?_⟩
        obtain ⟨hsp, hbk, _⟩ := hlp 0 h0
        obtain ⟨b, off, spot⟩ := x
        obtain rfl : spot = none := hsp rfl
        refine ⟨b, off, rfl, hbk, TRs.of (fun i hi => ?_)⟩
        obtain ⟨_, _, cs', h1, h2⟩ := hlp i hi
        refine ⟨cs', h1, fun j u hu => ?_⟩
        have := h2 j u hu
        rw [show (⟨b, off, none⟩ : Addr).add (i * (n + 1) + j) = ⟨b, off + i * (n + 1) + j, none⟩ from by
          unfold Addr.add
          split
          · next h0 => rw [Nat.add_assoc, h0, Nat.add_zero]
          · rw [Nat.add_assoc]] at this
        exact this
end
end Go.Proofs.YtgjbfgkcbehjnaaDoor

namespace Go.Proofs.YtgjbfgkcbehjnaaDoor
open Go.ChangeShapes Go.WideShapes Go.ChangeAt Go.RowKit Go.Deep

section
variable {H : Type} {enc : TypeId × Value → H} {P : Program} {w : World} {spare : Nat → Bool} {held : Bool}

theorem cells_ir {t e : TypeId} {k : IntKind} {v : Value} {fuel : Nat} {x : DataW H × List MemPlace} (ht : P.underlying t = some (.slice e)) (he : P.underlying e = some (.int k)) (hC : P.cellsOf e = 1)
    (hf : DataW.trod enc P w 0 spare held fuel t [v] = some x) :
    ∃ l : List Int, IR k w (· < w.heap.size) v l ∧ (∀ n ∈ l, (Lit.int k n).wf = true) ∧ lenD x.1 = l.length ∧ l.length ≤ maxLen := by
  rcases open_ints ht he hC hf with ⟨hcs, hx⟩ | ⟨x, l, c, zs, hcs, _, hl, hm, hz, hx, hcell, hwz⟩
  · simp only [List.cons.injEq, and_true] at hcs
    subst hcs hx
    exact ⟨[], ⟨none, 0, rfl, Nat.le_refl _, Rd.none_⟩, fun n hn => by simp at hn, rfl, Nat.zero_le _⟩
  · simp only [List.cons.injEq, and_true] at hcs
    subst hcs hx
    have hlz : l ≤ zs.length := by rw [hz]; split <;> omega
    have hlt : (zs.take l).length = l := by simp; omega
    refine ⟨zs.take l, ⟨some x, c, ?_, ?_, ?_, fun hn => ?_⟩, fun n hn => hwz n (List.mem_of_mem_take hn), ?_, by rw [hlt]; omega⟩
    · rw [hlt]
    · rw [hlt]; exact hl
    · simp [ic]
    · have h0 := hcell 0 (by rw [hlt] at hn; omega)
      have hsp : x.spot = none := by simpa [Addr.add] using World.cell?_spot h0
      have hb := cell_lt h0
      rw [block_add] at hb
      refine ⟨x, rfl, hsp, hb, fun j u hu => ?_⟩
      simp only [ic, List.getElem?_map, List.getElem?_take] at hu
      split at hu
      · rename_i hj
        have hj' : j < zs.length := by omega
        rw [List.getElem?_eq_getElem hj'] at hu
        simp at hu
        subst hu
        have h1 := hcell j hj'
        rw [h1]
        simp [List.getElem?_eq_getElem hj']
      · simp at hu
    · simp [lenD, lits]

theorem cells_br {t e : TypeId} {v : Value} {fuel : Nat} {x : DataW H × List MemPlace} (ht : P.underlying t = some (.slice e)) (he : P.underlying e = some (.int .u8)) (hC : P.cellsOf e = 1)
    (hf : DataW.trod enc P w 0 spare held fuel t [v] = some x) :
    ∃ l : List UInt8, BR w (· < w.heap.size) v l ∧ lenD x.1 = l.length ∧ l.length ≤ maxLen := by
  obtain ⟨l, ⟨A, c, rfl, hc, hr⟩, hw, hd, hm⟩ := cells_ir ht he hC hf
  obtain ⟨m, hme, hl⟩ := bytes_of hw
  refine ⟨m, ⟨A, c, by rw [hl], by omega, ?_⟩, by omega, by omega⟩
  rw [← hme, hl]
  exact hr
end
end Go.Proofs.YtgjbfgkcbehjnaaDoor

namespace Go.Proofs.YtgjbfgkcbehjnaaDoor
set_option maxRecDepth 100000
open Go.ChangeShapes Go.WideShapes Go.ChangeAt Go.RowKit Go.Deep

theorem okWide_structN {P : Program} {w : World} {r : Reach} {b : Nat} {t : TypeId} {fs : Array Field} {v : Value} (ht : P.underlying t = some (.struct fs)) (h : Value.okWide P w r b t v) : ∃ cs, v = .agg cs := by
  simp only [Value.okWide, ht] at h
  obtain ⟨cs, h1, _⟩ := h
  exact ⟨cs, h1⟩
theorem node_type : TreeType Tryd.prog 25 23 (match Tryd.prog.underlying 25 with | some (.struct fs) => fs | _ => #[]) 4 where
  ht := by rw [Tryd.underlying25]
  hone := by rw [Tryd.underlying25]; kernel_rfl
  hC := by kernel_rfl
  hn := by rw [Tryd.underlying25]; rfl
  hlast := by rw [Tryd.underlying25]; rfl
  hts := Tryd.underlying23
  hB := by rw [show Tryd.prog.bytesOf 25 = 72 from by kernel_rfl]; omega
section
variable {H : Type} {enc : TypeId × Value → H} {w : World} {sp : Nat → Bool} {held : Bool} {r : Reach} {b0 : Nat}
theorem sized_atN {P : Program} {ts : List TypeId} {ds : List (DataW H)} (hsz : (DataW.weightsEach P ts ds).all (· ≤ reachBytes) = true) {j : Nat} {t : TypeId} {d : DataW H} (ht : ts[j]? = some t) (hd : ds[j]? = some d) : (d.weights P t).all (· ≤ reachBytes) = true :=
  List.all_eq_true.2 fun n hn => List.all_eq_true.1 hsz n (DataW.weights_mem_each ht hd n hn)
theorem weights_lenN {P : Program} {t e : TypeId} {d : DataW H} (ht : P.underlying t = some (.slice e)) (h : (d.weights P t).all (· ≤ reachBytes) = true) : lenD d * P.bytesOf e ≤ 140737488351232 := by
  cases d with
  | slice es rest => exact weights_len ht h
  | _ => simp [lenD]
theorem node_head : HeadOpen enc Tryd.prog w sp held (match Tryd.prog.underlying 25 with | some (.struct fs) => fs | _ => #[]) 4 NHd := by
  intro vs ds hl hf
  obtain ⟨f0, v0, d0, ps0, fuel0, hf0, hv0, _, ht0, _⟩ := hf 0 (by omega)
  obtain ⟨f1, v1, d1, ps1, fuel1, hf1, hv1, _, ht1, _⟩ := hf 1 (by omega)
  obtain ⟨f2, v2, d2, ps2, fuel2, hf2, hv2, _, ht2, _⟩ := hf 2 (by omega)
  obtain ⟨f3, v3, d3, ps3, fuel3, hf3, hv3, _, ht3, hw3⟩ := hf 3 (by omega)
  have e0 : f0.type = 3 := by
    rw [Tryd.underlying25] at hf0
    simp at hf0
    rw [← hf0]
  have e1 : f1.type = 3 := by
    rw [Tryd.underlying25] at hf1
    simp at hf1
    rw [← hf1]
  have e2 : f2.type = 4 := by
    rw [Tryd.underlying25] at hf2
    simp at hf2
    rw [← hf2]
  have e3 : f3.type = 22 := by
    rw [Tryd.underlying25] at hf3
    simp at hf3
    rw [← hf3]
  rw [e0] at ht0
  rw [e1] at ht1
  rw [e2] at ht2
  rw [e3] at ht3 hw3
  obtain ⟨k0, x0, _, hk0⟩ := DataW.trod_int Tryd.underlying3 ht0
  obtain ⟨k1, x1, _, hk1⟩ := DataW.trod_int Tryd.underlying3 ht1
  obtain ⟨k2, x2, _⟩ := DataW.trod_bool Tryd.underlying4 ht2
  simp only [List.cons.injEq, and_true] at x0 x1 x2
  obtain ⟨b, hb, hb2, _⟩ := cells_br Tryd.underlying22 Tryd.underlying5 (by kernel_rfl) ht3
  have hlen := weights_lenN Tryd.underlying22 hw3
  rw [show Tryd.prog.bytesOf 5 = 1 from by kernel_rfl, Nat.mul_one] at hlen
  obtain ⟨q0, q1⟩ := bounds_i64 hk0
  obtain ⟨r0, r1⟩ := bounds_i64 hk1
  refine ⟨⟨k0, k1, k2, b⟩, v3, ?_, ⟨q0, by show k0 < _; omega⟩, ⟨r0, by show k1 < _; omega⟩, hb, by show b.length ≤ _; simp only at hb2; omega⟩
  rcases vs with _ | ⟨y0, _ | ⟨y1, _ | ⟨y2, _ | ⟨y3, _ | ⟨y4, vs⟩⟩⟩⟩⟩ <;> simp_all
theorem open_node {v : Value} {d : DataW H} {ps : List MemPlace} {ts : List TypeId} {ds : List (DataW H)} (hv : Value.okWide Tryd.prog w r b0 25 v) (h : DataW.Trod enc Tryd.prog w 0 sp held 25 v d ps)
    (_hsz : (DataW.weightsEach Tryd.prog ts ds).all (· ≤ reachBytes) = true) {j : Nat} (_ht : ts[j]? = some 25) (_hd : ds[j]? = some d) : ∃ x : Nd, NdR w (· < w.heap.size) v x := by
  obtain ⟨cs, rfl⟩ := okWide_structN Tryd.underlying25 hv
  obtain ⟨fuel, hf⟩ := h
  obtain ⟨x, hx⟩ := (open_tree_ node_type node_head fuel).1 _ _ _ hf (sized_atN _hsz _ht _hd)
  have h1 := (NdR.of_tr hx).1
  rw [show (Value.agg cs).cells.toList.toArray = cs from by simp [Value.cells]] at h1
  exact ⟨x, h1⟩
end
end Go.Proofs.YtgjbfgkcbehjnaaDoor

namespace Go.Proofs.YtgjbfgkcbehjnaaDoor.derSames
open Go.ChangeShapes Go.WideShapes Go.ChangeAt Go.RowKit
set_option linter.unusedVariables false

theorem own : ownKnob Tryd.prog.godebug = none := by kernel_rfl
theorem laidOut : laidOutB Tryd.prog = true := by kernel_rfl

theorem door_met (os : Os) (args : Array Value) : laidMetH Tryd.prog Rows.derSamesRow.laid ((World.doorLaid Tryd.prog 77 os).forCall (fun _ _ => 0) ⟨#[], args, []⟩).memory :=
  laidMetH_of_parts3 (fuel := 8) (laidMet_of_run' 8 (by kernel_rfl) (by kernel_rfl)) (by kernel_rfl) (by kernel_rfl)

set_option maxRecDepth 100000 in
theorem lifted (os : Os) (started : os.Started) (H : Type) (enc : TypeId × Value → H) :
    ReturnsInHanded {} Tryd.checked os 6 .any (fun w args => (Rows.derSamesSpec.pre enc Tryd.prog Tryd.f6 [] false w args ∧ laidMetH Tryd.prog Rows.derSamesRow.laid w) ∧ sizedMet enc Tryd.prog Tryd.f6 (OpenSpec.ofChange Rows.derSamesSpec) false w args) (Rows.derSamesSpec.post enc Tryd.prog Tryd.f6 false true false false) := by
  refine returnsInHanded_of_change_and (C := Tryd.checked) (X := fun w _ => laidMetH Tryd.prog Rows.derSamesRow.laid w) (fun _ _ _ hh h => h.of_heap hh) own started (by kernel_rfl) Tryd.func6
    (ChangeSpec.witness_shaped (enc := enc) (C := Tryd.checked) (os := os) (X := fun w _ => laidMetH Tryd.prog Rows.derSamesRow.laid w) false (World.doorLaid Tryd.prog 77 os) #[.agg #[.int .i64 0, .int .i64 0, .bool false, .slice none 0 0, .slice none 0 0], .agg #[.int .i64 0, .int .i64 0, .bool false, .slice none 0 0, .slice none 0 0]] 8 rfl (World.shaped_of_RefB (by kernel_rfl) (by kernel_rfl)) (by kernel_rfl) (by kernel_rfl) (by kernel_rfl) (door_met os _)) ?_
  intro W base args ds gs before hval0 hW hcnd hsz0 hL _
  have tab := tabN (hf := by kernel_rfl) (hg := by kernel_rfl) hL
  have hval : ∀ (j : Nat) t v, Tryd.f6.params[j]? = some t → args[j]? = some v → Value.okWide Tryd.prog W .any base t v := hval0
  have hW' := hW
  obtain ⟨p, q, hA0, hV, rfl, hfz, hnd⟩ := hW
  have hA : DataW.TrodAll enc Tryd.prog W 0 (fun _ => true) true Tryd.f6.params.toList args.toList ds p := hA0
  obtain ⟨rfl, rfl⟩ := trodVars_none hV
  have hsz : (DataW.weightsEach Tryd.prog (Tryd.f6.params.toList ++ []) (ds ++ [])).all (· ≤ reachBytes) = true := hsz0
  rw [List.append_nil, List.append_nil] at hsz
  rw [Tryd.params6] at hA hval hsz
  obtain ⟨v0, vs0, d0, ds0, p0, q0, hargs, rfl, rfl, h0, r0⟩ := trodAll_cons hA
  obtain ⟨v1, vs1, d1, ds1, p1, q1, rfl, rfl, rfl, h1, r1⟩ := trodAll_cons r0
  obtain ⟨rfl, rfl, rfl⟩ := trodAll_nil r1
  obtain rfl : args = #[v0, v1] := by cases args; simp_all
  have k0 := h0
  have lt0 : ∀ x ∈ p0, x.block < W.heap.size := by obtain ⟨m, hm⟩ := k0; exact DataW.trod_lt m _ _ _ hm
  have k1 := h1
  have lt1 : ∀ x ∈ p1, x.block < W.heap.size := by obtain ⟨m, hm⟩ := k1; exact DataW.trod_lt m _ _ _ hm
  obtain ⟨l0, b0⟩ := open_node (hval 0 25 v0 rfl rfl) h0 (_hsz := hsz) (j := 0) rfl rfl
  obtain ⟨l1, b1⟩ := open_node (hval 1 25 v1 rfl rfl) h1 (_hsz := hsz) (j := 1) rfl rfl
  clear hA0 hval0 hsz0
  refine (dsames_walk W tab v0 l0 b0 v1 l1 b1).mono fun e W' ⟨he, bel⟩ => ?_
  subst he
  exact ⟨_, rfl, _, _, _, [], _, [], hW', trodAll_mk1 (shut_bool Tryd.underlying4 _), (trodAll_cons_mk (Below.trod laidOut (by kernel_rfl) (of_decide_eq_true (by kernel_rfl)) k0 bel lt0) (trodAll_cons_mk (Below.trod laidOut (by kernel_rfl) (of_decide_eq_true (by kernel_rfl)) k1 bel lt1) trodAll_mk0)), rfl, bel.frame _, fun h => by cases h⟩

theorem over : Rows.derSamesRow.holds Tryd.pinned (OpenSpec.ofChange Rows.derSamesSpec) :=
  OpenClaim.holds_of_wide 6 Tryd.f6 rfl rfl rfl rfl rfl rfl rfl ⟨rfl, rfl, rfl, rfl, rfl⟩ rfl rfl rfl rfl rfl (by kernel_rfl) Tryd.func6 (by kernel_rfl)
    (of_decide_eq_true (by kernel_rfl)) (by unfold Func.isWrapper; first | (rw [if_pos (by decide +kernel)]; kernel_rfl) | (rw [if_neg (by decide +kernel)]; exact ⟨rfl, rfl⟩))
    (fun os started H enc _ => lifted os started H enc)

/-- The tied card. -/
theorem proved : Rows.DerSamesCardSaid :=
  Claim7.holds_tied_plain_at .later [] [.data, .data, .data, .sentinel, .sentinel, .widerDeep, .widerDeep, .data] true (true, "0ab74d96bed3506d8a76af22bf9d6f6d114eadcc4072f4d921186855ad1623b7") true
    over (fun _ h => by cases h) (by kernel_rfl) (fun _ h => by cases h) derSames_row_tie rfl ⟨rfl, rfl⟩ (by kernel_rfl) rfl
    (fun f fn hf hfn => by
      obtain rfl : f = 6 := Option.some.inj ((show Tryd.prog.funcNamed "passepartout/passepartoutlaw11.DerSames" = some 6 by kernel_rfl).symm.trans hf) |>.symm
      obtain rfl : fn = Tryd.f6 := (Option.some.inj (Tryd.func6.symm.trans hfn)).symm
      exact ⟨by kernel_rfl, fun j t ht => by
        rw [Tryd.params6] at ht
        have hm : t ∈ [25, 25] := by simpa using Array.mem_of_getElem? ht
        have hall : ([25, 25].all fun u => !Tryd.prog.wantsStandIn u) = true := by kernel_rfl
        exact (show Tryd.prog.wantsStandIn t = false by simpa using List.all_eq_true.1 hall t hm)⟩)
    (by kernel_rfl)
#print axioms proved
end Go.Proofs.YtgjbfgkcbehjnaaDoor.derSames
