/-
  The law DerJoins: for every input it returns true, and its arguments read behind the call as before it. No condition.
-/
import Derived.Test.YtgjbfgkcbehjnaaDoorRows
import Derived.Test.YtgjbfgkcbehjnaaDoorCards
import Derived.Test.YtgjbfgkcbehjnaaDoorTie
import Derived.SevenTiedAt
import Derived.ProofKit
import Derived.LaidMore
import Derived.Stop.Joined
import Derived.Test.YtgjbfgkcbehjnaaDoorBX1
import Derived.Test.YtgjbfgkcbehjnaaDoorBY1

set_option linter.unusedVariables false
set_option linter.unusedSimpArgs false
namespace Go.Proofs.YtgjbfgkcbehjnaaDoor
open Go.RowKit

/-- All bytes of these. -/
def flatN (l : List Nd) : List UInt8 := l.flatMap fun y => (wrN y).1
theorem wrNs_ok : ∀ (l : List Nd) (acc : List UInt8), (wrNs l acc).2 = 0 → (wrNs l acc).1 = acc ++ flatN l ∧ ∀ y ∈ l, (wrN y).2 = 0 := by
  intro l
  induction l with
  | nil => intro acc _; rw [wrNs]; simp [flatN]
  | cons x l ih =>
    intro acc h
    rw [wrNs] at h ⊢
    by_cases hx : (wrN x).2 = 0
    · rw [if_neg (by simpa using hx)] at h ⊢
      obtain ⟨h1, h2⟩ := ih _ h
      refine ⟨by rw [h1, List.append_assoc]; rfl, fun y hy => ?_⟩
      rcases List.mem_cons.1 hy with rfl | hy
      · exact hx
      · exact h2 y hy
    · rw [if_pos hx] at h
      exact absurd h hx
theorem wrNs_all : ∀ (l : List Nd) (acc : List UInt8), (∀ y ∈ l, (wrN y).2 = 0) → wrNs l acc = (acc ++ flatN l, 0) := by
  intro l
  induction l with
  | nil => intro acc _; rw [wrNs]; simp [flatN]
  | cons x l ih =>
    intro acc h
    rw [wrNs, if_neg (by simpa using h x (by simp)), ih _ (fun y hy => h y (by simp [hy])), List.append_assoc]
    rfl
/-- What a thing that is right is. -/
theorem wrN_parts {c t : Int} {m : Bool} {B : List UInt8} {l : List Nd} (h : (wrN (.mk ⟨c, t, m, B⟩ l)).2 = 0) :
    kindB c t m = true ∧ (m = true → B = []) ∧ (m = false → l = []) ∧ mayB c t m B = true ∧ (∀ y ∈ l, (wrN y).2 = 0) ∧
      (wrN (.mk ⟨c, t, m, B⟩ l)).1 = hb c t m :: lenB (B ++ flatN l).length ++ (B ++ flatN l) := by
  rw [wrN_mk] at h ⊢
  simp only at h ⊢
  by_cases h1 : kindB c t m = false
  · rw [if_pos h1] at h; simp at h
  by_cases h2 : ((m && decide (0 < B.length)) || (!m && decide (0 < l.length))) = true
  · rw [if_neg h1, if_pos h2] at h; simp at h
  by_cases h3 : mayB c t m B = false
  · rw [if_neg h1, if_neg h2, if_pos h3] at h; simp at h
  by_cases h4 : (wrNs l B).2 ≠ 0
  · rw [if_neg h1, if_neg h2, if_neg h3, if_pos h4] at h; exact absurd h h4
  · rw [if_neg h1, if_neg h2, if_neg h3, if_neg h4]
    obtain ⟨h5, h6⟩ := wrNs_ok l B (by simpa using h4)
    refine ⟨by simpa using h1, ?_, ?_, by simpa using h3, h6, by rw [h5]⟩
    · rintro rfl
      simp at h2
      exact h2
    · rintro rfl
      simp at h2
      exact h2
/-- A thing that is right, put together. -/
theorem wrN_make {c t : Int} {m : Bool} {B : List UInt8} {l : List Nd} (h1 : kindB c t m = true) (h2 : m = true → B = []) (h3 : m = false → l = []) (h4 : mayB c t m B = true) (h5 : ∀ y ∈ l, (wrN y).2 = 0) :
    wrN (.mk ⟨c, t, m, B⟩ l) = (hb c t m :: lenB (B ++ flatN l).length ++ (B ++ flatN l), 0) := by
  rw [wrN_mk]
  simp only
  have hf : ¬ (((m && decide (0 < B.length)) || (!m && decide (0 < l.length))) = true) := by
    cases m
    · rw [h3 rfl]; simp
    · rw [h2 rfl]; simp
  rw [if_neg (by simp [h1]), if_neg hf, if_neg (by simp [h4]), wrNs_all l B h5, if_neg (fun h => h rfl)]
theorem flatN_cons (x : Nd) (l : List Nd) : flatN (x :: l) = (wrN x).1 ++ flatN l := rfl
theorem write_ok {x : Nd} (h : (writeN x).2 = 0) : depN x ≤ 8 ∧ (wrN x).2 = 0 ∧ writeN x = wrN x := by
  by_cases hd : 8 < depN x
  · rw [writeN_deep hd] at h
    simp at h
  · rw [writeN_flat hd] at h
    exact ⟨by omega, h, writeN_flat hd⟩
end Go.Proofs.YtgjbfgkcbehjnaaDoor

namespace Go.Proofs.YtgjbfgkcbehjnaaDoor
open Go.RowKit

end Go.Proofs.YtgjbfgkcbehjnaaDoor

namespace Go.Proofs.YtgjbfgkcbehjnaaDoor
open Go.RowKit

/-- A thing twice in one more. -/
def twiceN (X : Nd) : Nd := .mk ⟨2, 3, true, []⟩ [X, X]
end Go.Proofs.YtgjbfgkcbehjnaaDoor

namespace Go.Proofs.YtgjbfgkcbehjnaaDoor
open Go.RowKit

theorem add_strN (W : World) (a b : List UInt8) (h : a.length + b.length ≤ 1000000) : (Op.stringOp .add (str a) (str b)).run Tryd.prog W = .ok (.string (str (a ++ b))) W := by
  have h1 : ¬ (((str a).size + (str b).size : Nat) : Int) > IntKind.i64.max := by
    rw [str_size, str_size, show IntKind.i64.max = 9223372036854775807 by decide]
    omega
  simp only [Op.stringOp, if_neg h1, str_append]
  rfl
/-- Two in a sequence. -/
def joinN (X Y : Nd) : Nd := .mk ⟨0, 16, true, []⟩ [X, Y]
theorem join_dep (X Y : Nd) : depN (joinN X Y) = max (depN X) (depN Y) + 1 := by
  rw [joinN, depN_mk, depNs, depNs, depNs]
  omega
theorem join_tot (X Y : Nd) : totN (joinN X Y) = 1 + totN X + totN Y := by
  rw [joinN, totN_mk, totNs, totNs, totNs]
  simp only [List.length_nil]
  omega
theorem join_bad {X Y : Nd} (h : (writeN X).2 ≠ 0 ∨ (writeN Y).2 ≠ 0 ∨ max (depN X) (depN Y) = 8) : ∃ e, writeN (joinN X Y) = ([], e) ∧ e ≠ 0 := by
  by_cases hd : 8 < depN (joinN X Y)
  · exact ⟨14, writeN_deep hd, by decide⟩
  · rw [writeN_flat hd]
    rw [join_dep] at hd
    have hx : (wrN X).2 ≠ 0 ∨ (wrN Y).2 ≠ 0 := by
      rcases h with h | h | h
      · left; rwa [writeN_flat (by omega)] at h
      · right; rwa [writeN_flat (by omega)] at h
      · omega
    have hb : (wrN (joinN X Y)).2 ≠ 0 := by
      intro h0
      have hp := (wrN_parts (c := 0) (t := 16) (m := true) (B := []) (l := [X, Y]) h0).2.2.2.2.1
      rcases hx with hx | hx
      · exact hx (hp X (by simp))
      · exact hx (hp Y (by simp))
    exact ⟨(wrN (joinN X Y)).2, Prod.ext (wrN_nil hb) rfl, hb⟩
theorem join_good {X Y : Nd} (h1 : (writeN X).2 = 0) (h2 : (writeN Y).2 = 0) (h3 : max (depN X) (depN Y) ≠ 8) :
    writeN (joinN X Y) = (48 :: lenB ((writeN X).1 ++ (writeN Y).1).length ++ ((writeN X).1 ++ (writeN Y).1), 0) := by
  obtain ⟨a1, a2, a3⟩ := write_ok h1
  obtain ⟨b1, b2, b3⟩ := write_ok h2
  rw [writeN_flat (by rw [join_dep]; omega), joinN, wrN_make (by decide) (fun _ => rfl) (by simp) (by simp [mayB]) (fun y hy => by
    simp only [List.mem_cons, List.not_mem_nil, or_false] at hy
    rcases hy with rfl | rfl
    · exact a2
    · exact b2)]
  have hf : flatN [X, Y] = (writeN X).1 ++ (writeN Y).1 := by rw [flatN_cons, flatN_cons, a3, b3]; simp [flatN]
  rw [List.nil_append, hf]
  rfl
theorem leaf_write (x : List UInt8) : writeN (.mk ⟨2, 7, false, x⟩ []) = (hb 2 7 false :: lenB x.length ++ x, 0) := by
  rw [writeN_flat (by rw [depN_mk, depNs]; omega), wrN_make (by decide) (by simp) (fun _ => rfl) (by simp [mayB]) (by simp)]
  simp [flatN]

set_option maxRecDepth 100000 in
set_option maxHeartbeats 3200000 in
theorem djoins_walk (w : World) (tab : TabN w) (v : Value) (x : Nd) (hv : NdR w (· < w.heap.size) v x) (u : Value) (y : Nd) (hu : NdR w (· < w.heap.size) u y) (vx : Value) (lx : List UInt8) (hvx : BR w (· < w.heap.size) vx lx) (hlx : lx.length ≤ 140737488351232) :
    Calls Tryd.prog 11 #[v, u, vx] w fun e w' => e = .returned (.bool true) ∧ Below w.heap.size w w' := by
  refine Calls.mono (R := fun e w' => e = .returned (.bool true) ∧ Kp (fun _ => False) w w') ?_ fun _ _ ⟨h1, h2⟩ => ⟨h1, h2.below⟩
  obtain ⟨⟨c, t, m, B⟩, l⟩ := x
  obtain ⟨⟨c', t', m', B'⟩, l'⟩ := y
  obtain ⟨A1, c1, A2, c2, rfl, _⟩ := hv.parts
  obtain ⟨A3, c3, A4, c4, rfl, _⟩ := hu.parts
  obtain ⟨Ax, cx, rfl, hcx, _⟩ := id hvx
  have ka : Kp (fun _ => False) w ((w.alloc (.cells #[.int .i64 c, .int .i64 t, .bool m, .slice A1 B.length c1, .slice A2 l.length c2] 25)).alloc (.cells #[.int .i64 c', .int .i64 t', .bool m', .slice A3 B'.length c3, .slice A4 l'.length c4] 25)) := ((Kp.refl _ _).alloc _).alloc _
  have hq1 := (Blk.new w 25 #[.int .i64 c, .int .i64 t, .bool m, .slice A1 B.length c1, .slice A2 l.length c2]).alloc (.cells #[.int .i64 c', .int .i64 t', .bool m', .slice A3 B'.length c3, .slice A4 l'.length c4] 25)
  have hq2 := Blk.new (w.alloc (.cells #[.int .i64 c, .int .i64 t, .bool m, .slice A1 B.length c1, .slice A2 l.length c2] 25)) 25 #[.int .i64 c', .int .i64 t', .bool m', .slice A3 B'.length c3, .slice A4 l'.length c4]
  rw [World.size_alloc] at hq2
  have HT := Lib.hid (fun W (hk : Kp (fun _ => False) w W) => tab.kp0 hk)
  have HV := Lib.hid (fun W (hk : Kp (fun _ => False) w W) => hv.kp hk (fun _ _ h => h))
  have HU := Lib.hid (fun W (hk : Kp (fun _ => False) w W) => hu.kp hk (fun _ _ h => h))
  have HXB := Lib.hid (fun W (hk : Kp (fun _ => False) w W) => hvx.kp hk (fun _ _ h => h))
  have HKA := Lib.hid ka
  have HQ1 := Lib.hid hq1
  have HQ2 := Lib.hid hq2
  have HTR := Lib.hid (fun W (hk : Kp (fun _ => False) w W) => And.intro (hv.kp hk (fun _ _ h => h)).tr5 (hu.kp hk (fun _ _ h => h)).tr5)
  have hgt := great_tot (l := [.mk ⟨c, t, m, B⟩ l, .mk ⟨c', t', m', B'⟩ l'])
  obtain ⟨X, hX⟩ : ∃ X, RT.mk (⟨c, t, m, B⟩ : NH) l = X := ⟨_, rfl⟩
  obtain ⟨Y, hY⟩ : ∃ Y, RT.mk (⟨c', t', m', B'⟩ : NH) l' = Y := ⟨_, rfl⟩
  rw [hX] at HV hgt HTR
  rw [hY] at HU hgt HTR
  have HGR := Lib.hid (fun W (hk : Kp (fun _ => False) w W) => great_anyN (fun _ => True) (.slice (some ⟨W.heap.size, 0, none⟩) 2 2) [X, Y] (W.alloc (.cells #[.int .i64 c, .int .i64 t, .bool m, .slice A1 B.length c1, .slice A2 l.length c2, .int .i64 c', .int .i64 t', .bool m', .slice A3 B'.length c3, .slice A4 l'.length c4] 25))
    (NsR.two (vs := [.int .i64 c, .int .i64 t, .bool m, .slice A1 B.length c1, .slice A2 l.length c2]) (us := [.int .i64 c', .int .i64 t', .bool m', .slice A3 B'.length c3, .slice A4 l'.length c4]) (Blk.new W 25 _) (TR.kp_ NHd_kp ((Kp.refl (fun _ => False) W).alloc _) (fun _ _ h => h) (fun _ h => h) _ _ (HTR.out W hk).1) (TR.kp_ NHd_kp ((Kp.refl (fun _ => False) W).alloc _) (fun _ _ h => h) (fun _ h => h) _ _ (HTR.out W hk).2) rfl))
  have HGT := Lib.hid hgt
  generalize greatN [X, Y] = gr at HGR HGT
  clear ka hq1 hq2 tab hv hu hgt hvx hX hY
  go_enter Tryd.func11, Tryd.ntmps11
  go_upto_region 1 with fail
  generalize (w.alloc (.cells #[.int .i64 c, .int .i64 t, .bool m, .slice A1 B.length c1, .slice A2 l.length c2] 25)).alloc (.cells #[.int .i64 c', .int .i64 t', .bool m', .slice A3 B'.length c3, .slice A4 l'.length c4] 25) = W0 at HKA HQ1 HQ2 ⊢
  have HA0 := Lib.hid (alive11 W0 (HT.out _ HKA.out))
  go_wp2_with fail
  refine HA0.out.mono ?_
  rintro e w1 ⟨rfl, hk1⟩
  have HK1 := Lib.hid (HKA.out.then_ hk1 (fun _ h => h.elim))
  have HQ11 := Lib.hid (HQ1.out.kp hk1 (fun h => h))
  have HQ21 := Lib.hid (HQ2.out.kp hk1 (fun h => h))
  have HG1 := Lib.hid (HGR.out _ HK1.out)
  clear hk1 HA0 HKA HQ1 HQ2 HGR
  have p0 := HQ11.out.cell 0
  have p1 := HQ11.out.cell 1
  have p2 := HQ11.out.cell 2
  have p3 := HQ11.out.cell 3
  have p4 := HQ11.out.cell 4
  simp at p0 p1 p2 p3 p4
  have q0 := HQ21.out.cell 0
  have q1 := HQ21.out.cell 1
  have q2 := HQ21.out.cell 2
  have q3 := HQ21.out.cell 3
  have q4 := HQ21.out.cell 4
  simp at q0 q1 q2 q3 q4
  go_wp2_with fail
  refine HG1.out.mono ?_
  rintro e w2 ⟨rfl, hk2⟩
  have k2 : Kp (fun _ => False) w1 w2 := ((Kp.refl (fun _ => False) w1).alloc _).then_ hk2 (fun _ h => h.elim)
  have HK2 := Lib.hid (HK1.out.then_ k2 (fun _ h => h.elim))
  have HQ12 := Lib.hid (HQ11.out.kp k2 (fun h => h))
  have HQ22 := Lib.hid (HQ21.out.kp k2 (fun h => h))
  clear k2 hk2 HG1 HQ11 HQ21 HK1 p0 q0 p1 q1 p2 q2 p3 q3 p4 q4
  have HA2 := Lib.hid (alive11 w2 (HT.out _ HK2.out))
  cases gr with
  | true =>
    simp only [if_true]
    go_wp2_with fail
    refine HA2.out.mono ?_
    rintro e w3 ⟨rfl, hk3⟩
    have HK3 := Lib.hid (HK2.out.then_ hk3 (fun _ h => h.elim))
    clear hk3
    go_wp2_with fail
    go_ret
    exact ⟨rfl, HK3.out⟩
  | false =>
    simp only [if_neg (show ¬ (false = true) by decide)]
    by_cases hx1000 : 1000 < lx.length
    · have hxI : decide ((1000 : Int) < (lx.length : Int)) = true := by simp; omega
      go_wp2_with (go_at_call 20; refine HA2.out.mono ?_; rintro e w3 ⟨rfl, hk3⟩; have HK3 := Lib.hid (HK2.out.then_ hk3 (fun _ h => h.elim)); clear hk3)
      go_ret
      exact ⟨rfl, HK3.out⟩
    have hxI : decide ((1000 : Int) < (lx.length : Int)) = false := by simp; omega
    have hx2 : lx.length ≤ 1000 := by omega
    have htx : totN X ≤ 3000 := HGT.out rfl X (by simp)
    have hty : totN Y ≤ 3000 := HGT.out rfl Y (by simp)
    have hdx := dep_tot X
    have hdy := dep_tot Y
    have hjt := join_tot X Y
    clear HGT HA2 hx1000
    obtain ⟨ra, ea, hRa⟩ : ∃ ra ea, writeN X = (ra, ea) := ⟨_, _, rfl⟩
    obtain ⟨rb, eb, hRb⟩ : ∃ rb eb, writeN Y = (rb, eb) := ⟨_, _, rfl⟩
    obtain ⟨rs, es, hRs⟩ : ∃ rs es, writeN (joinN X Y) = (rs, es) := ⟨_, _, rfl⟩
    have hla : ra.length ≤ 15000 := by
      by_cases h : 8 < depN X
      · rw [writeN_deep h] at hRa; injection hRa with h1 _; rw [← h1]; simp
      · have h1 := wrN_len X; rw [writeN_flat h] at hRa; rw [hRa] at h1; simp only at h1; omega
    have hlb : rb.length ≤ 15000 := by
      by_cases h : 8 < depN Y
      · rw [writeN_deep h] at hRb; injection hRb with h1 _; rw [← h1]; simp
      · have h1 := wrN_len Y; rw [writeN_flat h] at hRb; rw [hRb] at h1; simp only at h1; omega
    have hend : (((ea != 0) || ((eb != 0) || decide (max (depN X) (depN Y) = 8))) = true ∧ rs = [] ∧ es ≠ 0) ∨
        (ea = 0 ∧ eb = 0 ∧ max (depN X) (depN Y) ≠ 8 ∧ es = 0 ∧ rs = 48 :: lenB (ra ++ rb).length ++ (ra ++ rb)) := by
      by_cases h1 : ea = 0
      · by_cases h2 : eb = 0
        · by_cases h3 : max (depN X) (depN Y) = 8
          · left
            obtain ⟨e, he, he2⟩ := join_bad (X := X) (Y := Y) (.inr (.inr h3))
            rw [hRs] at he
            injection he with he1 he3
            exact ⟨by simp [h1, h2, h3], he1, by rw [he3]; exact he2⟩
          · right
            have hg := join_good (X := X) (Y := Y) (by rw [hRa]; exact h1) (by rw [hRb]; exact h2) h3
            rw [hRs, hRa, hRb] at hg
            injection hg with hg1 hg2
            exact ⟨h1, h2, h3, hg2, hg1⟩
        · left
          obtain ⟨e, he, he2⟩ := join_bad (X := X) (Y := Y) (.inr (.inl (by rw [hRb]; exact h2)))
          rw [hRs] at he
          injection he with he1 he3
          exact ⟨by simp [h2], he1, by rw [he3]; exact he2⟩
      · left
        obtain ⟨e, he, he2⟩ := join_bad (X := X) (Y := Y) (.inl (by rw [hRa]; exact h1))
        rw [hRs] at he
        injection he with he1 he3
        exact ⟨by simp [h1], he1, by rw [he3]; exact he2⟩
    have HEND := Lib.hid hend
    have hwa := fun W (hk : Kp (fun _ => False) w W) => write_any _ X _ W (HV.out W hk) (by omega) (HT.out W hk)
    have hwb := fun W (hk : Kp (fun _ => False) w W) => write_any _ Y _ W (HU.out W hk) (by omega) (HT.out W hk)
    have hws := fun W v (hk : Kp (fun _ => False) w W) (h : NdR W (fun _ => True) v (joinN X Y)) => write_any _ (joinN X Y) v W h (by omega) (HT.out W hk)
    have hwl := fun W (hk : Kp (fun _ => False) w W) => write_any _ (.mk ⟨2, 7, false, lx⟩ []) (.agg #[.int .i64 2, .int .i64 7, .bool false, .slice Ax lx.length cx, .slice none 0 0]) W (NdR.leaf (i64N_small (by decide) (by decide)) (i64N_small (by decide) (by decide)) (HXB.out W hk) (by omega)) (by rw [totN_mk, totNs]; simp only; omega) (HT.out W hk)
    unfold WrP at hwa hwb hws hwl
    rw [hRa] at hwa
    rw [hRb] at hwb
    rw [hRs] at hws
    rw [leaf_write] at hwl
    have hyl := lenB_len lx.length
    obtain ⟨ry, hry⟩ : ∃ ry, hb 2 7 false :: lenB lx.length ++ lx = ry := ⟨_, rfl⟩
    have hryl : ry.length = (lenB lx.length).length + 1 + lx.length := by rw [← hry]; simp only [List.cons_append, List.length_cons, List.length_append]; omega
    have hryd : ry.drop (ry.length - lx.length) = lx := by
      rw [← hry]
      have h1 : (hb 2 7 false :: lenB lx.length ++ lx).length - lx.length = (hb 2 7 false :: lenB lx.length).length := by rw [List.length_append]; omega
      rw [h1, List.drop_left]
    rw [hry] at hwl
    simp only at hwa hwb hws hwl
    have HWA := Lib.hid (hwa w2 HK2.out)
    have HWB := Lib.hid hwb
    have HWS := Lib.hid hws
    have HWL := Lib.hid hwl
    have HRYD := Lib.hid hryd
    have HDX := Lib.hid (fun W (hk : Kp (fun _ => False) w W) => depth_anyN _ X _ W (HV.out W hk) (by omega))
    have HDY := Lib.hid (fun W (hk : Kp (fun _ => False) w W) => depth_anyN _ Y _ W (HU.out W hk) (by omega))
    have hry5 : ry.length ≤ 2000 ∧ lx.length ≤ ry.length := by omega
    obtain ⟨hry5, hry6⟩ := hry5
    clear hwa hwb hws hwl hend hRa hRb hRs hry hryl hryd hyl hjt
    have p0 := HQ12.out.cell 0
    have p1 := HQ12.out.cell 1
    have p2 := HQ12.out.cell 2
    have p3 := HQ12.out.cell 3
    have p4 := HQ12.out.cell 4
    simp at p0 p1 p2 p3 p4
    have q0 := HQ22.out.cell 0
    have q1 := HQ22.out.cell 1
    have q2 := HQ22.out.cell 2
    have q3 := HQ22.out.cell 3
    have q4 := HQ22.out.cell 4
    simp at q0 q1 q2 q3 q4
    go_upto_region 4 with (go_at_call 29; refine HWA.out.mono ?_; rintro e w3 ⟨Aa, ca, rfl, ho3, hk3⟩; have HO3 := Lib.hid ho3; have HK3' := Lib.hid hk3; clear ho3 hk3)
    have HK3 := Lib.hid (HK2.out.then_ HK3'.out (fun _ h => h.elim))
    have HQ13 := Lib.hid (HQ12.out.kp HK3'.out (fun h => h))
    have HQ23 := Lib.hid (HQ22.out.kp HK3'.out (fun h => h))
    have HBA := Lib.hid ((HO3.out.br rfl).mono (ok' := fun _ => True) (fun _ _ => trivial))
    have HWB3 := Lib.hid (HWB.out w3 HK3.out)
    clear HWA HK3' HO3 HK2 HQ12 HQ22 HWB p0 q0 p1 q1 p2 q2 p3 q3 p4 q4
    have p0 := HQ13.out.cell 0
    have p1 := HQ13.out.cell 1
    have p2 := HQ13.out.cell 2
    have p3 := HQ13.out.cell 3
    have p4 := HQ13.out.cell 4
    simp at p0 p1 p2 p3 p4
    have q0 := HQ23.out.cell 0
    have q1 := HQ23.out.cell 1
    have q2 := HQ23.out.cell 2
    have q3 := HQ23.out.cell 3
    have q4 := HQ23.out.cell 4
    simp at q0 q1 q2 q3 q4
    go_upto_region 5 with (go_at_call 29; refine HWB3.out.mono ?_; rintro e w4 ⟨Ab, cb, rfl, ho4, hk4⟩; have HO4 := Lib.hid ho4; have HK4' := Lib.hid hk4; clear ho4 hk4)
    have HK4 := Lib.hid (HK3.out.then_ HK4'.out (fun _ h => h.elim))
    have HQ14 := Lib.hid (HQ13.out.kp HK4'.out (fun h => h))
    have HQ24 := Lib.hid (HQ23.out.kp HK4'.out (fun h => h))
    have HBA4 := Lib.hid (HBA.out.kp HK4'.out (fun _ _ h => h))
    have HBB4 := Lib.hid ((HO4.out.br rfl).mono (ok' := fun _ => True) (fun _ _ => trivial))
    clear HWB3 HK4' HO4 HK3 HQ13 HQ23 HBA p0 q0 p1 q1 p2 q2 p3 q3 p4 q4
    have p0 := HQ14.out.cell 0
    have p1 := HQ14.out.cell 1
    have p2 := HQ14.out.cell 2
    have p3 := HQ14.out.cell 3
    have p4 := HQ14.out.cell 4
    simp at p0 p1 p2 p3 p4
    have q0 := HQ24.out.cell 0
    have q1 := HQ24.out.cell 1
    have q2 := HQ24.out.cell 2
    have q3 := HQ24.out.cell 3
    have q4 := HQ24.out.cell 4
    simp at q0 q1 q2 q3 q4
    have HJN := Lib.hid (show NdR (w4.alloc (.cells #[.int .i64 c, .int .i64 t, .bool m, .slice A1 B.length c1, .slice A2 l.length c2, .int .i64 c', .int .i64 t', .bool m', .slice A3 B'.length c3, .slice A4 l'.length c4] 25)) (fun _ => True) (.agg #[.int .i64 0, .int .i64 16, .bool true, .slice none 0 0, .slice (some ⟨w4.heap.size, 0, none⟩) 2 2]) (joinN X Y) from
      ⟨_, _, rfl, show i64N 0 from i64N_small (by decide) (by decide), show i64N 16 from i64N_small (by decide) (by decide), BR.nil, by simp [joinN, RT.a], NsR.two (vs := [.int .i64 c, .int .i64 t, .bool m, .slice A1 B.length c1, .slice A2 l.length c2]) (us := [.int .i64 c', .int .i64 t', .bool m', .slice A3 B'.length c3, .slice A4 l'.length c4]) (Blk.new w4 25 _) (HTR.out _ (HK4.out.alloc _)).1 (HTR.out _ (HK4.out.alloc _)).2 rfl⟩)
    have HWS4 := Lib.hid (HWS.out _ _ (HK4.out.alloc (.cells #[.int .i64 c, .int .i64 t, .bool m, .slice A1 B.length c1, .slice A2 l.length c2, .int .i64 c', .int .i64 t', .bool m', .slice A3 B'.length c3, .slice A4 l'.length c4] 25)) HJN.out)
    clear HJN HWS HTR
    go_upto_region 6 with (go_at_call 29; refine HWS4.out.mono ?_; rintro e w5 ⟨As, cs, rfl, ho5, hk5⟩; have HO5 := Lib.hid ho5; have HK5' := Lib.hid (((Kp.refl (fun _ => False) w4).alloc (.cells #[.int .i64 c, .int .i64 t, .bool m, .slice A1 B.length c1, .slice A2 l.length c2, .int .i64 c', .int .i64 t', .bool m', .slice A3 B'.length c3, .slice A4 l'.length c4] 25)).then_ hk5 (fun _ h => h.elim)); clear ho5 hk5)
    have HK5 := Lib.hid (HK4.out.then_ HK5'.out (fun _ h => h.elim))
    have HQ15 := Lib.hid (HQ14.out.kp HK5'.out (fun h => h))
    have HQ25 := Lib.hid (HQ24.out.kp HK5'.out (fun h => h))
    have HBA5 := Lib.hid (HBA4.out.kp HK5'.out (fun _ _ h => h))
    have HBB5 := Lib.hid (HBB4.out.kp HK5'.out (fun _ _ h => h))
    have HBS5 := Lib.hid ((HO5.out.br rfl).mono (ok' := fun _ => True) (fun _ _ => trivial))
    have HWL5 := Lib.hid (HWL.out w5 HK5.out)
    clear HWS4 HK5' HO5 HK4 HQ14 HQ24 HBA4 HBB4 HWL p0 q0 p1 q1 p2 q2 p3 q3 p4 q4
    go_upto_region 7 with (go_at_call 29; refine HWL5.out.mono ?_; rintro e w6 ⟨Ay, cy, rfl, ho6, hk6⟩; have HO6 := Lib.hid ho6; have HK6' := Lib.hid hk6; clear ho6 hk6)
    have HK6 := Lib.hid (HK5.out.then_ HK6'.out (fun _ h => h.elim))
    have HQ16 := Lib.hid (HQ15.out.kp HK6'.out (fun h => h))
    have HQ26 := Lib.hid (HQ25.out.kp HK6'.out (fun h => h))
    have HBA6 := Lib.hid (HBA5.out.kp HK6'.out (fun _ _ h => h))
    have HBB6 := Lib.hid (HBB5.out.kp HK6'.out (fun _ _ h => h))
    have HBS6 := Lib.hid (HBS5.out.kp HK6'.out (fun _ _ h => h))
    have HBY6 := Lib.hid ((HO6.out.br rfl).mono (ok' := fun _ => True) (fun _ _ => trivial))
    clear HWL5 HK6' HO6 HK5 HQ15 HQ25 HBA5 HBB5 HBS5
    -- the bytes of one that isn't made of others end with its own
    obtain ⟨q, hq⟩ : ∃ q, q = ry.length - lx.length := ⟨_, rfl⟩
    obtain ⟨Ay2, dy2, hsl, hby2⟩ := slice_fromN (N := ry.length) (q := q) rfl HBY6.out (by omega)
    rw [hq, HRYD.out, ← hq, show ry.length - q = lx.length by omega] at hby2
    rw [show ry.length - q = lx.length by omega] at hsl
    have hqI : (ry.length : Int) - (lx.length : Int) = (q : Int) := by omega
    have hqw : IntKind.i64.wrap (q : Int) = (q : Int) := by simp [IntKind.wrap, IntKind.bits, IntKind.signed]; omega
    have hylI : decide ((ry.length : Int) < (lx.length : Int)) = false := by simp; omega
    have hylN : decide (ry.length < lx.length) = false := by simp; omega
    obtain ⟨gx, hgx⟩ : ∃ gx, str lx = gx := ⟨_, rfl⟩
    have hggx : (gx.toList != gx.toList) = false := by simp
    have hggx2 : (gx.toList == gx.toList) = true := by simp
    have HCE := Lib.hid (fun W (hk : Kp (fun _ => False) w6 W) => show (fun w' : World => (convert 22 9 (.slice Ay2 lx.length dy2)).run Tryd.prog w' = .ok (.string gx) w' ∧ (convert 22 9 (.slice Ax lx.length cx)).run Tryd.prog w' = .ok (.string gx) w') W from by
      refine ⟨?_, ?_⟩
      · rw [← hgx]
        exact run_str (e := 5) Tryd.underlying22 Tryd.underlying5 Tryd.underlying9 (hby2.kp hk (fun _ _ h => h))
      · rw [← hgx]
        exact run_str (e := 5) Tryd.underlying22 Tryd.underlying5 Tryd.underlying9 (HXB.out W (HK6.out.then_ hk (fun _ h => h.elim))))
    have HKZ := Lib.hid (Kp.refl (fun _ => False) w6)
    clear hgx HRYD HBY6 hq
    go_cut [76] (fun cv wx => cv = .bool false ∧ Kp (fun _ => False) w6 wx)
    case first =>
      clear hdx hdy
      go_region_held3 (fun w' : World => (convert 22 9 (.slice Ay2 lx.length dy2)).run Tryd.prog w' = .ok (.string gx) w' ∧ (convert 22 9 (.slice Ax lx.length cx)).run Tryd.prog w' = .ok (.string gx) w') (first | exact HCE.out _ HKZ.out | exact HCE.out _ HKZ.out.drew) (fail)
      go_wp2_with fail
      go_meet
      exact ⟨rfl, by first | exact HKZ.out | exact HKZ.out.drew⟩
    case rest =>
    obtain ⟨rfl, hkc⟩ := hcut
    generalize wc = w7 at hkc ⊢
    have HK7 := Lib.hid (HK6.out.then_ hkc (fun _ h => h.elim))
    have HQ17 := Lib.hid (HQ16.out.kp hkc (fun h => h))
    have HQ27 := Lib.hid (HQ26.out.kp hkc (fun h => h))
    have HBA7 := Lib.hid (HBA6.out.kp hkc (fun _ _ h => h))
    have HBB7 := Lib.hid (HBB6.out.kp hkc (fun _ _ h => h))
    have HBS7 := Lib.hid (HBS6.out.kp hkc (fun _ _ h => h))
    clear hkc HCE HKZ HK6 HQ16 HQ26 HBA6 HBB6 HBS6 hsl hby2 hqI hqw hylI hylN hggx hggx2
    go_upto_region 9 with fail
    obtain ⟨tb, htb⟩ : ∃ tb, ((ea != 0) || ((eb != 0) || decide (max (depN X) (depN Y) = 8))) = tb := ⟨_, rfl⟩
    rw [htb] at HEND
    have HCE := Lib.hid (fun W (hk : Kp (fun _ => False) w7 W) => show (fun w' : World => w'.cell? ⟨w.heap.size, 0, none⟩ = some (.int .i64 c) ∧ w'.cell? ⟨w.heap.size, 1, none⟩ = some (.int .i64 t) ∧ w'.cell? ⟨w.heap.size, 2, none⟩ = some (.bool m) ∧ w'.cell? ⟨w.heap.size, 3, none⟩ = some (.slice A1 B.length c1) ∧ w'.cell? ⟨w.heap.size, 4, none⟩ = some (.slice A2 l.length c2) ∧ w'.cell? ⟨w.heap.size + 1, 0, none⟩ = some (.int .i64 c') ∧ w'.cell? ⟨w.heap.size + 1, 1, none⟩ = some (.int .i64 t') ∧ w'.cell? ⟨w.heap.size + 1, 2, none⟩ = some (.bool m') ∧ w'.cell? ⟨w.heap.size + 1, 3, none⟩ = some (.slice A3 B'.length c3) ∧ w'.cell? ⟨w.heap.size + 1, 4, none⟩ = some (.slice A4 l'.length c4)) W from by
      have h1 := HQ17.out.kp hk (fun h => h)
      have h2 := HQ27.out.kp hk (fun h => h)
      exact ⟨h1.cell 0, h1.cell 1, h1.cell 2, h1.cell 3, h1.cell 4, h2.cell 0, h2.cell 1, h2.cell 2, h2.cell 3, h2.cell 4⟩)
    have HKZ := Lib.hid (Kp.refl (fun _ => False) w7)
    have HD := Lib.hid (show ∀ (v : Value) (d : Nat), ((v = .agg #[.int .i64 c, .int .i64 t, .bool m, .slice A1 B.length c1, .slice A2 l.length c2] ∧ d = depN X) ∨ (v = .agg #[.int .i64 c', .int .i64 t', .bool m', .slice A3 B'.length c3, .slice A4 l'.length c4] ∧ d = depN Y)) → ∀ W, Kp (fun _ => False) w7 W →
        Calls Tryd.prog 24 #[v] W fun e w' => e = .returned (.int .i64 (d : Int)) ∧ Kp (fun _ => False) W w' from by
      intro v d h W hk
      rcases h with ⟨rfl, rfl⟩ | ⟨rfl, rfl⟩
      · exact HDX.out W (HK7.out.then_ hk (fun _ h => h.elim))
      · exact HDY.out W (HK7.out.then_ hk (fun _ h => h.elim)))
    clear HDX HDY
    go_cut [90] (fun cv wx => cv = .bool tb ∧ Kp (fun _ => False) w7 wx)
    case first =>
      by_cases hea : ea = 0
      · have hea0 : (ea != 0) = false := by simpa using hea
        by_cases heb : eb = 0
        · have heb0 : (eb != 0) = false := by simpa using heb
          rw [hea0, heb0] at htb
          simp only [Bool.false_or] at htb
          have HTB := Lib.hid htb
          obtain ⟨dx, hdxe⟩ : ∃ dx, depN X = dx := ⟨_, rfl⟩
          obtain ⟨dy, hdye⟩ : ∃ dy, depN Y = dy := ⟨_, rfl⟩
          rw [hdxe, hdye] at HD HTB
          clear hea heb htb HEND hdx hdy hdxe hdye
          go_region_held3 (fun w' : World => w'.cell? ⟨w.heap.size, 0, none⟩ = some (.int .i64 c) ∧ w'.cell? ⟨w.heap.size, 1, none⟩ = some (.int .i64 t) ∧ w'.cell? ⟨w.heap.size, 2, none⟩ = some (.bool m) ∧ w'.cell? ⟨w.heap.size, 3, none⟩ = some (.slice A1 B.length c1) ∧ w'.cell? ⟨w.heap.size, 4, none⟩ = some (.slice A2 l.length c2) ∧ w'.cell? ⟨w.heap.size + 1, 0, none⟩ = some (.int .i64 c') ∧ w'.cell? ⟨w.heap.size + 1, 1, none⟩ = some (.int .i64 t') ∧ w'.cell? ⟨w.heap.size + 1, 2, none⟩ = some (.bool m') ∧ w'.cell? ⟨w.heap.size + 1, 3, none⟩ = some (.slice A3 B'.length c3) ∧ w'.cell? ⟨w.heap.size + 1, 4, none⟩ = some (.slice A4 l'.length c4)) (first | exact HCE.out _ HKZ.out | exact HCE.out _ HKZ.out.drew) (first
            | (go_at_call 24; refine (HD.out _ _ (by first | exact .inl ⟨rfl, rfl⟩ | exact .inr ⟨rfl, rfl⟩) _ (by first | exact HKZ.out | exact HKZ.out.drew)).mono ?_; rintro e w5 ⟨rfl, hk5⟩; have hq := Kp.then_ (a := w7) (S := fun _ => False) (by first | exact HKZ.out | exact HKZ.out.drew) hk5 (fun _ h => h.elim); clear HKZ; have HKZ := Lib.hid hq; clear hq hk5))
          go_wp2_with fail
          go_meet
          refine ⟨?_, HKZ.out⟩
          rw [← HTB.out]
          congr 1
          rw [Bool.eq_iff_iff]
          simp
          omega
        · have heb0 : (eb != 0) = true := by simpa using heb
          have htb1 : tb = true := by rw [← htb, heb0]; simp
          subst htb1
          clear hea heb htb HEND
          refine wp_region_noPanic ?_
          refine wp_region_held_drew (S := (fun _ : World => True)) (by kernel_rfl) trivial (fun hHeld => ?_)
          refine wpAnyH_take (i := 0) (v := ?vja_0) (by simp only [List.getElem?_toArray, List.getElem?_cons_succ, List.getElem?_cons_zero]; rfl) (by kernel_rfl) (by kernel_rfl) (by kernel_rfl) (fun _ _ _ h => h) (Or.inl ⟨by rfl, ?hja_0⟩) (by assumption) ?rja_0
          case hja_0 => (intro w hSw; (try dsimp only at hSw); go_simp; (try with_reducible rfl))
          try simp only [Act.put, List.setIfInBounds_toArray, List.set_cons_zero, List.set_cons_succ]
          refine wpAnyH_take (i := 1) (v := ?vja_1) (by simp only [List.getElem?_toArray, List.getElem?_cons_succ, List.getElem?_cons_zero]; rfl) (by kernel_rfl) (by kernel_rfl) (by kernel_rfl) (fun _ _ _ h => h) (Or.inl ⟨by rfl, ?hja_1⟩) (by assumption) ?rja_1
          case hja_1 => (intro w hSw; (try dsimp only at hSw); go_simp; (try with_reducible rfl))
          try simp only [Act.put, List.setIfInBounds_toArray, List.set_cons_zero, List.set_cons_succ]
          refine wpAnyH_take (i := 2) (v := ?vja_2) (by simp only [List.getElem?_toArray, List.getElem?_cons_succ, List.getElem?_cons_zero]; rfl) (by kernel_rfl) (by kernel_rfl) (by kernel_rfl) (fun _ _ _ h => h) (Or.inl ⟨by rfl, ?hja_2⟩) (by assumption) ?rja_2
          case hja_2 => (intro w hSw; (try dsimp only at hSw); go_simp; (try with_reducible rfl))
          try simp only [Act.put, List.setIfInBounds_toArray, List.set_cons_zero, List.set_cons_succ]
          refine wpAnyH_take (i := 3) (v := ?vja_3) (by simp only [List.getElem?_toArray, List.getElem?_cons_succ, List.getElem?_cons_zero]; rfl) (by kernel_rfl) (by kernel_rfl) (by kernel_rfl) (fun _ _ _ h => h) (Or.inl ⟨by rfl, ?hja_3⟩) (by assumption) ?rja_3
          case hja_3 => (intro w hSw; (try dsimp only at hSw); go_simp; (try with_reducible rfl))
          try simp only [Act.put, List.setIfInBounds_toArray, List.set_cons_zero, List.set_cons_succ]
          refine wpAnyH_take (i := 4) (v := ?vja_4) (by simp only [List.getElem?_toArray, List.getElem?_cons_succ, List.getElem?_cons_zero]; rfl) (by kernel_rfl) (by kernel_rfl) (by kernel_rfl) (fun _ _ _ h => h) (Or.inl ⟨by rfl, ?hja_4⟩) (by assumption) ?rja_4
          case hja_4 => (intro w hSw; (try dsimp only at hSw); go_simp; (try with_reducible rfl))
          try simp only [Act.put, List.setIfInBounds_toArray, List.set_cons_zero, List.set_cons_succ]
          refine wpAnyH_take (i := 5) (v := ?vja_5) (by simp only [List.getElem?_toArray, List.getElem?_cons_succ, List.getElem?_cons_zero]; rfl) (by kernel_rfl) (by kernel_rfl) (by kernel_rfl) (fun _ _ _ h => h) (Or.inl ⟨by rfl, ?hja_5⟩) (by assumption) ?rja_5
          case hja_5 => (intro w hSw; (try dsimp only at hSw); go_simp; (try with_reducible rfl))
          try simp only [Act.put, List.setIfInBounds_toArray, List.set_cons_zero, List.set_cons_succ]
          refine wpAnyH_take (i := 6) (v := ?vja_6) (by simp only [List.getElem?_toArray, List.getElem?_cons_succ, List.getElem?_cons_zero]; rfl) (by kernel_rfl) (by kernel_rfl) (by kernel_rfl) (fun _ _ _ h => h) (Or.inl ⟨by rfl, ?hja_6⟩) (by assumption) ?rja_6
          case hja_6 => (intro w hSw; (try dsimp only at hSw); go_simp; (try with_reducible rfl))
          try simp only [Act.put, List.setIfInBounds_toArray, List.set_cons_zero, List.set_cons_succ]
          refine wpAnyH_take (i := 7) (v := undef) (by simp only [List.getElem?_toArray, List.getElem?_cons_succ, List.getElem?_cons_zero]; rfl) (by kernel_rfl) (by kernel_rfl) (by kernel_rfl) (fun _ _ _ h => h) (Or.inr ⟨by rfl, rfl⟩) (by assumption) ?rja_7
          try simp only [Act.put, List.setIfInBounds_toArray, List.set_cons_zero, List.set_cons_succ]
          refine wpAnyH_take (i := 8) (v := undef) (by simp only [List.getElem?_toArray, List.getElem?_cons_succ, List.getElem?_cons_zero]; rfl) (by kernel_rfl) (by kernel_rfl) (by kernel_rfl) (fun _ _ _ h => h) (Or.inr ⟨by rfl, rfl⟩) (by assumption) ?rja_8
          try simp only [Act.put, List.setIfInBounds_toArray, List.set_cons_zero, List.set_cons_succ]
          refine wpAnyH_take (i := 9) (v := undef) (by simp only [List.getElem?_toArray, List.getElem?_cons_succ, List.getElem?_cons_zero]; rfl) (by kernel_rfl) (by kernel_rfl) (by kernel_rfl) (fun _ _ _ h => h) (Or.inr ⟨by rfl, rfl⟩) (by assumption) ?rja_9
          try simp only [Act.put, List.setIfInBounds_toArray, List.set_cons_zero, List.set_cons_succ]
          refine wpAnyH_take (i := 10) (v := undef) (by simp only [List.getElem?_toArray, List.getElem?_cons_succ, List.getElem?_cons_zero]; rfl) (by kernel_rfl) (by kernel_rfl) (by kernel_rfl) (fun _ _ _ h => h) (Or.inr ⟨by rfl, rfl⟩) (by assumption) ?rja_10
          try simp only [Act.put, List.setIfInBounds_toArray, List.set_cons_zero, List.set_cons_succ]
          refine wpAnyH_take (i := 11) (v := undef) (by simp only [List.getElem?_toArray, List.getElem?_cons_succ, List.getElem?_cons_zero]; rfl) (by kernel_rfl) (by kernel_rfl) (by kernel_rfl) (fun _ _ _ h => h) (Or.inr ⟨by rfl, rfl⟩) (by assumption) ?rja_11
          try simp only [Act.put, List.setIfInBounds_toArray, List.set_cons_zero, List.set_cons_succ]
          refine wpAnyH_take (i := 12) (v := undef) (by simp only [List.getElem?_toArray, List.getElem?_cons_succ, List.getElem?_cons_zero]; rfl) (by kernel_rfl) (by kernel_rfl) (by kernel_rfl) (fun _ _ _ h => h) (Or.inr ⟨by rfl, rfl⟩) (by assumption) ?rja_12
          try simp only [Act.put, List.setIfInBounds_toArray, List.set_cons_zero, List.set_cons_succ]
          refine wpAnyH_take (i := 13) (v := ?vja_13) (by simp only [List.getElem?_toArray, List.getElem?_cons_succ, List.getElem?_cons_zero]; rfl) (by kernel_rfl) (by kernel_rfl) (by kernel_rfl) (fun _ _ _ h => h) (Or.inl ⟨by rfl, ?hja_13⟩) (by assumption) ?rja_13
          case hja_13 => (intro w hSw; (try dsimp only at hSw); go_simp; (try with_reducible rfl))
          try simp only [Act.put, List.setIfInBounds_toArray, List.set_cons_zero, List.set_cons_succ]
          refine wpAnyH_done (by kernel_rfl) ?_ _
          refine NoPanic.normal ?_
          go_wp2_with fail
          go_meet
          exact ⟨rfl, by first | exact HKZ.out | exact HKZ.out.drew⟩
      · have hea0 : (ea != 0) = true := by simpa using hea
        have htb1 : tb = true := by rw [← htb, hea0]; simp
        subst htb1
        clear hea htb HEND
        refine wp_region_noPanic ?_
        refine wp_region_held_drew (S := (fun _ : World => True)) (by kernel_rfl) trivial (fun hHeld => ?_)
        refine wpAnyH_take (i := 0) (v := ?vjb_0) (by simp only [List.getElem?_toArray, List.getElem?_cons_succ, List.getElem?_cons_zero]; rfl) (by kernel_rfl) (by kernel_rfl) (by kernel_rfl) (fun _ _ _ h => h) (Or.inl ⟨by rfl, ?hjb_0⟩) (by assumption) ?rjb_0
        case hjb_0 => (intro w hSw; (try dsimp only at hSw); go_simp; (try with_reducible rfl))
        try simp only [Act.put, List.setIfInBounds_toArray, List.set_cons_zero, List.set_cons_succ]
        refine wpAnyH_take (i := 1) (v := ?vjb_1) (by simp only [List.getElem?_toArray, List.getElem?_cons_succ, List.getElem?_cons_zero]; rfl) (by kernel_rfl) (by kernel_rfl) (by kernel_rfl) (fun _ _ _ h => h) (Or.inl ⟨by rfl, ?hjb_1⟩) (by assumption) ?rjb_1
        case hjb_1 => (intro w hSw; (try dsimp only at hSw); go_simp; (try with_reducible rfl))
        try simp only [Act.put, List.setIfInBounds_toArray, List.set_cons_zero, List.set_cons_succ]
        refine wpAnyH_take (i := 2) (v := ?vjb_2) (by simp only [List.getElem?_toArray, List.getElem?_cons_succ, List.getElem?_cons_zero]; rfl) (by kernel_rfl) (by kernel_rfl) (by kernel_rfl) (fun _ _ _ h => h) (Or.inl ⟨by rfl, ?hjb_2⟩) (by assumption) ?rjb_2
        case hjb_2 => (intro w hSw; (try dsimp only at hSw); go_simp; (try with_reducible rfl))
        try simp only [Act.put, List.setIfInBounds_toArray, List.set_cons_zero, List.set_cons_succ]
        refine wpAnyH_take (i := 3) (v := undef) (by simp only [List.getElem?_toArray, List.getElem?_cons_succ, List.getElem?_cons_zero]; rfl) (by kernel_rfl) (by kernel_rfl) (by kernel_rfl) (fun _ _ _ h => h) (Or.inr ⟨by rfl, rfl⟩) (by assumption) ?rjb_3
        try simp only [Act.put, List.setIfInBounds_toArray, List.set_cons_zero, List.set_cons_succ]
        refine wpAnyH_take (i := 4) (v := undef) (by simp only [List.getElem?_toArray, List.getElem?_cons_succ, List.getElem?_cons_zero]; rfl) (by kernel_rfl) (by kernel_rfl) (by kernel_rfl) (fun _ _ _ h => h) (Or.inr ⟨by rfl, rfl⟩) (by assumption) ?rjb_4
        try simp only [Act.put, List.setIfInBounds_toArray, List.set_cons_zero, List.set_cons_succ]
        refine wpAnyH_take (i := 5) (v := ?vjb_5) (by simp only [List.getElem?_toArray, List.getElem?_cons_succ, List.getElem?_cons_zero]; rfl) (by kernel_rfl) (by kernel_rfl) (by kernel_rfl) (fun _ _ _ h => h) (Or.inl ⟨by rfl, ?hjb_5⟩) (by assumption) ?rjb_5
        case hjb_5 => (intro w hSw; (try dsimp only at hSw); go_simp; (try with_reducible rfl))
        try simp only [Act.put, List.setIfInBounds_toArray, List.set_cons_zero, List.set_cons_succ]
        refine wpAnyH_take (i := 6) (v := ?vjb_6) (by simp only [List.getElem?_toArray, List.getElem?_cons_succ, List.getElem?_cons_zero]; rfl) (by kernel_rfl) (by kernel_rfl) (by kernel_rfl) (fun _ _ _ h => h) (Or.inl ⟨by rfl, ?hjb_6⟩) (by assumption) ?rjb_6
        case hjb_6 => (intro w hSw; (try dsimp only at hSw); go_simp; (try with_reducible rfl))
        try simp only [Act.put, List.setIfInBounds_toArray, List.set_cons_zero, List.set_cons_succ]
        refine wpAnyH_take (i := 7) (v := undef) (by simp only [List.getElem?_toArray, List.getElem?_cons_succ, List.getElem?_cons_zero]; rfl) (by kernel_rfl) (by kernel_rfl) (by kernel_rfl) (fun _ _ _ h => h) (Or.inr ⟨by rfl, rfl⟩) (by assumption) ?rjb_7
        try simp only [Act.put, List.setIfInBounds_toArray, List.set_cons_zero, List.set_cons_succ]
        refine wpAnyH_take (i := 8) (v := undef) (by simp only [List.getElem?_toArray, List.getElem?_cons_succ, List.getElem?_cons_zero]; rfl) (by kernel_rfl) (by kernel_rfl) (by kernel_rfl) (fun _ _ _ h => h) (Or.inr ⟨by rfl, rfl⟩) (by assumption) ?rjb_8
        try simp only [Act.put, List.setIfInBounds_toArray, List.set_cons_zero, List.set_cons_succ]
        refine wpAnyH_take (i := 9) (v := undef) (by simp only [List.getElem?_toArray, List.getElem?_cons_succ, List.getElem?_cons_zero]; rfl) (by kernel_rfl) (by kernel_rfl) (by kernel_rfl) (fun _ _ _ h => h) (Or.inr ⟨by rfl, rfl⟩) (by assumption) ?rjb_9
        try simp only [Act.put, List.setIfInBounds_toArray, List.set_cons_zero, List.set_cons_succ]
        refine wpAnyH_take (i := 10) (v := undef) (by simp only [List.getElem?_toArray, List.getElem?_cons_succ, List.getElem?_cons_zero]; rfl) (by kernel_rfl) (by kernel_rfl) (by kernel_rfl) (fun _ _ _ h => h) (Or.inr ⟨by rfl, rfl⟩) (by assumption) ?rjb_10
        try simp only [Act.put, List.setIfInBounds_toArray, List.set_cons_zero, List.set_cons_succ]
        refine wpAnyH_take (i := 11) (v := undef) (by simp only [List.getElem?_toArray, List.getElem?_cons_succ, List.getElem?_cons_zero]; rfl) (by kernel_rfl) (by kernel_rfl) (by kernel_rfl) (fun _ _ _ h => h) (Or.inr ⟨by rfl, rfl⟩) (by assumption) ?rjb_11
        try simp only [Act.put, List.setIfInBounds_toArray, List.set_cons_zero, List.set_cons_succ]
        refine wpAnyH_take (i := 12) (v := undef) (by simp only [List.getElem?_toArray, List.getElem?_cons_succ, List.getElem?_cons_zero]; rfl) (by kernel_rfl) (by kernel_rfl) (by kernel_rfl) (fun _ _ _ h => h) (Or.inr ⟨by rfl, rfl⟩) (by assumption) ?rjb_12
        try simp only [Act.put, List.setIfInBounds_toArray, List.set_cons_zero, List.set_cons_succ]
        refine wpAnyH_take (i := 13) (v := ?vjb_13) (by simp only [List.getElem?_toArray, List.getElem?_cons_succ, List.getElem?_cons_zero]; rfl) (by kernel_rfl) (by kernel_rfl) (by kernel_rfl) (fun _ _ _ h => h) (Or.inl ⟨by rfl, ?hjb_13⟩) (by assumption) ?rjb_13
        case hjb_13 => (intro w hSw; (try dsimp only at hSw); go_simp; (try with_reducible rfl))
        try simp only [Act.put, List.setIfInBounds_toArray, List.set_cons_zero, List.set_cons_succ]
        refine wpAnyH_done (by kernel_rfl) ?_ _
        refine NoPanic.normal ?_
        go_wp2_with fail
        go_meet
        exact ⟨rfl, by first | exact HKZ.out | exact HKZ.out.drew⟩
    case rest =>
    obtain ⟨rfl, hkc⟩ := hcut
    generalize wc = w8 at hkc ⊢
    have HK8 := Lib.hid (HK7.out.then_ hkc (fun _ h => h.elim))
    have HBA8 := Lib.hid (HBA7.out.kp hkc (fun _ _ h => h))
    have HBB8 := Lib.hid (HBB7.out.kp hkc (fun _ _ h => h))
    have HBS8 := Lib.hid (HBS7.out.kp hkc (fun _ _ h => h))
    have hends := HEND.out
    clear hkc HCE HKZ HD HK7 HQ17 HQ27 HBA7 HBB7 HBS7 HEND
    rcases hends with ⟨rfl, rfl, hes⟩ | ⟨rfl, rfl, h3, rfl, hrs⟩
    · have hesb : (es != 0) = true := by simpa using hes
      clear hes htb
      simp only [List.length_nil] at HBS8 ⊢
      go_wp2_with fail
      go_ret
      exact ⟨rfl, HK8.out⟩
    · have htb0 : tb = false := by rw [← htb]; simp [h3]
      subst htb0
      clear htb
      have hll := lenB_len (ra ++ rb).length
      obtain ⟨q2, hq2⟩ : ∃ q2, (48 :: lenB (ra ++ rb).length).length = q2 := ⟨_, rfl⟩
      have hq2b : 2 ≤ q2 ∧ q2 ≤ 5 := by rw [← hq2, List.length_cons]; omega
      obtain ⟨hq2b, hq2c⟩ := hq2b
      have hrl : rs.length = q2 + (ra.length + rb.length) := by rw [hrs, List.length_append, hq2, List.length_append]
      have hrd : rs.drop q2 = ra ++ rb := by rw [hrs, ← hq2, List.drop_left]
      have hr0 : ∃ h : 0 < rs.length, (rs[0]'h).toNat = 48 := ⟨by omega, by simp only [hrs, List.cons_append, List.getElem_cons_zero]; rfl⟩
      obtain ⟨hr0, hr48⟩ := hr0
      obtain ⟨As9, cs9, e9, _, hrd9⟩ := id HBS8.out
      injection e9 with e91 e92 e93
      subst e91 e93
      obtain ⟨sb, so, rfl, _, hsc⟩ := hrd9.byte hr0
      rw [hr48, Nat.add_zero] at hsc
      obtain ⟨nn, hnn⟩ : ∃ nn, nn = ra.length + rb.length := ⟨_, rfl⟩
      obtain ⟨As2, ds2, hsl, hbs2⟩ := slice_fromN (N := rs.length) (q := q2) rfl HBS8.out (by omega)
      rw [hrd] at hbs2
      rw [show rs.length - q2 = nn by omega] at hsl hbs2
      have hqI : (rs.length : Int) - (nn : Int) = (q2 : Int) := by omega
      have hqw : IntKind.i64.wrap (q2 : Int) = (q2 : Int) := by simp [IntKind.wrap, IntKind.bits, IntKind.signed]; omega
      have hnI : (ra.length : Int) + (rb.length : Int) = (nn : Int) := by omega
      have hn2w : IntKind.i64.wrap ((nn : Int) + 2) = (nn : Int) + 2 := by simp [IntKind.wrap, IntKind.bits, IntKind.signed]; omega
      have hn0w : IntKind.i64.wrap (nn : Int) = (nn : Int) := by simp [IntKind.wrap, IntKind.bits, IntKind.signed]; omega
      have hge : decide ((nn : Int) + 2 ≤ (rs.length : Int)) = true := by simp; omega
      have hadd := fun W => add_strN W ra rb (by omega)
      obtain ⟨ga, hga⟩ : ∃ g, str ra = g := ⟨_, rfl⟩
      obtain ⟨gb, hgb⟩ : ∃ g, str rb = g := ⟨_, rfl⟩
      obtain ⟨gz, hgz⟩ : ∃ g, str (ra ++ rb) = g := ⟨_, rfl⟩
      rw [hga, hgb, hgz] at hadd
      have hggz : (gz.toList == gz.toList) = true := by simp
      have hnb : nn ≤ 1000000 ∧ (nn : Int) ≤ 1000000 := by omega
      obtain ⟨hnb, hnbI⟩ := hnb
      clear hrs hq2 hrl hrd hr48 hrd9 h3 hll hdx hdy hnn
      go_upto_region 12 with fail
      have HCE := Lib.hid (fun W (hk : Kp (fun _ => False) w8 W) => show (fun w' : World => (convert 22 9 (.slice As2 nn ds2)).run Tryd.prog w' = .ok (.string gz) w' ∧ (convert 22 9 (.slice Aa ra.length ca)).run Tryd.prog w' = .ok (.string ga) w' ∧ (convert 22 9 (.slice Ab rb.length cb)).run Tryd.prog w' = .ok (.string gb) w' ∧ w'.cell? ⟨sb, so, none⟩ = some (.int .u8 48)) W from by
        refine ⟨?_, ?_, ?_, hk.cell hsc (fun h => h)⟩
        · rw [← hgz]
          exact run_str (e := 5) Tryd.underlying22 Tryd.underlying5 Tryd.underlying9 (hbs2.kp hk (fun _ _ h => h))
        · rw [← hga]
          exact run_str (e := 5) Tryd.underlying22 Tryd.underlying5 Tryd.underlying9 (HBA8.out.kp hk (fun _ _ h => h))
        · rw [← hgb]
          exact run_str (e := 5) Tryd.underlying22 Tryd.underlying5 Tryd.underlying9 (HBB8.out.kp hk (fun _ _ h => h)))
      have HKZ := Lib.hid (Kp.refl (fun _ => False) w8)
      clear hga hgb hgz HBA8 HBB8 HBS8 hbs2 hsc
      go_cut [6] (fun cv wx => cv = .bool true ∧ Kp (fun _ => False) w8 wx)
      case first =>
        go_region_held3 (fun w' : World => (convert 22 9 (.slice As2 nn ds2)).run Tryd.prog w' = .ok (.string gz) w' ∧ (convert 22 9 (.slice Aa ra.length ca)).run Tryd.prog w' = .ok (.string ga) w' ∧ (convert 22 9 (.slice Ab rb.length cb)).run Tryd.prog w' = .ok (.string gb) w' ∧ w'.cell? ⟨sb, so, none⟩ = some (.int .u8 48)) (first | exact HCE.out _ HKZ.out | exact HCE.out _ HKZ.out.drew) (fail)
        go_wp2_with fail
        go_meet
        exact ⟨rfl, by first | exact HKZ.out | exact HKZ.out.drew⟩
      case rest =>
      obtain ⟨rfl, hkc⟩ := hcut
      have HK9 := Lib.hid (HK8.out.then_ hkc (fun _ h => h.elim))
      clear hkc HCE HKZ
      go_wp2_with fail
      go_ret
      exact ⟨rfl, HK9.out⟩
end Go.Proofs.YtgjbfgkcbehjnaaDoor

namespace Go.Proofs.YtgjbfgkcbehjnaaDoor.derJoins
open Go.ChangeShapes Go.WideShapes Go.ChangeAt Go.RowKit
set_option linter.unusedVariables false

theorem own : ownKnob Tryd.prog.godebug = none := by kernel_rfl
theorem laidOut : laidOutB Tryd.prog = true := by kernel_rfl

theorem door_met (os : Os) (args : Array Value) : laidMetH Tryd.prog Rows.derJoinsRow.laid ((World.doorLaid Tryd.prog 77 os).forCall (fun _ _ => 0) ⟨#[], args, []⟩).memory :=
  laidMetH_of_parts3 (fuel := 8) (laidMet_of_run' 8 (by kernel_rfl) (by kernel_rfl)) (by kernel_rfl) (by kernel_rfl)

set_option maxRecDepth 100000 in
theorem lifted (os : Os) (started : os.Started) (H : Type) (enc : TypeId × Value → H) :
    ReturnsInHanded {} Tryd.checked os 11 .any (fun w args => (Rows.derJoinsSpec.pre enc Tryd.prog Tryd.f11 [] false w args ∧ laidMetH Tryd.prog Rows.derJoinsRow.laid w) ∧ sizedMet enc Tryd.prog Tryd.f11 (OpenSpec.ofChange Rows.derJoinsSpec) false w args) (Rows.derJoinsSpec.post enc Tryd.prog Tryd.f11 false true false false) := by
  refine returnsInHanded_of_change_and (C := Tryd.checked) (X := fun w _ => laidMetH Tryd.prog Rows.derJoinsRow.laid w) (fun _ _ _ hh h => h.of_heap hh) own started (by kernel_rfl) Tryd.func11
    (ChangeSpec.witness_shaped (enc := enc) (C := Tryd.checked) (os := os) (X := fun w _ => laidMetH Tryd.prog Rows.derJoinsRow.laid w) false (World.doorLaid Tryd.prog 77 os) #[.agg #[.int .i64 0, .int .i64 0, .bool false, .slice none 0 0, .slice none 0 0], .agg #[.int .i64 0, .int .i64 0, .bool false, .slice none 0 0, .slice none 0 0], .slice none 0 0] 8 rfl (World.shaped_of_RefB (by kernel_rfl) (by kernel_rfl)) (by kernel_rfl) (by kernel_rfl) (by kernel_rfl) (door_met os _)) ?_
  intro W base args ds gs before hval0 hW hcnd hsz0 hL _
  have tab := tabN (hf := by kernel_rfl) (hg := by kernel_rfl) hL
  have hval : ∀ (j : Nat) t v, Tryd.f11.params[j]? = some t → args[j]? = some v → Value.okWide Tryd.prog W .any base t v := hval0
  have hW' := hW
  obtain ⟨p, q, hA0, hV, rfl, hfz, hnd⟩ := hW
  have hA : DataW.TrodAll enc Tryd.prog W 0 (fun _ => true) true Tryd.f11.params.toList args.toList ds p := hA0
  obtain ⟨rfl, rfl⟩ := trodVars_none hV
  have hsz : (DataW.weightsEach Tryd.prog (Tryd.f11.params.toList ++ []) (ds ++ [])).all (· ≤ reachBytes) = true := hsz0
  rw [List.append_nil, List.append_nil] at hsz
  rw [Tryd.params11] at hA hval hsz
  obtain ⟨v0, vs0, d0, ds0, p0, q0, hargs, rfl, rfl, h0, r0⟩ := trodAll_cons hA
  obtain ⟨v1, vs1, d1, ds1, p1, q1, rfl, rfl, rfl, h1, r1⟩ := trodAll_cons r0
  obtain ⟨v2, vs2, d2, ds2, p2, q2, rfl, rfl, rfl, h2, r2⟩ := trodAll_cons r1
  obtain ⟨rfl, rfl, rfl⟩ := trodAll_nil r2
  obtain rfl : args = #[v0, v1, v2] := by cases args; simp_all
  have k0 := h0
  have lt0 : ∀ x ∈ p0, x.block < W.heap.size := by obtain ⟨m, hm⟩ := k0; exact DataW.trod_lt m _ _ _ hm
  have k1 := h1
  have lt1 : ∀ x ∈ p1, x.block < W.heap.size := by obtain ⟨m, hm⟩ := k1; exact DataW.trod_lt m _ _ _ hm
  have k2 := h2
  have lt2 : ∀ x ∈ p2, x.block < W.heap.size := by obtain ⟨m, hm⟩ := k2; exact DataW.trod_lt m _ _ _ hm
  obtain ⟨l0, b0⟩ := open_node (hval 0 25 v0 rfl rfl) h0 (_hsz := hsz) (j := 0) rfl rfl
  obtain ⟨l1, b1⟩ := open_node (hval 1 25 v1 rfl rfl) h1 (_hsz := hsz) (j := 1) rfl rfl
  obtain ⟨l2, b2, e2⟩ := open_br Tryd.underlying22 Tryd.underlying5 (by kernel_rfl) (hval 2 22 v2 rfl rfl) h2
  have s2 := sized_len hsz (j := 2) (t := 22) (e := 5) rfl rfl Tryd.underlying22 e2
  rw [show Tryd.prog.bytesOf 5 = 1 from by kernel_rfl] at s2
  clear hA0 hval0 hsz0
  refine (djoins_walk W tab v0 l0 b0 v1 l1 b1 v2 l2 b2 (by omega)).mono fun e W' ⟨he, bel⟩ => ?_
  subst he
  exact ⟨_, rfl, _, _, _, [], _, [], hW', trodAll_mk1 (shut_bool Tryd.underlying4 _), (trodAll_cons_mk (Below.trod laidOut (by kernel_rfl) (of_decide_eq_true (by kernel_rfl)) k0 bel lt0) (trodAll_cons_mk (Below.trod laidOut (by kernel_rfl) (of_decide_eq_true (by kernel_rfl)) k1 bel lt1) (trodAll_cons_mk (Below.trod laidOut (by kernel_rfl) (of_decide_eq_true (by kernel_rfl)) k2 bel lt2) trodAll_mk0))), rfl, bel.frame _, fun h => by cases h⟩

theorem over : Rows.derJoinsRow.holds Tryd.pinned (OpenSpec.ofChange Rows.derJoinsSpec) :=
  OpenClaim.holds_of_wide 11 Tryd.f11 rfl rfl rfl rfl rfl rfl rfl ⟨rfl, rfl, rfl, rfl, rfl⟩ rfl rfl rfl rfl rfl (by kernel_rfl) Tryd.func11 (by kernel_rfl)
    (of_decide_eq_true (by kernel_rfl)) (by unfold Func.isWrapper; first | (rw [if_pos (by decide +kernel)]; kernel_rfl) | (rw [if_neg (by decide +kernel)]; exact ⟨rfl, rfl⟩))
    (fun os started H enc _ => lifted os started H enc)

/-- The tied card. -/
theorem proved : Rows.DerJoinsCardSaid :=
  Claim7.holds_tied_plain_at .later [] [.data, .data, .data, .sentinel, .sentinel, .widerDeep, .widerDeep, .data] true (true, "0ab74d96bed3506d8a76af22bf9d6f6d114eadcc4072f4d921186855ad1623b7") true
    over (fun _ h => by cases h) (by kernel_rfl) (fun _ h => by cases h) derJoins_row_tie rfl ⟨rfl, rfl⟩ (by kernel_rfl) rfl
    (fun f fn hf hfn => by
      obtain rfl : f = 11 := Option.some.inj ((show Tryd.prog.funcNamed "passepartout/passepartoutlaw11.DerJoins" = some 11 by kernel_rfl).symm.trans hf) |>.symm
      obtain rfl : fn = Tryd.f11 := (Option.some.inj (Tryd.func11.symm.trans hfn)).symm
      exact ⟨by kernel_rfl, fun j t ht => by
        rw [Tryd.params11] at ht
        have hm : t ∈ [25, 25, 22] := by simpa using Array.mem_of_getElem? ht
        have hall : ([25, 25, 22].all fun u => !Tryd.prog.wantsStandIn u) = true := by kernel_rfl
        exact (show Tryd.prog.wantsStandIn t = false by simpa using List.all_eq_true.1 hall t hm)⟩)
    (by kernel_rfl)
#print axioms proved
end Go.Proofs.YtgjbfgkcbehjnaaDoor.derJoins
