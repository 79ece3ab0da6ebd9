/-
  BuilderBack: the walk.
-/
import Derived.Test.YtgndammlhljfjaaAct02c
import Derived.Test.YtgndammlhljfjaaCur
import Derived.Test.YtgndammlhljfjaaL01
namespace Go.Proofs.Ytgndammlhljfjaa
open Go.RowKit

def encA (a : AV) : List UInt8 := if a.k = 0 then beB a.s.toNat a.x else a.b
def encL (l : List AV) : List UInt8 := l.flatMap encA
def Took (a : AV) : Prop := (a.k = 0 ∧ szB a.s = true ∧ a.x < 256 ^ a.s.toNat) ∨ (a.k = 1 ∧ a.k ≠ 0)

theorem step01 {most : Nat} {bs : List UInt8} {a : AV} (h : a.k = 0 ∨ a.k = 1) :
    (∃ r : Int, stepB most bs [] a = (bs, [], r) ∧ r ≠ 0) ∨ (stepB most bs [] a = (bs ++ encA a, [], 0) ∧ Took a) := by
  rcases h with h | h
  · rw [stepB, if_pos h]
    cases hs : szB a.s
    · rw [if_pos rfl]; exact .inl ⟨2, rfl, by decide⟩
    · rw [if_neg (by simp)]
      by_cases h1 : 256 ^ a.s.toNat ≤ a.x
      · rw [if_pos h1]; exact .inl ⟨3, rfl, by decide⟩
      · rw [if_neg h1]
        by_cases h2 : most < bs.length + a.s.toNat
        · rw [if_pos h2]; exact .inl ⟨5, rfl, by decide⟩
        · rw [if_neg h2, encA, if_pos h]; exact .inr ⟨rfl, .inl ⟨h, hs, by omega⟩⟩
  · rw [stepB, if_neg (by omega), if_pos h, addB]
    by_cases h2 : most < bs.length + a.b.length
    · rw [if_pos h2]; exact .inl ⟨5, rfl, by decide⟩
    · rw [if_neg h2, encA, if_neg (by omega)]; exact .inr ⟨rfl, .inr ⟨h, by omega⟩⟩

theorem act_info : (Try.prog.info? 67).map (fun i => (i.zero, i.size, i.bytes)) = some (some (.agg #[.int .i64 0, .int .i64 0, .int .i64 0, .int .u64 0, .slice none 0 0]), 5, 56) := by kernel_rfl

/-- append of an act to acts of the call's own. -/
theorem app_acts {w : World} {ops : Array Oper} {rest : List Oper} {o : Oper} {ac : Go.Act} {Q : Exit → Go.Act → World → Prop} (hgd : o.guard = none) (s x : Operand)
    (ho : o.op = .call { callee := .builtin .append, args := #[s, x], argTypes := #[62, 62] })
    (OT : Nat → Prop) (A : Option Addr) (n c : Nat) (tk : List AV) (hs : ac.eval s = .slice A n c) (hown : Own w OT 67 5 (.slice A n c) n (tk.flatMap AV.c))
    (ok : Nat → Prop) (G : Addr) (a : AV) (hv : ∃ Av nv cv, a.v = .slice Av nv cv) (hx : ac.eval x = .slice (some G) 1 1) (hr : Rd w ok 5 (some G) 1 a.c) (k : Nat) (hk : n + 1 = k) (hk2 : k ≤ 1000)
    (h : ∀ A' c' w', Own w' (fun i => OT i ∨ w.heap.size ≤ i) 67 5 (.slice A' k c') k ((tk ++ [a]).flatMap AV.c) → Kp OT w w' → wpList Try.prog ops Q rest (ac.put o.dst (.slice A' k c')) w') : wpList Try.prog ops Q (o :: rest) ac w := by
  obtain ⟨i0, hi0, hz0, hz1, hz2⟩ := info_parts act_info
  have h1 : ∀ u ∈ a.c, u.oneCell' = true := by
    obtain ⟨Av, nv, cv, hv⟩ := hv
    intro u hu
    simp only [AV.c, List.mem_cons, List.not_mem_nil, or_false, hv] at hu
    rcases hu with rfl | rfl | rfl | rfl | rfl <;> rfl
  refine wpList_append_any w hgd s x _ ho 0 67 i0 _ 5 56 Try.underlying62 hi0 hz0 hz1 hz2 rfl (by omega) (.slice A n c) n (tk.flatMap AV.c) hs hown.1 ok (some G) 1 1 a.c hx hr h1 (by simp only [maxLen]; omega) (by omega) (Nat.zero_le _) ?_
  intro v' w' h1 h2 h3
  rw [hk] at h1
  have e : tk.flatMap AV.c ++ a.c = (tk ++ [a]).flatMap AV.c := by simp
  rw [e] at h1
  have hk' : Kp OT w w' := (Kp.refl _ _).grown h2 (fun j hj => .inl (hown.2 j hj))
  have ho' : Own w' (fun i => OT i ∨ w.heap.size ≤ i) 67 5 v' k ((tk ++ [a]).flatMap AV.c) := ⟨h1, fun j hj => by
    rcases h3 with e | e
    · exact .inl (hown.2 j (e ▸ hj))
    · rw [e] at hj
      injection hj with hj
      exact .inr (by omega)⟩
  obtain ⟨A', c', e, _⟩ := ho'.shape
  subst e
  exact h A' c' w' ho' hk'

theorem rd_lit (w : World) (t : TypeId) (xs : List Value) (cs : Array Value) (size n : Nat) (hcs : cs = xs.toArray) (h : xs.length = n * size) : Rd (w.alloc (.cells cs t)) (· = w.heap.size) size (some ⟨w.heap.size, 0, none⟩) n xs := by
  subst hcs
  refine ⟨h, fun _ => ⟨_, rfl, rfl, rfl, fun j u hu => ?_⟩⟩
  have h1 := (Blk.new w t xs.toArray).cell j
  have e : (⟨w.heap.size, 0, none⟩ : Addr).add j = ⟨w.heap.size, j, none⟩ := by
    unfold Addr.add
    split
    · next h0 => subst h0; rfl
    · simp
  rw [e, h1]
  simpa using hu

theorem BR.ltm {w : World} {ok : Nat → Prop} {v : Value} {l : List UInt8} (h : BR w ok v l) : BR w (fun i => ok i ∧ i < w.heap.size) v l := by
  obtain ⟨A, c, e, hc, h1, h2⟩ := h
  refine ⟨A, c, e, hc, h1, fun hn => ?_⟩
  obtain ⟨ad, hA, hsp, hok, hcell⟩ := h2 hn
  have hlt : 0 < (bc l).length := by rw [bc_length]; exact hn
  have h0 := cell_lt (hcell 0 _ (List.getElem?_eq_getElem hlt))
  rw [block_add] at h0
  exact ⟨ad, hA, hsp, ⟨hok, h0⟩, hcell⟩
theorem encL_drop {tk : List AV} {j : Nat} (h : j < tk.length) : encL (tk.drop j) = encA tk[j] ++ encL (tk.drop (j + 1)) := by
  show (tk.drop j).flatMap encA = _
  rw [List.drop_eq_getElem_cons h, List.flatMap_cons]
  rfl

theorem nn_front {s : Int} {x : Nat} {r : List UInt8} (hs : szB s = true) : nn (beB s.toNat x ++ r) s = (beB s.toNat x, 0) := by
  have h := szB_true hs
  rw [nn, if_pos hs, nx_ok (by omega) (by simp [beB_length]; omega)]
  rw [List.take_append_of_le_length (by rw [beB_length]; omega), List.take_of_length_le (by rw [beB_length]; omega)]
theorem nx_front (b r : List UInt8) : nx (b ++ r) b.length = (b, 0) := by
  rw [nx_ok (by omega) (by simp; omega)]
  simp

set_option maxRecDepth 100000 in
set_option maxHeartbeats 3200000 in
theorem bback_walk (w : World) (v : Value) (l : List AV) (hv : ARow w (· < w.heap.size) v l) :
    Calls Try.prog 13 #[v] w fun e w' => e = .returned (.bool true) ∧ Below w.heap.size w w' := by
  obtain ⟨⟨A, c, rfl, hlc, hr⟩, hall⟩ := id hv
  cases hgr : greatB l
  · obtain ⟨h60, h300⟩ := great_no hgr
    have HALL := Lib.hid hall
    have HV := Lib.hid hv
    have HGR := Lib.hid hgr
    clear hall hv hgr h300
    go_enter Try.func13, Try.ntmps13
    go_wp2_with fail
    refine (alive02 _).mono ?_
    rintro e w1 ⟨rfl, hk1⟩
    go_wp2_with fail
    refine (great02 _ _ _ l (HV.out.kp hk1 (fun _ _ h => h))).mono ?_
    rw [HGR.out]
    rintro e w2 ⟨rfl, hk2⟩
    have hkk2 := hk1.then_ hk2 (fun _ h => h.elim)
    go_wp2_with fail
    refine (bnew_ok 1048576 (by omega) _).mono ?_
    rintro e w3 ⟨g, rfl, hg, hb3, hk3⟩
    have hkk3 := hkk2.then_ hk3 (fun _ h => h.elim)
    have hz2 := hkk2.size
    go_wp2_with fail
    go_loopw [5, 36] (fun t i wr => ∃ (k : Nat) (tk : List AV) (A' : Option Addr) (c' : Nat) (OB OT : Nat → Prop), k ≤ l.length ∧ i = .int .i64 k ∧ tk.length ≤ k ∧ t = .slice A' tk.length c' ∧ (∀ i, OT i → ¬ OB i) ∧ (∀ i, OB i → w.heap.size ≤ i ∧ i < wr.heap.size) ∧ (∀ i, OT i → w.heap.size ≤ i ∧ i < wr.heap.size) ∧ Own wr OT 67 5 (.slice A' tk.length c') tk.length (tk.flatMap AV.c) ∧ Bld wr OB g (encL tk) 1048576 [] ∧ (∀ a ∈ tk, Took a ∧ a.Ok w (· < w.heap.size)) ∧ Kp (fun _ => False) w wr) (fun _ i _ => l.length - (intOf i).toNat)
    case atStart => exact ⟨0, [], none, 0, (· = g), (fun _ => False), Nat.zero_le _, rfl, Nat.zero_le _, rfl, fun _ h => h.elim, fun i hi => by subst hi; exact ⟨by omega, hb3.lt⟩, fun _ h => h.elim, Own.nil, hb3, fun a ha => by simp at ha, hkk3⟩
    case round =>
      obtain ⟨k, tk, A', c', OB, OT, hk, rfl, htk, rfl, hdis, hob, hot, hown, hbr, htook, hkr⟩ := hrel
      have HT := Lib.hid htook
      have HD := Lib.hid hdis
      have HOB := Lib.hid hob
      have HOT := Lib.hid hot
      clear htook hdis hob hot
      by_cases hlt : k < l.length
      · have hr' := hr.kp hkr (fun _ _ h => h)
        obtain ⟨b, off, rfl, hb, hcell⟩ := hr'.row (fun _ => rfl) hlt
        have hOk := HALL.out _ (List.getElem_mem hlt)
        obtain ⟨a, ha⟩ : ∃ a, l[k] = a := ⟨_, rfl⟩
        rw [ha] at hcell hOk
        obtain ⟨K, S, N, X, V, B⟩ := a
        have HOK := Lib.hid hOk
        obtain ⟨⟨Ab, cb, hVb, hlcb, hrb⟩, hX, _⟩ := hOk
        simp only at hVb hlcb hrb hX
        subst hVb
        have hc0 : wr.cell? ⟨b, off + k * 5, none⟩ = some (.int .i64 K) := hcell 0 _ rfl
        have hc1 : wr.cell? ⟨b, off + k * 5 + 1, none⟩ = some (.int .i64 S) := hcell 1 _ rfl
        have hc2 : wr.cell? ⟨b, off + k * 5 + 2, none⟩ = some (.int .i64 N) := hcell 2 _ rfl
        have hc3 : wr.cell? ⟨b, off + k * 5 + 3, none⟩ = some (.int .u64 X) := hcell 3 _ rfl
        have hc4 : wr.cell? ⟨b, off + k * 5 + 4, none⟩ = some (.slice Ab B.length cb) := hcell 4 _ rfl
        have hka : Kp (fun _ => False) wr (wr.alloc (.cells #[.int .i64 K, .int .i64 S, .int .i64 N, .int .u64 X, .slice Ab B.length cb] 67)) := (Kp.refl _ _).alloc _
        have hkra := hkr.then_ hka (fun _ h => h.elim)
        have hbk := Blk.new wr 67 #[.int .i64 K, .int .i64 S, .int .i64 N, .int .u64 X, .slice Ab B.length cb]
        have hza := hka.size
        have HKRA := Lib.hid hkra
        have HA := Lib.hid ha
        by_cases h01 : K = 0 ∨ K = 1
        · have hst := step01 (most := 1048576) (bs := encL tk) (a := ⟨K, S, N, X, .slice Ab B.length cb, B⟩) h01
          have HDo := Lib.hid (do_any OB (· < w.heap.size) g (encL tk) 1048576 [] ⟨K, S, N, X, .slice Ab B.length cb, B⟩ _ (hbr.kp_new hka) (by intro p hp; simp at hp) (by simp) (HOK.out.kp hkra (fun _ _ h => h)))
          have hownA := hown.kp hka (fun _ _ h => h)
          have HOWN := Lib.hid hownA
          have HST := Lib.hid hst
          have HH := Lib.hid h01
          clear hownA hown hst hrb hcell
          have htest : (K != 0) = false ∨ ((K != 0) = true ∧ (K != 1) = false) := by
            rcases HH.out with h | h
            · left; subst h; rfl
            · right; subst h; exact ⟨rfl, rfl⟩
          clear h01 hb3
          rcases htest with hq0 | ⟨hq0, hq1⟩
          all_goals
            go_wp2_with fail
            refine HDo.out.mono ?_
            rcases HST.out with ⟨r, hst, hr0⟩ | ⟨hst, htk1⟩
            · rw [hst]
              rintro e w5 ⟨rfl, hb5, hk5⟩
              simp only at hb5
              have hz5 := hk5.size
              have hrr : (r == 0) = false := by simpa using hr0
              have hO5 := HOWN.out.kp hk5 (fun i hi h => HD.out i hi h)
              have hk55 := HKRA.out.then_ hk5 (fun i hi => .inr (HOB.out i hi).1)
              have HB5 := Lib.hid hb5
              have HO5 := Lib.hid hO5
              clear hst hr0 hb5 hO5 hbk
              go_wp2_with fail
              go_roundw
              case rel => exact ⟨k + 1, tk, A', c', (fun i => (OB i ∨ wr.heap.size + 1 ≤ i) ∧ i < w5.heap.size), OT, by omega, by go_num, by omega, rfl, fun i hi h => by
                rcases h.1 with h | h
                · exact HD.out i hi h
                · have := HOT.out i hi; omega, fun i hi => by
                have := hkr.size
                rcases hi.1 with h | h
                · exact ⟨(HOB.out i h).1, hi.2⟩
                · exact ⟨by omega, hi.2⟩, fun i hi => ⟨(HOT.out i hi).1, by have := (HOT.out i hi).2; simp at hz5; omega⟩, HO5.out, HB5.out.mono (fun i h1 h2 => ⟨by simpa using h2, h1⟩), HT.out, hk55⟩
              case measure => simp [intOf]; omega
            · rw [hst]
              rintro e w5 ⟨rfl, hb5, hk5⟩
              simp only at hb5
              have hz5 := hk5.size
              have hO5 := HOWN.out.kp hk5 (fun i hi h => HD.out i hi h)
              have hk55 := HKRA.out.then_ hk5 (fun i hi => .inr (HOB.out i hi).1)
              have hbk5 := hbk.kp hk5 (fun h => by have := (HOB.out _ h).2; omega)
              have hd0 := hbk5.cell 0
              have hd1 := hbk5.cell 1
              have hd2 := hbk5.cell 2
              have hd3 := hbk5.cell 3
              have hd4 := hbk5.cell 4
              have hkb : Kp (fun _ => False) w5 (w5.alloc (.cells #[.int .i64 K, .int .i64 S, .int .i64 N, .int .u64 X, .slice Ab B.length cb] 67)) := (Kp.refl _ _).alloc _
              have HB6 := Lib.hid ((hb5.mono (ok' := fun i => (OB i ∨ wr.heap.size + 1 ≤ i) ∧ i < w5.heap.size) (fun i h1 h2 => ⟨by simpa using h2, h1⟩)).kp_new hkb)
              have HO6 := Lib.hid (hO5.kp hkb (fun _ _ h => h))
              have hk66 := hk55.then_ hkb (fun _ h => h.elim)
              have HRD := Lib.hid (rd_lit w5 67 (AV.c ⟨K, S, N, X, .slice Ab B.length cb, B⟩) #[.int .i64 K, .int .i64 S, .int .i64 N, .int .u64 X, .slice Ab B.length cb] 5 1 rfl rfl)
              have HT1 := Lib.hid htk1
              clear hst hb5 hO5 hbk hbk5 htk1
              go_wp2_with (at_builtin; refine app_acts rfl (.tmp 52) (.tmp 54) rfl OT A' tk.length c' tk rfl HO6.out _ _ ⟨K, S, N, X, .slice Ab B.length cb, B⟩ ⟨_, _, _, rfl⟩ rfl HRD.out (tk.length + 1) rfl (by omega) ?_; intro A6 c6 W6 o6 q6; have HQ6 := Lib.hid q6; have HO7 := Lib.hid o6; clear q6 o6)
              have hz6 := HQ6.out.size
              go_roundw
              case rel =>
                refine ⟨k + 1, tk ++ [⟨K, S, N, X, .slice Ab B.length cb, B⟩], A6, c6, (fun i => (OB i ∨ wr.heap.size + 1 ≤ i) ∧ i < w5.heap.size), (fun i => (OT i ∨ w5.heap.size + 1 ≤ i) ∧ i < W6.heap.size), by omega, by go_num, by simp; omega, by simp, fun i hi h => ?_, fun i hi => ?_, fun i hi => ?_, ?_, ?_, fun a ha => ?_, hk66.then_ HQ6.out (fun i hi => .inr (HOT.out i hi).1)⟩
                · have h2 := h.2
                  rcases hi.1 with h1 | h1
                  · rcases h.1 with h | h
                    · exact HD.out i h1 h
                    · have := HOT.out i h1; omega
                  · omega
                · have := hkr.size
                  simp at hz6
                  rcases hi.1 with h | h
                  · exact ⟨(HOB.out i h).1, by omega⟩
                  · exact ⟨by omega, by omega⟩
                · have := hk55.size
                  rcases hi.1 with h | h
                  · exact ⟨(HOT.out i h).1, hi.2⟩
                  · exact ⟨by omega, hi.2⟩
                · have h := HO7.out.mono (ok' := fun i => (OT i ∨ w5.heap.size + 1 ≤ i) ∧ i < W6.heap.size) (fun i h1 h2 => ⟨by simpa using h2, h1⟩)
                  simpa using h
                · have h := (HB6.out.kp HQ6.out (fun i hi h => by
                    have := (HOT.out i h).2
                    rcases hi.1 with hi | hi
                    · exact HD.out i h hi
                    · omega))
                  have e : encL (tk ++ [⟨K, S, N, X, .slice Ab B.length cb, B⟩]) = encL tk ++ encA ⟨K, S, N, X, .slice Ab B.length cb, B⟩ := by simp [encL]
                  rw [e]
                  exact h
                · rcases List.mem_append.1 ha with h | h
                  · exact HT.out a h
                  · obtain rfl := List.mem_singleton.1 h
                    exact ⟨HT1.out, HOK.out⟩
              case measure => simp [intOf]; omega
        · have hq0 : (K != 0) = true := by simp; omega
          have hq1 : (K != 1) = true := by simp; omega
          have HOWN := Lib.hid (hown.kp hka (fun _ _ h => h))
          have HBR := Lib.hid (hbr.kp_new hka)
          clear h01 hown hbr hbk
          go_wp2_with fail
          go_roundw
          case rel => exact ⟨k + 1, tk, A', c', OB, OT, by omega, by go_num, by omega, rfl, HD.out, fun i hi => ⟨(HOB.out i hi).1, by have := (HOB.out i hi).2; omega⟩, fun i hi => ⟨(HOT.out i hi).1, by have := (HOT.out i hi).2; omega⟩, HOWN.out, HBR.out, HT.out, HKRA.out⟩
          case measure => simp [intOf]; omega
      · obtain rfl : k = l.length := by omega
        have HBR := Lib.hid hbr
        have HOWN := Lib.hid hown
        have hlenT : (encL tk).length ≤ 1048576 := hbr.2.1
        clear hown hbr hr hb3 HALL HV
        go_wp2_with fail
        refine (bdone_any OB g (encL tk) 1048576 _ HBR.out).mono ?_
        rintro e w4 ⟨A4, c4, rfl, hc4, hy4, hb4, hk4⟩
        have hk44 := hkr.then_ hk4 (fun _ h => h.elim)
        have hO4 := HOWN.out.kp hk4 (fun _ _ h => h)
        have hz4 := hk4.size
        obtain ⟨Bd, hBd⟩ : ∃ Bd, wr.heap.size = Bd := ⟨_, rfl⟩
        rw [hBd] at hy4
        have HO4 := Lib.hid hO4
        clear hb4 hO4
        go_wp2_with fail
        refine (new_any _ _ (encL tk) 0 _ hy4.ltm).mono ?_
        rintro e w5 ⟨gc, rfl, hgc, hcur, hk5⟩
        have hk55 := hk44.then_ hk5 (fun _ h => h.elim)
        have hO5 := HO4.out.kp hk5 (fun _ _ h => h)
        have HO5 := Lib.hid hO5
        have HCUR := Lib.hid hcur
        have hgcw : w.heap.size ≤ gc := by have := hkr.size; omega
        have hOTgc : ¬ OT gc := fun h => by have := (HOT.out _ h).2; omega
        clear hO5 hcur hy4
        go_wp2_with fail
        go_loopw [72] (fun i wr => ∃ (j p : Nat), j ≤ tk.length ∧ i = .int .i64 j ∧ Cur wr (fun i => Bd ≤ i ∧ i < w4.heap.size) gc (encL (tk.drop j)) p ∧ p + (encL (tk.drop j)).length = (encL tk).length ∧ Own wr OT 67 5 (.slice A' tk.length c') tk.length (tk.flatMap AV.c) ∧ Kp (fun _ => False) w wr) (fun i _ => tk.length - (intOf i).toNat)
        case atStart => exact ⟨0, 0, Nat.zero_le _, rfl, by simpa using HCUR.out, by simp, HO5.out, hk55⟩
        case round =>
          obtain ⟨j, p, hj, rfl, hcu, hp, hox, hkx⟩ := hrel
          have HOX := Lib.hid hox
          by_cases hjt : j < tk.length
          · obtain ⟨b, off, rfl, hb, hcell⟩ := hox.rd.row (fun _ => rfl) hjt
            obtain ⟨htka, hoka⟩ := HT.out _ (List.getElem_mem hjt)
            have hdr := encL_drop hjt
            obtain ⟨a, ha⟩ : ∃ a, tk[j] = a := ⟨_, rfl⟩
            rw [ha] at hcell htka hoka hdr
            obtain ⟨K, S, N, X, V, B⟩ := a
            obtain ⟨hbrB, hX, _⟩ := hoka
            simp only at hbrB hX
            obtain ⟨Ab, cb, hVb, hlcb, hrb⟩ := id hbrB
            subst hVb
            have hc0 : wr.cell? ⟨b, off + j * 5, none⟩ = some (.int .i64 K) := hcell 0 _ rfl
            have hc1 : wr.cell? ⟨b, off + j * 5 + 1, none⟩ = some (.int .i64 S) := hcell 1 _ rfl
            have hc2 : wr.cell? ⟨b, off + j * 5 + 2, none⟩ = some (.int .i64 N) := hcell 2 _ rfl
            have hc3 : wr.cell? ⟨b, off + j * 5 + 3, none⟩ = some (.int .u64 X) := hcell 3 _ rfl
            have hc4 : wr.cell? ⟨b, off + j * 5 + 4, none⟩ = some (.slice Ab B.length cb) := hcell 4 _ rfl
            have hka : Kp (fun _ => False) wr (wr.alloc (.cells #[.int .i64 K, .int .i64 S, .int .i64 N, .int .u64 X, .slice Ab B.length cb] 67)) := (Kp.refl _ _).alloc _
            have hkxa := hkx.then_ hka (fun _ h => h.elim)
            have hbk := Blk.new wr 67 #[.int .i64 K, .int .i64 S, .int .i64 N, .int .u64 X, .slice Ab B.length cb]
            have hgx := hcu.lt
            have hcua := hcu.kp hka (fun _ _ h => h) (fun h => h)
            have hoxa := hox.kp hka (fun _ _ h => h)
            have HBB := Lib.hid (hbrB.kp hkxa (fun _ _ h => h))
            have HOXA := Lib.hid hoxa
            have HKXA := Lib.hid hkxa
            have HBK := Lib.hid hbk
            have hrl : (encL (tk.drop (j + 1))).length ≤ 1048576 := by
              have := congrArg List.length hdr
              rw [List.length_append] at this
              omega
            generalize hrest : encL (tk.drop (j + 1)) = rest at hdr hrl
            have HREST := Lib.hid hrest
            have HCUA := Lib.hid hcua
            have HDR := Lib.hid hdr
            clear hcell hbrB hrb hka hkxa hbk hcu hcua hox hoxa hrest ha
            rcases htka with ⟨hk0, hs, hx⟩ | ⟨hk1, hk0⟩
            · simp only at hk0 hs hx
              subst hk0
              have henc : encA ⟨0, S, N, X, .slice Ab B.length cb, B⟩ = beB S.toNat X := by rw [encA, if_pos rfl]
              have hcu2 : Cur (wr.alloc (.cells #[.int .i64 0, .int .i64 S, .int .i64 N, .int .u64 X, .slice Ab B.length cb] 67)) (fun i => Bd ≤ i ∧ i < w4.heap.size) gc (beB S.toNat X ++ rest) p := by
                have := HCUA.out
                rw [HDR.out, henc] at this
                exact this
              have hpl : p + (S.toNat + rest.length) = (encL tk).length := by
                rw [HDR.out, henc, List.length_append, beB_length] at hp
                exact hp
              have hs8 := szB_true hs
              have HCU2 := Lib.hid hcu2
              have hnum := Lib.hid (number_at _ gc (beB S.toNat X ++ rest) p S _ hcu2 (by omega) (by rw [List.length_append, beB_length]; omega) (by omega) (by rw [List.length_append, beB_length]; omega) (beB S.toNat X) rest 0 X (p + S.toNat : Nat) (nn_front hs) (by rw [be_beB, Nat.mod_eq_of_lt hx]) (by simp [beB_length]) (by rw [beB_length]; omega))
              clear hcu2 henc hs hx hp
              go_wp2_with fail
              refine hnum.out.mono ?_
              rintro e w6 ⟨rfl, hcu6, hk6⟩
              have hbk6 := HBK.out.kp hk6 (by omega)
              have hd3 := hbk6.cell 3
              have HC6 := Lib.hid hcu6
              clear hbk6 hcu6
              go_wp2_with fail
              go_roundw
              case rel => exact ⟨j + 1, p + S.toNat, by omega, by go_num, by rw [HREST.out]; exact HC6.out, by rw [HREST.out]; omega, HOXA.out.kp hk6 (fun i hi h => by subst h; exact hOTgc hi), HKXA.out.then_ hk6 (fun i hi => .inr (by omega))⟩
              case measure => simp [intOf]; omega
            · simp only at hk1 hk0
              subst hk1
              have henc : encA ⟨1, S, N, X, .slice Ab B.length cb, B⟩ = B := by rw [encA, if_neg (by simp)]
              have hcu2 : Cur (wr.alloc (.cells #[.int .i64 1, .int .i64 S, .int .i64 N, .int .u64 X, .slice Ab B.length cb] 67)) (fun i => Bd ≤ i ∧ i < w4.heap.size) gc (B ++ rest) p := by
                have := HCUA.out
                rw [HDR.out, henc] at this
                exact this
              have hpl : p + (B.length + rest.length) = (encL tk).length := by
                rw [HDR.out, henc, List.length_append] at hp
                exact hp
              have HCU2 := Lib.hid hcu2
              have hnum := Lib.hid (take_at _ gc (B ++ rest) p B.length _ hcu2 (by omega) (by rw [List.length_append]; omega) (by omega) (by rw [List.length_append]; omega) B rest 0 (p + B.length : Nat) B.length (nx_front B rest) rfl (by simp) (by omega))
              clear hcu2 henc hp hk0
              go_wp2_with fail
              refine hnum.out.mono ?_
              rintro e w6 ⟨A6, c6, rfl, hc6, hy6, hcu6, hk6⟩
              have hbk6 := HBK.out.kp hk6 (by omega)
              have hd4 := hbk6.cell 4
              have HC6 := Lib.hid hcu6
              have hs1 : (convert 22 9 (.slice A6 B.length c6)).run Try.prog w6 = .ok (.string (str B)) w6 := run_str (e := 5) Try.underlying22 Try.underlying5 Try.underlying9 hy6
              have hs2 : (convert 22 9 (.slice Ab B.length cb)).run Try.prog w6 = .ok (.string (str B)) w6 := run_str (e := 5) Try.underlying22 Try.underlying5 Try.underlying9 (HBB.out.kp hk6 (fun i hi h => by omega))
              generalize str B = gs at hs1 hs2
              clear hbk6 hcu6 hy6
              go_wp2_with fail
              go_roundw
              case rel => exact ⟨j + 1, p + B.length, by omega, by go_num, by rw [HREST.out]; exact HC6.out, by rw [HREST.out]; omega, HOXA.out.kp hk6 (fun i hi h => by subst h; exact hOTgc hi), HKXA.out.then_ hk6 (fun i hi => .inr (by omega))⟩
              case measure => simp [intOf]; omega
          · obtain rfl : j = tk.length := by omega
            have hcu0 : Cur wr (fun i => Bd ≤ i ∧ i < w4.heap.size) gc [] p := by simpa [encL] using hcu
            clear hcu hox
            go_wp2_with (go_at_call 25; ((with_reducible refine (left_any _ gc [] _ _ hcu0).mono ?_); rintro e w' ⟨rfl, rfl⟩))
            go_ret
            exact ⟨by simp, hkx.below⟩
  · go_enter Try.func13, Try.ntmps13
    go_wp2_with fail
    refine (alive02 _).mono ?_
    rintro e w1 ⟨rfl, hk1⟩
    go_wp2_with fail
    refine (great02 _ _ _ l (hv.kp hk1 (fun _ _ h => h))).mono ?_
    rw [hgr]
    rintro e w2 ⟨rfl, hk2⟩
    go_wp2_with fail
    refine (alive02 _).mono ?_
    rintro e w3 ⟨rfl, hk3⟩
    go_wp2_with fail
    go_ret
    exact ⟨rfl, ((hk1.then_ hk2 (fun _ h => h.elim)).then_ hk3 (fun _ h => h.elim)).below⟩
end Go.Proofs.Ytgndammlhljfjaa
