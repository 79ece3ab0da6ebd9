/-
  DertypeArcs: the walk.
-/
import Derived.Test.YtjdfgjlbmbiihaaTy7
import Derived.Test.YtjdfgjlbmbiihaaOpen
import Derived.Deep.CutRange
namespace Go.Proofs.Ytjdfgjlbmbiihaa
open Go.RowKit

theorem nats_of {l : List Int} (h : ∀ n ∈ l, (Lit.int .u64 n).wf = true) : ∃ m : List Nat, ic .u64 l = uc m ∧ m.length = l.length ∧ ∀ x ∈ m, x < 18446744073709551616 := by
  induction l with
  | nil => exact ⟨[], rfl, rfl, fun x hx => by simp at hx⟩
  | cons a l ih =>
    obtain ⟨m, hm, hl, hx⟩ := ih (fun n hn => h n (List.mem_cons_of_mem _ hn))
    obtain ⟨h0, h1⟩ := bounds_u64 (h a List.mem_cons_self)
    refine ⟨a.toNat :: m, ?_, by simp [hl], fun x hx' => ?_⟩
    · simp only [ic, uc, List.map_cons] at hm ⊢
      rw [hm, show ((a.toNat : Nat) : Int) = a from by omega]
    · rcases List.mem_cons.1 hx' with rfl | hx'
      · omega
      · exact hx x hx'
/-- 'b[:k]' of bytes. -/
theorem BR.head3 {w : World} {ok : Nat → Prop} {A : Option Addr} {c k : Nat} {l : List UInt8} (hr : Rd w ok 1 A l.length (bc l)) (hlc : l.length ≤ c) (hk : k ≤ l.length) : BR w ok (.slice A k c) (l.take k) := by
  have h := hr.take (k := k) hk
  rw [Nat.mul_one, bc_take] at h
  have hlen : (l.take k).length = k := by simp; omega
  exact ⟨A, c, by rw [hlen], by omega, by rw [hlen]; exact h⟩

theorem flat_len (ms : List Nat) (k : Nat) : ((ms.take k).flatMap layL).length ≤ 11 * k := by
  induction k generalizing ms with
  | zero => simp
  | succ k ih =>
    cases ms with
    | nil => simp
    | cons x ms =>
      have := ih ms
      have h := (layL_len x).2
      simp only [List.take_succ_cons, List.flatMap_cons, List.length_append]
      omega
theorem flat_snoc {ms : List Nat} {k : Nat} (h : k < ms.length) : (ms.take (k + 1)).flatMap layL = (ms.take k).flatMap layL ++ layL ms[k] := by
  rw [List.take_succ_eq_append_getElem h, List.flatMap_append]
  simp

set_option maxRecDepth 100000 in
set_option maxHeartbeats 6400000 in
theorem darcs_walk (w : World) (fi : Int) (hf : (Lit.int .u8 fi).wf = true) (si : Int) (hs : (Lit.int .u8 si).wf = true) (v : Value) (li : List Int) (hv : IR .u64 w (· < w.heap.size) v li) (hw : ∀ n ∈ li, (Lit.int .u64 n).wf = true) (hl : li.length ≤ 140737488351232) :
    Calls Try.prog 3 #[.int .u8 fi, .int .u8 si, v] w fun e w' => e = .returned (.bool true) ∧ Below w.heap.size w w' := by
  obtain ⟨f0, f1⟩ := bounds_u8 hf
  obtain ⟨s0, s1⟩ := bounds_u8 hs
  obtain ⟨f, rfl⟩ := Int.eq_ofNat_of_zero_le f0
  obtain ⟨s, rfl⟩ := Int.eq_ofNat_of_zero_le s0
  obtain ⟨A, c, rfl, hlc, hr⟩ := hv
  obtain ⟨l, hll, hle, hlx⟩ := nats_of hw
  rw [hll] at hr
  rw [← hle] at hr hlc hl ⊢
  have hc1 : (l.length : Int) ≤ c := by omega
  obtain ⟨kb, hkb⟩ : ∃ kb : Nat, (if (20:Int) < (l.length:Int) then (20 : Int) else l.length).toNat = kb := ⟨_, rfl⟩
  have hkb' : kb ≤ l.length ∧ kb ≤ 20 := by rw [← hkb]; split <;> omega
  have HKB := Lib.hid hkb
  obtain ⟨a, ha⟩ : ∃ a, f % 3 = a := ⟨_, rfl⟩
  have ha2 : (f : Int) % 3 = (a : Int) := by omega
  have ha3 : a < 3 := by omega
  obtain ⟨b, hb2, hb256, hb40⟩ : ∃ b : Nat, ((a < 2 ∧ (s : Int) % 40 = (b : Int)) ∨ (¬ a < 2 ∧ b = s)) ∧ b < 256 ∧ (a < 2 → b < 40) := by
    by_cases h : a < 2
    · exact ⟨s % 40, .inl ⟨h, by omega⟩, by omega, fun _ => by omega⟩
    · exact ⟨s, .inr ⟨h, rfl⟩, by omega, fun h' => absurd h' h⟩
  have hfs : f < 256 := by omega
  have hss : s < 256 := by omega
  clear hkb hf hs f0 f1 s0 s1 hw hll hle ha
  have hrs : Rd w (· < w.heap.size) 1 A kb (uc (l.take kb)) := by
    have := hr.take (k := kb) hkb'.1
    rwa [Nat.mul_one, uc_take] at this
  have hxs : ∀ x ∈ l.take kb, x < 18446744073709551616 := fun x hx => hlx x (List.mem_of_mem_take hx)
  have e1 : (l.take kb).length = kb := by simp; omega
  rcases hb2 with ⟨h2, hb2⟩ | ⟨h2, rfl⟩
  all_goals
    first
      | have hlt2 : decide ((a : Int) < 2) = true := by simp; omega
      | have hlt2 : decide ((a : Int) < 2) = false := by simp; omega
    go_enter Try.func3, Try.ntmps3
    go_upto_region 2 with fail
    rw [HKB.out]
    generalize (if (20 : Int) < (l.length : Int) then (20 : Int) else l.length) = d1
    go_upto_region 5 with fail
    obtain ⟨hk1, hk2⟩ := hkb'
    generalize hns : l.take kb = ns at hrs hxs e1
    subst e1
    clear hr hlc hc1 hns hlx hk1 hl HKB
    obtain ⟨q, hq⟩ : ∃ q, 40 * a + b = q := ⟨_, rfl⟩
    have hq2 : 40 * (a : Int) + (b : Int) = (q : Int) := by omega
    have hq3 : q < 1000 := by omega
    have HQ := Lib.hid hq
    have HRS := Lib.hid hrs
    have HXS := Lib.hid hxs
    have HLAY := Lib.hid (fun (y : Nat) (hy : y < 18446744073709551616) W => lay_any y hy W)
    have hw0 := (Own.ulit w [a, b] #[.int .u64 (a : Int), .int .u64 (b : Int)] 2 w.heap.size rfl rfl (Nat.le_refl _) (by decide)).mono (ok' := fun i => w.heap.size ≤ i ∧ i < w.heap.size + 1) (fun i h1 h2 => ⟨h2, by simpa using h1⟩)
    have HW0 := Lib.hid hw0
    have k0 : Kp (fun _ => False) w (w.alloc (.cells #[.int .u64 (a : Int), .int .u64 (b : Int)] 23)) := (Kp.refl _ _).alloc _
    obtain ⟨ms, hms⟩ : ∃ ms : List Nat, ns.map (· / 2) = ms := ⟨_, rfl⟩
    have hml : ms.length = ns.length := by rw [← hms]; simp
    have HMG := Lib.hid (show ∀ k (hk : k < ms.length) (hk' : k < ns.length), ms[k] = ns[k] / 2 from fun k hk hk' => by subst hms; simp)
    have HMX := Lib.hid (show ∀ x ∈ ms, x < 9223372036854775808 from fun x hx => by
      rw [← hms] at hx
      obtain ⟨y, hy, rfl⟩ := List.mem_map.1 hx
      have := hxs y hy
      omega)
    have HAR := Lib.hid (arcs_lays a b ms ha3 (by omega) hb40 HMX.out)
    have HML := Lib.hid hml
    obtain ⟨L0, hL0⟩ : ∃ L0, layL q = L0 := ⟨_, rfl⟩
    have hLL := layL_len q
    rw [hL0] at hLL
    have HLAYQ := Lib.hid (fun W => lay_any q (by omega) W)
    rw [hL0] at HLAYQ
    rw [hq, hL0] at HAR
    obtain ⟨hL1, hL2⟩ := hLL
    clear hq hrs hxs hfs ha3 hb40 hw0 hms hml hL0
    go_wp2_with fail
    refine (HLAYQ.out _).mono ?_
    rintro e w1 ⟨A1, c1, rfl, o1, k1⟩
    have kk1 := k0.then_ k1 (fun _ h => h.elim)
    have hz1 := k1.size
    rw [World.size_alloc] at hz1
    have HW1 := Lib.hid (HW0.out.kp k1 (fun _ _ h => h))
    have ho1 := o1.mono (ok' := fun i => w.heap.size + 1 ≤ i ∧ i < w1.heap.size) (fun i h1 h2 => ⟨by simpa using h2, h1⟩)
    have kx : Kp (fun _ => False) w1 (w1.alloc (.cells #[.int .u8 128] 5)) := (Kp.refl _ _).alloc _
    have HX1 := Lib.hid (Own.lit w1 [128] #[.int .u8 128] 1 w1.heap.size rfl rfl (Nat.le_refl _) (by decide))
    have HA1 := Lib.hid (ho1.kp kx (fun _ _ h => h))
    have HW2 := Lib.hid (HW1.out.kp kx (fun _ _ h => h))
    have HB1 := Lib.hid ((ho1.kp kx (fun _ _ h => h)).br rfl)
    have kk2 := kk1.then_ kx (fun _ h => h.elim)
    clear o1 ho1 k1 kx kk1
    go_wp2_with (at_builtin; refine app_bytesT rfl (.tmp 42) (.tmp 43) rfl (w1.heap.size ≤ ·) _ 1 _ [128] rfl HX1.out _ A1 L0.length c1 L0 rfl rfl HB1.out (1 + L0.length) rfl (by omega) ?_; intro A3 c3 w3 o3 k3; have O3 := Lib.hid o3; have K3 := Lib.hid k3; clear o3 k3)
    have hz3 := K3.out.size
    rw [World.size_alloc] at hz3
    have HW3 := Lib.hid (HW2.out.kp K3.out (fun i hi h => by omega))
    have HA3 := Lib.hid (HA1.out.kp K3.out (fun i hi h => by omega))
    have HX3 := Lib.hid (O3.out.mono (ok' := fun i => w1.heap.size ≤ i ∧ i < w3.heap.size) (fun i h1 h2 => ⟨by simp at h2; omega, h1⟩))
    have kk3 := kk2.then_ K3.out (fun i hi => .inr (by omega))
    clear kk2
    go_loopw [9, 10, 11, 47] (fun wv av xv iv wr => ∃ (k : Nat) (L : List UInt8) (A1 : Option Addr) (c1 : Nat) (A2 : Option Addr) (c2 : Nat) (A3 : Option Addr) (c3 : Nat) (OW OA OX : Nat → Prop), k ≤ ns.length ∧ iv = .int .i64 k ∧ L = L0 ++ (ms.take k).flatMap layL ∧ wv = .slice A1 (2 + k) c1 ∧ av = .slice A2 L.length c2 ∧ xv = .slice A3 (1 + L.length) c3 ∧ Own wr OW 23 1 (.slice A1 (2 + k) c1) (2 + k) (uc ([a, b] ++ ms.take k)) ∧ Own wr OA 5 1 (.slice A2 L.length c2) L.length (bc L) ∧ Own wr OX 5 1 (.slice A3 (1 + L.length) c3) (1 + L.length) (bc ([128] ++ L)) ∧ (∀ i, OW i → ¬ OA i ∧ ¬ OX i) ∧ (∀ i, OA i → ¬ OX i) ∧ (∀ i, OW i ∨ OA i ∨ OX i → w.heap.size ≤ i ∧ i < wr.heap.size) ∧ Kp (fun _ => False) w wr) (fun _ _ _ i _ => ns.length - (intOf i).toNat)
    case atStart => exact ⟨0, L0, _, _, _, _, _, _, _, _, _, Nat.zero_le _, rfl, by simp, rfl, rfl, rfl, by simpa using HW3.out, HA3.out, HX3.out, fun i hi => ⟨fun h => by omega, fun h => by omega⟩, fun i hi h => by omega, fun i hi => by rcases hi with h | h | h <;> omega, kk3⟩
    case round =>
      obtain ⟨k, L, A1, c1, A2, c2, A3, c3, OW, OA, OX, hk, rfl, hL, rfl, rfl, rfl, how, hoa, hox, hd1, hd2, hbd, hkr⟩ := hrel
      have HOW := Lib.hid how
      have HOA := Lib.hid hoa
      have HOX := Lib.hid hox
      have HD1 := Lib.hid hd1
      have HD2 := Lib.hid hd2
      have HBD := Lib.hid hbd
      have hll : L.length ≤ 11 + 11 * k := by
        rw [hL, List.length_append]
        have := flat_len ms k
        omega
      have HL := Lib.hid hL
      clear how hoa hox hd1 hd2 hbd hL
      by_cases hlt : k < ns.length
      · have hltm : k < ms.length := by have := HML.out; omega
        obtain ⟨g, off, rfl, _, hcell⟩ := (HRS.out.kp hkr (fun _ _ h => h)).unum hlt
        have hg := HMG.out k hltm hlt
        have hx64 := HXS.out _ (List.getElem_mem hlt)
        obtain ⟨x, hx⟩ : ∃ x, ns[k] = x := ⟨_, rfl⟩
        rw [hx] at hcell hg hx64
        obtain ⟨y, hy⟩ : ∃ y, x / 2 = y := ⟨_, rfl⟩
        rw [hy] at hg
        have hy2 : (x : Int) / 2 = (y : Int) := by omega
        have hy64 : y < 9223372036854775808 := by omega
        have HG := Lib.hid hg
        obtain ⟨LY, hLY⟩ : ∃ LY, layL y = LY := ⟨_, rfl⟩
        have hLYl := (layL_len y).2
        rw [hLY] at hLYl
        have hlay : ∀ W, Calls Try.prog 4 #[.int .u64 y] W fun e w' => ∃ A c, e = .returned (.slice A LY.length c) ∧ Own w' (W.heap.size ≤ ·) 5 1 (.slice A LY.length c) LY.length (bc LY) ∧ Kp (fun _ => False) W w' := fun W => by
          have := lay_any y (by omega) W
          rwa [hLY] at this
        have HLY := Lib.hid hlay
        have HLYE := Lib.hid hLY
        have q0 : Kp (fun _ => False) wr (wr.alloc (.cells #[.int .u64 (y : Int)] 23)) := (Kp.refl _ _).alloc _
        have HW2 := Lib.hid (HOW.out.kp q0 (fun _ _ h => h))
        have HU := Lib.hid (UR.lit wr 23 [y] #[.int .u64 (y : Int)] 1 rfl rfl)
        have qq0 := hkr.then_ q0 (fun _ h => h.elim)
        have Q0 := Lib.hid q0
        clear hx hy hg hLY hlay q0
        go_wp2_with (at_builtin; refine app_u64T rfl (.tmp 53) (.tmp 55) rfl OW A1 (2 + k) c1 ([a, b] ++ ms.take k) rfl HW2.out _ _ 1 _ [y] rfl rfl HU.out (2 + (k + 1)) (by omega) (by omega) ?_; intro A4 c4 w4 o4 k4; have O4 := Lib.hid o4; have K4 := Lib.hid k4; clear o4 k4)
        have hz4 := K4.out.size
        rw [World.size_alloc] at hz4
        refine (HLY.out _).mono ?_
        rintro e w5 ⟨A5, c5, rfl, o5, k5⟩
        have hz5 := k5.size
        have HB5 := Lib.hid (o5.br rfl)
        have HA5 := Lib.hid (((HOA.out.kp Q0.out (fun _ _ h => h)).kp K4.out (fun i hi h => (HD1.out i h).1 hi)).kp k5 (fun _ _ h => h))
        have K5 := Lib.hid k5
        clear o5 k5
        go_wp2_with (at_builtin; refine app_bytesT rfl (.tmp 57) (.tmp 59) rfl OA A2 L.length c2 L rfl HA5.out _ A5 LY.length c5 LY rfl rfl HB5.out (L.length + LY.length) rfl (by omega) ?_; intro A6 c6 w6 o6 k6; have O6 := Lib.hid o6; have K6 := Lib.hid k6; clear o6 k6)
        have hz6 := K6.out.size
        refine (HLY.out _).mono ?_
        rintro e w7 ⟨A7, c7, rfl, o7, k7⟩
        have hz7 := k7.size
        have HB7 := Lib.hid (o7.br rfl)
        have HX7 := Lib.hid (((((HOX.out.kp Q0.out (fun _ _ h => h)).kp K4.out (fun i hi h => (HD1.out i h).2 hi)).kp K5.out (fun _ _ h => h)).kp K6.out (fun i hi h => HD2.out i h hi)).kp k7 (fun _ _ h => h))
        have K7 := Lib.hid k7
        clear o7 k7
        go_wp2_with (at_builtin; refine app_bytesT rfl (.tmp 61) (.tmp 63) rfl OX A3 (1 + L.length) c3 ([128] ++ L) rfl HX7.out _ A7 LY.length c7 LY rfl rfl HB7.out (1 + (L.length + LY.length)) (by omega) (by omega) ?_; intro A8 c8 w8 o8 k8; have O8 := Lib.hid o8; have K8 := Lib.hid k8; clear o8 k8)
        have hz8 := K8.out.size
        go_roundw
        case rel =>
          refine ⟨k + 1, L ++ LY, A4, c4, A6, c6, A8, c8, (fun i => (OW i ∨ wr.heap.size + 1 ≤ i) ∧ i < w4.heap.size), (fun i => (OA i ∨ w5.heap.size ≤ i) ∧ i < w6.heap.size), (fun i => (OX i ∨ w7.heap.size ≤ i) ∧ i < w8.heap.size), by omega, by go_num, ?_, rfl, by simp, by simp, ?_, ?_, ?_, fun i hi => ⟨fun h => ?_, fun h => ?_⟩, fun i hi h => ?_, fun i hi => ?_, ?_⟩
          · rw [flat_snoc hltm, HG.out, HLYE.out, HL.out, List.append_assoc]
          · have h := O4.out.mono (ok' := fun i => (OW i ∨ wr.heap.size + 1 ≤ i) ∧ i < w4.heap.size) (fun i h1 h2 => ⟨by simpa using h2, h1⟩)
            rw [List.append_assoc] at h
            have e : ms.take (k + 1) = ms.take k ++ [y] := by rw [List.take_succ_eq_append_getElem hltm, HG.out]
            rw [e]
            exact (((h.kp K5.out (fun _ _ h => h)).kp K6.out (fun i hi h => by
              rcases hi.1 with h1 | h1
              · exact (HD1.out i h1).1 h
              · have := HBD.out i (.inr (.inl h)); omega)).kp K7.out (fun _ _ h => h)).kp K8.out (fun i hi h => by
              rcases hi.1 with h1 | h1
              · exact (HD1.out i h1).2 h
              · have := HBD.out i (.inr (.inr h)); omega)
          · have h := O6.out.mono (ok' := fun i => (OA i ∨ w5.heap.size ≤ i) ∧ i < w6.heap.size) (fun i h1 h2 => ⟨h2, h1⟩)
            rw [show (L ++ LY).length = L.length + LY.length by simp]
            exact (h.kp K7.out (fun _ _ h => h)).kp K8.out (fun i hi h => by
              rcases hi.1 with h1 | h1
              · exact HD2.out i h1 h
              · have := HBD.out i (.inr (.inr h)); omega)
          · have h := O8.out.mono (ok' := fun i => (OX i ∨ w7.heap.size ≤ i) ∧ i < w8.heap.size) (fun i h1 h2 => ⟨h2, h1⟩)
            rw [show (L ++ LY).length = L.length + LY.length by simp]
            rw [List.append_assoc] at h
            exact h
          · rcases hi.1 with h1 | h1
            · rcases h.1 with h2 | h2
              · exact (HD1.out i h1).1 h2
              · have := hi.2; omega
            · rcases h.1 with h2 | h2
              · have := HBD.out i (.inr (.inl h2)); omega
              · have := hi.2; omega
          · rcases hi.1 with h1 | h1
            · rcases h.1 with h2 | h2
              · exact (HD1.out i h1).2 h2
              · have := hi.2; omega
            · rcases h.1 with h2 | h2
              · have := HBD.out i (.inr (.inr h2)); omega
              · have := hi.2; omega
          · rcases hi.1 with h1 | h1
            · rcases h.1 with h2 | h2
              · exact HD2.out i h1 h2
              · have := hi.2; omega
            · rcases h.1 with h2 | h2
              · have := HBD.out i (.inr (.inr h2)); omega
              · have := hi.2; omega
          · have hz0 := hkr.size
            rcases hi with ⟨h1 | h1, h2⟩ | ⟨h1 | h1, h2⟩ | ⟨h1 | h1, h2⟩
            · have := HBD.out i (.inl h1); omega
            · omega
            · have := HBD.out i (.inr (.inl h1)); omega
            · omega
            · have := HBD.out i (.inr (.inr h1)); omega
            · omega
          · exact ((((qq0.then_ K4.out (fun i hi => .inr (HBD.out i (.inl hi)).1)).then_ K5.out (fun _ h => h.elim)).then_ K6.out (fun i hi => .inr (HBD.out i (.inr (.inl hi))).1)).then_ K7.out (fun _ h => h.elim)).then_ K8.out (fun i hi => .inr (HBD.out i (.inr (.inr hi))).1)
        case measure => simp [intOf]; omega
      · obtain rfl : k = ns.length := by omega
        have hmt : ms.take ns.length = ms := List.take_of_length_le (by have := HML.out; omega)
        have hLL := HL.out
        rw [hmt] at hLL HOW
        have hAR := HAR.out
        rw [← hLL] at hAR
        have hLpos : 1 ≤ L.length := by rw [hLL, List.length_append]; omega
        have hml := HML.out
        obtain ⟨m, hm⟩ : ∃ m, L.length = m + 1 := ⟨L.length - 1, by omega⟩
        rw [hm] at HOA HOX hll ⊢
        have hrd : Rd wr OA 1 A2 L.length (bc L) := by rw [hm]; exact HOA.out.rd
        obtain ⟨A2', c2', e2, hc2⟩ := HOA.out.shape
        injection e2 with g1 g2 g3
        subst g1 g3
        obtain ⟨r3, e3, h3⟩ : ∃ r3 e3, arcsR (L.take m) = (r3, e3) := ⟨_, _, rfl⟩
        have he3 : m = 0 → e3 = 13 := by
          rintro rfl
          rw [List.take_zero, show arcsR [] = ([], 13) from rfl] at h3
          injection h3 with _ h3
          exact h3.symm
        have HC1 := Lib.hid (fun W (hk : Kp (fun _ => False) wr W) => arcs_at OA _ L W ((HOA.out.br hm).kp hk (fun _ _ h => h)) (by omega) ([a, b] ++ ms) (2 + ns.length) 0 hAR (by simp; omega))
        have HC2 := Lib.hid (fun W (hk : Kp (fun _ => False) wr W) => arcs_at OX _ ([128] ++ L) W ((HOX.out.br (by simp; omega)).kp hk (fun _ _ h => h)) (by simp; omega) [] 0 13 (arcs_wrong L) rfl)
        have HC3 := Lib.hid (fun W (hk : Kp (fun _ => False) wr W) => arcs_at OA _ (L.take m) W ((BR.head3 (c := c2) (k := m) hrd (by omega) (by omega)).kp hk (fun _ _ h => h)) (by simp; omega) r3 r3.length e3 h3 rfl)
        have HW := Lib.hid (fun W (hk : Kp (fun _ => False) wr W) => (HOW.out.kp hk (fun _ _ h => h)).ur (by simp; omega))
        have hmc : (m : Int) ≤ (c2 : Int) := by omega
        clear hLL hAR hLpos hmt hrd h3 HOA HOX HOW HL HAR HRS HXS HMG HMX HLAYQ HD1 HD2 HBD hml
        have hm4' : (m = 0 ∧ e3 = 13) ∨ (decide ((1 : Int) < (m : Int) + 1) = true ∧ 0 < m) := by
          rcases Nat.eq_zero_or_pos m with h | h
          · exact .inl ⟨h, he3 h⟩
          · exact .inr ⟨by simp; omega, h⟩
        have hm4 := Lib.hid hm4'
        have HM := Lib.hid hm
        clear hm he3 hm4'
        go_wp2_with fail
        refine (HC1.out _ (Kp.refl _ _)).mono ?_
        rintro e w1 ⟨B1, d1, rfl, u1, k1⟩
        have HU1 := Lib.hid u1
        clear u1
        go_wp2_with fail
        refine (HC2.out _ k1).mono ?_
        rintro e w2 ⟨B2, d2, rfl, u2, k2⟩
        have kk2 := k1.then_ k2 (fun _ h => h.elim)
        clear u2
        go_wp2_with fail
        refine (HC3.out _ kk2).mono ?_
        rintro e w3 ⟨B3, d3, rfl, u3, k3⟩
        have kk3 := kk2.then_ k3 (fun _ h => h.elim)
        clear u3
        go_wp2_with fail
        refine (alive10 _).mono ?_
        rintro e w4 ⟨rfl, k4⟩
        have kk4 := kk3.then_ k4 (fun _ h => h.elim)
        go_wp2_with fail
        refine (same_any _ _ _ _ ([a, b] ++ ms) ([a, b] ++ ms) _ ((HU1.out.kp k2 (fun _ _ h => h)).kp (k3.then_ k4 (fun _ h => h.elim)) (fun _ _ h => h)) (HW.out _ kk4) (by simp; have := HML.out; omega)).mono ?_
        rw [show (([a, b] ++ ms) == ([a, b] ++ ms)) = true from by simp]
        rintro e w5 ⟨rfl, k5⟩
        have kk5 := (hkr.then_ kk4 (fun _ h => h.elim)).then_ k5 (fun _ h => h.elim)
        rcases hm4.out with ⟨h0, h1⟩ | ⟨h0, h1⟩
        · subst h1
          subst h0
          go_wp2_with fail
          go_ret
          exact ⟨rfl, kk5.below⟩
        · have h2 : (1 : Int) < (m : Int) + 1 := by omega
          go_wp2_with fail
          go_ret
          exact ⟨rfl, kk5.below⟩
end Go.Proofs.Ytjdfgjlbmbiihaa
