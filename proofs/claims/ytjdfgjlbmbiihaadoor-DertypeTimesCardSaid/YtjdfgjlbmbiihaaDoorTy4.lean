/-
  dertype.Arcs: an object identifier's numbers.
-/
import Derived.Test.YtjdfgjlbmbiihaaDoorTy3
import Derived.Deep.RegionHeld3
import Derived.Deep.CutRange
namespace Go.Proofs.YtjdfgjlbmbiihaaDoor
open Go.RowKit

/-- The numbers one by one; none: one is too great. -/
def arcsGo : List UInt8 → Nat → List Nat → Option (List Nat)
  | [], _, acc => some acc
  | c :: r, x, acc =>
    if 72057594037927936 ≤ x then none
    else if c.toNat < 128 then arcsGo r 0 (acc ++ [x * 128 + c.toNat]) else arcsGo r (x * 128 + (c.toNat - 128)) acc
theorem arcsGo_drop {l : List UInt8} {k : Nat} (hk : k < l.length) (x : Nat) (acc : List Nat) :
    arcsGo (l.drop k) x acc = if 72057594037927936 ≤ x then none else if (l[k]).toNat < 128 then arcsGo (l.drop (k + 1)) 0 (acc ++ [x * 128 + (l[k]).toNat]) else arcsGo (l.drop (k + 1)) (x * 128 + ((l[k]).toNat - 128)) acc := by
  rw [List.drop_eq_getElem_cons hk, arcsGo]
def arc1 (a : Nat) : Nat := min (a / 40) 2
/-- What is told of bytes. -/
def arcsR (l : List UInt8) : List Nat × Int :=
  if oidB l = false then ([], 13) else match arcsGo l 0 [] with
    | none => ([], 3)
    | some [] => ([], 0)
    | some (a :: r) => ([arc1 a, a - 40 * arc1 a] ++ r, 0)

theorem oidS_last (l : List UInt8) (c : UInt8) (b : Bool) (h : oidS (l ++ [c]) b = some true) : c.toNat < 128 := by
  induction l generalizing b with
  | nil =>
    rw [List.nil_append, oidS] at h
    split at h
    · cases h
    · rw [oidS] at h
      simpa using h
  | cons x l ih =>
    rw [List.cons_append, oidS] at h
    split at h
    · cases h
    · exact ih _ h
theorem oidB_last {l : List UInt8} (h : oidB l = true) : 0 < l.length ∧ ∀ hl : l.length - 1 < l.length, (l[l.length - 1]).toNat < 128 := by
  unfold oidB at h
  split at h
  · cases h
  · rename_i b hb
    simp only [Bool.and_eq_true, decide_eq_true_eq] at h
    obtain ⟨h0, rfl⟩ := h
    refine ⟨h0, fun hl => ?_⟩
    rcases List.eq_nil_or_concat l with rfl | ⟨m, c, rfl⟩
    · simp at h0
    · simp only [List.concat_eq_append] at hb ⊢
      have := oidS_last m c true hb
      simpa using this

/-- What the call tells, and where it lies. -/
def ArcsP (l : List UInt8) (w : World) (e : Ending) (w' : World) : Prop :=
  ∃ A c, e = .returned (.tuple #[.slice A (arcsR l).1.length c, .int .i64 (arcsR l).2]) ∧ UR w' (w.heap.size ≤ ·) (.slice A (arcsR l).1.length c) (arcsR l).1 ∧ Kp (fun _ => False) w w'

theorem u8_low7 (x : Nat) (hx : x < 256) : bits .and .u8 (x : Int) 127 = ((if x < 128 then x else x - 128 : Nat) : Int) := by
  rw [show (127 : Int) = ((127 : Nat) : Int) from rfl, u8_and_nat _ _ (by omega) (by omega), show (127 : Nat) = 2 ^ 7 - 1 from rfl, Nat.and_two_pow_sub_one_eq_mod]
  split <;> omega
theorem or_7 (x b : Nat) (hb : b < 128) (hx : x < 72057594037927936) : bits .or .u64 ((x : Int) * 128) (b : Int) = ((x * 128 + b : Nat) : Int) := by
  rw [show (x : Int) * 128 = ((x * 128 : Nat) : Int) from by omega, u64_or_nat _ _ (by omega) (by omega)]
  have := Nat.two_pow_add_eq_or_of_lt (i := 7) (b := b) (by omega) x
  rw [show x * 128 = 2 ^ 7 * x from by omega, this]

set_option maxRecDepth 100000 in
set_option maxHeartbeats 3200000 in
theorem arcs_any (ok : Nat → Prop) (v : Value) (l : List UInt8) (w : World) (hv : BR w ok v l) (hl : l.length ≤ 1000000000) :
    Calls Tryd.prog 23 #[v] w (ArcsP l w) := by
  obtain ⟨A, c, rfl, hc, hr⟩ := id hv
  have HOID := Lib.hid (oid_any ok _ l w hv (by omega))
  cases ho : oidB l
  · have hP : ∀ W, w = W → ArcsP l w (.returned (.tuple #[.slice none 0 0, .int .i64 13])) W := by
      rintro W rfl
      have e : arcsR l = ([], 13) := by rw [arcsR, if_pos ho]
      rw [ArcsP, e]
      exact ⟨none, 0, rfl, ⟨none, 0, rfl, Nat.le_refl _, Rd.none_⟩, Kp.refl _ _⟩
    rw [ho] at HOID
    have HP := Lib.hid hP
    clear ho hP hv hr
    go_enter Tryd.func23, Tryd.ntmps23
    go_wp2_with (go_at_call 36; ((with_reducible refine HOID.out.mono ?_); rintro e w' ⟨rfl, rfl⟩))
    go_ret2
    exact HP.out _ rfl
  · obtain ⟨hl0, hlast⟩ := oidB_last ho
    have hP3 : arcsGo l 0 [] = none → ∀ W, Kp (fun _ => False) w W → ArcsP l w (.returned (.tuple #[.slice none 0 0, .int .i64 3])) W := by
      intro h W hk
      have e : arcsR l = ([], 3) := by rw [arcsR, if_neg (by rw [ho]; simp), h]
      rw [ArcsP, e]
      exact ⟨none, 0, rfl, ⟨none, 0, rfl, Nat.le_refl _, Rd.none_⟩, hk⟩
    have hP0 : ∀ a r, arcsGo l 0 [] = some (a :: r) → ∀ A c W, UR W (w.heap.size ≤ ·) (.slice A (2 + r.length) c) ([arc1 a, a - 40 * arc1 a] ++ r) → Kp (fun _ => False) w W → ArcsP l w (.returned (.tuple #[.slice A (2 + r.length) c, .int .i64 0])) W := by
      intro a r h A c W hu hk
      have e : arcsR l = ([arc1 a, a - 40 * arc1 a] ++ r, 0) := by rw [arcsR, if_neg (by rw [ho]; simp), h]
      have e2 : ([arc1 a, a - 40 * arc1 a] ++ r).length = 2 + r.length := by simp; omega
      rw [ArcsP, e, e2]
      exact ⟨A, c, rfl, hu, hk⟩
    rw [ho] at HOID
    have HP3 := Lib.hid hP3
    have HP0 := Lib.hid hP0
    have HLAST := Lib.hid hlast
    clear ho hP3 hP0 hv hlast
    go_enter Tryd.func23, Tryd.ntmps23
    go_wp2_with (go_at_call 36; ((with_reducible refine HOID.out.mono ?_); rintro e w' ⟨rfl, rfl⟩))
    go_loopw [4, 5, 14] (fun lv xv iv wr => ∃ (k x : Nat) (acc : List Nat) (A' : Option Addr) (c' : Nat), k ≤ l.length ∧ iv = .int .i64 k ∧ xv = .int .u64 x ∧ lv = .slice A' acc.length c' ∧ Own wr (w.heap.size ≤ ·) 65 1 (.slice A' acc.length c') acc.length (uc acc) ∧ arcsGo l 0 [] = arcsGo (l.drop k) x acc ∧ x < 9223372036854775808 ∧ acc.length ≤ k ∧ (∀ a ∈ acc, a < 9223372036854775808) ∧ (acc = [] → ∀ j (hj : j < l.length), j < k → 128 ≤ (l[j]).toNat) ∧ Kp (fun _ => False) w wr) (fun _ _ i _ => l.length - (intOf i).toNat)
    case atStart => exact ⟨0, 0, [], none, 0, Nat.zero_le _, rfl, rfl, rfl, Own.nil, rfl, by omega, Nat.le_refl _, fun a ha => by simp at ha, fun _ j _ hj => absurd hj (by omega), Kp.refl _ _⟩
    case round =>
      obtain ⟨k, x, acc, A', c', hk, rfl, rfl, rfl, hown, he, hx, hak, hsm, hem, hkr⟩ := hrel
      have HE := Lib.hid he
      have HO := Lib.hid hown
      have HEM := Lib.hid hem
      have HSM := Lib.hid hsm
      clear he hown hem hsm
      by_cases hlt : k < l.length
      · obtain ⟨g, off, rfl, _, hcell⟩ := (hr.kp hkr (fun _ _ h => h)).byte hlt
        have hd := arcsGo_drop hlt x acc
        obtain ⟨y, hy⟩ : ∃ y, (l[k]).toNat = y := ⟨_, rfl⟩
        rw [hy] at hcell hd
        have hyl : y < 256 := by rw [← hy]; exact (l[k]).toNat_lt
        have HD := Lib.hid hd
        have HY := Lib.hid hy
        clear hd hy
        by_cases hbig : 72057594037927936 ≤ x
        · have hne : ((x : Int) / 72057594037927936 != 0) = true := by simp; omega
          have hp := HP3.out (by rw [HE.out, HD.out, if_pos hbig]) wr hkr
          have HP := Lib.hid hp
          clear hp HP0 HP3
          go_wp2_with fail
          go_ret2
          exact HP.out
        · have hne : ((x : Int) / 72057594037927936 != 0) = false := by simp; omega
          by_cases h128 : y < 128
          · have e1 := u8_low7 y hyl
            rw [if_pos h128] at e1
            obtain ⟨z, hz⟩ : ∃ z, x * 128 + y = z := ⟨_, rfl⟩
            have e2 := or_7 x y h128 (by omega)
            rw [hz] at e2
            have h1 : decide ((y : Int) < 128) = true := by simp; omega
            have hzl : z < 9223372036854775808 := by omega
            have hka : Kp (fun _ => False) wr (wr.alloc (.cells #[.int .u64 (z : Int)] 65)) := (Kp.refl _ _).alloc _
            have HO2 := Lib.hid (HO.out.kp hka (fun _ _ h => h))
            have HL2 := Lib.hid (UR.lit wr 65 [z] #[.int .u64 (z : Int)] 1 rfl rfl)
            have hka2 := hkr.then_ hka (fun _ h => h.elim)
            have hza := hka2.size
            have HZ := Lib.hid hz
            clear hz hka
            go_wp2_with (at_builtin; refine app_u64 rfl (.tmp 29) (.tmp 31) rfl w.heap.size A' acc.length c' acc rfl HO2.out _ _ 1 _ [z] rfl rfl HL2.out (acc.length + 1) rfl (by omega) hza ?_; intro A2 c2 W2 o2 q2; have O2 := Lib.hid o2; have K2 := Lib.hid (hka2.then_ q2 (fun i hi => .inr hi)); clear o2 q2)
            go_roundw
            case rel => exact ⟨k + 1, 0, acc ++ [z], A2, c2, by omega, by go_num, rfl, by simp, by simpa using O2.out, by rw [HE.out, HD.out, if_neg hbig, if_pos h128, HZ.out], by omega, by simp; omega, fun a ha => by
              rcases List.mem_append.1 ha with h | h
              · exact HSM.out a h
              · obtain rfl := List.mem_singleton.1 h; exact hzl, fun h => absurd h (by simp), K2.out⟩
            case measure => simp [intOf]; omega
          · have e1 := u8_low7 y hyl
            rw [if_neg h128] at e1
            obtain ⟨z, hz⟩ : ∃ z, x * 128 + (y - 128) = z := ⟨_, rfl⟩
            have e2 := or_7 x (y - 128) (by omega) (by omega)
            rw [hz] at e2
            obtain ⟨y', hy'⟩ : ∃ y', y - 128 = y' := ⟨_, rfl⟩
            rw [hy'] at e1 e2
            have hy2 : y' < 128 := by omega
            have h1 : decide ((y : Int) < 128) = false := by simp; omega
            have hzl : z < 9223372036854775808 := by omega
            have HZ := Lib.hid hz
            clear hz hy'
            go_wp2_with fail
            go_roundw
            case rel => exact ⟨k + 1, z, acc, A', c', by omega, by go_num, rfl, rfl, HO.out, by rw [HE.out, HD.out, if_neg hbig, if_neg h128, HZ.out], hzl, by omega, HSM.out, fun h j hj hjk => by
              rcases Nat.lt_or_ge j k with h1 | h1
              · exact HEM.out h j hj h1
              · obtain rfl : j = k := by omega
                rw [HY.out]; omega, hkr⟩
            case measure => simp [intOf]; omega
      · obtain rfl : k = l.length := by omega
        rcases hacc : acc with _ | ⟨a, r⟩
        · have := HEM.out hacc (l.length - 1) (by omega) (by omega)
          have := HLAST.out (by omega)
          omega
        · subst hacc
          have hgo : arcsGo l 0 [] = some (a :: r) := by rw [HE.out, List.drop_of_length_le (Nat.le_refl _)]; rfl
          have HG := Lib.hid (HP0.out a r hgo)
          clear hgo HP0 HP3
          have hal : a < 9223372036854775808 := HSM.out a (by simp)
          have hown := HO.out
          rw [show (a :: r).length = r.length + 1 from rfl] at hown
          obtain ⟨Aw, cw, hvw, hcw⟩ := hown.shape
          injection hvw with e1 e2 e3
          subst e1 e3
          have hrl : r.length ≤ 1000000000 := by
            have : (a :: r).length = r.length + 1 := rfl
            omega
          obtain ⟨b, hA'⟩ : ∃ b, A' = some ⟨b, 0, none⟩ := by
            obtain ⟨g, cap, hv, _, _⟩ := hown.1.form (by omega)
            exact ⟨g, by injection hv⟩
          subst hA'
          have hrd := hown.rd
          have hc0 : wr.cell? ⟨b, 0, none⟩ = some (.int .u64 (a : Int)) := by
            obtain ⟨ad, e, _, _, hcell⟩ := hrd.2 (by omega)
            simp only [Option.some.injEq] at e
            subst e
            have := hcell 0 (.int .u64 (a : Int)) rfl
            simpa [Addr.add] using this
          have hrest : ∀ W, Kp (fun _ => False) wr W → UR W (w.heap.size ≤ ·) (.slice (if c' = 1 then some ⟨b, 0, none⟩ else some ⟨b, 1, none⟩) r.length (c' - 1)) r := by
            intro W hk
            have h := (hrd.kp hk (fun _ _ h => h)).cut (k := 1) (by omega) hcw
            have e4 : ((Option.some (⟨b, 0, none⟩ : Addr)).map (·.add (1 * 1))) = some ⟨b, 1, none⟩ := rfl
            rw [e4, Nat.add_sub_cancel] at h
            exact ⟨_, c' - 1, rfl, by omega, h⟩
          have HREST := Lib.hid hrest
          have hbl := cell_lt hc0
          have hs1 : (r.length : Int) + 1 ≤ (c' : Int) := by have : (a :: r).length ≤ c' := hcw; simp at this; omega
          have hs2 : (1 : Int) ≤ (r.length : Int) + 1 := by omega
          rw [show (a :: r).length = r.length + 1 from rfl]
          clear hrest hrd hown HO HE HEM HSM HLAST hcw
          go_upto_region 16 with fail
          obtain ⟨f, hf⟩ : ∃ f, arc1 a = f := ⟨_, rfl⟩
          have hf1 : (if 2 < (a : Int) / 40 then 2 else (a : Int) / 40) = (f : Int) := by
            rw [← hf, arc1]
            split <;> omega
          have hf2 : f ≤ 2 ∧ 40 * f ≤ a := by
            rw [← hf, arc1]
            omega
          obtain ⟨d, hd⟩ : ∃ d, a - 40 * f = d := ⟨_, rfl⟩
          have hd2 : (a : Int) - 40 * (f : Int) = (d : Int) := by omega
          rw [hf, hd] at HG
          obtain ⟨hf2, hf3⟩ := hf2
          have hf4 : 40 * (f : Int) ≤ (a : Int) := by omega
          have hw1 : IntKind.u64.wrap (40 * (f : Int)) = 40 * (f : Int) := by rw [IntKind.wrap_u64]; omega
          have hw2 : IntKind.u64.wrap ((a : Int) - 40 * (f : Int)) = (d : Int) := by rw [IntKind.wrap_u64]; omega
          rw [hf1]
          clear hf1 hf hd hd2
          by_cases hc1 : c' = 1
          · have hur := HREST.out
            rw [if_pos hc1] at hur
            subst hc1
            simp only [Nat.sub_self] at hur
            have hk1 : Kp (fun _ => False) wr (wr.alloc (.cells #[.int .u64 (f : Int), .int .u64 (d : Int)] 65)) := (Kp.refl _ _).alloc _
            have hk2 := (hk1.alloc (.cells #[.slice (some ⟨wr.heap.size, 0, none⟩) 2 2, .slice (some ⟨b, 0, none⟩) r.length 0] 47)).drew
            have hb2 := Blk.new (wr.alloc (.cells #[.int .u64 (f : Int), .int .u64 (d : Int)] 65)) 47 #[.slice (some ⟨wr.heap.size, 0, none⟩) 2 2, .slice (some ⟨b, 0, none⟩) r.length 0]
            have hu1 := (UR.lit wr 65 [f, d] #[.int .u64 (f : Int), .int .u64 (d : Int)] 2 rfl rfl).mono (ok' := fun i => i = wr.heap.size ∨ w.heap.size ≤ i) (fun i hi => .inl hi)
            have hu1' := hu1.kp (((Kp.refl (fun _ => False) _).alloc (.cells #[.slice (some ⟨wr.heap.size, 0, none⟩) 2 2, .slice (some ⟨b, 0, none⟩) r.length 0] 47)).drew) (fun _ _ h => h)
            have hu2 := (hur _ hk2).mono (ok' := fun i => i = wr.heap.size ∨ w.heap.size ≤ i) (fun i hi => .inr hi)
            simp only [World.size_alloc] at hb2
            have hcc := concat2 _ (wr.heap.size + 1) _ _ [f, d] r _ (hb2.drew.cell 0) (hb2.drew.cell 1) hu1' hu2 (by simp) (by simp; omega)
            rw [show [f, d].length = 2 from rfl] at hcc
            have HCC := Lib.hid hcc
            have HKK := Lib.hid (hkr.then_ hk2 (fun _ h => h.elim))
            have HK2 := Lib.hid hk2
            have HZ := Lib.hid hkr.size
            have HZ2 := Lib.hid hk2.size
            have hr0 : r.length = 0 := by omega
            have HR0 := Lib.hid hr0
            clear hr0
            clear hur hk1 hk2 hb2 hu1 hu1' hu2 hcc HREST
            go_region_held3 (fun w' => w'.cell? ⟨b, 0, none⟩ = some (.int .u64 (a : Int))) (first | go_keep | exact hx0) (first | (go_at_call 37; ((refine HCC.out.mono ?_); rintro e w5 ⟨A5, c5, rfl, hu5, hk5⟩; have hx0 : w5.cell? ⟨b, 0, none⟩ = some (.int .u64 (a : Int)) := (HK2.out.then_ hk5 (fun _ h => h.elim)).cell hc0 (fun h => h); have HU5 := Lib.hid hu5; have HK5 := Lib.hid hk5; clear hu5 hk5)))
            all_goals
              go_wp2_with fail
              go_ret2
              exact HG.out _ _ _ (HU5.out.mono (fun i hi => by have := HZ.out; have := HZ2.out; omega)) (HKK.out.then_ HK5.out (fun _ h => h.elim))
          · have hur := HREST.out
            rw [if_neg hc1] at hur
            have hk1 : Kp (fun _ => False) wr (wr.alloc (.cells #[.int .u64 (f : Int), .int .u64 (d : Int)] 65)) := (Kp.refl _ _).alloc _
            have hk2 := (hk1.alloc (.cells #[.slice (some ⟨wr.heap.size, 0, none⟩) 2 2, .slice (some ⟨b, 1, none⟩) r.length (c' - 1)] 47)).drew
            have hb2 := Blk.new (wr.alloc (.cells #[.int .u64 (f : Int), .int .u64 (d : Int)] 65)) 47 #[.slice (some ⟨wr.heap.size, 0, none⟩) 2 2, .slice (some ⟨b, 1, none⟩) r.length (c' - 1)]
            have hu1 := (UR.lit wr 65 [f, d] #[.int .u64 (f : Int), .int .u64 (d : Int)] 2 rfl rfl).mono (ok' := fun i => i = wr.heap.size ∨ w.heap.size ≤ i) (fun i hi => .inl hi)
            have hu1' := hu1.kp (((Kp.refl (fun _ => False) _).alloc (.cells #[.slice (some ⟨wr.heap.size, 0, none⟩) 2 2, .slice (some ⟨b, 1, none⟩) r.length (c' - 1)] 47)).drew) (fun _ _ h => h)
            have hu2 := (hur _ hk2).mono (ok' := fun i => i = wr.heap.size ∨ w.heap.size ≤ i) (fun i hi => .inr hi)
            simp only [World.size_alloc] at hb2
            have hcc := concat2 _ (wr.heap.size + 1) _ _ [f, d] r _ (hb2.drew.cell 0) (hb2.drew.cell 1) hu1' hu2 (by simp) (by simp; omega)
            rw [show [f, d].length = 2 from rfl] at hcc
            have HCC := Lib.hid hcc
            have HKK := Lib.hid (hkr.then_ hk2 (fun _ h => h.elim))
            have HK2 := Lib.hid hk2
            have HZ := Lib.hid hkr.size
            have HZ2 := Lib.hid hk2.size
            have hc1i : ¬ ((c' : Int) = 1) := by omega
            clear hur hk1 hk2 hb2 hu1 hu1' hu2 hcc HREST
            go_region_held3 (fun w' => w'.cell? ⟨b, 0, none⟩ = some (.int .u64 (a : Int))) (first | go_keep | exact hx0) (first | (go_at_call 37; ((refine HCC.out.mono ?_); rintro e w5 ⟨A5, c5, rfl, hu5, hk5⟩; have hx0 : w5.cell? ⟨b, 0, none⟩ = some (.int .u64 (a : Int)) := (HK2.out.then_ hk5 (fun _ h => h.elim)).cell hc0 (fun h => h); have HU5 := Lib.hid hu5; have HK5 := Lib.hid hk5; clear hu5 hk5)))
            all_goals
              go_wp2_with fail
              go_ret2
              exact HG.out _ _ _ (HU5.out.mono (fun i hi => by have := HZ.out; have := HZ2.out; omega)) (HKK.out.then_ HK5.out (fun _ h => h.elim))
end Go.Proofs.YtjdfgjlbmbiihaaDoor
