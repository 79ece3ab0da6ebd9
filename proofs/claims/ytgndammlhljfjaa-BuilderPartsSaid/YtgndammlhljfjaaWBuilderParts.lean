/-
  BuilderParts: the walk.
-/
import Derived.Test.YtgndammlhljfjaaL02
import Derived.Test.YtgndammlhljfjaaCur
import Derived.Test.YtgndammlhljfjaaL01
import Derived.Test.YtgndammlhljfjaaOpen
namespace Go.Proofs.Ytgndammlhljfjaa
open Go.RowKit

/-! ### Plain: parts in parts. -/
def szN (n : Int) : Nat := 1 + (n % 18446744073709551616 % 3).toNat
def hdN (n : Int) : UInt8 := UInt8.ofNat (n % 256).toNat
theorem szN_le (n : Int) : 1 ≤ szN n ∧ szN n ≤ 3 := by unfold szN; omega
theorem hdN_val (n : Int) : ((hdN n).toNat : Int) = n % 256 := by
  rw [hdN, UInt8.toNat_ofNat']
  omega
def preF (st : List UInt8 × List (Nat × Nat)) (n : Int) : List UInt8 × List (Nat × Nat) :=
  (st.1 ++ [hdN n] ++ List.replicate (szN n) 0, st.2 ++ [((st.1 ++ [hdN n]).length + szN n, szN n)])
def preN (ns : List Int) : List UInt8 × List (Nat × Nat) := ns.foldl preF ([], [])
theorem preN_snoc (ns : List Int) (n : Int) : preN (ns ++ [n]) = preF (preN ns) n := by simp [preN]
theorem preN_len (ns : List Int) : (preN ns).2.length = ns.length ∧ (preN ns).1.length ≤ 4 * ns.length := by
  obtain ⟨m, rfl⟩ : ∃ m : List Int, ns = m.reverse := ⟨ns.reverse, by simp⟩
  induction m with
  | nil => simp [preN]
  | cons a m ih =>
    rw [List.reverse_cons, preN_snoc]
    have := szN_le a
    simp only [preF, List.length_append, List.length_singleton, List.length_replicate]
    omega
def wrapN (n : Int) (C : List UInt8) : List UInt8 := [hdN n] ++ (beB (szN n) C.length ++ (C ++ [77]))
def fullN (ns : List Int) (b : List UInt8) : List UInt8 := ns.foldr wrapN b
theorem wrapN_len (n : Int) (C : List UInt8) : (wrapN n C).length = 1 + (szN n + (C.length + 1)) := by simp [wrapN, beB_length]; omega
theorem fullN_len (ns : List Int) (b : List UInt8) : (fullN ns b).length ≤ b.length + 5 * ns.length := by
  induction ns with
  | nil => simp [fullN]
  | cons a m ih =>
    have := szN_le a
    show (wrapN a (fullN m b)).length ≤ _
    rw [wrapN_len, List.length_cons]
    omega
theorem take_snoc {ms : List Int} {j : Nat} (h : j < ms.length) : ms.take (j + 1) = ms.take j ++ [ms[j]] := List.take_succ_eq_append_getElem h
theorem fullN_drop {ms : List Int} {j : Nat} (h : j < ms.length) (b : List UInt8) : fullN (ms.drop j) b = wrapN ms[j] (fullN (ms.drop (j + 1)) b) := by
  show (ms.drop j).foldr wrapN b = _
  rw [List.drop_eq_getElem_cons h, List.foldr_cons]
  rfl
/-- A part's length fits. -/
def FitAt (ms : List Int) (bl : List UInt8) (j : Nat) : Prop := ∀ hj : j < ms.length, (fullN (ms.drop (j + 1)) bl).length < 256 ^ szN ms[j]
def Fits (ms : List Int) (bl : List UInt8) (q : Nat) : Prop := ∀ j, ms.length - q ≤ j → FitAt ms bl j
/-- The bytes behind a part's end. -/
theorem close_bytes (P : List UInt8) (n : Int) (C : List UInt8) :
    ((P ++ [hdN n] ++ List.replicate (szN n) 0 ++ C).take ((P ++ [hdN n]).length + szN n - szN n) ++ (beB (szN n) ((P ++ [hdN n] ++ List.replicate (szN n) 0 ++ C).length - ((P ++ [hdN n]).length + szN n)) ++ (P ++ [hdN n] ++ List.replicate (szN n) 0 ++ C).drop ((P ++ [hdN n]).length + szN n))) ++ [77] = P ++ wrapN n C := by
  have h1 : (P ++ [hdN n] ++ List.replicate (szN n) 0 ++ C).length - ((P ++ [hdN n]).length + szN n) = C.length := by
    simp only [List.length_append, List.length_replicate]
    omega
  have h2 : (P ++ [hdN n]).length + szN n = (P ++ [hdN n] ++ List.replicate (szN n) 0).length := by simp; omega
  rw [h1, Nat.add_sub_cancel, h2, List.drop_left, List.append_assoc (P ++ [hdN n]), List.take_left, wrapN]
  simp
theorem close_gap (P : List UInt8) (n : Int) (C : List UInt8) : (P ++ [hdN n] ++ List.replicate (szN n) 0 ++ C).length - ((P ++ [hdN n]).length + szN n) = C.length := by
  simp only [List.length_append, List.length_replicate]
  omega

theorem nn_front' {s : Nat} {x : Nat} {r : List UInt8} (h1 : 1 ≤ s) (h3 : s ≤ 3) : nn (beB s x ++ r) s = (beB s x, 0) := by
  have hs : szB (s : Int) = true := by simp [szB]; omega
  rw [nn, if_pos hs, nx_ok (by omega) (by simp [beB_length]; omega)]
  simp only [Int.toNat_natCast]
  rw [List.take_append_of_le_length (by rw [beB_length]; omega), List.take_of_length_le (by rw [beB_length]; omega)]
theorem nn_cons (b : UInt8) (r : List UInt8) : nn (b :: r) 1 = ([b], 0) := nn_one (b :: r) 0 (by simp)
theorem nx_all (l : List UInt8) : nx l l.length = (l, 0) := by
  rw [nx_ok (by omega) (by omega)]
  simp
theorem mod3 (n : Int) : ∃ r : Nat, wrap64 ((IntKind.u64.wrap n).tmod 3) = (r : Int) ∧ r < 3 ∧ 1 + r = szN n := by
  rw [IntKind.wrap_u64]
  have h0 : 0 ≤ n % 18446744073709551616 := Int.emod_nonneg _ (by omega)
  rw [Int.tmod_eq_emod_of_nonneg h0]
  refine ⟨(n % 18446744073709551616 % 3).toNat, ?_, by omega, rfl⟩
  unfold wrap64
  omega
theorem BR.ltm' {w : World} {ok : Nat → Prop} {v : Value} {l : List UInt8} (h : BR w ok v l) : BR w (fun i => ok i ∧ i < w.heap.size) v l := by
  obtain ⟨A, c, e, hc, h1, h2⟩ := h
  refine ⟨A, c, e, hc, h1, fun hn => ?_⟩
  obtain ⟨ad, hA, hsp, hok, hcell⟩ := h2 hn
  have hlt : 0 < (bc l).length := by rw [bc_length]; exact hn
  have h0 := cell_lt (hcell 0 _ (List.getElem?_eq_getElem hlt))
  rw [block_add] at h0
  exact ⟨ad, hA, hsp, ⟨hok, h0⟩, hcell⟩

set_option maxRecDepth 100000 in
set_option maxHeartbeats 6400000 in
theorem bparts_walk (w : World) (v : Value) (ns : List Int) (hv : IR .i64 w (· < w.heap.size) v ns) (hwf : ∀ n ∈ ns, (Lit.int .i64 n).wf = true) (h2 : ns.length ≤ 140737488351232) (vb : Value) (l : List UInt8) (hb : BR w (· < w.heap.size) vb l) (h1 : l.length ≤ 140737488351232) :
    Calls Try.prog 14 #[v, vb] w fun e w' => e = .returned (.bool true) ∧ Below w.heap.size w w' := by
  obtain ⟨A, c, rfl, hlc, hr⟩ := id hv
  obtain ⟨Ab, cb, rfl, hlcb, hrb⟩ := id hb
  have hc1 : (l.length : Int) ≤ cb := by omega
  have hc2 : (ns.length : Int) ≤ c := by omega
  obtain ⟨kb, hkb⟩ : ∃ kb : Nat, (if (100:Int) < (l.length:Int) then (100 : Int) else l.length).toNat = kb := ⟨_, rfl⟩
  obtain ⟨ks, hks⟩ : ∃ ks : Nat, (if (12:Int) < (ns.length:Int) then (12 : Int) else ns.length).toNat = ks := ⟨_, rfl⟩
  have hkb' : kb ≤ l.length ∧ kb ≤ 100 := by rw [← hkb]; split <;> omega
  have hks' : ks ≤ ns.length ∧ ks ≤ 12 := by rw [← hks]; split <;> omega
  have HKB := Lib.hid hkb
  have HKS := Lib.hid hks
  clear hkb hks
  go_enter Try.func14, Try.ntmps14
  go_wp2_with fail
  go_quiet (fail)
  rw [HKB.out, HKS.out]
  generalize (if (100 : Int) < (l.length : Int) then (100 : Int) else l.length) = d1
  generalize (if (12 : Int) < (ns.length : Int) then (12 : Int) else ns.length) = d2
  have hrs : Rd w (· < w.heap.size) 1 A ks (ic .i64 (ns.take ks)) := by
    have := hr.take (k := ks) hks'.1
    rwa [Nat.mul_one, ic_take] at this
  have hrl : BR w (· < w.heap.size) (.slice Ab kb cb) (l.take kb) := by
    have h := hrb.take (k := kb) hkb'.1
    rw [Nat.mul_one, bc_take] at h
    have hlen : (l.take kb).length = kb := by simp; omega
    exact ⟨Ab, cb, by rw [hlen], by omega, by rw [hlen]; exact h⟩
  have hwf' : ∀ n ∈ ns.take ks, (Lit.int .i64 n).wf = true := fun n hn => hwf n (List.mem_of_mem_take hn)
  have e1 : (ns.take ks).length = ks := by simp; omega
  have e2 : (l.take kb).length = kb := by simp; omega
  obtain ⟨hb1, hb2⟩ := hkb'
  obtain ⟨hs1, hs2⟩ := hks'
  generalize ns.take ks = ms at hrs hwf' e1
  generalize l.take kb = bl at hrl e2
  subst e1 e2
  have HRS := Lib.hid hrs
  have HRL := Lib.hid hrl
  have HWF := Lib.hid hwf'
  obtain ⟨ln, hln⟩ : ∃ x, x = ns.length := ⟨_, rfl⟩
  obtain ⟨ll, hll⟩ : ∃ x, x = l.length := ⟨_, rfl⟩
  rw [← hln, ← hll]
  clear hc1 hc2 hb1 hs1 hrs hrl hwf' hwf hv hb hr hrb hlc hlcb hln hll h1 h2 HKB HKS
  obtain ⟨w0, hw0⟩ : ∃ w0, w.drewN nq = w0 := ⟨_, rfl⟩
  have hk0 : Kp (fun _ => False) w w0 := by rw [← hw0]; exact (Kp.refl _ _).drewN _
  rw [hw0]
  clear hw0
  go_wp2_with fail
  refine (bnew_ok 65536 (by omega) _).mono ?_
  rintro e w3 ⟨g, rfl, hg, hb3, hk3⟩
  have hk33 := hk0.then_ hk3 (fun _ h => h.elim)
  have hb33 := hb3.base (B := w.heap.size) (by have := hk0.size; omega)
  go_wp2_with fail
  refine (alive02 _).mono ?_
  rintro e w4 ⟨rfl, hk4⟩
  have hk44 := hk33.then_ hk4 (fun _ h => h.elim)
  have hb44 := hb33.kp_new hk4
  clear hb3 hb33 hk3 hk33 hk4 hk0
  go_wp2_with fail
  go_loopw [51] (fun i wr => ∃ (k : Nat), k ≤ ms.length ∧ i = .int .i64 k ∧ Bld wr (w.heap.size ≤ ·) g (preN (ms.take k)).1 65536 (preN (ms.take k)).2 ∧ Kp (fun _ => False) w wr) (fun i _ => ms.length - (intOf i).toNat)
  case atStart => exact ⟨0, Nat.zero_le _, rfl, hb44, hk44⟩
  case round =>
    obtain ⟨k, hk, rfl, hbr, hkr⟩ := hrel
    by_cases hlt : k < ms.length
    · obtain ⟨b, off, rfl, hb, hc0⟩ := (HRS.out.kp hkr (fun _ _ h => h)).int hlt
      obtain ⟨q0, q1⟩ := bounds_i64 (HWF.out _ (List.getElem_mem hlt))
      have hsn : preN (ms.take (k + 1)) = preF (preN (ms.take k)) ms[k] := by rw [take_snoc hlt, preN_snoc]
      have hpl := preN_len (ms.take k)
      have htl : (ms.take k).length = k := by simp; omega
      rw [htl] at hpl
      obtain ⟨hpl2, hpl1⟩ := hpl
      obtain ⟨n, hn⟩ : ∃ n, ms[k] = n := ⟨_, rfl⟩
      rw [hn] at hc0 q0 q1 hsn
      obtain ⟨r, hr1, hr3, hrs⟩ := mod3 n
      have hsz := szN_le n
      have hn256 : 0 ≤ n % 256 ∧ n % 256 < 256 := by omega
      have hlit := BR.lit wr 5 [hdN n] #[.int .u8 (n % 256)] 1 rfl (by simp only [bc, List.map_cons, List.map_nil, hdN_val])
      have hka : Kp (fun _ => False) wr (wr.alloc (.cells #[.int .u8 (n % 256)] 5)) := (Kp.refl _ _).alloc _
      have hkra := hkr.then_ hka (fun _ h => h.elim)
      have hbra := hbr.kp_new hka
      have hzr := hkra.size
      generalize hbs : (preN (ms.take k)).1 = bs at hbra hpl1
      generalize hps : (preN (ms.take k)).2 = ps at hbra hpl2
      have hsn' : preN (ms.take (k + 1)) = (bs ++ [hdN n] ++ List.replicate (szN n) 0, ps ++ [((bs ++ [hdN n]).length + szN n, szN n)]) := by rw [hsn, preF, hbs, hps]
      generalize hS : szN n = S at hsn' hrs hsz
      have HSN := Lib.hid hsn'
      have hS2 : 1 + (r : Int) = (S : Int) := by omega
      have HS2 := Lib.hid hS2
      have HLIT := Lib.hid hlit
      have HBRA := Lib.hid hbra
      clear hsn hsn' hbs hps hS hrs hS2 hlit hbra hn hbr hkr hka
      go_wp2_with fail
      refine (bbytes_ok _ _ g bs [hdN n] 65536 ps _ _ HBRA.out HLIT.out (by simp; omega)).mono ?_
      intro e w5 hst
      obtain ⟨rfl, hb5, hk5⟩ := hst.base hzr
      have hk55 := kp_base hkra hk5
      have hz5 := hk55.size
      have HB5 := Lib.hid hb5
      clear hb5
      go_wp2_with fail
      rw [HS2.out]
      refine (bopen_ok _ g (bs ++ [hdN n]) 65536 ps S hsz.1 hsz.2 _ HB5.out (by simp; omega) (by omega)).mono ?_
      intro e w6 hst
      obtain ⟨rfl, hb6, hk6⟩ := hst.base hz5
      have hk66 := kp_base hk55 hk6
      have HB6 := Lib.hid hb6
      clear hb6
      go_wp2_with fail
      go_roundw
      case rel => exact ⟨k + 1, by omega, by go_num, by rw [HSN.out]; exact HB6.out, hk66⟩
      case measure => simp [intOf]; omega
    · obtain rfl : k = ms.length := by omega
      rw [List.take_of_length_le (Nat.le_refl _)] at hbr
      have hpl := preN_len ms
      have HBR := Lib.hid hbr
      have hzr := hkr.size
      obtain ⟨hpl2, hpl1⟩ := hpl
      have HPL2 := Lib.hid hpl2
      clear hbr hpl2
      go_wp2_with fail
      refine (bbytes_ok _ _ g _ bl 65536 _ _ _ HBR.out (HRL.out.kp hkr (fun _ _ h => h)) (by omega)).mono ?_
      intro e w5 hst
      obtain ⟨rfl, hb5, hk5⟩ := hst.base hzr
      have hk55 := kp_base hkr hk5
      have HB5 := Lib.hid hb5
      clear hb5 HBR
      go_wp2_with fail
      refine (bdeep_any _ g _ _ _ _ HB5.out).mono ?_
      rintro e w' ⟨rfl, rfl⟩
      rw [HPL2.out]
      go_wp2_with fail
      go_loopw [85] (fun i wr => ∃ (q : Nat), q ≤ ms.length ∧ i = .int .i64 q ∧ Bld wr (w.heap.size ≤ ·) g ((preN (ms.take (ms.length - q))).1 ++ fullN (ms.drop (ms.length - q)) bl) 65536 (preN (ms.take (ms.length - q))).2 ∧ Fits ms bl q ∧ Kp (fun _ => False) w wr) (fun i _ => ms.length - (intOf i).toNat)
      case atStart => exact ⟨0, Nat.zero_le _, rfl, by simpa [fullN] using HB5.out, fun j hj hj' => absurd hj' (by omega), hk55⟩
      case round =>
        obtain ⟨q, hq, rfl, hbr, hfits, hkr⟩ := hrel
        have HFITS := Lib.hid hfits
        clear hfits
        by_cases hlt : q < ms.length
        · obtain ⟨j, hj⟩ : ∃ j, ms.length - q = j + 1 := ⟨ms.length - q - 1, by omega⟩
          have hjl : j < ms.length := by omega
          have hqj : ms.length - (q + 1) = j := by omega
          rw [hj, take_snoc hjl, preN_snoc] at hbr
          have hcl := fullN_len (ms.drop (j + 1)) bl
          have hpl := preN_len (ms.take j)
          have htl : (ms.take j).length = j := by simp; omega
          have hdl : (ms.drop (j + 1)).length = ms.length - (j + 1) := by simp
          rw [htl] at hpl
          rw [hdl] at hcl
          obtain ⟨hpl2, hpl1⟩ := hpl
          have hfd := fullN_drop hjl bl
          have hfq : (fullN (ms.drop (j + 1)) bl).length < 256 ^ szN ms[j] → Fits ms bl (q + 1) := by
            intro h i hi hi'
            rcases Nat.lt_or_ge j i with h1 | h1
            · exact HFITS.out i (by omega) hi'
            · obtain rfl : i = j := by omega
              exact h
          have HFQ := Lib.hid hfq
          clear hfq
          generalize ms[j] = n at hbr hfd HFQ
          generalize fullN (ms.drop (j + 1)) bl = C at hbr hfd hcl HFQ
          simp only [preF] at hbr
          have hb8 := close_bytes (preN (ms.take j)).1 n C
          have hgap := close_gap (preN (ms.take j)).1 n C
          generalize hP : (preN (ms.take j)).1 = P at hbr hb8 hgap hpl1
          generalize hPs : (preN (ms.take j)).2 = ps at hbr hpl2
          have hsz := szN_le n
          have hw := wrapN_len n C
          generalize hS : szN n = S at hbr hb8 hgap hsz hw HFQ
          have hlenB : (P ++ [hdN n] ++ List.replicate S 0 ++ C).length = P.length + 1 + S + C.length := by simp; omega
          have hlenF : (P ++ [hdN n]).length + S = P.length + 1 + S := by simp
          have HBR := Lib.hid hbr
          have HB8 := Lib.hid hb8
          have HP := Lib.hid hP
          have HPS := Lib.hid hPs
          have HFD := Lib.hid hfd
          have HG := Lib.hid hgap
          have HLF := Lib.hid hlenF
          have hzr := hkr.size
          clear hbr hb8 hP hPs hfd hS hgap hlenF
          by_cases hbig : 256 ^ S ≤ C.length
          · have h256 : 255 < (P ++ [hdN n] ++ List.replicate S 0 ++ C).length := by
              have : 256 ^ 1 ≤ 256 ^ S := Nat.pow_le_pow_right (by omega) hsz.1
              omega
            generalize hBB : P ++ [hdN n] ++ List.replicate S 0 ++ C = BB at h256 hlenB
            have HBB := Lib.hid hBB
            rw [hBB] at HBR HG
            clear hBB
            go_wp2_with fail
            refine (bclose_long _ g BB 65536 ps _ S hsz.1 hsz.2 _ HBR.out (by rw [HLF.out]; omega) (by rw [HG.out]; exact hbig) (by omega)).mono ?_
            rintro e w6 ⟨rfl, hb6, hk6⟩
            have hk66 := hkr.then_ hk6 (fun _ h => h.elim)
            have HB6 := Lib.hid hb6
            clear hb6
            have hgt : decide ((255 : Int) < (BB.length : Int)) = true := by simp; omega
            go_wp2_with fail
            refine (blen_any _ g _ _ _ _ HB6.out).mono ?_
            rintro e w' ⟨rfl, rfl⟩
            go_wp2_with fail
            go_ret
            exact ⟨by simp; omega, hk66.below⟩
          · have hlitT := fun W : World => BR.lit W 5 [77] #[.int .u8 77] 1 rfl rfl
            have HT := Lib.hid hlitT
            clear hlitT
            go_wp2_with fail
            refine (bclose_ok _ g _ 65536 ps _ S hsz.1 hsz.2 _ HBR.out (by omega) (by rw [HLF.out]; omega) (by rw [HG.out]; omega) (by omega)).mono ?_
            intro e w6 hst
            obtain ⟨rfl, hb6, hk6⟩ := hst.base hzr
            have hk66 := kp_base hkr hk6
            have hka : Kp (fun _ => False) w6 (w6.alloc (.cells #[.int .u8 77] 5)) := (Kp.refl _ _).alloc _
            have hk67 := hk66.then_ hka (fun _ h => h.elim)
            have HB6 := Lib.hid (hb6.kp_new hka)
            have hz6 := hk67.size
            clear hb6
            go_wp2_with fail
            refine (bbytes_ok _ _ g _ [77] 65536 ps _ _ HB6.out (HT.out _) (by rw [← List.length_append, HB8.out, List.length_append, hw]; omega)).mono ?_
            intro e w7 hst
            obtain ⟨rfl, hb7, hk7⟩ := hst.base hz6
            have hk77 := kp_base hk67 hk7
            rw [HB8.out] at hb7
            have HB7 := Lib.hid hb7
            clear hb7
            go_wp2_with fail
            go_roundw
            case rel => exact ⟨q + 1, by omega, by go_num, by rw [hqj, HP.out, HPS.out, HFD.out]; exact HB7.out, HFQ.out (by omega), hk77⟩
            case measure => simp [intOf]; omega
        · obtain rfl : q = ms.length := by omega
          have hbr' : Bld wr (w.heap.size ≤ ·) g (fullN ms bl) 65536 [] := by simpa [preN] using hbr
          have hfl := fullN_len ms bl
          have HBR := Lib.hid hbr'
          clear hbr hbr' HB5
          go_wp2_with fail
          refine (bdone_any _ g _ 65536 _ HBR.out).mono ?_
          rintro e w6 ⟨A6, c6, rfl, hc6, hy6, hb6, hk6⟩
          have hk66 := hkr.then_ hk6 (fun _ h => h.elim)
          obtain ⟨Bd, hBd⟩ : ∃ Bd, wr.heap.size = Bd := ⟨_, rfl⟩
          rw [hBd] at hy6
          have hz6 := hk66.size
          clear hb6
          go_wp2_with fail
          refine (new_any _ _ _ 0 _ hy6.ltm').mono ?_
          rintro e w7 ⟨gc, rfl, hgc, hcur, hk7⟩
          have hk77 := hk66.then_ hk7 (fun _ h => h.elim)
          have HCUR := Lib.hid hcur
          clear hcur hy6 HBR hpl1 hBd
          obtain ⟨Bq, hBq⟩ : ∃ Bq, w6.heap.size = Bq := ⟨_, rfl⟩
          rw [hBq] at HCUR hgc hz6
          generalize hfn : (fullN ms bl).length = fn at hfl
          go_wp2_with fail
          clear hBq
          go_loopw [12, 118] (fun cv i wr => ∃ (k gc p : Nat), k ≤ ms.length ∧ i = .int .i64 k ∧ cv = .pointer (some ⟨gc, 0, none⟩) ∧ Bq ≤ gc ∧ Cur wr (fun i => Bd ≤ i ∧ i < Bq) gc (fullN (ms.drop k) bl) p ∧ p + (fullN (ms.drop k) bl).length ≤ 65536 ∧ Kp (fun _ => False) w wr) (fun _ i _ => ms.length - (intOf i).toNat)
          case atStart => exact ⟨0, gc, 0, Nat.zero_le _, rfl, rfl, hgc, by simpa using HCUR.out, by simp [hfn]; omega, hk77⟩
          case round =>
            obtain ⟨k, gc, p, hk, rfl, rfl, hgc, hcu, hp, hkr⟩ := hrel
            by_cases hlt : k < ms.length
            · obtain ⟨b, off, rfl, hb, hc0⟩ := (HRS.out.kp hkr (fun _ _ h => h)).int hlt
              obtain ⟨q0, q1⟩ := bounds_i64 (HWF.out _ (List.getElem_mem hlt))
              rw [fullN_drop hlt bl] at hcu hp
              obtain ⟨n, hn⟩ : ∃ n, ms[k] = n := ⟨_, rfl⟩
              rw [hn] at hc0 q0 q1 hcu hp
              obtain ⟨r, hr1, hr3, hrs⟩ := mod3 n
              have hsz := szN_le n
              rw [wrapN_len] at hp
              rw [wrapN] at hcu
              have hcl := fullN_len (ms.drop (k + 1)) bl
              have hdl : (ms.drop (k + 1)).length = ms.length - (k + 1) := by simp
              rw [hdl] at hcl
              have hfit : (fullN (ms.drop (k + 1)) bl).length < 256 ^ szN n := by
                have := HFITS.out k (by omega) hlt
                rwa [hn] at this
              generalize hC : fullN (ms.drop (k + 1)) bl = C at hcu hp hcl hfit
              generalize hS : szN n = S at hcu hrs hsz hp hfit
              have hS2 : 1 + (r : Int) = (S : Int) := by omega
              have hh := hdN_val n
              have hn256 : 0 ≤ n % 256 ∧ n % 256 < 256 := by omega
              have hclt := hcu.lt
              have h1 := number_at _ gc _ p 1 _ hcu (by omega) (by simp [beB_length]; omega) (by omega) (by simp [beB_length]; omega) [hdN n] (beB S C.length ++ (C ++ [77])) 0 (n % 256) (p + 1 : Nat) (nn_cons _ _) (by rw [be_one]; exact hh) (by simp) (by simp)
              have H1 := Lib.hid h1
              have HCC := Lib.hid hC
              have HS2 := Lib.hid hS2
              have hm24 : (C.length : Int) % 16777216 = C.length := by omega
              have hwg : w.heap.size ≤ gc := by omega
              clear h1 hcu hh hC hS hrs hn hS2
              go_wp2_with fail
              refine H1.out.mono ?_
              rintro e w8 ⟨rfl, hc8, hk8⟩
              have hk88 := hkr.then_ hk8 (fun i hi => .inr (by omega))
              have h2 := number_at _ gc _ (p + 1 : Nat) S _ hc8 (by omega) (by simp [beB_length]; omega) (by omega) (by simp [beB_length]; omega) (beB S C.length) (C ++ [77]) 0 C.length (p + 1 + S : Nat) (nn_front' hsz.1 hsz.2) (by rw [be_beB, Nat.mod_eq_of_lt hfit]) (by simp [beB_length]) (by simp [beB_length])
              have H2 := Lib.hid h2
              clear h2 hc8
              go_wp2_with fail
              rw [HS2.out]
              refine H2.out.mono ?_
              rintro e w9 ⟨rfl, hc9, hk9⟩
              have hk99 := hk88.then_ hk9 (fun i hi => .inr (by omega))
              have h3 := sub_ok _ gc (C ++ [77]) (p + 1 + S : Nat) C.length _ hc9 (by omega) (by simp; omega) (by omega) (by simp; omega) (by simp)
              have hz9 := hc9.lt
              have H3 := Lib.hid h3
              clear h3 hc9
              go_wp2_with fail
              refine H3.out.mono ?_
              rintro e w10 ⟨g', rfl, hg', hcs, hc10, hk10⟩
              rw [List.take_left] at hcs
              rw [List.drop_left] at hc10
              have hk100 := hk99.then_ hk10 (fun i hi => .inr (by omega))
              have h4 := number_at _ gc [77] _ 1 _ hc10 (by omega) (by simp) (by omega) (by simp; omega) [77] [] 0 77 (p + 1 + S + C.length + 1 : Nat) (nn_cons _ _) (by decide) (by simp) (by simp)
              have H4 := Lib.hid h4
              have HCS := Lib.hid hcs
              clear h4 hc10 hcs
              go_wp2_with fail
              refine H4.out.mono ?_
              rintro e w11 ⟨rfl, hc11, hk11⟩
              have hk110 := hk100.then_ hk11 (fun i hi => .inr (by omega))
              have hcs11 := HCS.out.kp hk11 (fun i hi h => by omega) (by omega)
              have HCS11 := Lib.hid hcs11
              clear hcs11
              go_wp2_with (go_at_call 25; ((with_reducible refine (left_any _ gc [] _ _ hc11).mono ?_); rintro e w' ⟨rfl, rfl⟩))
              go_roundw
              case rel => exact ⟨k + 1, g', p + 1 + S, by omega, by go_num, rfl, by omega, by rw [HCC.out]; exact HCS11.out, by rw [HCC.out]; omega, hk110⟩
              case measure => simp [intOf]; omega
            · obtain rfl : k = ms.length := by omega
              have hcu' : Cur wr (fun i => Bd ≤ i ∧ i < Bq) gc bl p := by simpa [fullN] using hcu
              have hp' : p + bl.length ≤ 65536 := by simpa [fullN] using hp
              have h1 := take_at _ gc bl p bl.length _ hcu' (by omega) (by omega) (by omega) (by omega) bl [] 0 (p + bl.length : Nat) bl.length (nx_all bl) rfl (by simp) (by omega)
              have H1 := Lib.hid h1
              have hcu2 := hcu'
              clear h1 hcu hcu' hp
              go_wp2_with fail
              refine (left_any _ gc bl _ _ hcu2).mono ?_
              rintro e w' ⟨rfl, rfl⟩
              go_wp2_with fail
              refine H1.out.mono ?_
              rintro e w8 ⟨A8, c8, rfl, hc8, hy8, hcu8, hk8⟩
              have hk88 := hkr.then_ hk8 (fun i hi => .inr (by omega))
              have hs1 : (convert 22 9 (.slice A8 bl.length c8)).run Try.prog w8 = .ok (.string (str bl)) w8 := run_str (e := 5) Try.underlying22 Try.underlying5 Try.underlying9 hy8
              have hs2 : (convert 22 9 (.slice Ab bl.length cb)).run Try.prog w8 = .ok (.string (str bl)) w8 := run_str (e := 5) Try.underlying22 Try.underlying5 Try.underlying9 (HRL.out.kp hk88 (fun _ _ h => h))
              generalize str bl = gs at hs1 hs2
              clear hy8 hcu8 hcu2 H1
              go_wp2_with fail
              go_ret
              exact ⟨by simp, hk88.below⟩
end Go.Proofs.Ytgndammlhljfjaa
