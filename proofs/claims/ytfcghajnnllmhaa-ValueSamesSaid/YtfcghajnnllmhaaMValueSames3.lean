/-
  Texts for the law ValueSames: part 3.
-/
import Derived.Test.YtfcghajnnllmhaaMValueSames1
import Derived.Test.YtfcghajnnllmhaaMValueSames2

namespace Go.Proofs.Ytfcghajnnllmhaa
open Go.RowKit

def bI (l : List UInt8) : List Int := l.map fun b => (b.toNat : Int)
def iB (l : List Int) : List UInt8 := l.map fun x => UInt8.ofNat x.toNat
def okB (l : List Int) : Bool := l.all fun x => decide (0 ≤ x) && decide (x < 256)
theorem bI_len (l : List UInt8) : (bI l).length = l.length := by simp [bI]
theorem iB_len (l : List Int) : (iB l).length = l.length := by simp [iB]
theorem iB_bI (l : List UInt8) : iB (bI l) = l := by
  unfold iB bI
  rw [List.map_map]
  conv => rhs; rw [← List.map_id l]
  exact List.map_congr_left (fun b _ => by simp)
theorem okB_bI (l : List UInt8) : okB (bI l) = true := by
  unfold okB bI
  simp only [List.all_map, List.all_eq_true, Function.comp, Bool.and_eq_true, decide_eq_true_eq]
  intro b _
  have := b.toNat_lt
  omega
theorem okB_mem {l : List Int} (h : okB l = true) {x : Int} (hx : x ∈ l) : 0 ≤ x ∧ x < 256 := by
  have := List.all_eq_true.1 h x hx
  simpa using this
theorem bI_iB {l : List Int} (h : okB l = true) : bI (iB l) = l := by
  unfold iB bI
  rw [List.map_map]
  conv => rhs; rw [← List.map_id l]
  refine List.map_congr_left (fun x hx => ?_)
  obtain ⟨h1, h2⟩ := okB_mem h hx
  simp only [Function.comp]
  rw [UInt8.toNat_ofNat_of_lt' (by show x.toNat < 256; omega)]
  simp
  omega
section
open YtfcghajnnllmhaaW.PrintWords
theorem br_c {w : World} {ok : Nat → Prop} {A : Option Addr} {n c : Nat} {l : List UInt8} (h : BR w ok (.slice A n c) l) (hl : l.length ≤ 140737488355328) : n = (bI l).length ∧ (bI l).length ≤ c ∧ (Kd.int .u8).C w A (bI l).length (bI l) := by
  obtain ⟨A', c', e, h1, h2⟩ := h
  injection e with e1 e2 e3
  subst e1 e2 e3
  refine ⟨(bI_len l).symm, by rw [bI_len]; exact h1, rfl, by rw [bI_len]; omega, fun h0 => ?_⟩
  rw [bI_len] at h0
  obtain ⟨ad, e, hsp, _, hc⟩ := h2.2 h0
  refine ⟨ad, e, fun j p hj => ⟨[.int .u8 p], rfl, rfl, fun i u hu => ?_⟩⟩
  obtain rfl : i = 0 := by
    have := (List.getElem?_eq_some_iff.1 hu).1
    simpa using this
  obtain rfl : .int .u8 p = u := by simpa using hu
  refine hc _ _ ?_
  show (bc l)[j * 1 + 0]? = _
  rw [Nat.mul_one, Nat.add_zero]
  rw [bI, List.getElem?_map] at hj
  obtain ⟨b, hb, rfl⟩ := Option.map_eq_some_iff.1 hj
  rw [bc, List.getElem?_map, hb]
  rfl
theorem c_br {w : World} {A : Option Addr} {n c : Nat} {xs : List Int} (h : (Kd.int .u8).C w A n xs) (hb : okB xs = true) (hc : xs.length ≤ c) : BR w (· < w.heap.size) (.slice A xs.length c) (iB xs) := by
  obtain ⟨h1, _, h2⟩ := h
  refine ⟨A, c, by rw [iB_len], by rw [iB_len]; exact hc, by rw [bc_length]; omega, fun h0 => ?_⟩
  rw [iB_len] at h0
  obtain ⟨ad, e, hcell⟩ := h2 (by omega)
  have each : ∀ j (hj : j < xs.length), w.cell? (ad.add j) = some (.int .u8 xs[j]) := by
    intro j hj
    obtain ⟨cs, _, hK, hx⟩ := hcell j _ (List.getElem?_eq_getElem hj)
    have hK' : cs = [.int .u8 xs[j]] := hK
    subst hK'
    have := hx 0 _ rfl
    have e1 : (Kd.int .u8).sz = 1 := rfl
    rw [e1, Nat.mul_one, Nat.add_zero] at this
    exact this
  have hc0 := each 0 h0
  have hbk := cell_lt hc0
  rw [block_add] at hbk
  have hsp := World.cell?_spot hc0
  refine ⟨ad, e, by simpa [Addr.add] using hsp, hbk, fun j u hu => ?_⟩
  have hjl : j < xs.length := by
    have := (List.getElem?_eq_some_iff.1 hu).1
    rw [bc_length, iB_len] at this
    exact this
  rw [each j hjl]
  have hx := okB_mem hb (List.getElem_mem hjl)
  have e3 : (bc (iB xs))[j]? = some (.int .u8 xs[j]) := by
    have := bI_iB hb
    rw [bc, List.getElem?_map]
    have e4 : (iB xs)[j]? = some (UInt8.ofNat xs[j].toNat) := by
      rw [iB, List.getElem?_map, List.getElem?_eq_getElem hjl]
      rfl
    rw [e4]
    simp only [Option.map_some]
    rw [UInt8.toNat_ofNat_of_lt' (by show xs[j].toNat < 256; omega)]
    congr 2
    omega
  rw [e3] at hu
  injection hu with hu
  rw [hu]
end

abbrev SV := QP.S46
abbrev kV : YtfcghajnnllmhaaW.PrintWords.Kd SV := QP.k46
mutual
def toV : SV → Vt
  | ⟨n, b, l⟩ => .mk ⟨n, iB b⟩ (toVs l)
def toVs : List SV → List Vt
  | [] => []
  | x :: l => toV x :: toVs l
end
mutual
def ofV : Vt → SV
  | .mk a l => ⟨a.n, bI a.b, ofVs l⟩
def ofVs : List Vt → List SV
  | [] => []
  | x :: l => ofV x :: ofVs l
end
theorem toVs_map (l : List SV) : toVs l = l.map toV := by
  induction l with
  | nil => rw [toVs]; rfl
  | cons x l ih => rw [toVs, ih]; rfl
theorem ofVs_map (l : List Vt) : ofVs l = l.map ofV := by
  induction l with
  | nil => rw [ofVs]; rfl
  | cons x l ih => rw [ofVs, ih]; rfl
theorem toV_mk (n : Int) (b : List Int) (l : List SV) : toV ⟨n, b, l⟩ = .mk ⟨n, iB b⟩ (l.map toV) := by rw [toV, toVs_map]
theorem ofV_mk (a : VH) (l : List Vt) : ofV (.mk a l) = ⟨a.n, bI a.b, l.map ofV⟩ := by rw [ofV, ofVs_map]
theorem to_ofV (x : Vt) : toV (ofV x) = x := by
  induction x using RT.induct with
  | h a l ih =>
  rw [ofV_mk, toV_mk, iB_bI]
  congr 1
  rw [List.map_map]
  conv => rhs; rw [← List.map_id l]
  exact List.map_congr_left ih
theorem map_to_ofV (l : List Vt) : (l.map ofV).map toV = l := by
  rw [List.map_map]
  conv => rhs; rw [← List.map_id l]
  exact List.map_congr_left (fun x _ => to_ofV x)
theorem rd_ofV (l : List Vt) (j : Nat) (h : j < l.length) : QP.rd_T46 (l.map ofV) (j : Int) = ofV l[j] := by
  simp [QP.rd_T46, h]
theorem ofV_f0 (x : Vt) : (ofV x).f0 = x.a.n := by cases x; rw [ofV_mk]; rfl
theorem ofV_f1 (x : Vt) : (ofV x).f1 = bI x.a.b := by cases x; rw [ofV_mk]; rfl
theorem ofV_f2 (x : Vt) : (ofV x).f2 = x.l.map ofV := by cases x; rw [ofV_mk]; rfl
mutual
/-- Numbers of 64 bits, bytes that are bytes, and lengths that there may be. -/
def wfSV : SV → Bool
  | ⟨n, b, l⟩ => (decide (0 ≤ n) && decide (n < 18446744073709551616)) && (okB b && (decide (b.length ≤ 140737488355328) && (decide (l.length ≤ 140737488355328) && wfSVs l)))
def wfSVs : List SV → Bool
  | [] => true
  | x :: l => wfSV x && wfSVs l
end
theorem wfSVs_iff (l : List SV) : wfSVs l = true ↔ ∀ x ∈ l, wfSV x = true := by
  induction l with
  | nil => rw [wfSVs]; simp
  | cons x l ih => rw [wfSVs]; simp [ih]
theorem wfSV_mk (n : Int) (b : List Int) (l : List SV) : wfSV ⟨n, b, l⟩ = true ↔ u64B n ∧ okB b = true ∧ b.length ≤ 140737488355328 ∧ l.length ≤ 140737488355328 ∧ ∀ x ∈ l, wfSV x = true := by
  rw [wfSV]
  simp only [Bool.and_eq_true, decide_eq_true_eq, wfSVs_iff, u64B]
def wfV (x : Vt) : Bool := wfSV (ofV x)
theorem wfV_mk (a : VH) (l : List Vt) : wfV (.mk a l) = true ↔ u64B a.n ∧ a.b.length ≤ 140737488355328 ∧ l.length ≤ 140737488355328 ∧ ∀ x ∈ l, wfV x = true := by
  unfold wfV
  rw [ofV_mk, wfSV_mk, bI_len, List.length_map]
  simp only [okB_bI, true_and, List.mem_map, forall_exists_index, and_imp, forall_apply_eq_imp_iff₂]
section
open YtfcghajnnllmhaaW.PrintWords
theorem tr_wfV {w : World} {ok : Nat → Prop} (x : Vt) : ∀ cs, TR VHd 3 w ok x cs → wfV x = true := by
  induction x using RT.induct with
  | h a l ih =>
  intro cs h
  obtain ⟨hd, A, c, _, _, ⟨_, _, ho, _, hb⟩, _, h2, h3⟩ := (TR_def _ _ _ _ _ _).1 h
  refine (wfV_mk _ _).2 ⟨ho, hb, h2, fun x hx => ?_⟩
  obtain ⟨i, hi, rfl⟩ := List.mem_iff_getElem.1 hx
  obtain ⟨b, off, cs', _, _, ht, _⟩ := h3.at_ hi
  exact ih _ hx cs' ht
theorem tl_cV {w : World} {ok : Nat → Prop} {l : List Vt} {A : Option Addr} (hl : l.length ≤ 140737488355328) (h : TL VHd 3 w ok l A) (hk : ∀ x ∈ l, ∀ cs, TR VHd 3 w ok x cs → kV.K w (ofV x) cs) : kV.C w A (l.map ofV).length (l.map ofV) := by
  refine ⟨rfl, by rw [List.length_map]; omega, fun h0 => ?_⟩
  rw [List.length_map] at h0
  obtain ⟨b, off, e, _, ht⟩ := h h0
  refine ⟨_, e, fun j p hj => ?_⟩
  rw [List.getElem?_map] at hj
  obtain ⟨x, hx, rfl⟩ := Option.map_eq_some_iff.1 hj
  obtain ⟨hjl, rfl⟩ := List.getElem?_eq_some_iff.1 hx
  obtain ⟨cs, h1, h2⟩ := ht.at_ hjl
  refine ⟨cs, ?_, hk _ (List.getElem_mem hjl) cs h1, fun i u hu => ?_⟩
  · obtain ⟨hd, A', c', e', hl', _⟩ := (TR_def _ _ _ _ _ _).1 h1
    rw [e', List.length_append]
    exact hl'
  · rw [add_spot]
    have := h2 i u hu
    rwa [Nat.add_assoc] at this
theorem tr_kV {w : World} {ok : Nat → Prop} (x : Vt) : ∀ cs, TR VHd 3 w ok x cs → kV.K w (ofV x) cs := by
  induction x using RT.induct with
  | h a l ih =>
  intro cs h
  obtain ⟨hd, A, c, e, _, ⟨bv, hh, _, hb, hbl⟩, h1, h2, h3⟩ := (TR_def _ _ _ _ _ _).1 h
  subst hh
  subst e
  rw [ofV_mk]
  have hc := tl_cV h2 h3 ih
  obtain ⟨A1, c1, e1, _, _⟩ := id hb
  subst e1
  obtain ⟨g1, g2, g3⟩ := br_c hb hbl
  have := QP.k46_mk w ⟨a.n, bI a.b, l.map ofV⟩ (A1 := A1) (c1 := c1) g2 g3 (A2 := A) (c2 := c) (by simpa using (show l.length ≤ c from h1)) hc
  rw [List.length_map, bI_len] at this
  exact this
/-- Values in a slice, for the printed texts. -/
theorem VsR.c {w : World} {ok : Nat → Prop} {A : Option Addr} {n c : Nat} {l : List Vt} (h : VsR w ok (.slice A n c) l) : n = (l.map ofV).length ∧ (l.map ofV).length ≤ c ∧ kV.C w A (l.map ofV).length (l.map ofV) := by
  obtain ⟨A', c', e, h1, h2, h3⟩ := h
  injection e with e1 e2 e3
  subst e1 e2 e3
  exact ⟨by simp, by simpa using h1, tl_cV h2 h3 (fun x _ => tr_kV x)⟩
theorem VsR.wf {w : World} {ok : Nat → Prop} {v : Value} {l : List Vt} (h : VsR w ok v l) : l.length ≤ 140737488355328 ∧ ∀ x ∈ l, wfV x = true := by
  obtain ⟨A', c', e, h1, h2, h3⟩ := h
  refine ⟨h2, fun x hx => ?_⟩
  obtain ⟨i, hi, rfl⟩ := List.mem_iff_getElem.1 hx
  obtain ⟨b, off, cs', _, _, ht, _⟩ := h3.at_ hi
  exact tr_wfV _ cs' ht
theorem c_tlV {w : World} {l : List SV} {A : Option Addr} {n : Nat} (h : kV.C w A n l) (hk : ∀ x ∈ l, ∀ cs, kV.K w x cs → TR VHd 3 w (· < w.heap.size) (toV x) cs) : TL VHd 3 w (· < w.heap.size) (l.map toV) A := by
  intro h0
  rw [List.length_map] at h0
  obtain ⟨hl, _, hc⟩ := h
  obtain ⟨ad, e, hcell⟩ := hc (by omega)
  have each : ∀ i (hi : i < l.length), ∃ cs, TR VHd 3 w (· < w.heap.size) (toV l[i]) cs ∧ ∀ j u, cs[j]? = some u → w.cell? (ad.add (i * 3 + j)) = some u := by
    intro i hi
    obtain ⟨cs, _, h2, h3⟩ := hcell i _ (List.getElem?_eq_getElem hi)
    exact ⟨cs, hk _ (List.getElem_mem hi) cs h2, h3⟩
  obtain ⟨cs0, t0, c0⟩ := each 0 h0
  obtain ⟨hd, A', c', e', hl', _⟩ := (TR_def _ _ _ _ _ _).1 t0
  have hlen : 0 < cs0.length := by rw [e']; simp
  have hc0 := c0 0 _ (List.getElem?_eq_getElem hlen)
  have hsp := World.cell?_spot hc0
  have hbk := cell_lt hc0
  rw [block_add] at hbk
  obtain ⟨b, off, spot⟩ := ad
  obtain rfl : spot = none := by simpa [Addr.add] using hsp
  refine ⟨b, off, e, hbk, TRs.of (fun i hi => ?_)⟩
  rw [List.length_map] at hi
  obtain ⟨cs, h1, h2⟩ := each i hi
  refine ⟨cs, by simpa using h1, fun j u hu => ?_⟩
  have := h2 j u hu
  rw [add_spot] at this
  rwa [Nat.add_assoc]
theorem k_trV {w : World} : ∀ (f : Vt) (x : SV), toV x = f → wfSV x = true → ∀ cs, kV.K w x cs → TR VHd 3 w (· < w.heap.size) f cs := by
  intro f
  induction f using RT.induct with
  | h a l ih =>
  intro x hx hw cs hk
  obtain ⟨x0, xb, xl⟩ := x
  rw [toV_mk] at hx
  injection hx with ha hl
  subst ha hl
  obtain ⟨ho, hb, hbl, hl, hws⟩ := (wfSV_mk _ _ _).1 hw
  obtain ⟨A1, c1, A2, c2, rfl, g1, g2, h1, h2⟩ := QP.k46_open hk
  have ht := c_tlV h2 (fun y hy cs' hk' => ih _ (List.mem_map_of_mem hy) y rfl (hws _ hy) cs' hk')
  have hbr := c_br g2 hb g1
  refine (TR_def _ _ _ _ _ _).2 ⟨[.int .u64 x0, .slice A1 xb.length c1], A2, c2, ?_, rfl, ⟨_, rfl, ho, hbr, by rw [show (RT.a (RT.mk (⟨x0, iB xb⟩ : VH) (xl.map toV))).b = iB xb from rfl, iB_len]; exact hbl⟩, ?_, ?_, ht⟩
  · simp [RT.l]
  · simpa [RT.l] using h1
  · simpa [RT.l] using hl
theorem c_VsR {w : World} {l : List SV} {A : Option Addr} {c : Nat} (h : kV.C w A l.length l) (hc : l.length ≤ c) (hw : ∀ x ∈ l, wfSV x = true) (hl : l.length ≤ 140737488355328) : VsR w (· < w.heap.size) (.slice A l.length c) (l.map toV) :=
  ⟨A, c, by simp, by simpa using hc, by simpa using hl, c_tlV h (fun x hx cs hk => k_trV _ x rfl (hw _ hx) cs hk)⟩
/-- A value that is handed over. -/
theorem c_VtR {w : World} {a0 : Int} {l1 : List Int} {l2 : List SV} {A1 A2 : Option Addr} {c1 c2 : Nat} (h1 : (Kd.int .u8).C w A1 l1.length l1) (hc1 : l1.length ≤ c1) (h2 : kV.C w A2 l2.length l2) (hc2 : l2.length ≤ c2) (hw : wfSV ⟨a0, l1, l2⟩ = true) :
    VtR w (· < w.heap.size) (.agg #[.int .u64 a0, .slice A1 l1.length c1, .slice A2 l2.length c2]) (toV ⟨a0, l1, l2⟩) := by
  rw [toV_mk]
  obtain ⟨ho, hb, hbl, hl, hws⟩ := (wfSV_mk _ _ _).1 hw
  exact ⟨_, _, rfl, ho, c_br h1 hb hc1, by rw [show (RT.a (RT.mk (⟨a0, iB l1⟩ : VH) (l2.map toV))).b = iB l1 from rfl, iB_len]; exact hbl, c_VsR h2 hc2 hws hl⟩
end
end Go.Proofs.Ytfcghajnnllmhaa

namespace Go.Proofs.Ytfcghajnnllmhaa
open Go.RowKit

mutual
/-- How many values there are in one; no more than so many (and one) are told. -/
def cntV : Nat → Vt → Nat
  | m, .mk _ l => cntVs m 1 l
def cntVs : Nat → Nat → List Vt → Nat
  | _, n, [] => n
  | m, n, x :: t => if n ≤ m then cntVs m (n + cntV (m - n) x) t else n
end
mutual
/-- How many bytes. -/
def bytV : Nat → Vt → Nat
  | m, .mk a l => bytVs m a.b.length l
def bytVs : Nat → Nat → List Vt → Nat
  | _, n, [] => n
  | m, n, x :: t => if n ≤ m then bytVs m (n + bytV (m - n) x) t else n
end
theorem cntVs_end {l : List Vt} {k m n : Nat} (hk : ¬ (k < l.length ∧ n ≤ m)) : cntVs m n (l.drop k) = n := by
  by_cases h : k < l.length
  · rw [List.drop_eq_getElem_cons h, cntVs, if_neg (by omega)]
  · rw [List.drop_of_length_le (by omega), cntVs]
theorem cntVs_drop {l : List Vt} {k m n : Nat} (hk : k < l.length) : cntVs m n (l.drop k) = if n ≤ m then cntVs m (n + cntV (m - n) l[k]) (l.drop (k + 1)) else n := by
  rw [List.drop_eq_getElem_cons hk, cntVs]
theorem bytVs_end {l : List Vt} {k m n : Nat} (hk : ¬ (k < l.length ∧ n ≤ m)) : bytVs m n (l.drop k) = n := by
  by_cases h : k < l.length
  · rw [List.drop_eq_getElem_cons h, bytVs, if_neg (by omega)]
  · rw [List.drop_of_length_le (by omega), bytVs]
theorem bytVs_drop {l : List Vt} {k m n : Nat} (hk : k < l.length) : bytVs m n (l.drop k) = if n ≤ m then bytVs m (n + bytV (m - n) l[k]) (l.drop (k + 1)) else n := by
  rw [List.drop_eq_getElem_cons hk, bytVs]
theorem cntV_bound (x : Vt) : ∀ m, 1 ≤ cntV m x ∧ cntV m x ≤ m + 1 := by
  induction x using RT.induct with
  | h a l ih =>
  intro m
  rw [cntV]
  have key : ∀ (t : List Vt), (∀ f ∈ t, ∀ m, 1 ≤ cntV m f ∧ cntV m f ≤ m + 1) → ∀ n, n ≤ m + 1 → n ≤ cntVs m n t ∧ cntVs m n t ≤ m + 1 := by
    intro t
    induction t with
    | nil => intro _ n hn; rw [cntVs]; omega
    | cons f t ih2 =>
      intro hf n hn
      rw [cntVs]
      split
      · have h1 := hf f (by simp) (m - n)
        have h2 := ih2 (fun g hg => hf g (by simp [hg])) (n + cntV (m - n) f) (by omega)
        omega
      · omega
  exact key l ih 1 (by omega)
/-- A number of bytes that is told to the end. -/
theorem bytV_bound (x : Vt) : ∀ m, wfV x = true → m ≤ 100000 → bytV m x ≤ m + 140737488355328 := by
  induction x using RT.induct with
  | h a l ih =>
  intro m hw hm
  obtain ⟨_, hb, _, hws⟩ := (wfV_mk _ _).1 hw
  rw [bytV]
  have key : ∀ (t : List Vt), (∀ f ∈ t, f ∈ l) → ∀ n, n ≤ m + 140737488355328 → bytVs m n t ≤ m + 140737488355328 := by
    intro t
    induction t with
    | nil => intro _ n hn; rw [bytVs]; omega
    | cons f t ih2 =>
      intro hf n hn
      rw [bytVs]
      split
      · have h1 := ih f (hf f (by simp)) (m - n) (hws f (hf f (by simp))) (by omega)
        exact ih2 (fun g hg => hf g (by simp [hg])) (n + bytV (m - n) f) (by omega)
      · omega
  exact key l (fun f hf => hf) _ (by omega)
end Go.Proofs.Ytfcghajnnllmhaa

namespace Go.Proofs.Ytfcghajnnllmhaa.QP
open Go.RowKit Go.Proofs.YtfcghajnnllmhaaW.PrintWords Go.Proofs.YtfcghajnnllmhaaW.PrintLast Go.Proofs.YtfcghajnnllmhaaW.PrintMore
attribute [local go_sem] max2_int min2_int max_two min_two max_three min_three max_four min_four   -- for this text's walks alone
set_option linter.unusedVariables false
set_option linter.unusedSimpArgs false

/-! ### passepartoutref05_Count: function 42 -/
mutual
def passepartoutref05_Count.l0 : Nat → Int → Int → Int → Int → List Int → List (S46) → Option (Int)
  | 0, _, _, _, _, _, _ => none
  | k + 1, x1, x5, x6, x272000, x272001, x272002 => if x6 < (x272002.length : Int) then (if x5 ≤ x1 then (if 0 ≤ x6 then ((passepartoutref05_Count.f k ((rd_T46 x272002 x6).f0) ((rd_T46 x272002 x6).f1) ((rd_T46 x272002 x6).f2) (wrap64 (x1 - x5))).bind fun t273 => (passepartoutref05_Count.l0 k x1 (wrap64 (x5 + t273)) (wrap64 (x6 + 1)) x272000 x272001 x272002)) else (none)) else (some x5)) else (some x5)
def passepartoutref05_Count.f : Nat → Int → List Int → List (S46) → Int → Option (Int)
  | 0, _, _, _, _ => none
  | k + 1, a0_0, l0_1, l0_2, a1 => passepartoutref05_Count.l0 k a1 1 0 a0_0 l0_1 l0_2
end
theorem passepartoutref05_Count.mono_l : ∀ k, (∀ y0 y1 y2 y3, LeO (passepartoutref05_Count.f k y0 y1 y2 y3) (passepartoutref05_Count.f (k + 1) y0 y1 y2 y3)) ∧ (∀ y0 y1 y2 y3 y4 y5, LeO (passepartoutref05_Count.l0 k y0 y1 y2 y3 y4 y5) (passepartoutref05_Count.l0 (k + 1) y0 y1 y2 y3 y4 y5))
  | 0 => ⟨fun _ _ _ _ r h => by simp [passepartoutref05_Count.f] at h, fun _ _ _ _ _ _ r h => by simp [passepartoutref05_Count.l0] at h⟩
  | k + 1 => by
    obtain ⟨ih0, ih1⟩ := passepartoutref05_Count.mono_l k
    refine ⟨?_, ?_⟩
    · intro y0 y1 y2 y3
      unfold passepartoutref05_Count.f
      repeat' first
      | (with_reducible exact ih0 _ _ _ _)
      | (with_reducible exact ih1 _ _ _ _ _ _)
      | (with_reducible exact LeO.refl _)
      | (with_reducible exact LeO.none _)
      | (with_reducible refine LeO.ite ?_ ?_)
      | (with_reducible refine LeO.bind ?_ (fun _ => ?_))
      | exact ih0 _ _ _ _
      | exact ih1 _ _ _ _ _ _
      | exact LeO.none _
      | refine LeO.ite ?_ ?_
      | refine LeO.bind ?_ (fun _ => ?_)
    · intro y0 y1 y2 y3 y4 y5
      unfold passepartoutref05_Count.l0
      repeat' first
      | (with_reducible exact ih0 _ _ _ _)
      | (with_reducible exact ih1 _ _ _ _ _ _)
      | (with_reducible exact LeO.refl _)
      | (with_reducible exact LeO.none _)
      | (with_reducible refine LeO.ite ?_ ?_)
      | (with_reducible refine LeO.bind ?_ (fun _ => ?_))
      | exact ih0 _ _ _ _
      | exact ih1 _ _ _ _ _ _
      | exact LeO.none _
      | refine LeO.ite ?_ ?_
      | refine LeO.bind ?_ (fun _ => ?_)
theorem passepartoutref05_Count.mono : ∀ a0 a1 a2 a3 k, LeO (passepartoutref05_Count.f k a0 a1 a2 a3) (passepartoutref05_Count.f (k + 1) a0 a1 a2 a3) := by
  intro a0 a1 a2 a3 k
  obtain ⟨ih0, ih1⟩ := passepartoutref05_Count.mono_l k
  exact ih0 a0 a1 a2 a3
set_option maxHeartbeats 8000000 in
set_option maxRecDepth 100000 in
theorem passepartoutref05_Count.calls (k : Nat) : ∀ (a0_0 : Int) (A0_1 : Option Addr) (c0_1 : Nat) (l0_1 : List Int) (A0_2 : Option Addr) (c0_2 : Nat) (l0_2 : List (S46)) (a1 : Int) (r : Int) (w : World) (hr0_1 : Kd.C (Kd.int .u8) w A0_1 l0_1.length l0_1) (hc0_1 : l0_1.length ≤ c0_1) (hr0_2 : Kd.C k46 w A0_2 l0_2.length l0_2) (hc0_2 : l0_2.length ≤ c0_2) (h : passepartoutref05_Count.f k a0_0 l0_1 l0_2 a1 = some r),
    Calls Try.prog 42 #[.agg #[.int .u64 a0_0, .slice A0_1 l0_1.length c0_1, .slice A0_2 l0_2.length c0_2], .int .i64 a1] w fun e w' => e = .returned (.int .i64 r) ∧ Below w.heap.size w w' := by
  induction k using Nat.strongRecOn with
  | _ k ih =>
  intro a0_0 A0_1 c0_1 l0_1 A0_2 c0_2 l0_2 a1 r w hr0_1 hc0_1 hr0_2 hc0_2 h
  cases k with
  | zero => exact absurd h (by simp [passepartoutref05_Count.f])
  | succ k =>
  simp only [passepartoutref05_Count.f] at h
  have hu46 := Try.underlying46
  have HR0_1 := Aside0.mk hr0_1
  have HC0_1 := Aside0.mk hc0_1
  clear hr0_1 hc0_1
  have HR0_2 := Aside0.mk hr0_2
  have HC0_2 := Aside0.mk hc0_2
  clear hr0_2 hc0_2
  have HB := Aside0.mk (Below.refl w.heap.size w)
  have H : (passepartoutref05_Count.l0 k a1 1 0 a0_0 l0_1 l0_2) = some r := h
  clear h
  have H' := Aside0.mk H
  clear H
  go_enter Try.func42, Try.ntmps42
  go_wp2_with (first | ((with_reducible refine gate_dst (N := 2) rfl ?_); refine box_event ?hg (N := 2) ?hd (cs := #[.int .u64 a0_0, .slice A0_1 l0_1.length c0_1, .slice A0_2 l0_2.length c0_2]) (t := 46) ?hr ?_; (case hd => rfl); (case hg => rfl); (case hr => first | (go_simp; done) | (go_simp; rfl)); intro gb271 hg w3 hbox hb; have n0_ := Aside0.mk (below_step (by repeat (first | (with_reducible first | exact HB.out | apply below_alloc | apply pw_below_drewN | apply below_drew1) | exact HB.out)) hb); have n1_ := Aside0.mk (hbox); have n2_ := Aside0.mk ((by rw [hg]; exact (below_size (by repeat (first | (with_reducible first | exact HB.out | apply below_alloc | apply pw_below_drewN | apply below_drew1) | exact HB.out))) : w.heap.size ≤ gb271)); have n3_ := Aside0.mk ((by rw [hg]; exact (below_size (by repeat (first | (with_reducible first | exact HB.out | apply below_alloc | apply pw_below_drewN | apply below_drew1) | exact HB.out))) : w.heap.size ≤ gb271)); clear HB; have HB := n0_; have BK271 := n1_; have GW271 := n2_; have GE271 := n3_; clear n0_ n1_ n2_ n3_; clear hb hbox hg))
  go_loopg [5, 6] k (fun kq v5 v6 w' => ∃ (x5_1 : Int) (x6_1 : Int), v5 = .int .i64 x5_1 ∧ v6 = .int .i64 x6_1 ∧ Aside0 (passepartoutref05_Count.l0 kq a1 x5_1 x6_1 a0_0 l0_1 l0_2 = some r) ∧ Aside0 (kq ≤ k) ∧ Aside0 (w'.heap[gb271]? = some (.cells #[.int .u64 a0_0, (.slice A0_1 l0_1.length c0_1), (.slice A0_2 l0_2.length c0_2)] 46 (0, 0))) ∧ Aside0 (Below w.heap.size w w'))
  case atStart => exact ⟨(1), (0), (by first | rfl | (simp; done) | (simp [*]; done)), (by first | rfl | (simp; done) | (simp [*]; done)), H', ⟨Nat.le_refl _⟩, ⟨by (with_reducible repeat (first | refine blk_drewN ?_ _ | refine blk_drew ?_ | refine blk_alloc ?_ _)); exact BK271.out⟩, ⟨by repeat (first | (with_reducible first | exact HB.out | apply below_alloc | apply pw_below_drewN | apply below_drew1 | refine below_set ?_ GE271.out) | exact HB.out)⟩⟩
  case round =>
    clear H'
    try clear p2
    obtain ⟨x5_1, x6_1, rfl, rfl, HA, HK1, BK271, HB⟩ := hrel
    cases gk with
    | zero => exact absurd HA.out (by simp [passepartoutref05_Count.l0])
    | succ k1 =>
      have H := HA.out
      clear HA
      simp only [passepartoutref05_Count.l0] at H
      by_cases c4 : x6_1 < (l0_2.length : Int)
      · rw [if_pos c4] at H
        have c4b0 : decide (x6_1 < (l0_2.length : Int)) = true := decide_eq_true c4
        clear c4
        by_cases c5 : x5_1 ≤ a1
        · rw [if_pos c5] at H
          have c5b0 : decide (x5_1 ≤ a1) = true := decide_eq_true c5
          clear c5
          by_cases c6 : 0 ≤ x6_1
          · rw [if_pos c6] at H
            have c6b0 : decide (0 ≤ x6_1) = true := decide_eq_true c6
            clear c6
            replace H := Option.bind_eq_some_iff.mp H
            obtain ⟨t273, A70, H⟩ := H
            replace H : (passepartoutref05_Count.l0 k1 a1 (wrap64 (x5_1 + t273)) (wrap64 (x6_1 + 1)) a0_0 l0_1 l0_2) = some r := H
            have A7 := Aside0.mk A70
            clear A70
            have H' := Aside0.mk H
            clear H
            have hcz8_0 : wr.cell? ⟨gb271, 0, none⟩ = some (.int .u64 a0_0) := (blk_cell BK271.out 0).trans rfl
            have hcz8_1 : wr.cell? ⟨gb271, 1, none⟩ = some (.slice A0_1 l0_1.length c0_1) := (blk_cell BK271.out 1).trans rfl
            have hcz8_2 : wr.cell? ⟨gb271, 2, none⟩ = some (.slice A0_2 l0_2.length c0_2) := (blk_cell BK271.out 2).trans rfl
            have hfz8_0 := blk_frozen BK271.out 0
            have hfz8_1 := blk_frozen BK271.out 1
            have hfz8_2 := blk_frozen BK271.out 2
            have p272 : 0 ≤ (x6_1 : Int) := of_decide_eq_true (by first | (with_reducible assumption) | assumption)
            have q272 : x6_1 < (l0_2.length : Int) := of_decide_eq_true (by first | (with_reducible assumption) | assumption)
            obtain ⟨ad272, A272_1, c272_1, A272_2, c272_2, e272, hx272_0, hx272_1, hx272_2, hl272_1, hi272_1, hl272_2, hi272_2⟩ := at_T46 HR0_2.out x6_1 p272 q272
            cases e272
            replace hx272_0 := (HB.out.cell (World.block_lt_of_cell? w _ hx272_0)).trans hx272_0
            replace hx272_1 := (HB.out.cell (World.block_lt_of_cell? w _ hx272_1)).trans hx272_1
            replace hx272_2 := (HB.out.cell (World.block_lt_of_cell? w _ hx272_2)).trans hx272_2
            have HR272_1 := Aside0.mk hi272_1
            have HC272_1 := Aside0.mk hl272_1
            clear hi272_1 hl272_1
            have HR272_2 := Aside0.mk hi272_2
            have HC272_2 := Aside0.mk hl272_2
            clear hi272_2 hl272_2
            replace p272 := eq_true p272
            replace q272 := eq_true q272
            go_wp2_with (first | ((with_reducible refine gate_callee (f := 42) rfl ?_); refine goesL_ (some 28) rfl rfl Try.func42 (by kernel_rfl) rfl #[.agg #[.int .u64 ((rd_T46 l0_2 x6_1).f0), .slice A272_1 ((rd_T46 l0_2 x6_1).f1).length c272_1, .slice A272_2 ((rd_T46 l0_2 x6_1).f2).length c272_2], .int .i64 (wrap64 (a1 - x5_1))] rfl (by (try simp only [List.map_toArray, List.map_cons, List.map_nil]); first | done | rfl | (simp only [List.length_drop, List.length_take]; rfl)) ?_; (with_reducible refine (ih k1 (by have := HK1.out; omega) ((rd_T46 l0_2 x6_1).f0) _ _ ((rd_T46 l0_2 x6_1).f1) _ _ ((rd_T46 l0_2 x6_1).f2) (wrap64 (a1 - x5_1)) t273 _ ?side1 ?side2 ?side3 ?side4 A7.out).mono ?_); (case side1 => repeat (first | exact (Kd.C_below HR272_1.out HB.out) | (with_reducible refine Kd.C_alloc ?_ _) | (with_reducible refine Kd.C_drewN ?_ _) | (with_reducible refine Kd.C_drew ?_))); (case side2 => exact HC272_1.out); (case side3 => repeat (first | exact (Kd.C_below HR272_2.out HB.out) | (with_reducible refine Kd.C_alloc ?_ _) | (with_reducible refine Kd.C_drewN ?_ _) | (with_reducible refine Kd.C_drew ?_))); (case side4 => exact HC272_2.out); rintro e w9 ⟨rfl, hb⟩; refine ⟨_, rfl, ?_⟩; have n0_ := Aside0.mk (blk_below (g := gb271) (o := .cells #[.int .u64 a0_0, .slice A0_1 l0_1.length c0_1, .slice (some ad272) l0_2.length c0_2] 46 (0, 0)) (by (with_reducible repeat (first | refine blk_drewN ?_ _ | refine blk_drew ?_ | refine blk_alloc ?_ _)); exact BK271.out) hb); have n1_ := Aside0.mk (below_step (by repeat (first | (with_reducible first | exact HB.out | apply below_alloc | apply pw_below_drewN | apply below_drew1 | refine below_set ?_ GE271.out) | exact HB.out)) hb); clear BK271; clear HB; have BK271 := n0_; have HB := n1_; clear n0_ n1_; (try clear hb); (try clear hb2); (try clear hk); (try clear hi)))
            go_roundg k1
            case measure => have := HK1.out; omega
            case rel => exact ⟨(wrap64 (x5_1 + t273)), (wrap64 (x6_1 + 1)), (by first | rfl | (simp; done) | (simp [*]; done)), (by first | rfl | (simp; done) | (simp [*]; done)), H', ⟨by have := HK1.out; omega⟩, ⟨by (with_reducible repeat (first | refine blk_drewN ?_ _ | refine blk_drew ?_ | refine blk_alloc ?_ _)); exact BK271.out⟩, ⟨by repeat (first | (with_reducible first | exact HB.out | apply below_alloc | apply pw_below_drewN | apply below_drew1 | refine below_set ?_ GE271.out) | exact HB.out)⟩⟩
          · rw [if_neg c6] at H
            exact absurd H (by simp)
        · rw [if_neg c5] at H
          have c5b0 : decide (x5_1 ≤ a1) = false := decide_eq_false c5
          clear c5
          obtain rfl := Option.some.inj H
          have hcz10_0 : wr.cell? ⟨gb271, 0, none⟩ = some (.int .u64 a0_0) := (blk_cell BK271.out 0).trans rfl
          have hcz10_1 : wr.cell? ⟨gb271, 1, none⟩ = some (.slice A0_1 l0_1.length c0_1) := (blk_cell BK271.out 1).trans rfl
          have hcz10_2 : wr.cell? ⟨gb271, 2, none⟩ = some (.slice A0_2 l0_2.length c0_2) := (blk_cell BK271.out 2).trans rfl
          have hfz10_0 := blk_frozen BK271.out 0
          have hfz10_1 := blk_frozen BK271.out 1
          have hfz10_2 := blk_frozen BK271.out 2
          go_wp2
          go_ret
          exact ⟨by first | rfl | (simp [errW_none, errW_some] <;> rfl) | (simp [*, errW_none, errW_some] <;> rfl), by repeat (first | (with_reducible first | exact HB.out | apply below_alloc | apply pw_below_drewN | apply below_drew1 | refine below_set ?_ GE271.out) | exact HB.out)⟩
      · rw [if_neg c4] at H
        have c4b0 : decide (x6_1 < (l0_2.length : Int)) = false := decide_eq_false c4
        clear c4
        obtain rfl := Option.some.inj H
        have hcz11_0 : wr.cell? ⟨gb271, 0, none⟩ = some (.int .u64 a0_0) := (blk_cell BK271.out 0).trans rfl
        have hcz11_1 : wr.cell? ⟨gb271, 1, none⟩ = some (.slice A0_1 l0_1.length c0_1) := (blk_cell BK271.out 1).trans rfl
        have hcz11_2 : wr.cell? ⟨gb271, 2, none⟩ = some (.slice A0_2 l0_2.length c0_2) := (blk_cell BK271.out 2).trans rfl
        have hfz11_0 := blk_frozen BK271.out 0
        have hfz11_1 := blk_frozen BK271.out 1
        have hfz11_2 := blk_frozen BK271.out 2
        go_wp2
        go_ret
        exact ⟨by first | rfl | (simp [errW_none, errW_some] <;> rfl) | (simp [*, errW_none, errW_some] <;> rfl), by repeat (first | (with_reducible first | exact HB.out | apply below_alloc | apply pw_below_drewN | apply below_drew1 | refine below_set ?_ GE271.out) | exact HB.out)⟩

end Go.Proofs.Ytfcghajnnllmhaa.QP

namespace Go.Proofs.Ytfcghajnnllmhaa.QP
open Go.RowKit Go.Proofs.YtfcghajnnllmhaaW.PrintWords Go.Proofs.YtfcghajnnllmhaaW.PrintLast Go.Proofs.YtfcghajnnllmhaaW.PrintMore
attribute [local go_sem] max2_int min2_int max_two min_two max_three min_three max_four min_four   -- for this text's walks alone
set_option linter.unusedVariables false
set_option linter.unusedSimpArgs false

/-! ### passepartoutref05_Bytes: function 55 -/
mutual
def passepartoutref05_Bytes.l0 : Nat → Int → Int → Int → Int → List Int → List (S46) → Option (Int)
  | 0, _, _, _, _, _, _ => none
  | k + 1, x1, x5, x6, x275000, x275001, x275002 => if x6 < (x275002.length : Int) then (if x5 ≤ x1 then (if 0 ≤ x6 then ((passepartoutref05_Bytes.f k ((rd_T46 x275002 x6).f0) ((rd_T46 x275002 x6).f1) ((rd_T46 x275002 x6).f2) (wrap64 (x1 - x5))).bind fun t276 => (passepartoutref05_Bytes.l0 k x1 (wrap64 (x5 + t276)) (wrap64 (x6 + 1)) x275000 x275001 x275002)) else (none)) else (some x5)) else (some x5)
def passepartoutref05_Bytes.f : Nat → Int → List Int → List (S46) → Int → Option (Int)
  | 0, _, _, _, _ => none
  | k + 1, a0_0, l0_1, l0_2, a1 => passepartoutref05_Bytes.l0 k a1 (l0_1.length : Int) 0 a0_0 l0_1 l0_2
end
theorem passepartoutref05_Bytes.mono_l : ∀ k, (∀ y0 y1 y2 y3, LeO (passepartoutref05_Bytes.f k y0 y1 y2 y3) (passepartoutref05_Bytes.f (k + 1) y0 y1 y2 y3)) ∧ (∀ y0 y1 y2 y3 y4 y5, LeO (passepartoutref05_Bytes.l0 k y0 y1 y2 y3 y4 y5) (passepartoutref05_Bytes.l0 (k + 1) y0 y1 y2 y3 y4 y5))
  | 0 => ⟨fun _ _ _ _ r h => by simp [passepartoutref05_Bytes.f] at h, fun _ _ _ _ _ _ r h => by simp [passepartoutref05_Bytes.l0] at h⟩
  | k + 1 => by
    obtain ⟨ih0, ih1⟩ := passepartoutref05_Bytes.mono_l k
    refine ⟨?_, ?_⟩
    · intro y0 y1 y2 y3
      unfold passepartoutref05_Bytes.f
      repeat' first
      | (with_reducible exact ih0 _ _ _ _)
      | (with_reducible exact ih1 _ _ _ _ _ _)
      | (with_reducible exact LeO.refl _)
      | (with_reducible exact LeO.none _)
      | (with_reducible refine LeO.ite ?_ ?_)
      | (with_reducible refine LeO.bind ?_ (fun _ => ?_))
      | exact ih0 _ _ _ _
      | exact ih1 _ _ _ _ _ _
      | exact LeO.none _
      | refine LeO.ite ?_ ?_
      | refine LeO.bind ?_ (fun _ => ?_)
    · intro y0 y1 y2 y3 y4 y5
      unfold passepartoutref05_Bytes.l0
      repeat' first
      | (with_reducible exact ih0 _ _ _ _)
      | (with_reducible exact ih1 _ _ _ _ _ _)
      | (with_reducible exact LeO.refl _)
      | (with_reducible exact LeO.none _)
      | (with_reducible refine LeO.ite ?_ ?_)
      | (with_reducible refine LeO.bind ?_ (fun _ => ?_))
      | exact ih0 _ _ _ _
      | exact ih1 _ _ _ _ _ _
      | exact LeO.none _
      | refine LeO.ite ?_ ?_
      | refine LeO.bind ?_ (fun _ => ?_)
theorem passepartoutref05_Bytes.mono : ∀ a0 a1 a2 a3 k, LeO (passepartoutref05_Bytes.f k a0 a1 a2 a3) (passepartoutref05_Bytes.f (k + 1) a0 a1 a2 a3) := by
  intro a0 a1 a2 a3 k
  obtain ⟨ih0, ih1⟩ := passepartoutref05_Bytes.mono_l k
  exact ih0 a0 a1 a2 a3
set_option maxHeartbeats 8000000 in
set_option maxRecDepth 100000 in
theorem passepartoutref05_Bytes.calls (k : Nat) : ∀ (a0_0 : Int) (A0_1 : Option Addr) (c0_1 : Nat) (l0_1 : List Int) (A0_2 : Option Addr) (c0_2 : Nat) (l0_2 : List (S46)) (a1 : Int) (r : Int) (w : World) (hr0_1 : Kd.C (Kd.int .u8) w A0_1 l0_1.length l0_1) (hc0_1 : l0_1.length ≤ c0_1) (hr0_2 : Kd.C k46 w A0_2 l0_2.length l0_2) (hc0_2 : l0_2.length ≤ c0_2) (h : passepartoutref05_Bytes.f k a0_0 l0_1 l0_2 a1 = some r),
    Calls Try.prog 55 #[.agg #[.int .u64 a0_0, .slice A0_1 l0_1.length c0_1, .slice A0_2 l0_2.length c0_2], .int .i64 a1] w fun e w' => e = .returned (.int .i64 r) ∧ Below w.heap.size w w' := by
  induction k using Nat.strongRecOn with
  | _ k ih =>
  intro a0_0 A0_1 c0_1 l0_1 A0_2 c0_2 l0_2 a1 r w hr0_1 hc0_1 hr0_2 hc0_2 h
  cases k with
  | zero => exact absurd h (by simp [passepartoutref05_Bytes.f])
  | succ k =>
  simp only [passepartoutref05_Bytes.f] at h
  have hu46 := Try.underlying46
  have HR0_1 := Aside0.mk hr0_1
  have HC0_1 := Aside0.mk hc0_1
  clear hr0_1 hc0_1
  have HR0_2 := Aside0.mk hr0_2
  have HC0_2 := Aside0.mk hc0_2
  clear hr0_2 hc0_2
  have HB := Aside0.mk (Below.refl w.heap.size w)
  have H : (passepartoutref05_Bytes.l0 k a1 (l0_1.length : Int) 0 a0_0 l0_1 l0_2) = some r := h
  clear h
  have H' := Aside0.mk H
  clear H
  go_enter Try.func55, Try.ntmps55
  go_wp2_with (first | ((with_reducible refine gate_dst (N := 2) rfl ?_); refine box_event ?hg (N := 2) ?hd (cs := #[.int .u64 a0_0, .slice A0_1 l0_1.length c0_1, .slice A0_2 l0_2.length c0_2]) (t := 46) ?hr ?_; (case hd => rfl); (case hg => rfl); (case hr => first | (go_simp; done) | (go_simp; rfl)); intro gb274 hg w3 hbox hb; have n0_ := Aside0.mk (below_step (by repeat (first | (with_reducible first | exact HB.out | apply below_alloc | apply pw_below_drewN | apply below_drew1) | exact HB.out)) hb); have n1_ := Aside0.mk (hbox); have n2_ := Aside0.mk ((by rw [hg]; exact (below_size (by repeat (first | (with_reducible first | exact HB.out | apply below_alloc | apply pw_below_drewN | apply below_drew1) | exact HB.out))) : w.heap.size ≤ gb274)); have n3_ := Aside0.mk ((by rw [hg]; exact (below_size (by repeat (first | (with_reducible first | exact HB.out | apply below_alloc | apply pw_below_drewN | apply below_drew1) | exact HB.out))) : w.heap.size ≤ gb274)); clear HB; have HB := n0_; have BK274 := n1_; have GW274 := n2_; have GE274 := n3_; clear n0_ n1_ n2_ n3_; clear hb hbox hg; have hcz4_0 : w3.cell? ⟨gb274, 0, none⟩ = some (.int .u64 a0_0) := (blk_cell BK274.out 0).trans rfl; have hcz4_1 : w3.cell? ⟨gb274, 1, none⟩ = some (.slice A0_1 l0_1.length c0_1) := (blk_cell BK274.out 1).trans rfl; have hcz4_2 : w3.cell? ⟨gb274, 2, none⟩ = some (.slice A0_2 l0_2.length c0_2) := (blk_cell BK274.out 2).trans rfl; have hfz4_0 := blk_frozen BK274.out 0; have hfz4_1 := blk_frozen BK274.out 1; have hfz4_2 := blk_frozen BK274.out 2))
  go_loopg [5, 6] k (fun kq v5 v6 w' => ∃ (x5_1 : Int) (x6_1 : Int), v5 = .int .i64 x5_1 ∧ v6 = .int .i64 x6_1 ∧ Aside0 (passepartoutref05_Bytes.l0 kq a1 x5_1 x6_1 a0_0 l0_1 l0_2 = some r) ∧ Aside0 (kq ≤ k) ∧ Aside0 (w'.heap[gb274]? = some (.cells #[.int .u64 a0_0, (.slice A0_1 l0_1.length c0_1), (.slice A0_2 l0_2.length c0_2)] 46 (0, 0))) ∧ Aside0 (Below w.heap.size w w'))
  case atStart => exact ⟨((l0_1.length : Int)), (0), (by first | rfl | (simp; done) | (simp [*]; done)), (by first | rfl | (simp; done) | (simp [*]; done)), H', ⟨Nat.le_refl _⟩, ⟨by (with_reducible repeat (first | refine blk_drewN ?_ _ | refine blk_drew ?_ | refine blk_alloc ?_ _)); exact BK274.out⟩, ⟨by repeat (first | (with_reducible first | exact HB.out | apply below_alloc | apply pw_below_drewN | apply below_drew1 | refine below_set ?_ GE274.out) | exact HB.out)⟩⟩
  case round =>
    clear H'
    try clear p2
    try clear hcz4_0
    try clear hcz4_1
    try clear hcz4_2
    try clear hfz4_0
    try clear hfz4_1
    try clear hfz4_2
    obtain ⟨x5_1, x6_1, rfl, rfl, HA, HK1, BK274, HB⟩ := hrel
    cases gk with
    | zero => exact absurd HA.out (by simp [passepartoutref05_Bytes.l0])
    | succ k1 =>
      have H := HA.out
      clear HA
      simp only [passepartoutref05_Bytes.l0] at H
      by_cases c5 : x6_1 < (l0_2.length : Int)
      · rw [if_pos c5] at H
        have c5b0 : decide (x6_1 < (l0_2.length : Int)) = true := decide_eq_true c5
        clear c5
        by_cases c6 : x5_1 ≤ a1
        · rw [if_pos c6] at H
          have c6b0 : decide (x5_1 ≤ a1) = true := decide_eq_true c6
          clear c6
          by_cases c7 : 0 ≤ x6_1
          · rw [if_pos c7] at H
            have c7b0 : decide (0 ≤ x6_1) = true := decide_eq_true c7
            clear c7
            replace H := Option.bind_eq_some_iff.mp H
            obtain ⟨t276, A80, H⟩ := H
            replace H : (passepartoutref05_Bytes.l0 k1 a1 (wrap64 (x5_1 + t276)) (wrap64 (x6_1 + 1)) a0_0 l0_1 l0_2) = some r := H
            have A8 := Aside0.mk A80
            clear A80
            have H' := Aside0.mk H
            clear H
            have hcz9_0 : wr.cell? ⟨gb274, 0, none⟩ = some (.int .u64 a0_0) := (blk_cell BK274.out 0).trans rfl
            have hcz9_1 : wr.cell? ⟨gb274, 1, none⟩ = some (.slice A0_1 l0_1.length c0_1) := (blk_cell BK274.out 1).trans rfl
            have hcz9_2 : wr.cell? ⟨gb274, 2, none⟩ = some (.slice A0_2 l0_2.length c0_2) := (blk_cell BK274.out 2).trans rfl
            have hfz9_0 := blk_frozen BK274.out 0
            have hfz9_1 := blk_frozen BK274.out 1
            have hfz9_2 := blk_frozen BK274.out 2
            have p275 : 0 ≤ (x6_1 : Int) := of_decide_eq_true (by first | (with_reducible assumption) | assumption)
            have q275 : x6_1 < (l0_2.length : Int) := of_decide_eq_true (by first | (with_reducible assumption) | assumption)
            obtain ⟨ad275, A275_1, c275_1, A275_2, c275_2, e275, hx275_0, hx275_1, hx275_2, hl275_1, hi275_1, hl275_2, hi275_2⟩ := at_T46 HR0_2.out x6_1 p275 q275
            cases e275
            replace hx275_0 := (HB.out.cell (World.block_lt_of_cell? w _ hx275_0)).trans hx275_0
            replace hx275_1 := (HB.out.cell (World.block_lt_of_cell? w _ hx275_1)).trans hx275_1
            replace hx275_2 := (HB.out.cell (World.block_lt_of_cell? w _ hx275_2)).trans hx275_2
            have HR275_1 := Aside0.mk hi275_1
            have HC275_1 := Aside0.mk hl275_1
            clear hi275_1 hl275_1
            have HR275_2 := Aside0.mk hi275_2
            have HC275_2 := Aside0.mk hl275_2
            clear hi275_2 hl275_2
            replace p275 := eq_true p275
            replace q275 := eq_true q275
            go_wp2_with (first | ((with_reducible refine gate_callee (f := 55) rfl ?_); refine goesL_ (some 31) rfl rfl Try.func55 (by kernel_rfl) rfl #[.agg #[.int .u64 ((rd_T46 l0_2 x6_1).f0), .slice A275_1 ((rd_T46 l0_2 x6_1).f1).length c275_1, .slice A275_2 ((rd_T46 l0_2 x6_1).f2).length c275_2], .int .i64 (wrap64 (a1 - x5_1))] rfl (by (try simp only [List.map_toArray, List.map_cons, List.map_nil]); first | done | rfl | (simp only [List.length_drop, List.length_take]; rfl)) ?_; (with_reducible refine (ih k1 (by have := HK1.out; omega) ((rd_T46 l0_2 x6_1).f0) _ _ ((rd_T46 l0_2 x6_1).f1) _ _ ((rd_T46 l0_2 x6_1).f2) (wrap64 (a1 - x5_1)) t276 _ ?side1 ?side2 ?side3 ?side4 A8.out).mono ?_); (case side1 => repeat (first | exact (Kd.C_below HR275_1.out HB.out) | (with_reducible refine Kd.C_alloc ?_ _) | (with_reducible refine Kd.C_drewN ?_ _) | (with_reducible refine Kd.C_drew ?_))); (case side2 => exact HC275_1.out); (case side3 => repeat (first | exact (Kd.C_below HR275_2.out HB.out) | (with_reducible refine Kd.C_alloc ?_ _) | (with_reducible refine Kd.C_drewN ?_ _) | (with_reducible refine Kd.C_drew ?_))); (case side4 => exact HC275_2.out); rintro e w10 ⟨rfl, hb⟩; refine ⟨_, rfl, ?_⟩; have n0_ := Aside0.mk (blk_below (g := gb274) (o := .cells #[.int .u64 a0_0, .slice A0_1 l0_1.length c0_1, .slice (some ad275) l0_2.length c0_2] 46 (0, 0)) (by (with_reducible repeat (first | refine blk_drewN ?_ _ | refine blk_drew ?_ | refine blk_alloc ?_ _)); exact BK274.out) hb); have n1_ := Aside0.mk (below_step (by repeat (first | (with_reducible first | exact HB.out | apply below_alloc | apply pw_below_drewN | apply below_drew1 | refine below_set ?_ GE274.out) | exact HB.out)) hb); clear BK274; clear HB; have BK274 := n0_; have HB := n1_; clear n0_ n1_; (try clear hb); (try clear hb2); (try clear hk); (try clear hi)))
            go_roundg k1
            case measure => have := HK1.out; omega
            case rel => exact ⟨(wrap64 (x5_1 + t276)), (wrap64 (x6_1 + 1)), (by first | rfl | (simp; done) | (simp [*]; done)), (by first | rfl | (simp; done) | (simp [*]; done)), H', ⟨by have := HK1.out; omega⟩, ⟨by (with_reducible repeat (first | refine blk_drewN ?_ _ | refine blk_drew ?_ | refine blk_alloc ?_ _)); exact BK274.out⟩, ⟨by repeat (first | (with_reducible first | exact HB.out | apply below_alloc | apply pw_below_drewN | apply below_drew1 | refine below_set ?_ GE274.out) | exact HB.out)⟩⟩
          · rw [if_neg c7] at H
            exact absurd H (by simp)
        · rw [if_neg c6] at H
          have c6b0 : decide (x5_1 ≤ a1) = false := decide_eq_false c6
          clear c6
          obtain rfl := Option.some.inj H
          have hcz11_0 : wr.cell? ⟨gb274, 0, none⟩ = some (.int .u64 a0_0) := (blk_cell BK274.out 0).trans rfl
          have hcz11_1 : wr.cell? ⟨gb274, 1, none⟩ = some (.slice A0_1 l0_1.length c0_1) := (blk_cell BK274.out 1).trans rfl
          have hcz11_2 : wr.cell? ⟨gb274, 2, none⟩ = some (.slice A0_2 l0_2.length c0_2) := (blk_cell BK274.out 2).trans rfl
          have hfz11_0 := blk_frozen BK274.out 0
          have hfz11_1 := blk_frozen BK274.out 1
          have hfz11_2 := blk_frozen BK274.out 2
          go_wp2
          go_ret
          exact ⟨by first | rfl | (simp [errW_none, errW_some] <;> rfl) | (simp [*, errW_none, errW_some] <;> rfl), by repeat (first | (with_reducible first | exact HB.out | apply below_alloc | apply pw_below_drewN | apply below_drew1 | refine below_set ?_ GE274.out) | exact HB.out)⟩
      · rw [if_neg c5] at H
        have c5b0 : decide (x6_1 < (l0_2.length : Int)) = false := decide_eq_false c5
        clear c5
        obtain rfl := Option.some.inj H
        have hcz12_0 : wr.cell? ⟨gb274, 0, none⟩ = some (.int .u64 a0_0) := (blk_cell BK274.out 0).trans rfl
        have hcz12_1 : wr.cell? ⟨gb274, 1, none⟩ = some (.slice A0_1 l0_1.length c0_1) := (blk_cell BK274.out 1).trans rfl
        have hcz12_2 : wr.cell? ⟨gb274, 2, none⟩ = some (.slice A0_2 l0_2.length c0_2) := (blk_cell BK274.out 2).trans rfl
        have hfz12_0 := blk_frozen BK274.out 0
        have hfz12_1 := blk_frozen BK274.out 1
        have hfz12_2 := blk_frozen BK274.out 2
        go_wp2
        go_ret
        exact ⟨by first | rfl | (simp [errW_none, errW_some] <;> rfl) | (simp [*, errW_none, errW_some] <;> rfl), by repeat (first | (with_reducible first | exact HB.out | apply below_alloc | apply pw_below_drewN | apply below_drew1 | refine below_set ?_ GE274.out) | exact HB.out)⟩

end Go.Proofs.Ytfcghajnnllmhaa.QP

namespace Go.Proofs.Ytfcghajnnllmhaa.QP
open Go.RowKit Go.Proofs.YtfcghajnnllmhaaW.PrintWords Go.Proofs.YtfcghajnnllmhaaW.PrintLast Go.Proofs.YtfcghajnnllmhaaW.PrintMore
attribute [local go_sem] max2_int min2_int max_two min_two max_three min_three max_four min_four   -- for this text's walks alone
set_option linter.unusedVariables false
set_option linter.unusedSimpArgs false

/-! ### passepartoutlaw05_Great: function 31 -/
def passepartoutlaw05_Great.l0 : Nat → List (S46) → Int → Int → Option (Int)
  | 0, _, _, _ => none
  | k + 1, x10, x11, x12 => if x12 < x11 then (if 0 ≤ x12 then (if x12 < (x10.length : Int) then ((passepartoutref05_Count.f k ((rd_T46 x10 x12).f0) ((rd_T46 x10 x12).f1) ((rd_T46 x10 x12).f2) 2000).bind fun t281 => (if t281 > 2000 then (some 1) else ((passepartoutref05_Bytes.f k ((rd_T46 x10 x12).f0) ((rd_T46 x10 x12).f1) ((rd_T46 x10 x12).f2) 20000).bind fun t282 => (if t282 > 20000 then (some 1) else (passepartoutlaw05_Great.l0 k x10 x11 (wrap64 (x12 + 1))))))) else (none)) else (none)) else (some 0)
def passepartoutlaw05_Great.f (k : Nat) (a0_0 : Int) (a0_1 : Int) (a0_2 : Int) (a0_3 : Int) (a0_4 : Int) (l0_5 : List (S27)) (l1 : List (S46)) : Option (Int) := (passepartoutref04_Count.f k a0_0 a0_1 a0_2 a0_3 a0_4 l0_5 500).bind fun t278 => (if t278 > 500 then (some 1) else (passepartoutlaw05_Great.l0 k l1 (l1.length : Int) 0))
theorem passepartoutlaw05_Great.mono_l : ∀ k, (∀ y0 y1 y2, LeO (passepartoutlaw05_Great.l0 k y0 y1 y2) (passepartoutlaw05_Great.l0 (k + 1) y0 y1 y2))
  | 0 => fun _ _ _ r h => by simp [passepartoutlaw05_Great.l0] at h
  | k + 1 => by
    have ih0 := passepartoutlaw05_Great.mono_l k
    · intro y0 y1 y2
      unfold passepartoutlaw05_Great.l0
      repeat' first
      | (with_reducible exact ih0 _ _ _)
      | (with_reducible exact passepartoutref04_Count.mono _ _ _ _ _ _ _ _)
      | (with_reducible exact passepartoutref05_Bytes.mono _ _ _ _ _)
      | (with_reducible exact passepartoutref05_Count.mono _ _ _ _ _)
      | (with_reducible exact LeO.refl _)
      | (with_reducible exact LeO.none _)
      | (with_reducible refine LeO.ite ?_ ?_)
      | (with_reducible refine LeO.bind ?_ (fun _ => ?_))
      | exact ih0 _ _ _
      | exact passepartoutref04_Count.mono _ _ _ _ _ _ _ _
      | exact passepartoutref05_Bytes.mono _ _ _ _ _
      | exact passepartoutref05_Count.mono _ _ _ _ _
      | exact LeO.none _
      | refine LeO.ite ?_ ?_
      | refine LeO.bind ?_ (fun _ => ?_)
theorem passepartoutlaw05_Great.mono : ∀ a0 a1 a2 a3 a4 a5 a6 k, LeO (passepartoutlaw05_Great.f k a0 a1 a2 a3 a4 a5 a6) (passepartoutlaw05_Great.f (k + 1) a0 a1 a2 a3 a4 a5 a6) := by
  intro a0 a1 a2 a3 a4 a5 a6 k
  have ih0 := passepartoutlaw05_Great.mono_l k
  unfold passepartoutlaw05_Great.f
  repeat' first
      | (with_reducible exact ih0 _ _ _)
      | (with_reducible exact passepartoutref04_Count.mono _ _ _ _ _ _ _ _)
      | (with_reducible exact passepartoutref05_Bytes.mono _ _ _ _ _)
      | (with_reducible exact passepartoutref05_Count.mono _ _ _ _ _)
      | (with_reducible exact LeO.refl _)
      | (with_reducible exact LeO.none _)
      | (with_reducible refine LeO.ite ?_ ?_)
      | (with_reducible refine LeO.bind ?_ (fun _ => ?_))
      | exact ih0 _ _ _
      | exact passepartoutref04_Count.mono _ _ _ _ _ _ _ _
      | exact passepartoutref05_Bytes.mono _ _ _ _ _
      | exact passepartoutref05_Count.mono _ _ _ _ _
      | exact LeO.none _
      | refine LeO.ite ?_ ?_
      | refine LeO.bind ?_ (fun _ => ?_)
set_option maxHeartbeats 8000000 in
set_option maxRecDepth 100000 in
theorem passepartoutlaw05_Great.calls (k : Nat) (a0_0 : Int) (a0_1 : Int) (a0_2 : Int) (a0_3 : Int) (a0_4 : Int) (A0_5 : Option Addr) (c0_5 : Nat) (l0_5 : List (S27)) (A1 : Option Addr) (c1 : Nat) (l1 : List (S46)) (r : Int) (w : World) (hr0_5 : Kd.C k27 w A0_5 l0_5.length l0_5) (hc0_5 : l0_5.length ≤ c0_5) (hr1 : Kd.C k46 w A1 l1.length l1) (hc1 : l1.length ≤ c1) (h : passepartoutlaw05_Great.f k a0_0 a0_1 a0_2 a0_3 a0_4 l0_5 l1 = some r) :
    Calls Try.prog 31 #[.agg #[.int .i64 a0_0, .int .i64 a0_1, .int .i64 a0_2, .int .i64 a0_3, .int .i64 a0_4, .slice A0_5 l0_5.length c0_5], .slice A1 l1.length c1] w fun e w' => e = .returned (.int .i64 r) ∧ Below w.heap.size w w' := by
  have hu27 := Try.underlying27
  have hu46 := Try.underlying46
  have HR0_5 := Aside0.mk hr0_5
  have HC0_5 := Aside0.mk hc0_5
  clear hr0_5 hc0_5
  have HR1 := Aside0.mk hr1
  have HC1 := Aside0.mk hc1
  clear hr1 hc1
  have HB := Aside0.mk (Below.refl w.heap.size w)
  have H : ((passepartoutref04_Count.f k a0_0 a0_1 a0_2 a0_3 a0_4 l0_5 500).bind fun t278 => (if t278 > 500 then (some 1) else (passepartoutlaw05_Great.l0 k l1 (l1.length : Int) 0))) = some r := h
  clear h
  replace H := Option.bind_eq_some_iff.mp H
  obtain ⟨t278, A30, H⟩ := H
  replace H : (if t278 > 500 then (some 1) else (passepartoutlaw05_Great.l0 k l1 (l1.length : Int) 0)) = some r := H
  have A3 := Aside0.mk A30
  clear A30
  by_cases c4 : t278 > 500
  · rw [if_pos c4] at H
    have c4b0 : decide (500 < t278) = true := decide_eq_true c4
    clear c4
    obtain rfl := Option.some.inj H
    go_enter Try.func31, Try.ntmps31
    go_wp2_with (first | ((with_reducible refine gate_dst (N := 2) rfl ?_); refine box_event ?hg (N := 2) ?hd (cs := #[.int .i64 a0_0, .int .i64 a0_1, .int .i64 a0_2, .int .i64 a0_3, .int .i64 a0_4, .slice A0_5 l0_5.length c0_5]) (t := 27) ?hr ?_; (case hd => rfl); (case hg => rfl); (case hr => first | (go_simp; done) | (go_simp; rfl)); intro gb277 hg w5 hbox hb; have n0_ := Aside0.mk (below_step (by repeat (first | (with_reducible first | exact HB.out | apply below_alloc | apply pw_below_drewN | apply below_drew1) | exact HB.out)) hb); have n1_ := Aside0.mk (hbox); have n2_ := Aside0.mk ((by rw [hg]; exact (below_size (by repeat (first | (with_reducible first | exact HB.out | apply below_alloc | apply pw_below_drewN | apply below_drew1) | exact HB.out))) : w.heap.size ≤ gb277)); have n3_ := Aside0.mk ((by rw [hg]; exact (below_size (by repeat (first | (with_reducible first | exact HB.out | apply below_alloc | apply pw_below_drewN | apply below_drew1) | exact HB.out))) : w.heap.size ≤ gb277)); clear HB; have HB := n0_; have BK277 := n1_; have GW277 := n2_; have GE277 := n3_; clear n0_ n1_ n2_ n3_; clear hb hbox hg; have hcz6_0 : w5.cell? ⟨gb277, 0, none⟩ = some (.int .i64 a0_0) := (blk_cell BK277.out 0).trans rfl; have hcz6_1 : w5.cell? ⟨gb277, 1, none⟩ = some (.int .i64 a0_1) := (blk_cell BK277.out 1).trans rfl; have hcz6_2 : w5.cell? ⟨gb277, 2, none⟩ = some (.int .i64 a0_2) := (blk_cell BK277.out 2).trans rfl; have hcz6_3 : w5.cell? ⟨gb277, 3, none⟩ = some (.int .i64 a0_3) := (blk_cell BK277.out 3).trans rfl; have hcz6_4 : w5.cell? ⟨gb277, 4, none⟩ = some (.int .i64 a0_4) := (blk_cell BK277.out 4).trans rfl; have hcz6_5 : w5.cell? ⟨gb277, 5, none⟩ = some (.slice A0_5 l0_5.length c0_5) := (blk_cell BK277.out 5).trans rfl; have hfz6_0 := blk_frozen BK277.out 0; have hfz6_1 := blk_frozen BK277.out 1; have hfz6_2 := blk_frozen BK277.out 2; have hfz6_3 := blk_frozen BK277.out 3; have hfz6_4 := blk_frozen BK277.out 4; have hfz6_5 := blk_frozen BK277.out 5) | ((with_reducible refine gate_callee (f := 45) rfl ?_); refine goesL_ (some 8) rfl rfl Try.func45 (by kernel_rfl) rfl #[.agg #[.int .i64 a0_0, .int .i64 a0_1, .int .i64 a0_2, .int .i64 a0_3, .int .i64 a0_4, .slice A0_5 l0_5.length c0_5], .int .i64 500] rfl (by (try simp only [List.map_toArray, List.map_cons, List.map_nil]); first | done | rfl | (simp only [List.length_drop, List.length_take]; rfl)) ?_; (with_reducible refine (passepartoutref04_Count.calls k a0_0 a0_1 a0_2 a0_3 a0_4 _ _ l0_5 500 t278 _ ?side1 ?side2 A3.out).mono ?_); (case side1 => repeat (first | exact (Kd.C_below HR0_5.out HB.out) | (with_reducible refine Kd.C_alloc ?_ _) | (with_reducible refine Kd.C_drewN ?_ _) | (with_reducible refine Kd.C_drew ?_))); (case side2 => exact HC0_5.out); rintro e w7 ⟨rfl, hb⟩; refine ⟨_, rfl, ?_⟩; have n0_ := Aside0.mk (blk_below (g := gb277) (o := .cells #[.int .i64 a0_0, .int .i64 a0_1, .int .i64 a0_2, .int .i64 a0_3, .int .i64 a0_4, .slice A0_5 l0_5.length c0_5] 27 (0, 0)) (by (with_reducible repeat (first | refine blk_drewN ?_ _ | refine blk_drew ?_ | refine blk_alloc ?_ _)); exact BK277.out) hb); have n1_ := Aside0.mk (below_step (by repeat (first | (with_reducible first | exact HB.out | apply below_alloc | apply pw_below_drewN | apply below_drew1 | refine below_set ?_ GE277.out) | exact HB.out)) hb); clear BK277; clear HB; have BK277 := n0_; have HB := n1_; clear n0_ n1_; (try clear hb); (try clear hb2); (try clear hk); (try clear hi)))
    go_ret
    exact ⟨by first | rfl | (simp [errW_none, errW_some] <;> rfl) | (simp [*, errW_none, errW_some] <;> rfl), by repeat (first | (with_reducible first | exact HB.out | apply below_alloc | apply pw_below_drewN | apply below_drew1 | refine below_set ?_ GE277.out) | exact HB.out)⟩
  · rw [if_neg c4] at H
    have c4b0 : decide (500 < t278) = false := decide_eq_false c4
    clear c4
    have H' := Aside0.mk H
    clear H
    go_enter Try.func31, Try.ntmps31
    go_wp2_with (first | ((with_reducible refine gate_dst (N := 2) rfl ?_); refine box_event ?hg (N := 2) ?hd (cs := #[.int .i64 a0_0, .int .i64 a0_1, .int .i64 a0_2, .int .i64 a0_3, .int .i64 a0_4, .slice A0_5 l0_5.length c0_5]) (t := 27) ?hr ?_; (case hd => rfl); (case hg => rfl); (case hr => first | (go_simp; done) | (go_simp; rfl)); intro gb277 hg w8 hbox hb; have n0_ := Aside0.mk (below_step (by repeat (first | (with_reducible first | exact HB.out | apply below_alloc | apply pw_below_drewN | apply below_drew1) | exact HB.out)) hb); have n1_ := Aside0.mk (hbox); have n2_ := Aside0.mk ((by rw [hg]; exact (below_size (by repeat (first | (with_reducible first | exact HB.out | apply below_alloc | apply pw_below_drewN | apply below_drew1) | exact HB.out))) : w.heap.size ≤ gb277)); have n3_ := Aside0.mk ((by rw [hg]; exact (below_size (by repeat (first | (with_reducible first | exact HB.out | apply below_alloc | apply pw_below_drewN | apply below_drew1) | exact HB.out))) : w.heap.size ≤ gb277)); clear HB; have HB := n0_; have BK277 := n1_; have GW277 := n2_; have GE277 := n3_; clear n0_ n1_ n2_ n3_; clear hb hbox hg; have hcz9_0 : w8.cell? ⟨gb277, 0, none⟩ = some (.int .i64 a0_0) := (blk_cell BK277.out 0).trans rfl; have hcz9_1 : w8.cell? ⟨gb277, 1, none⟩ = some (.int .i64 a0_1) := (blk_cell BK277.out 1).trans rfl; have hcz9_2 : w8.cell? ⟨gb277, 2, none⟩ = some (.int .i64 a0_2) := (blk_cell BK277.out 2).trans rfl; have hcz9_3 : w8.cell? ⟨gb277, 3, none⟩ = some (.int .i64 a0_3) := (blk_cell BK277.out 3).trans rfl; have hcz9_4 : w8.cell? ⟨gb277, 4, none⟩ = some (.int .i64 a0_4) := (blk_cell BK277.out 4).trans rfl; have hcz9_5 : w8.cell? ⟨gb277, 5, none⟩ = some (.slice A0_5 l0_5.length c0_5) := (blk_cell BK277.out 5).trans rfl; have hfz9_0 := blk_frozen BK277.out 0; have hfz9_1 := blk_frozen BK277.out 1; have hfz9_2 := blk_frozen BK277.out 2; have hfz9_3 := blk_frozen BK277.out 3; have hfz9_4 := blk_frozen BK277.out 4; have hfz9_5 := blk_frozen BK277.out 5) | ((with_reducible refine gate_callee (f := 45) rfl ?_); refine goesL_ (some 8) rfl rfl Try.func45 (by kernel_rfl) rfl #[.agg #[.int .i64 a0_0, .int .i64 a0_1, .int .i64 a0_2, .int .i64 a0_3, .int .i64 a0_4, .slice A0_5 l0_5.length c0_5], .int .i64 500] rfl (by (try simp only [List.map_toArray, List.map_cons, List.map_nil]); first | done | rfl | (simp only [List.length_drop, List.length_take]; rfl)) ?_; (with_reducible refine (passepartoutref04_Count.calls k a0_0 a0_1 a0_2 a0_3 a0_4 _ _ l0_5 500 t278 _ ?side1 ?side2 A3.out).mono ?_); (case side1 => repeat (first | exact (Kd.C_below HR0_5.out HB.out) | (with_reducible refine Kd.C_alloc ?_ _) | (with_reducible refine Kd.C_drewN ?_ _) | (with_reducible refine Kd.C_drew ?_))); (case side2 => exact HC0_5.out); rintro e w10 ⟨rfl, hb⟩; refine ⟨_, rfl, ?_⟩; have n0_ := Aside0.mk (blk_below (g := gb277) (o := .cells #[.int .i64 a0_0, .int .i64 a0_1, .int .i64 a0_2, .int .i64 a0_3, .int .i64 a0_4, .slice A0_5 l0_5.length c0_5] 27 (0, 0)) (by (with_reducible repeat (first | refine blk_drewN ?_ _ | refine blk_drew ?_ | refine blk_alloc ?_ _)); exact BK277.out) hb); have n1_ := Aside0.mk (below_step (by repeat (first | (with_reducible first | exact HB.out | apply below_alloc | apply pw_below_drewN | apply below_drew1 | refine below_set ?_ GE277.out) | exact HB.out)) hb); clear BK277; clear HB; have BK277 := n0_; have HB := n1_; clear n0_ n1_; (try clear hb); (try clear hb2); (try clear hk); (try clear hi)))
    go_loopg [12] k (fun kq v12 w' => ∃ (x12_1 : Int), v12 = .int .i64 x12_1 ∧ Aside0 (passepartoutlaw05_Great.l0 kq l1 (l1.length : Int) x12_1 = some r) ∧ Aside0 (kq ≤ k) ∧ Aside0 (w'.heap[gb277]? = some (.cells #[.int .i64 a0_0, .int .i64 a0_1, .int .i64 a0_2, .int .i64 a0_3, .int .i64 a0_4, (.slice A0_5 l0_5.length c0_5)] 27 (0, 0))) ∧ Aside0 (Below w.heap.size w w'))
    case atStart => exact ⟨(0), (by first | rfl | (simp; done) | (simp [*]; done)), H', ⟨Nat.le_refl _⟩, ⟨by (with_reducible repeat (first | refine blk_drewN ?_ _ | refine blk_drew ?_ | refine blk_alloc ?_ _)); exact BK277.out⟩, ⟨by repeat (first | (with_reducible first | exact HB.out | apply below_alloc | apply pw_below_drewN | apply below_drew1 | refine below_set ?_ GE277.out) | exact HB.out)⟩⟩
    case round =>
      clear H'
      try clear c1
      try clear p2
      try clear c3
      try clear c4
      try clear c4b0
      try clear hcz6_0
      try clear hcz6_1
      try clear hcz6_2
      try clear hcz6_3
      try clear hcz6_4
      try clear hcz6_5
      try clear hcz9_0
      try clear hcz9_1
      try clear hcz9_2
      try clear hcz9_3
      try clear hcz9_4
      try clear hcz9_5
      try clear hfz6_0
      try clear hfz6_1
      try clear hfz6_2
      try clear hfz6_3
      try clear hfz6_4
      try clear hfz6_5
      try clear hfz9_0
      try clear hfz9_1
      try clear hfz9_2
      try clear hfz9_3
      try clear hfz9_4
      try clear hfz9_5
      obtain ⟨x12_1, rfl, HA, HK1, BK277, HB⟩ := hrel
      cases gk with
      | zero => exact absurd HA.out (by simp [passepartoutlaw05_Great.l0])
      | succ k1 =>
        have H := HA.out
        clear HA
        simp only [passepartoutlaw05_Great.l0] at H
        by_cases c11 : x12_1 < (l1.length : Int)
        · rw [if_pos c11] at H
          have c11b0 : decide (x12_1 < (l1.length : Int)) = true := decide_eq_true c11
          clear c11
          by_cases c12 : 0 ≤ x12_1
          · rw [if_pos c12] at H
            have c12b0 : decide (0 ≤ x12_1) = true := decide_eq_true c12
            clear c12
            by_cases c13 : x12_1 < (l1.length : Int)
            · rw [if_pos c13] at H
              have c13b0 : decide (x12_1 < (l1.length : Int)) = true := decide_eq_true c13
              clear c13
              replace H := Option.bind_eq_some_iff.mp H
              obtain ⟨t281, A140, H⟩ := H
              replace H : (if t281 > 2000 then (some 1) else ((passepartoutref05_Bytes.f k1 ((rd_T46 l1 x12_1).f0) ((rd_T46 l1 x12_1).f1) ((rd_T46 l1 x12_1).f2) 20000).bind fun t282 => (if t282 > 20000 then (some 1) else (passepartoutlaw05_Great.l0 k1 l1 (l1.length : Int) (wrap64 (x12_1 + 1)))))) = some r := H
              have A14 := Aside0.mk A140
              clear A140
              by_cases c15 : t281 > 2000
              · rw [if_pos c15] at H
                have c15b0 : decide (2000 < t281) = true := decide_eq_true c15
                clear c15
                obtain rfl := Option.some.inj H
                have p279 : 0 ≤ (x12_1 : Int) := of_decide_eq_true (by first | (with_reducible assumption) | assumption)
                have q279 : x12_1 < (l1.length : Int) := of_decide_eq_true (by first | (with_reducible assumption) | assumption)
                obtain ⟨ad279, A279_1, c279_1, A279_2, c279_2, e279, hx279_0, hx279_1, hx279_2, hl279_1, hi279_1, hl279_2, hi279_2⟩ := at_T46 HR1.out x12_1 p279 q279
                cases e279
                replace hx279_0 := (HB.out.cell (World.block_lt_of_cell? w _ hx279_0)).trans hx279_0
                replace hx279_1 := (HB.out.cell (World.block_lt_of_cell? w _ hx279_1)).trans hx279_1
                replace hx279_2 := (HB.out.cell (World.block_lt_of_cell? w _ hx279_2)).trans hx279_2
                have HR279_1 := Aside0.mk hi279_1
                have HC279_1 := Aside0.mk hl279_1
                clear hi279_1 hl279_1
                have HR279_2 := Aside0.mk hi279_2
                have HC279_2 := Aside0.mk hl279_2
                clear hi279_2 hl279_2
                replace p279 := eq_true p279
                replace q279 := eq_true q279
                go_wp2_with (first | ((with_reducible refine gate_dst (N := 6) rfl ?_); refine box_event ?hg (N := 6) ?hd (cs := #[.int .u64 0, .slice none 0 0, .slice none 0 0]) (t := 46) ?hr ?_; (case hd => rfl); (case hg => rfl); (case hr => first | (go_simp; done) | (go_simp; rfl)); intro gb280 hg w16 hbox hb; have n0_ := Aside0.mk (blk_below (g := gb277) (o := .cells #[.int .i64 a0_0, .int .i64 a0_1, .int .i64 a0_2, .int .i64 a0_3, .int .i64 a0_4, .slice A0_5 l0_5.length c0_5] 27 (0, 0)) (by (with_reducible repeat (first | refine blk_drewN ?_ _ | refine blk_drew ?_ | refine blk_alloc ?_ _)); exact BK277.out) hb); have n1_ := Aside0.mk (below_step (by repeat (first | (with_reducible first | exact HB.out | apply below_alloc | apply pw_below_drewN | apply below_drew1 | refine below_set ?_ GE277.out) | exact HB.out)) hb); have n2_ := Aside0.mk (hbox); have n3_ := Aside0.mk ((by rw [hg]; exact (below_size (by repeat (first | (with_reducible first | exact HB.out | apply below_alloc | apply pw_below_drewN | apply below_drew1 | refine below_set ?_ GE277.out) | exact HB.out))) : w.heap.size ≤ gb280)); have n4_ := Aside0.mk ((by rw [hg]; exact (below_size (by repeat (first | (with_reducible first | exact HB.out | apply below_alloc | apply pw_below_drewN | apply below_drew1 | refine below_set ?_ GE277.out) | exact HB.out))) : w.heap.size ≤ gb280)); have n5_ := Aside0.mk ((by rw [hg]; exact Nat.ne_of_lt (blk_lt (g := gb277) (o := .cells #[.int .i64 a0_0, .int .i64 a0_1, .int .i64 a0_2, .int .i64 a0_3, .int .i64 a0_4, .slice A0_5 l0_5.length c0_5] 27 (0, 0)) (by (with_reducible repeat (first | refine blk_drewN ?_ _ | refine blk_drew ?_ | refine blk_alloc ?_ _)); exact BK277.out)) : gb277 ≠ gb280)); have n6_ := Aside0.mk ((by rw [hg]; exact Nat.ne_of_gt (blk_lt (g := gb277) (o := .cells #[.int .i64 a0_0, .int .i64 a0_1, .int .i64 a0_2, .int .i64 a0_3, .int .i64 a0_4, .slice A0_5 l0_5.length c0_5] 27 (0, 0)) (by (with_reducible repeat (first | refine blk_drewN ?_ _ | refine blk_drew ?_ | refine blk_alloc ?_ _)); exact BK277.out)) : gb280 ≠ gb277)); clear BK277; clear HB; have BK277 := n0_; have HB := n1_; have BK280 := n2_; have GW280 := n3_; have GE280 := n4_; have NB277_280 := n5_; have NB280_277 := n6_; clear n0_ n1_ n2_ n3_ n4_ n5_ n6_; clear hb hbox hg; have hnb17 := NB280_277.out; have hnc17 := NB277_280.out; have hcz18_0 : w16.cell? ⟨gb280, 0, none⟩ = some (.int .u64 0) := (blk_cell BK280.out 0).trans rfl; have hcz18_1 : w16.cell? ⟨gb280, 1, none⟩ = some (.slice none 0 0) := (blk_cell BK280.out 1).trans rfl; have hcz18_2 : w16.cell? ⟨gb280, 2, none⟩ = some (.slice none 0 0) := (blk_cell BK280.out 2).trans rfl; have hfz18_0 := blk_frozen BK280.out 0; have hfz18_1 := blk_frozen BK280.out 1; have hfz18_2 := blk_frozen BK280.out 2) | ((with_reducible refine gate_callee (f := 42) rfl ?_); refine goesL_ (some 17) rfl rfl Try.func42 (by kernel_rfl) rfl #[.agg #[.int .u64 ((rd_T46 l1 x12_1).f0), .slice A279_1 ((rd_T46 l1 x12_1).f1).length c279_1, .slice A279_2 ((rd_T46 l1 x12_1).f2).length c279_2], .int .i64 2000] rfl (by (try simp only [List.map_toArray, List.map_cons, List.map_nil]); first | done | rfl | (simp only [List.length_drop, List.length_take]; rfl)) ?_; (with_reducible refine (passepartoutref05_Count.calls k1 ((rd_T46 l1 x12_1).f0) _ _ ((rd_T46 l1 x12_1).f1) _ _ ((rd_T46 l1 x12_1).f2) 2000 t281 _ ?side1 ?side2 ?side3 ?side4 A14.out).mono ?_); (case side1 => exact Kd.C_below HR279_1.out (by repeat (first | (with_reducible first | exact HB.out | apply below_alloc | apply pw_below_drewN | apply below_drew1 | refine below_set ?_ GE277.out | refine below_set ?_ GE280.out) | exact HB.out))); (case side2 => exact HC279_1.out); (case side3 => exact Kd.C_below HR279_2.out (by repeat (first | (with_reducible first | exact HB.out | apply below_alloc | apply pw_below_drewN | apply below_drew1 | refine below_set ?_ GE277.out | refine below_set ?_ GE280.out) | exact HB.out))); (case side4 => exact HC279_2.out); rintro e w19 ⟨rfl, hb⟩; refine ⟨_, rfl, ?_⟩; have n0_ := Aside0.mk (blk_below (g := gb277) (o := .cells #[.int .i64 a0_0, .int .i64 a0_1, .int .i64 a0_2, .int .i64 a0_3, .int .i64 a0_4, .slice A0_5 l0_5.length c0_5] 27 (0, 0)) (by (with_reducible repeat (first | refine blk_drewN ?_ _ | refine blk_drew ?_ | refine blk_alloc ?_ _)); refine blk_far ?_ NB277_280.out _; (with_reducible repeat (first | refine blk_drewN ?_ _ | refine blk_drew ?_ | refine blk_alloc ?_ _)); refine blk_far ?_ NB277_280.out _; (with_reducible repeat (first | refine blk_drewN ?_ _ | refine blk_drew ?_ | refine blk_alloc ?_ _)); refine blk_far ?_ NB277_280.out _; (with_reducible repeat (first | refine blk_drewN ?_ _ | refine blk_drew ?_ | refine blk_alloc ?_ _)); exact BK277.out) hb); have n1_ := Aside0.mk (blk_below (g := gb280) (o := .cells #[.int .u64 ((rd_T46 l1 x12_1).f0), .slice A279_1 ((rd_T46 l1 x12_1).f1).length c279_1, .slice A279_2 ((rd_T46 l1 x12_1).f2).length c279_2] 46 (0, 0)) (by (with_reducible repeat (first | refine blk_drewN ?_ _ | refine blk_drew ?_ | refine blk_alloc ?_ _)); refine blk_put (cs := #[.int .u64 ((rd_T46 l1 x12_1).f0), .slice A279_1 ((rd_T46 l1 x12_1).f1).length c279_1, .slice none 0 0]) ?_ 2 _ rfl; (with_reducible repeat (first | refine blk_drewN ?_ _ | refine blk_drew ?_ | refine blk_alloc ?_ _)); refine blk_put (cs := #[.int .u64 ((rd_T46 l1 x12_1).f0), .slice none 0 0, .slice none 0 0]) ?_ 1 _ rfl; (with_reducible repeat (first | refine blk_drewN ?_ _ | refine blk_drew ?_ | refine blk_alloc ?_ _)); refine blk_put (cs := #[.int .u64 0, .slice none 0 0, .slice none 0 0]) ?_ 0 _ rfl; (with_reducible repeat (first | refine blk_drewN ?_ _ | refine blk_drew ?_ | refine blk_alloc ?_ _)); exact BK280.out) hb); have n2_ := Aside0.mk (below_step (by repeat (first | (with_reducible first | exact HB.out | apply below_alloc | apply pw_below_drewN | apply below_drew1 | refine below_set ?_ GE277.out | refine below_set ?_ GE280.out) | exact HB.out)) hb); clear BK277; clear BK280; clear HB; have BK277 := n0_; have BK280 := n1_; have HB := n2_; clear n0_ n1_ n2_; (try clear hb); (try clear hb2); (try clear hk); (try clear hi)))
                go_ret
                exact ⟨by first | rfl | (simp [errW_none, errW_some] <;> rfl) | (simp [*, errW_none, errW_some] <;> rfl), by repeat (first | (with_reducible first | exact HB.out | apply below_alloc | apply pw_below_drewN | apply below_drew1 | refine below_set ?_ GE277.out | refine below_set ?_ GE280.out) | exact HB.out)⟩
              · rw [if_neg c15] at H
                have c15b0 : decide (2000 < t281) = false := decide_eq_false c15
                clear c15
                replace H := Option.bind_eq_some_iff.mp H
                obtain ⟨t282, A200, H⟩ := H
                replace H : (if t282 > 20000 then (some 1) else (passepartoutlaw05_Great.l0 k1 l1 (l1.length : Int) (wrap64 (x12_1 + 1)))) = some r := H
                have A20 := Aside0.mk A200
                clear A200
                by_cases c21 : t282 > 20000
                · rw [if_pos c21] at H
                  have c21b0 : decide (20000 < t282) = true := decide_eq_true c21
                  clear c21
                  obtain rfl := Option.some.inj H
                  have p279 : 0 ≤ (x12_1 : Int) := of_decide_eq_true (by first | (with_reducible assumption) | assumption)
                  have q279 : x12_1 < (l1.length : Int) := of_decide_eq_true (by first | (with_reducible assumption) | assumption)
                  obtain ⟨ad279, A279_1, c279_1, A279_2, c279_2, e279, hx279_0, hx279_1, hx279_2, hl279_1, hi279_1, hl279_2, hi279_2⟩ := at_T46 HR1.out x12_1 p279 q279
                  cases e279
                  replace hx279_0 := (HB.out.cell (World.block_lt_of_cell? w _ hx279_0)).trans hx279_0
                  replace hx279_1 := (HB.out.cell (World.block_lt_of_cell? w _ hx279_1)).trans hx279_1
                  replace hx279_2 := (HB.out.cell (World.block_lt_of_cell? w _ hx279_2)).trans hx279_2
                  have HR279_1 := Aside0.mk hi279_1
                  have HC279_1 := Aside0.mk hl279_1
                  clear hi279_1 hl279_1
                  have HR279_2 := Aside0.mk hi279_2
                  have HC279_2 := Aside0.mk hl279_2
                  clear hi279_2 hl279_2
                  replace p279 := eq_true p279
                  replace q279 := eq_true q279
                  go_wp2_with (first | ((with_reducible refine gate_dst (N := 6) rfl ?_); refine box_event ?hg (N := 6) ?hd (cs := #[.int .u64 0, .slice none 0 0, .slice none 0 0]) (t := 46) ?hr ?_; (case hd => rfl); (case hg => rfl); (case hr => first | (go_simp; done) | (go_simp; rfl)); intro gb280 hg w22 hbox hb; have n0_ := Aside0.mk (blk_below (g := gb277) (o := .cells #[.int .i64 a0_0, .int .i64 a0_1, .int .i64 a0_2, .int .i64 a0_3, .int .i64 a0_4, .slice A0_5 l0_5.length c0_5] 27 (0, 0)) (by (with_reducible repeat (first | refine blk_drewN ?_ _ | refine blk_drew ?_ | refine blk_alloc ?_ _)); exact BK277.out) hb); have n1_ := Aside0.mk (below_step (by repeat (first | (with_reducible first | exact HB.out | apply below_alloc | apply pw_below_drewN | apply below_drew1 | refine below_set ?_ GE277.out) | exact HB.out)) hb); have n2_ := Aside0.mk (hbox); have n3_ := Aside0.mk ((by rw [hg]; exact (below_size (by repeat (first | (with_reducible first | exact HB.out | apply below_alloc | apply pw_below_drewN | apply below_drew1 | refine below_set ?_ GE277.out) | exact HB.out))) : w.heap.size ≤ gb280)); have n4_ := Aside0.mk ((by rw [hg]; exact (below_size (by repeat (first | (with_reducible first | exact HB.out | apply below_alloc | apply pw_below_drewN | apply below_drew1 | refine below_set ?_ GE277.out) | exact HB.out))) : w.heap.size ≤ gb280)); have n5_ := Aside0.mk ((by rw [hg]; exact Nat.ne_of_lt (blk_lt (g := gb277) (o := .cells #[.int .i64 a0_0, .int .i64 a0_1, .int .i64 a0_2, .int .i64 a0_3, .int .i64 a0_4, .slice A0_5 l0_5.length c0_5] 27 (0, 0)) (by (with_reducible repeat (first | refine blk_drewN ?_ _ | refine blk_drew ?_ | refine blk_alloc ?_ _)); exact BK277.out)) : gb277 ≠ gb280)); have n6_ := Aside0.mk ((by rw [hg]; exact Nat.ne_of_gt (blk_lt (g := gb277) (o := .cells #[.int .i64 a0_0, .int .i64 a0_1, .int .i64 a0_2, .int .i64 a0_3, .int .i64 a0_4, .slice A0_5 l0_5.length c0_5] 27 (0, 0)) (by (with_reducible repeat (first | refine blk_drewN ?_ _ | refine blk_drew ?_ | refine blk_alloc ?_ _)); exact BK277.out)) : gb280 ≠ gb277)); clear BK277; clear HB; have BK277 := n0_; have HB := n1_; have BK280 := n2_; have GW280 := n3_; have GE280 := n4_; have NB277_280 := n5_; have NB280_277 := n6_; clear n0_ n1_ n2_ n3_ n4_ n5_ n6_; clear hb hbox hg; have hnb23 := NB280_277.out; have hnc23 := NB277_280.out; have hcz24_0 : w22.cell? ⟨gb280, 0, none⟩ = some (.int .u64 0) := (blk_cell BK280.out 0).trans rfl; have hcz24_1 : w22.cell? ⟨gb280, 1, none⟩ = some (.slice none 0 0) := (blk_cell BK280.out 1).trans rfl; have hcz24_2 : w22.cell? ⟨gb280, 2, none⟩ = some (.slice none 0 0) := (blk_cell BK280.out 2).trans rfl; have hfz24_0 := blk_frozen BK280.out 0; have hfz24_1 := blk_frozen BK280.out 1; have hfz24_2 := blk_frozen BK280.out 2) | ((with_reducible refine gate_callee (f := 42) rfl ?_); refine goesL_ (some 17) rfl rfl Try.func42 (by kernel_rfl) rfl #[.agg #[.int .u64 ((rd_T46 l1 x12_1).f0), .slice A279_1 ((rd_T46 l1 x12_1).f1).length c279_1, .slice A279_2 ((rd_T46 l1 x12_1).f2).length c279_2], .int .i64 2000] rfl (by (try simp only [List.map_toArray, List.map_cons, List.map_nil]); first | done | rfl | (simp only [List.length_drop, List.length_take]; rfl)) ?_; (with_reducible refine (passepartoutref05_Count.calls k1 ((rd_T46 l1 x12_1).f0) _ _ ((rd_T46 l1 x12_1).f1) _ _ ((rd_T46 l1 x12_1).f2) 2000 t281 _ ?side1 ?side2 ?side3 ?side4 A14.out).mono ?_); (case side1 => exact Kd.C_below HR279_1.out (by repeat (first | (with_reducible first | exact HB.out | apply below_alloc | apply pw_below_drewN | apply below_drew1 | refine below_set ?_ GE277.out | refine below_set ?_ GE280.out) | exact HB.out))); (case side2 => exact HC279_1.out); (case side3 => exact Kd.C_below HR279_2.out (by repeat (first | (with_reducible first | exact HB.out | apply below_alloc | apply pw_below_drewN | apply below_drew1 | refine below_set ?_ GE277.out | refine below_set ?_ GE280.out) | exact HB.out))); (case side4 => exact HC279_2.out); rintro e w25 ⟨rfl, hb⟩; refine ⟨_, rfl, ?_⟩; have n0_ := Aside0.mk (blk_below (g := gb277) (o := .cells #[.int .i64 a0_0, .int .i64 a0_1, .int .i64 a0_2, .int .i64 a0_3, .int .i64 a0_4, .slice A0_5 l0_5.length c0_5] 27 (0, 0)) (by (with_reducible repeat (first | refine blk_drewN ?_ _ | refine blk_drew ?_ | refine blk_alloc ?_ _)); refine blk_far ?_ NB277_280.out _; (with_reducible repeat (first | refine blk_drewN ?_ _ | refine blk_drew ?_ | refine blk_alloc ?_ _)); refine blk_far ?_ NB277_280.out _; (with_reducible repeat (first | refine blk_drewN ?_ _ | refine blk_drew ?_ | refine blk_alloc ?_ _)); refine blk_far ?_ NB277_280.out _; (with_reducible repeat (first | refine blk_drewN ?_ _ | refine blk_drew ?_ | refine blk_alloc ?_ _)); exact BK277.out) hb); have n1_ := Aside0.mk (blk_below (g := gb280) (o := .cells #[.int .u64 ((rd_T46 l1 x12_1).f0), .slice A279_1 ((rd_T46 l1 x12_1).f1).length c279_1, .slice A279_2 ((rd_T46 l1 x12_1).f2).length c279_2] 46 (0, 0)) (by (with_reducible repeat (first | refine blk_drewN ?_ _ | refine blk_drew ?_ | refine blk_alloc ?_ _)); refine blk_put (cs := #[.int .u64 ((rd_T46 l1 x12_1).f0), .slice A279_1 ((rd_T46 l1 x12_1).f1).length c279_1, .slice none 0 0]) ?_ 2 _ rfl; (with_reducible repeat (first | refine blk_drewN ?_ _ | refine blk_drew ?_ | refine blk_alloc ?_ _)); refine blk_put (cs := #[.int .u64 ((rd_T46 l1 x12_1).f0), .slice none 0 0, .slice none 0 0]) ?_ 1 _ rfl; (with_reducible repeat (first | refine blk_drewN ?_ _ | refine blk_drew ?_ | refine blk_alloc ?_ _)); refine blk_put (cs := #[.int .u64 0, .slice none 0 0, .slice none 0 0]) ?_ 0 _ rfl; (with_reducible repeat (first | refine blk_drewN ?_ _ | refine blk_drew ?_ | refine blk_alloc ?_ _)); exact BK280.out) hb); have n2_ := Aside0.mk (below_step (by repeat (first | (with_reducible first | exact HB.out | apply below_alloc | apply pw_below_drewN | apply below_drew1 | refine below_set ?_ GE277.out | refine below_set ?_ GE280.out) | exact HB.out)) hb); clear BK277; clear BK280; clear HB; have BK277 := n0_; have BK280 := n1_; have HB := n2_; clear n0_ n1_ n2_; (try clear hb); (try clear hb2); (try clear hk); (try clear hi); have hcz26_0 : w25.cell? ⟨gb280, 0, none⟩ = some (.int .u64 ((rd_T46 l1 x12_1).f0)) := (blk_cell BK280.out 0).trans rfl; have hcz26_1 : w25.cell? ⟨gb280, 1, none⟩ = some (.slice A279_1 ((rd_T46 l1 x12_1).f1).length c279_1) := (blk_cell BK280.out 1).trans rfl; have hcz26_2 : w25.cell? ⟨gb280, 2, none⟩ = some (.slice A279_2 ((rd_T46 l1 x12_1).f2).length c279_2) := (blk_cell BK280.out 2).trans rfl; have hfz26_0 := blk_frozen BK280.out 0; have hfz26_1 := blk_frozen BK280.out 1; have hfz26_2 := blk_frozen BK280.out 2) | (go_at_call 55; (with_reducible refine (passepartoutref05_Bytes.calls k1 ((rd_T46 l1 x12_1).f0) _ _ ((rd_T46 l1 x12_1).f1) _ _ ((rd_T46 l1 x12_1).f2) 20000 t282 _ ?side1 ?side2 ?side3 ?side4 A20.out).mono ?_); (case side1 => repeat (first | exact (Kd.C_below HR279_1.out HB.out) | (with_reducible refine Kd.C_alloc ?_ _) | (with_reducible refine Kd.C_drewN ?_ _) | (with_reducible refine Kd.C_drew ?_))); (case side2 => exact HC279_1.out); (case side3 => repeat (first | exact (Kd.C_below HR279_2.out HB.out) | (with_reducible refine Kd.C_alloc ?_ _) | (with_reducible refine Kd.C_drewN ?_ _) | (with_reducible refine Kd.C_drew ?_))); (case side4 => exact HC279_2.out); rintro e w27 ⟨rfl, hb⟩; have n0_ := Aside0.mk (blk_below (g := gb277) (o := .cells #[.int .i64 a0_0, .int .i64 a0_1, .int .i64 a0_2, .int .i64 a0_3, .int .i64 a0_4, .slice A0_5 l0_5.length c0_5] 27 (0, 0)) (by (with_reducible repeat (first | refine blk_drewN ?_ _ | refine blk_drew ?_ | refine blk_alloc ?_ _)); exact BK277.out) hb); have n1_ := Aside0.mk (blk_below (g := gb280) (o := .cells #[.int .u64 ((rd_T46 l1 x12_1).f0), .slice A279_1 ((rd_T46 l1 x12_1).f1).length c279_1, .slice A279_2 ((rd_T46 l1 x12_1).f2).length c279_2] 46 (0, 0)) (by (with_reducible repeat (first | refine blk_drewN ?_ _ | refine blk_drew ?_ | refine blk_alloc ?_ _)); exact BK280.out) hb); have n2_ := Aside0.mk (below_step (by repeat (first | (with_reducible first | exact HB.out | apply below_alloc | apply pw_below_drewN | apply below_drew1 | refine below_set ?_ GE277.out | refine below_set ?_ GE280.out) | exact HB.out)) hb); clear BK277; clear BK280; clear HB; have BK277 := n0_; have BK280 := n1_; have HB := n2_; clear n0_ n1_ n2_; (try clear hb); (try clear hb2); (try clear hk); (try clear hi)))
                  go_ret
                  exact ⟨by first | rfl | (simp [errW_none, errW_some] <;> rfl) | (simp [*, errW_none, errW_some] <;> rfl), by repeat (first | (with_reducible first | exact HB.out | apply below_alloc | apply pw_below_drewN | apply below_drew1 | refine below_set ?_ GE277.out | refine below_set ?_ GE280.out) | exact HB.out)⟩
                · rw [if_neg c21] at H
                  have c21b0 : decide (20000 < t282) = false := decide_eq_false c21
                  clear c21
                  have H' := Aside0.mk H
                  clear H
                  have p279 : 0 ≤ (x12_1 : Int) := of_decide_eq_true (by first | (with_reducible assumption) | assumption)
                  have q279 : x12_1 < (l1.length : Int) := of_decide_eq_true (by first | (with_reducible assumption) | assumption)
                  obtain ⟨ad279, A279_1, c279_1, A279_2, c279_2, e279, hx279_0, hx279_1, hx279_2, hl279_1, hi279_1, hl279_2, hi279_2⟩ := at_T46 HR1.out x12_1 p279 q279
                  cases e279
                  replace hx279_0 := (HB.out.cell (World.block_lt_of_cell? w _ hx279_0)).trans hx279_0
                  replace hx279_1 := (HB.out.cell (World.block_lt_of_cell? w _ hx279_1)).trans hx279_1
                  replace hx279_2 := (HB.out.cell (World.block_lt_of_cell? w _ hx279_2)).trans hx279_2
                  have HR279_1 := Aside0.mk hi279_1
                  have HC279_1 := Aside0.mk hl279_1
                  clear hi279_1 hl279_1
                  have HR279_2 := Aside0.mk hi279_2
                  have HC279_2 := Aside0.mk hl279_2
                  clear hi279_2 hl279_2
                  replace p279 := eq_true p279
                  replace q279 := eq_true q279
                  go_wp2_with (first | ((with_reducible refine gate_dst (N := 6) rfl ?_); refine box_event ?hg (N := 6) ?hd (cs := #[.int .u64 0, .slice none 0 0, .slice none 0 0]) (t := 46) ?hr ?_; (case hd => rfl); (case hg => rfl); (case hr => first | (go_simp; done) | (go_simp; rfl)); intro gb280 hg w28 hbox hb; have n0_ := Aside0.mk (blk_below (g := gb277) (o := .cells #[.int .i64 a0_0, .int .i64 a0_1, .int .i64 a0_2, .int .i64 a0_3, .int .i64 a0_4, .slice A0_5 l0_5.length c0_5] 27 (0, 0)) (by (with_reducible repeat (first | refine blk_drewN ?_ _ | refine blk_drew ?_ | refine blk_alloc ?_ _)); exact BK277.out) hb); have n1_ := Aside0.mk (below_step (by repeat (first | (with_reducible first | exact HB.out | apply below_alloc | apply pw_below_drewN | apply below_drew1 | refine below_set ?_ GE277.out) | exact HB.out)) hb); have n2_ := Aside0.mk (hbox); have n3_ := Aside0.mk ((by rw [hg]; exact (below_size (by repeat (first | (with_reducible first | exact HB.out | apply below_alloc | apply pw_below_drewN | apply below_drew1 | refine below_set ?_ GE277.out) | exact HB.out))) : w.heap.size ≤ gb280)); have n4_ := Aside0.mk ((by rw [hg]; exact (below_size (by repeat (first | (with_reducible first | exact HB.out | apply below_alloc | apply pw_below_drewN | apply below_drew1 | refine below_set ?_ GE277.out) | exact HB.out))) : w.heap.size ≤ gb280)); have n5_ := Aside0.mk ((by rw [hg]; exact Nat.ne_of_lt (blk_lt (g := gb277) (o := .cells #[.int .i64 a0_0, .int .i64 a0_1, .int .i64 a0_2, .int .i64 a0_3, .int .i64 a0_4, .slice A0_5 l0_5.length c0_5] 27 (0, 0)) (by (with_reducible repeat (first | refine blk_drewN ?_ _ | refine blk_drew ?_ | refine blk_alloc ?_ _)); exact BK277.out)) : gb277 ≠ gb280)); have n6_ := Aside0.mk ((by rw [hg]; exact Nat.ne_of_gt (blk_lt (g := gb277) (o := .cells #[.int .i64 a0_0, .int .i64 a0_1, .int .i64 a0_2, .int .i64 a0_3, .int .i64 a0_4, .slice A0_5 l0_5.length c0_5] 27 (0, 0)) (by (with_reducible repeat (first | refine blk_drewN ?_ _ | refine blk_drew ?_ | refine blk_alloc ?_ _)); exact BK277.out)) : gb280 ≠ gb277)); clear BK277; clear HB; have BK277 := n0_; have HB := n1_; have BK280 := n2_; have GW280 := n3_; have GE280 := n4_; have NB277_280 := n5_; have NB280_277 := n6_; clear n0_ n1_ n2_ n3_ n4_ n5_ n6_; clear hb hbox hg; have hnb29 := NB280_277.out; have hnc29 := NB277_280.out; have hcz30_0 : w28.cell? ⟨gb280, 0, none⟩ = some (.int .u64 0) := (blk_cell BK280.out 0).trans rfl; have hcz30_1 : w28.cell? ⟨gb280, 1, none⟩ = some (.slice none 0 0) := (blk_cell BK280.out 1).trans rfl; have hcz30_2 : w28.cell? ⟨gb280, 2, none⟩ = some (.slice none 0 0) := (blk_cell BK280.out 2).trans rfl; have hfz30_0 := blk_frozen BK280.out 0; have hfz30_1 := blk_frozen BK280.out 1; have hfz30_2 := blk_frozen BK280.out 2) | ((with_reducible refine gate_callee (f := 42) rfl ?_); refine goesL_ (some 17) rfl rfl Try.func42 (by kernel_rfl) rfl #[.agg #[.int .u64 ((rd_T46 l1 x12_1).f0), .slice A279_1 ((rd_T46 l1 x12_1).f1).length c279_1, .slice A279_2 ((rd_T46 l1 x12_1).f2).length c279_2], .int .i64 2000] rfl (by (try simp only [List.map_toArray, List.map_cons, List.map_nil]); first | done | rfl | (simp only [List.length_drop, List.length_take]; rfl)) ?_; (with_reducible refine (passepartoutref05_Count.calls k1 ((rd_T46 l1 x12_1).f0) _ _ ((rd_T46 l1 x12_1).f1) _ _ ((rd_T46 l1 x12_1).f2) 2000 t281 _ ?side1 ?side2 ?side3 ?side4 A14.out).mono ?_); (case side1 => exact Kd.C_below HR279_1.out (by repeat (first | (with_reducible first | exact HB.out | apply below_alloc | apply pw_below_drewN | apply below_drew1 | refine below_set ?_ GE277.out | refine below_set ?_ GE280.out) | exact HB.out))); (case side2 => exact HC279_1.out); (case side3 => exact Kd.C_below HR279_2.out (by repeat (first | (with_reducible first | exact HB.out | apply below_alloc | apply pw_below_drewN | apply below_drew1 | refine below_set ?_ GE277.out | refine below_set ?_ GE280.out) | exact HB.out))); (case side4 => exact HC279_2.out); rintro e w31 ⟨rfl, hb⟩; refine ⟨_, rfl, ?_⟩; have n0_ := Aside0.mk (blk_below (g := gb277) (o := .cells #[.int .i64 a0_0, .int .i64 a0_1, .int .i64 a0_2, .int .i64 a0_3, .int .i64 a0_4, .slice A0_5 l0_5.length c0_5] 27 (0, 0)) (by (with_reducible repeat (first | refine blk_drewN ?_ _ | refine blk_drew ?_ | refine blk_alloc ?_ _)); refine blk_far ?_ NB277_280.out _; (with_reducible repeat (first | refine blk_drewN ?_ _ | refine blk_drew ?_ | refine blk_alloc ?_ _)); refine blk_far ?_ NB277_280.out _; (with_reducible repeat (first | refine blk_drewN ?_ _ | refine blk_drew ?_ | refine blk_alloc ?_ _)); refine blk_far ?_ NB277_280.out _; (with_reducible repeat (first | refine blk_drewN ?_ _ | refine blk_drew ?_ | refine blk_alloc ?_ _)); exact BK277.out) hb); have n1_ := Aside0.mk (blk_below (g := gb280) (o := .cells #[.int .u64 ((rd_T46 l1 x12_1).f0), .slice A279_1 ((rd_T46 l1 x12_1).f1).length c279_1, .slice A279_2 ((rd_T46 l1 x12_1).f2).length c279_2] 46 (0, 0)) (by (with_reducible repeat (first | refine blk_drewN ?_ _ | refine blk_drew ?_ | refine blk_alloc ?_ _)); refine blk_put (cs := #[.int .u64 ((rd_T46 l1 x12_1).f0), .slice A279_1 ((rd_T46 l1 x12_1).f1).length c279_1, .slice none 0 0]) ?_ 2 _ rfl; (with_reducible repeat (first | refine blk_drewN ?_ _ | refine blk_drew ?_ | refine blk_alloc ?_ _)); refine blk_put (cs := #[.int .u64 ((rd_T46 l1 x12_1).f0), .slice none 0 0, .slice none 0 0]) ?_ 1 _ rfl; (with_reducible repeat (first | refine blk_drewN ?_ _ | refine blk_drew ?_ | refine blk_alloc ?_ _)); refine blk_put (cs := #[.int .u64 0, .slice none 0 0, .slice none 0 0]) ?_ 0 _ rfl; (with_reducible repeat (first | refine blk_drewN ?_ _ | refine blk_drew ?_ | refine blk_alloc ?_ _)); exact BK280.out) hb); have n2_ := Aside0.mk (below_step (by repeat (first | (with_reducible first | exact HB.out | apply below_alloc | apply pw_below_drewN | apply below_drew1 | refine below_set ?_ GE277.out | refine below_set ?_ GE280.out) | exact HB.out)) hb); clear BK277; clear BK280; clear HB; have BK277 := n0_; have BK280 := n1_; have HB := n2_; clear n0_ n1_ n2_; (try clear hb); (try clear hb2); (try clear hk); (try clear hi); have hcz32_0 : w31.cell? ⟨gb280, 0, none⟩ = some (.int .u64 ((rd_T46 l1 x12_1).f0)) := (blk_cell BK280.out 0).trans rfl; have hcz32_1 : w31.cell? ⟨gb280, 1, none⟩ = some (.slice A279_1 ((rd_T46 l1 x12_1).f1).length c279_1) := (blk_cell BK280.out 1).trans rfl; have hcz32_2 : w31.cell? ⟨gb280, 2, none⟩ = some (.slice A279_2 ((rd_T46 l1 x12_1).f2).length c279_2) := (blk_cell BK280.out 2).trans rfl; have hfz32_0 := blk_frozen BK280.out 0; have hfz32_1 := blk_frozen BK280.out 1; have hfz32_2 := blk_frozen BK280.out 2) | (go_at_call 55; (with_reducible refine (passepartoutref05_Bytes.calls k1 ((rd_T46 l1 x12_1).f0) _ _ ((rd_T46 l1 x12_1).f1) _ _ ((rd_T46 l1 x12_1).f2) 20000 t282 _ ?side1 ?side2 ?side3 ?side4 A20.out).mono ?_); (case side1 => repeat (first | exact (Kd.C_below HR279_1.out HB.out) | (with_reducible refine Kd.C_alloc ?_ _) | (with_reducible refine Kd.C_drewN ?_ _) | (with_reducible refine Kd.C_drew ?_))); (case side2 => exact HC279_1.out); (case side3 => repeat (first | exact (Kd.C_below HR279_2.out HB.out) | (with_reducible refine Kd.C_alloc ?_ _) | (with_reducible refine Kd.C_drewN ?_ _) | (with_reducible refine Kd.C_drew ?_))); (case side4 => exact HC279_2.out); rintro e w33 ⟨rfl, hb⟩; have n0_ := Aside0.mk (blk_below (g := gb277) (o := .cells #[.int .i64 a0_0, .int .i64 a0_1, .int .i64 a0_2, .int .i64 a0_3, .int .i64 a0_4, .slice A0_5 l0_5.length c0_5] 27 (0, 0)) (by (with_reducible repeat (first | refine blk_drewN ?_ _ | refine blk_drew ?_ | refine blk_alloc ?_ _)); exact BK277.out) hb); have n1_ := Aside0.mk (blk_below (g := gb280) (o := .cells #[.int .u64 ((rd_T46 l1 x12_1).f0), .slice A279_1 ((rd_T46 l1 x12_1).f1).length c279_1, .slice A279_2 ((rd_T46 l1 x12_1).f2).length c279_2] 46 (0, 0)) (by (with_reducible repeat (first | refine blk_drewN ?_ _ | refine blk_drew ?_ | refine blk_alloc ?_ _)); exact BK280.out) hb); have n2_ := Aside0.mk (below_step (by repeat (first | (with_reducible first | exact HB.out | apply below_alloc | apply pw_below_drewN | apply below_drew1 | refine below_set ?_ GE277.out | refine below_set ?_ GE280.out) | exact HB.out)) hb); clear BK277; clear BK280; clear HB; have BK277 := n0_; have BK280 := n1_; have HB := n2_; clear n0_ n1_ n2_; (try clear hb); (try clear hb2); (try clear hk); (try clear hi)))
                  go_roundg k1
                  case measure => have := HK1.out; omega
                  case rel => exact ⟨(wrap64 (x12_1 + 1)), (by first | rfl | (simp; done) | (simp [*]; done)), H', ⟨by have := HK1.out; omega⟩, ⟨by (with_reducible repeat (first | refine blk_drewN ?_ _ | refine blk_drew ?_ | refine blk_alloc ?_ _)); exact BK277.out⟩, ⟨by repeat (first | (with_reducible first | exact HB.out | apply below_alloc | apply pw_below_drewN | apply below_drew1 | refine below_set ?_ GE277.out | refine below_set ?_ GE280.out) | exact HB.out)⟩⟩
            · rw [if_neg c13] at H
              exact absurd H (by simp)
          · rw [if_neg c12] at H
            exact absurd H (by simp)
        · rw [if_neg c11] at H
          have c11b0 : decide (x12_1 < (l1.length : Int)) = false := decide_eq_false c11
          clear c11
          obtain rfl := Option.some.inj H
          go_wp2
          go_ret
          exact ⟨by first | rfl | (simp [errW_none, errW_some] <;> rfl) | (simp [*, errW_none, errW_some] <;> rfl), by repeat (first | (with_reducible first | exact HB.out | apply below_alloc | apply pw_below_drewN | apply below_drew1 | refine below_set ?_ GE277.out) | exact HB.out)⟩

end Go.Proofs.Ytfcghajnnllmhaa.QP

namespace Go.Proofs.Ytfcghajnnllmhaa.QP
open Go.RowKit Go.Proofs.YtfcghajnnllmhaaW.PrintWords Go.Proofs.YtfcghajnnllmhaaW.PrintLast Go.Proofs.YtfcghajnnllmhaaW.PrintMore
attribute [local go_sem] max2_int min2_int max_two min_two max_three min_three max_four min_four   -- for this text's walks alone
set_option linter.unusedVariables false
set_option linter.unusedSimpArgs false

/-! ### passepartoutref05_Same: function 37 -/
mutual
def passepartoutref05_Same.j0 : Nat → Bool → Int → List Int → List (S46) → Int → List Int → List (S46) → Option (Bool)
  | 0, _, _, _, _, _, _, _ => none
  | k + 1, x29, x299000, x299001, x299002, x300000, x300001, x300002 => if x29 = true then (some false) else (passepartoutref05_Same.l0 k 0 x299000 x299001 x299002 x300000 x300001 x300002)
def passepartoutref05_Same.l0 : Nat → Int → Int → List Int → List (S46) → Int → List Int → List (S46) → Option (Bool)
  | 0, _, _, _, _, _, _, _ => none
  | k + 1, x5, x299000, x299001, x299002, x300000, x300001, x300002 => if x5 < (x299002.length : Int) then (if 0 ≤ x5 then (if x5 < (x300002.length : Int) then ((passepartoutref05_Same.f k ((rd_T46 x299002 x5).f0) ((rd_T46 x299002 x5).f1) ((rd_T46 x299002 x5).f2) ((rd_T46 x300002 x5).f0) ((rd_T46 x300002 x5).f1) ((rd_T46 x300002 x5).f2)).bind fun t302 => (if t302 = true then (passepartoutref05_Same.l0 k (wrap64 (x5 + 1)) x299000 x299001 x299002 x300000 x300001 x300002) else (some false))) else (none)) else (none)) else (some true)
def passepartoutref05_Same.f : Nat → Int → List Int → List (S46) → Int → List Int → List (S46) → Option (Bool)
  | 0, _, _, _, _, _, _ => none
  | k + 1, a0_0, l0_1, l0_2, a1_0, l1_1, l1_2 => if a0_0 = a1_0 then (if (strOfNums l0_1).toList = (strOfNums l1_1).toList then (passepartoutref05_Same.j0 k ((l0_2.length : Int) != (l1_2.length : Int)) a0_0 l0_1 l0_2 a1_0 l1_1 l1_2) else (passepartoutref05_Same.j0 k true a0_0 l0_1 l0_2 a1_0 l1_1 l1_2)) else (passepartoutref05_Same.j0 k true a0_0 l0_1 l0_2 a1_0 l1_1 l1_2)
end
theorem passepartoutref05_Same.mono_l : ∀ k, (∀ y0 y1 y2 y3 y4 y5, LeO (passepartoutref05_Same.f k y0 y1 y2 y3 y4 y5) (passepartoutref05_Same.f (k + 1) y0 y1 y2 y3 y4 y5)) ∧ (∀ y0 y1 y2 y3 y4 y5 y6, LeO (passepartoutref05_Same.j0 k y0 y1 y2 y3 y4 y5 y6) (passepartoutref05_Same.j0 (k + 1) y0 y1 y2 y3 y4 y5 y6)) ∧ (∀ y0 y1 y2 y3 y4 y5 y6, LeO (passepartoutref05_Same.l0 k y0 y1 y2 y3 y4 y5 y6) (passepartoutref05_Same.l0 (k + 1) y0 y1 y2 y3 y4 y5 y6))
  | 0 => ⟨fun _ _ _ _ _ _ r h => by simp [passepartoutref05_Same.f] at h, fun _ _ _ _ _ _ _ r h => by simp [passepartoutref05_Same.j0] at h, fun _ _ _ _ _ _ _ r h => by simp [passepartoutref05_Same.l0] at h⟩
  | k + 1 => by
    obtain ⟨ih0, ih1, ih2⟩ := passepartoutref05_Same.mono_l k
    refine ⟨?_, ?_, ?_⟩
    · intro y0 y1 y2 y3 y4 y5
      unfold passepartoutref05_Same.f
      repeat' first
      | (with_reducible exact ih0 _ _ _ _ _ _)
      | (with_reducible exact ih1 _ _ _ _ _ _ _)
      | (with_reducible exact ih2 _ _ _ _ _ _ _)
      | (with_reducible exact LeO.refl _)
      | (with_reducible exact LeO.none _)
      | (with_reducible refine LeO.ite ?_ ?_)
      | (with_reducible refine LeO.bind ?_ (fun _ => ?_))
      | exact ih0 _ _ _ _ _ _
      | exact ih1 _ _ _ _ _ _ _
      | exact ih2 _ _ _ _ _ _ _
      | exact LeO.none _
      | refine LeO.ite ?_ ?_
      | refine LeO.bind ?_ (fun _ => ?_)
    · intro y0 y1 y2 y3 y4 y5 y6
      unfold passepartoutref05_Same.j0
      repeat' first
      | (with_reducible exact ih0 _ _ _ _ _ _)
      | (with_reducible exact ih1 _ _ _ _ _ _ _)
      | (with_reducible exact ih2 _ _ _ _ _ _ _)
      | (with_reducible exact LeO.refl _)
      | (with_reducible exact LeO.none _)
      | (with_reducible refine LeO.ite ?_ ?_)
      | (with_reducible refine LeO.bind ?_ (fun _ => ?_))
      | exact ih0 _ _ _ _ _ _
      | exact ih1 _ _ _ _ _ _ _
      | exact ih2 _ _ _ _ _ _ _
      | exact LeO.none _
      | refine LeO.ite ?_ ?_
      | refine LeO.bind ?_ (fun _ => ?_)
    · intro y0 y1 y2 y3 y4 y5 y6
      unfold passepartoutref05_Same.l0
      repeat' first
      | (with_reducible exact ih0 _ _ _ _ _ _)
      | (with_reducible exact ih1 _ _ _ _ _ _ _)
      | (with_reducible exact ih2 _ _ _ _ _ _ _)
      | (with_reducible exact LeO.refl _)
      | (with_reducible exact LeO.none _)
      | (with_reducible refine LeO.ite ?_ ?_)
      | (with_reducible refine LeO.bind ?_ (fun _ => ?_))
      | exact ih0 _ _ _ _ _ _
      | exact ih1 _ _ _ _ _ _ _
      | exact ih2 _ _ _ _ _ _ _
      | exact LeO.none _
      | refine LeO.ite ?_ ?_
      | refine LeO.bind ?_ (fun _ => ?_)
theorem passepartoutref05_Same.mono : ∀ a0 a1 a2 a3 a4 a5 k, LeO (passepartoutref05_Same.f k a0 a1 a2 a3 a4 a5) (passepartoutref05_Same.f (k + 1) a0 a1 a2 a3 a4 a5) := by
  intro a0 a1 a2 a3 a4 a5 k
  obtain ⟨ih0, ih1, ih2⟩ := passepartoutref05_Same.mono_l k
  exact ih0 a0 a1 a2 a3 a4 a5
def passepartoutref05_Same.T6 : Bool × List (List Nat × List Nat) := (true, [([], []), ([0], [0]), ([], []), ([1, 2], [1, 2]), ([3], [3]), ([], []), ([5], [5]), ([], []), ([6, 7], [6, 7]), ([8], [8]), ([4, 9], [4, 9]), ([10, 10, 0, 1, 2, 3, 4, 5, 6, 7, 8, 9, 10], [10])])
def passepartoutref05_Same.B6 : List Nat := [0, 1, 0, 7, 15, 0, 32, 0, 224, 480, 1023, 2047]
theorem passepartoutref05_Same.tab6 : rtab .any (opsOf Try.f37 6) = passepartoutref05_Same.T6 := by kernel_rfl
theorem passepartoutref05_Same.bits6 : waitsOk passepartoutref05_Same.T6.2 passepartoutref05_Same.B6 = true := by kernel_rfl
set_option maxHeartbeats 8000000 in
set_option maxRecDepth 100000 in
theorem passepartoutref05_Same.calls (k : Nat) : ∀ (a0_0 : Int) (A0_1 : Option Addr) (c0_1 : Nat) (l0_1 : List Int) (A0_2 : Option Addr) (c0_2 : Nat) (l0_2 : List (S46)) (a1_0 : Int) (A1_1 : Option Addr) (c1_1 : Nat) (l1_1 : List Int) (A1_2 : Option Addr) (c1_2 : Nat) (l1_2 : List (S46)) (r : Bool) (w : World) (hr0_1 : Kd.C (Kd.int .u8) w A0_1 l0_1.length l0_1) (hc0_1 : l0_1.length ≤ c0_1) (hr0_2 : Kd.C k46 w A0_2 l0_2.length l0_2) (hc0_2 : l0_2.length ≤ c0_2) (hr1_1 : Kd.C (Kd.int .u8) w A1_1 l1_1.length l1_1) (hc1_1 : l1_1.length ≤ c1_1) (hr1_2 : Kd.C k46 w A1_2 l1_2.length l1_2) (hc1_2 : l1_2.length ≤ c1_2) (h : passepartoutref05_Same.f k a0_0 l0_1 l0_2 a1_0 l1_1 l1_2 = some r),
    Calls Try.prog 37 #[.agg #[.int .u64 a0_0, .slice A0_1 l0_1.length c0_1, .slice A0_2 l0_2.length c0_2], .agg #[.int .u64 a1_0, .slice A1_1 l1_1.length c1_1, .slice A1_2 l1_2.length c1_2]] w fun e w' => e = .returned (.bool r) ∧ Below w.heap.size w w' := by
  induction k using Nat.strongRecOn with
  | _ k ih =>
  intro a0_0 A0_1 c0_1 l0_1 A0_2 c0_2 l0_2 a1_0 A1_1 c1_1 l1_1 A1_2 c1_2 l1_2 r w hr0_1 hc0_1 hr0_2 hc0_2 hr1_1 hc1_1 hr1_2 hc1_2 h
  cases k with
  | zero => exact absurd h (by simp [passepartoutref05_Same.f])
  | succ k =>
  simp only [passepartoutref05_Same.f] at h
  have hu46 := Try.underlying46
  have HR0_1 := Aside0.mk hr0_1
  have HC0_1 := Aside0.mk hc0_1
  clear hr0_1 hc0_1
  have HR0_2 := Aside0.mk hr0_2
  have HC0_2 := Aside0.mk hc0_2
  clear hr0_2 hc0_2
  have HR1_1 := Aside0.mk hr1_1
  have HC1_1 := Aside0.mk hc1_1
  clear hr1_1 hc1_1
  have HR1_2 := Aside0.mk hr1_2
  have HC1_2 := Aside0.mk hc1_2
  clear hr1_2 hc1_2
  have HB := Aside0.mk (Below.refl w.heap.size w)
  have H : (if a0_0 = a1_0 then (if (strOfNums l0_1).toList = (strOfNums l1_1).toList then (passepartoutref05_Same.j0 k ((l0_2.length : Int) != (l1_2.length : Int)) a0_0 l0_1 l0_2 a1_0 l1_1 l1_2) else (passepartoutref05_Same.j0 k true a0_0 l0_1 l0_2 a1_0 l1_1 l1_2)) else (passepartoutref05_Same.j0 k true a0_0 l0_1 l0_2 a1_0 l1_1 l1_2)) = some r := h
  clear h
  have HC3 := Aside0.mk H
  clear H
  go_enter Try.func37, Try.ntmps37
  go_upto_region 1 with (first | ((with_reducible refine gate_dst (N := 2) rfl ?_); (try (refine gate_guard (by rfl) ?_; dsimp only)); refine box_event ?hg (N := 2) ?hd (cs := #[.int .u64 a0_0, .slice A0_1 l0_1.length c0_1, .slice A0_2 l0_2.length c0_2]) (t := 46) ?hr ?_; (case hd => rfl); (case hg => rfl); (case hr => first | (go_simp; done) | (go_simp; rfl)); intro gb298 hg w4 hbox hb; have n0_ := Aside0.mk (below_step (by repeat (first | (with_reducible first | exact HB.out | apply below_alloc | apply pw_below_drewN | apply below_drew1) | exact HB.out)) hb); have n1_ := Aside0.mk (hbox); have n2_ := Aside0.mk ((by rw [hg]; exact (below_size (by repeat (first | (with_reducible first | exact HB.out | apply below_alloc | apply pw_below_drewN | apply below_drew1) | exact HB.out))) : w.heap.size ≤ gb298)); have n3_ := Aside0.mk ((by rw [hg]; exact (below_size (by repeat (first | (with_reducible first | exact HB.out | apply below_alloc | apply pw_below_drewN | apply below_drew1) | exact HB.out))) : w.heap.size ≤ gb298)); clear HB; have HB := n0_; have BK298 := n1_; have GW298 := n2_; have GE298 := n3_; clear n0_ n1_ n2_ n3_; clear hb hbox hg) | ((with_reducible refine gate_dst (N := 3) rfl ?_); (try (refine gate_guard (by rfl) ?_; dsimp only)); refine box_event ?hg (N := 3) ?hd (cs := #[.int .u64 a1_0, .slice A1_1 l1_1.length c1_1, .slice A1_2 l1_2.length c1_2]) (t := 46) ?hr ?_; (case hd => rfl); (case hg => rfl); (case hr => first | (go_simp; done) | (go_simp; rfl)); intro gb299 hg w5 hbox hb; have n0_ := Aside0.mk (blk_below (g := gb298) (o := .cells #[.int .u64 a0_0, .slice A0_1 l0_1.length c0_1, .slice A0_2 l0_2.length c0_2] 46 (0, 0)) (by (with_reducible repeat (first | refine blk_drewN ?_ _ | refine blk_drew ?_ | refine blk_alloc ?_ _)); exact BK298.out) hb); have n1_ := Aside0.mk (below_step (by repeat (first | (with_reducible first | exact HB.out | apply below_alloc | apply pw_below_drewN | apply below_drew1 | refine below_set ?_ GE298.out) | exact HB.out)) hb); have n2_ := Aside0.mk (hbox); have n3_ := Aside0.mk ((by rw [hg]; exact (below_size (by repeat (first | (with_reducible first | exact HB.out | apply below_alloc | apply pw_below_drewN | apply below_drew1 | refine below_set ?_ GE298.out) | exact HB.out))) : w.heap.size ≤ gb299)); have n4_ := Aside0.mk ((by rw [hg]; exact (below_size (by repeat (first | (with_reducible first | exact HB.out | apply below_alloc | apply pw_below_drewN | apply below_drew1 | refine below_set ?_ GE298.out) | exact HB.out))) : w.heap.size ≤ gb299)); have n5_ := Aside0.mk ((by rw [hg]; exact Nat.ne_of_lt (blk_lt (g := gb298) (o := .cells #[.int .u64 a0_0, .slice A0_1 l0_1.length c0_1, .slice A0_2 l0_2.length c0_2] 46 (0, 0)) (by (with_reducible repeat (first | refine blk_drewN ?_ _ | refine blk_drew ?_ | refine blk_alloc ?_ _)); exact BK298.out)) : gb298 ≠ gb299)); have n6_ := Aside0.mk ((by rw [hg]; exact Nat.ne_of_gt (blk_lt (g := gb298) (o := .cells #[.int .u64 a0_0, .slice A0_1 l0_1.length c0_1, .slice A0_2 l0_2.length c0_2] 46 (0, 0)) (by (with_reducible repeat (first | refine blk_drewN ?_ _ | refine blk_drew ?_ | refine blk_alloc ?_ _)); exact BK298.out)) : gb299 ≠ gb298)); clear BK298; clear HB; have BK298 := n0_; have HB := n1_; have BK299 := n2_; have GW299 := n3_; have GE299 := n4_; have NB298_299 := n5_; have NB299_298 := n6_; clear n0_ n1_ n2_ n3_ n4_ n5_ n6_; clear hb hbox hg))
  (try simp only [Act.put, List.setIfInBounds_toArray, List.set_cons_zero, List.set_cons_succ])
  go_cut [29] (fun v29 wc => ∃ (kq : Nat) (x29_2 : Bool), v29 = .bool x29_2 ∧ Aside0 (passepartoutref05_Same.j0 kq x29_2 a0_0 l0_1 l0_2 a1_0 l1_1 l1_2 = some r) ∧ Aside0 (kq ≤ k) ∧ Aside0 (wc.heap[gb298]? = some (.cells #[.int .u64 a0_0, (.slice A0_1 l0_1.length c0_1), (.slice A0_2 l0_2.length c0_2)] 46 (0, 0))) ∧ Aside0 (wc.heap[gb299]? = some (.cells #[.int .u64 a1_0, (.slice A1_1 l1_1.length c1_1), (.slice A1_2 l1_2.length c1_2)] 46 (0, 0))) ∧ Aside0 (Below w.heap.size w wc))
  case first =>
    have H := HC3.out
    clear HC3
    by_cases c6 : a0_0 = a1_0
    · rw [if_pos c6] at H
      have c6b0 : (a0_0 == a1_0) = true := beq_iff_eq.mpr c6
      have c6b1 : (a0_0 != a1_0) = false := bne_eq_false_iff_eq.mpr c6
      clear c6
      (first | rw [c6b0] | (simp only [i64_w, i32_w]; rw [c6b0]) | skip)
      by_cases c7 : (strOfNums l0_1).toList = (strOfNums l1_1).toList
      · rw [if_pos c7] at H
        have c7b0 : ((strOfNums l0_1).toList == (strOfNums l1_1).toList) = true := beq_iff_eq.mpr c7
        have c7b1 : ((strOfNums l0_1).toList != (strOfNums l1_1).toList) = false := bne_eq_false_iff_eq.mpr c7
        clear c7
        have H' := Aside0.mk H
        clear H
        have hnb8 := NB298_299.out
        have hnc8 := NB299_298.out
        have hcz9_0 : w5.cell? ⟨gb298, 0, none⟩ = some (.int .u64 a0_0) := (blk_cell BK298.out 0).trans rfl
        have hcz9_1 : w5.cell? ⟨gb298, 1, none⟩ = some (.slice A0_1 l0_1.length c0_1) := (blk_cell BK298.out 1).trans rfl
        have hcz9_2 : w5.cell? ⟨gb298, 2, none⟩ = some (.slice A0_2 l0_2.length c0_2) := (blk_cell BK298.out 2).trans rfl
        have hfz9_0 := blk_frozen BK298.out 0
        have hfz9_1 := blk_frozen BK298.out 1
        have hfz9_2 := blk_frozen BK298.out 2
        have hcz10_0 : w5.cell? ⟨gb299, 0, none⟩ = some (.int .u64 a1_0) := (blk_cell BK299.out 0).trans rfl
        have hcz10_1 : w5.cell? ⟨gb299, 1, none⟩ = some (.slice A1_1 l1_1.length c1_1) := (blk_cell BK299.out 1).trans rfl
        have hcz10_2 : w5.cell? ⟨gb299, 2, none⟩ = some (.slice A1_2 l1_2.length c1_2) := (blk_cell BK299.out 2).trans rfl
        have hfz10_0 := blk_frozen BK299.out 0
        have hfz10_1 := blk_frozen BK299.out 1
        have hfz10_2 := blk_frozen BK299.out 2
        have hcv11 := Kd.C_string (P := Try.prog) (A := A0_1) (c := c0_1) Try.underlying43 Try.underlying5 Try.underlying9 (Kd.C_below HR0_1.out HB.out)
        have hcv12 := Kd.C_string (P := Try.prog) (A := A1_1) (c := c1_1) Try.underlying43 Try.underlying5 Try.underlying9 (Kd.C_below HR1_1.out HB.out)
        go_wp2
        go_meet
        case rel => exact ⟨_, (((l0_2.length : Int) != (l1_2.length : Int))), (by first | rfl | (simp; done) | (simp [*]; done)), H', ⟨by first | omega | exact Nat.le_refl _⟩, ⟨by (with_reducible repeat (first | refine blk_drewN ?_ _ | refine blk_drew ?_ | refine blk_alloc ?_ _)); exact BK298.out⟩, ⟨by (with_reducible repeat (first | refine blk_drewN ?_ _ | refine blk_drew ?_ | refine blk_alloc ?_ _)); exact BK299.out⟩, ⟨by repeat (first | (with_reducible first | exact HB.out | apply below_alloc | apply pw_below_drewN | apply below_drew1 | refine below_set ?_ GE298.out | refine below_set ?_ GE299.out) | exact HB.out)⟩⟩
      · rw [if_neg c7] at H
        have c7b0 : ((strOfNums l0_1).toList == (strOfNums l1_1).toList) = false := beq_eq_false_iff_ne.mpr c7
        have c7b1 : ((strOfNums l0_1).toList != (strOfNums l1_1).toList) = true := bne_iff_ne.mpr c7
        have H' := Aside0.mk H
        clear H
        have hnb13 := NB298_299.out
        have hnc13 := NB299_298.out
        have hcz14_0 : w5.cell? ⟨gb298, 0, none⟩ = some (.int .u64 a0_0) := (blk_cell BK298.out 0).trans rfl
        have hcz14_1 : w5.cell? ⟨gb298, 1, none⟩ = some (.slice A0_1 l0_1.length c0_1) := (blk_cell BK298.out 1).trans rfl
        have hcz14_2 : w5.cell? ⟨gb298, 2, none⟩ = some (.slice A0_2 l0_2.length c0_2) := (blk_cell BK298.out 2).trans rfl
        have hfz14_0 := blk_frozen BK298.out 0
        have hfz14_1 := blk_frozen BK298.out 1
        have hfz14_2 := blk_frozen BK298.out 2
        have hcz15_0 : w5.cell? ⟨gb299, 0, none⟩ = some (.int .u64 a1_0) := (blk_cell BK299.out 0).trans rfl
        have hcz15_1 : w5.cell? ⟨gb299, 1, none⟩ = some (.slice A1_1 l1_1.length c1_1) := (blk_cell BK299.out 1).trans rfl
        have hcz15_2 : w5.cell? ⟨gb299, 2, none⟩ = some (.slice A1_2 l1_2.length c1_2) := (blk_cell BK299.out 2).trans rfl
        have hfz15_0 := blk_frozen BK299.out 0
        have hfz15_1 := blk_frozen BK299.out 1
        have hfz15_2 := blk_frozen BK299.out 2
        have hcv16 := Kd.C_string (P := Try.prog) (A := A0_1) (c := c0_1) Try.underlying43 Try.underlying5 Try.underlying9 (Kd.C_below HR0_1.out HB.out)
        have hcv17 := Kd.C_string (P := Try.prog) (A := A1_1) (c := c1_1) Try.underlying43 Try.underlying5 Try.underlying9 (Kd.C_below HR1_1.out HB.out)
        go_wp2
        go_meet
        case rel => exact ⟨_, (true), (by first | rfl | (simp; done) | (simp [*]; done)), H', ⟨by first | omega | exact Nat.le_refl _⟩, ⟨by (with_reducible repeat (first | refine blk_drewN ?_ _ | refine blk_drew ?_ | refine blk_alloc ?_ _)); exact BK298.out⟩, ⟨by (with_reducible repeat (first | refine blk_drewN ?_ _ | refine blk_drew ?_ | refine blk_alloc ?_ _)); exact BK299.out⟩, ⟨by repeat (first | (with_reducible first | exact HB.out | apply below_alloc | apply pw_below_drewN | apply below_drew1 | refine below_set ?_ GE298.out | refine below_set ?_ GE299.out) | exact HB.out)⟩⟩
    · rw [if_neg c6] at H
      have c6b0 : (a0_0 == a1_0) = false := beq_eq_false_iff_ne.mpr c6
      have c6b1 : (a0_0 != a1_0) = true := bne_iff_ne.mpr c6
      (first | rw [c6b0] | (simp only [i64_w, i32_w]; rw [c6b0]) | skip)
      have H' := Aside0.mk H
      clear H
      have hnb18 := NB298_299.out
      have hnc18 := NB299_298.out
      have hcz19_0 : w5.cell? ⟨gb298, 0, none⟩ = some (.int .u64 a0_0) := (blk_cell BK298.out 0).trans rfl
      have hcz19_1 : w5.cell? ⟨gb298, 1, none⟩ = some (.slice A0_1 l0_1.length c0_1) := (blk_cell BK298.out 1).trans rfl
      have hcz19_2 : w5.cell? ⟨gb298, 2, none⟩ = some (.slice A0_2 l0_2.length c0_2) := (blk_cell BK298.out 2).trans rfl
      have hfz19_0 := blk_frozen BK298.out 0
      have hfz19_1 := blk_frozen BK298.out 1
      have hfz19_2 := blk_frozen BK298.out 2
      have hcz20_0 : w5.cell? ⟨gb299, 0, none⟩ = some (.int .u64 a1_0) := (blk_cell BK299.out 0).trans rfl
      have hcz20_1 : w5.cell? ⟨gb299, 1, none⟩ = some (.slice A1_1 l1_1.length c1_1) := (blk_cell BK299.out 1).trans rfl
      have hcz20_2 : w5.cell? ⟨gb299, 2, none⟩ = some (.slice A1_2 l1_2.length c1_2) := (blk_cell BK299.out 2).trans rfl
      have hfz20_0 := blk_frozen BK299.out 0
      have hfz20_1 := blk_frozen BK299.out 1
      have hfz20_2 := blk_frozen BK299.out 2
      go_wp2
      go_meet
      case rel => exact ⟨_, (true), (by first | rfl | (simp; done) | (simp [*]; done)), H', ⟨by first | omega | exact Nat.le_refl _⟩, ⟨by (with_reducible repeat (first | refine blk_drewN ?_ _ | refine blk_drew ?_ | refine blk_alloc ?_ _)); exact BK298.out⟩, ⟨by (with_reducible repeat (first | refine blk_drewN ?_ _ | refine blk_drew ?_ | refine blk_alloc ?_ _)); exact BK299.out⟩, ⟨by repeat (first | (with_reducible first | exact HB.out | apply below_alloc | apply pw_below_drewN | apply below_drew1 | refine below_set ?_ GE298.out | refine below_set ?_ GE299.out) | exact HB.out)⟩⟩
  case rest =>
    clear HC3
    try clear c1
    try clear hcv1
    try clear p2
    try clear c3
    try clear c6
    try clear c6b0
    try clear c6b1
    try clear c7
    try clear c7b0
    try clear c7b1
    try clear c8
    try clear hcv11
    try clear hcv12
    try clear c13
    try clear hcv16
    try clear hcv17
    try clear c18
    try clear hcz10_0
    try clear hcz10_1
    try clear hcz10_2
    try clear hcz14_0
    try clear hcz14_1
    try clear hcz14_2
    try clear hcz15_0
    try clear hcz15_1
    try clear hcz15_2
    try clear hcz19_0
    try clear hcz19_1
    try clear hcz19_2
    try clear hcz20_0
    try clear hcz20_1
    try clear hcz20_2
    try clear hcz9_0
    try clear hcz9_1
    try clear hcz9_2
    try clear hfz10_0
    try clear hfz10_1
    try clear hfz10_2
    try clear hfz14_0
    try clear hfz14_1
    try clear hfz14_2
    try clear hfz15_0
    try clear hfz15_1
    try clear hfz15_2
    try clear hfz19_0
    try clear hfz19_1
    try clear hfz19_2
    try clear hfz20_0
    try clear hfz20_1
    try clear hfz20_2
    try clear hfz9_0
    try clear hfz9_1
    try clear hfz9_2
    obtain ⟨kq, x29_2, rfl, HA, HJ2, BK298, BK299, HB⟩ := hcut
    cases kq with
    | zero => exact absurd HA.out (by simp [passepartoutref05_Same.j0])
    | succ kj2 =>
      have H := HA.out
      clear HA
      simp only [passepartoutref05_Same.j0] at H
      by_cases c21 : x29_2 = true
      · subst c21
        have H1 : (some false) = some r := by rw [if_pos rfl] at H; exact H
        clear H
        have H := H1
        clear H1
        obtain rfl := Option.some.inj H
        go_wp2
        go_ret
        exact ⟨by first | rfl | (simp [errW_none, errW_some] <;> rfl) | (simp [*, errW_none, errW_some] <;> rfl), by repeat (first | (with_reducible first | exact HB.out | apply below_alloc | apply pw_below_drewN | apply below_drew1 | refine below_set ?_ GE298.out | refine below_set ?_ GE299.out) | exact HB.out)⟩
      · replace c21 := Bool.eq_false_iff.mpr c21
        subst c21
        have H1 : (passepartoutref05_Same.l0 kj2 0 a0_0 l0_1 l0_2 a1_0 l1_1 l1_2) = some r := by rw [if_neg (show ¬ (false = true) by decide)] at H; exact H
        clear H
        have H := H1
        clear H1
        have H' := Aside0.mk H
        clear H
        go_wp2
        go_loopg [5] kj2 (fun kq v5 w' => ∃ (x5_2 : Int), v5 = .int .i64 x5_2 ∧ Aside0 (passepartoutref05_Same.l0 kq x5_2 a0_0 l0_1 l0_2 a1_0 l1_1 l1_2 = some r) ∧ Aside0 (kq ≤ kj2) ∧ Aside0 (w'.heap[gb298]? = some (.cells #[.int .u64 a0_0, (.slice A0_1 l0_1.length c0_1), (.slice A0_2 l0_2.length c0_2)] 46 (0, 0))) ∧ Aside0 (w'.heap[gb299]? = some (.cells #[.int .u64 a1_0, (.slice A1_1 l1_1.length c1_1), (.slice A1_2 l1_2.length c1_2)] 46 (0, 0))) ∧ Aside0 (Below w.heap.size w w'))
        case atStart => exact ⟨(0), (by first | rfl | (simp; done) | (simp [*]; done)), H', ⟨Nat.le_refl _⟩, ⟨by (with_reducible repeat (first | refine blk_drewN ?_ _ | refine blk_drew ?_ | refine blk_alloc ?_ _)); exact BK298.out⟩, ⟨by (with_reducible repeat (first | refine blk_drewN ?_ _ | refine blk_drew ?_ | refine blk_alloc ?_ _)); exact BK299.out⟩, ⟨by repeat (first | (with_reducible first | exact HB.out | apply below_alloc | apply pw_below_drewN | apply below_drew1 | refine below_set ?_ GE298.out | refine below_set ?_ GE299.out) | exact HB.out)⟩⟩
        case round =>
          clear H'
          try clear c1
          try clear hcv1
          try clear c2
          try clear p2
          try clear c3
          try clear c6
          try clear c6b0
          try clear c6b1
          try clear c7
          try clear c7b0
          try clear c7b1
          try clear c8
          try clear hcv11
          try clear hcv12
          try clear c13
          try clear hcv16
          try clear hcv17
          try clear c18
          try clear c21
          try clear hcz10_0
          try clear hcz10_1
          try clear hcz10_2
          try clear hcz14_0
          try clear hcz14_1
          try clear hcz14_2
          try clear hcz15_0
          try clear hcz15_1
          try clear hcz15_2
          try clear hcz19_0
          try clear hcz19_1
          try clear hcz19_2
          try clear hcz20_0
          try clear hcz20_1
          try clear hcz20_2
          try clear hcz9_0
          try clear hcz9_1
          try clear hcz9_2
          try clear hfz10_0
          try clear hfz10_1
          try clear hfz10_2
          try clear hfz14_0
          try clear hfz14_1
          try clear hfz14_2
          try clear hfz15_0
          try clear hfz15_1
          try clear hfz15_2
          try clear hfz19_0
          try clear hfz19_1
          try clear hfz19_2
          try clear hfz20_0
          try clear hfz20_1
          try clear hfz20_2
          try clear hfz9_0
          try clear hfz9_1
          try clear hfz9_2
          try clear p2
          obtain ⟨x5_2, rfl, HA, HK2, BK298, BK299, HB⟩ := hrel
          cases gk with
          | zero => exact absurd HA.out (by simp [passepartoutref05_Same.l0])
          | succ k2 =>
            have H := HA.out
            clear HA
            simp only [passepartoutref05_Same.l0] at H
            by_cases c22 : x5_2 < (l0_2.length : Int)
            · rw [if_pos c22] at H
              have c22b0 : decide (x5_2 < (l0_2.length : Int)) = true := decide_eq_true c22
              clear c22
              by_cases c23 : 0 ≤ x5_2
              · rw [if_pos c23] at H
                have c23b0 : decide (0 ≤ x5_2) = true := decide_eq_true c23
                clear c23
                by_cases c24 : x5_2 < (l1_2.length : Int)
                · rw [if_pos c24] at H
                  have c24b0 : decide (x5_2 < (l1_2.length : Int)) = true := decide_eq_true c24
                  clear c24
                  replace H := Option.bind_eq_some_iff.mp H
                  obtain ⟨t302, A250, H⟩ := H
                  replace H : (if t302 = true then (passepartoutref05_Same.l0 k2 (wrap64 (x5_2 + 1)) a0_0 l0_1 l0_2 a1_0 l1_1 l1_2) else (some false)) = some r := H
                  have A25 := Aside0.mk A250
                  clear A250
                  by_cases c26 : t302 = true
                  · subst c26
                    have H1 : (passepartoutref05_Same.l0 k2 (wrap64 (x5_2 + 1)) a0_0 l0_1 l0_2 a1_0 l1_1 l1_2) = some r := by rw [if_pos rfl] at H; exact H
                    clear H
                    have H := H1
                    clear H1
                    have H' := Aside0.mk H
                    clear H
                    have hnb27 := NB298_299.out
                    have hnc27 := NB299_298.out
                    have hcz28_0 : wr.cell? ⟨gb298, 0, none⟩ = some (.int .u64 a0_0) := (blk_cell BK298.out 0).trans rfl
                    have hcz28_1 : wr.cell? ⟨gb298, 1, none⟩ = some (.slice A0_1 l0_1.length c0_1) := (blk_cell BK298.out 1).trans rfl
                    have hcz28_2 : wr.cell? ⟨gb298, 2, none⟩ = some (.slice A0_2 l0_2.length c0_2) := (blk_cell BK298.out 2).trans rfl
                    have hfz28_0 := blk_frozen BK298.out 0
                    have hfz28_1 := blk_frozen BK298.out 1
                    have hfz28_2 := blk_frozen BK298.out 2
                    try go_wp2
                    have n0_ := Aside0.mk (blk_drew BK298.out)
                    have n1_ := Aside0.mk (blk_drew BK299.out)
                    have n2_ := Aside0.mk (below_drew1 HB.out)
                    clear BK298
                    clear BK299
                    clear HB
                    have BK298 := n0_
                    have BK299 := n1_
                    have HB := n2_
                    clear n0_ n1_ n2_
                    have p300 : 0 ≤ (x5_2 : Int) := of_decide_eq_true (by first | (with_reducible assumption) | assumption)
                    have q300 : x5_2 < (l0_2.length : Int) := of_decide_eq_true (by first | (with_reducible assumption) | assumption)
                    obtain ⟨ad300, A300_1, c300_1, A300_2, c300_2, e300, hx300_0, hx300_1, hx300_2, hl300_1, hi300_1, hl300_2, hi300_2⟩ := at_T46 HR0_2.out x5_2 p300 q300
                    have hw300_2 := hx300_2
                    have hw300_1 := hx300_1
                    have hw300_0 := hx300_0
                    cases e300
                    replace hx300_0 := (HB.out.cell (World.block_lt_of_cell? w _ hx300_0)).trans hx300_0
                    replace hx300_1 := (HB.out.cell (World.block_lt_of_cell? w _ hx300_1)).trans hx300_1
                    replace hx300_2 := (HB.out.cell (World.block_lt_of_cell? w _ hx300_2)).trans hx300_2
                    have HR300_1 := Aside0.mk hi300_1
                    have HC300_1 := Aside0.mk hl300_1
                    clear hi300_1 hl300_1
                    have HR300_2 := Aside0.mk hi300_2
                    have HC300_2 := Aside0.mk hl300_2
                    clear hi300_2 hl300_2
                    replace p300 := eq_true p300
                    replace q300 := eq_true q300
                    have p301 : 0 ≤ (x5_2 : Int) := of_decide_eq_true (by first | (with_reducible assumption) | assumption)
                    have q301 : x5_2 < (l1_2.length : Int) := of_decide_eq_true (by first | (with_reducible assumption) | assumption)
                    obtain ⟨ad301, A301_1, c301_1, A301_2, c301_2, e301, hx301_0, hx301_1, hx301_2, hl301_1, hi301_1, hl301_2, hi301_2⟩ := at_T46 HR1_2.out x5_2 p301 q301
                    have hw301_2 := hx301_2
                    have hw301_1 := hx301_1
                    have hw301_0 := hx301_0
                    cases e301
                    replace hx301_0 := (HB.out.cell (World.block_lt_of_cell? w _ hx301_0)).trans hx301_0
                    replace hx301_1 := (HB.out.cell (World.block_lt_of_cell? w _ hx301_1)).trans hx301_1
                    replace hx301_2 := (HB.out.cell (World.block_lt_of_cell? w _ hx301_2)).trans hx301_2
                    have HR301_1 := Aside0.mk hi301_1
                    have HC301_1 := Aside0.mk hl301_1
                    clear hi301_1 hl301_1
                    have HR301_2 := Aside0.mk hi301_2
                    have HC301_2 := Aside0.mk hl301_2
                    clear hi301_2 hl301_2
                    replace p301 := eq_true p301
                    replace q301 := eq_true q301
                    refine start_ (n := 12) (S := fun w' => w'.cell? ⟨gb298, 0, none⟩ = some (.int .u64 a0_0) ∧ w'.cell? ⟨gb298, 1, none⟩ = some (.slice A0_1 l0_1.length c0_1) ∧ w'.cell? ⟨gb298, 2, none⟩ = some (.slice (some ad300) l0_2.length c0_2) ∧ w'.cell? ⟨gb299, 0, none⟩ = some (.int .u64 a1_0) ∧ w'.cell? ⟨gb299, 1, none⟩ = some (.slice A1_1 l1_1.length c1_1) ∧ w'.cell? ⟨gb299, 2, none⟩ = some (.slice (some ad301) l1_2.length c1_2) ∧ w'.cell? (ad300.add ((x5_2).toNat * 3)) = some (.int .u64 ((rd_T46 l0_2 x5_2).f0)) ∧ w'.cell? ⟨(ad300.add ((x5_2).toNat * 3)).block, (ad300.add ((x5_2).toNat * 3)).off + 1, none⟩ = some (.slice A300_1 ((rd_T46 l0_2 x5_2).f1).length c300_1) ∧ w'.cell? ⟨(ad300.add ((x5_2).toNat * 3)).block, (ad300.add ((x5_2).toNat * 3)).off + 2, none⟩ = some (.slice A300_2 ((rd_T46 l0_2 x5_2).f2).length c300_2) ∧ w'.cell? (ad301.add ((x5_2).toNat * 3)) = some (.int .u64 ((rd_T46 l1_2 x5_2).f0)) ∧ w'.cell? ⟨(ad301.add ((x5_2).toNat * 3)).block, (ad301.add ((x5_2).toNat * 3)).off + 1, none⟩ = some (.slice A301_1 ((rd_T46 l1_2 x5_2).f1).length c301_1) ∧ w'.cell? ⟨(ad301.add ((x5_2).toNat * 3)).block, (ad301.add ((x5_2).toNat * 3)).off + 2, none⟩ = some (.slice A301_2 ((rd_T46 l1_2 x5_2).f2).length c301_2)) (ds := []) #[false, false, false, false, false, false, false, false, false, false, false, false] (by kernel_rfl) rfl rfl ⟨(blk_cell BK298.out 0).trans rfl, (blk_cell BK298.out 1).trans rfl, (blk_cell BK298.out 2).trans rfl, (blk_cell BK299.out 0).trans rfl, (blk_cell BK299.out 1).trans rfl, (blk_cell BK299.out 2).trans rfl, ((HB.out.cell (World.block_lt_of_cell? w _ hw300_0)).trans hw300_0), ((HB.out.cell (World.block_lt_of_cell? w _ hw300_1)).trans hw300_1), ((HB.out.cell (World.block_lt_of_cell? w _ hw300_2)).trans hw300_2), ((HB.out.cell (World.block_lt_of_cell? w _ hw301_0)).trans hw301_0), ((HB.out.cell (World.block_lt_of_cell? w _ hw301_1)).trans hw301_1), ((HB.out.cell (World.block_lt_of_cell? w _ hw301_2)).trans hw301_2)⟩ (fun hHeld => ?_); refine with_tabW passepartoutref05_Same.tab6 passepartoutref05_Same.bits6 (fun HT_ HW_ => ?_)
                    generalize wr.drew = w29 at BK298 BK299 HB HR300_1 HR300_2 HR301_1 HR301_2 hx300_0 hx300_1 hx300_2 hx301_0 hx301_1 hx301_2 hHeld ⊢
                    refine pure_ (i := 0) (N := some 37) (v := ?_) (a' := ?_) #[true, false, false, false, false, false, false, false, false, false, false, false] rfl rfl (any_of HT_.out (by kernel_rfl)) (fun _ _ _ h => h) (Or.inl ⟨by rfl, ?_⟩) ?_ ?_
                    rotate_left
                    · intro w'
                      go_simp
                      with_reducible rfl
                    rotate_left
                    · simp only [Act.put, List.setIfInBounds_toArray, List.set_cons_zero, List.set_cons_succ, i64_w, i32_w]
                      rfl
                    refine pure_ (i := 2) (N := some 39) (v := ?_) (a' := ?_) #[true, false, true, false, false, false, false, false, false, false, false, false] rfl rfl (any_of HT_.out (by kernel_rfl)) (fun _ _ _ h => h) (Or.inl ⟨by rfl, ?_⟩) ?_ ?_
                    rotate_left
                    · intro w'
                      go_simp
                      with_reducible rfl
                    rotate_left
                    · simp only [Act.put, List.setIfInBounds_toArray, List.set_cons_zero, List.set_cons_succ, i64_w, i32_w]
                      rfl
                    refine pure_ (i := 5) (N := some 42) (v := ?_) (a' := ?_) #[true, false, true, false, false, true, false, false, false, false, false, false] rfl rfl (any_of HT_.out (by kernel_rfl)) (fun _ _ _ h => h) (Or.inl ⟨by rfl, ?_⟩) ?_ ?_
                    rotate_left
                    · intro w'
                      go_simp
                      with_reducible rfl
                    rotate_left
                    · simp only [Act.put, List.setIfInBounds_toArray, List.set_cons_zero, List.set_cons_succ, i64_w, i32_w]
                      rfl
                    refine pure_ (i := 7) (N := some 44) (v := ?_) (a' := ?_) #[true, false, true, false, false, true, false, true, false, false, false, false] rfl rfl (any_of HT_.out (by kernel_rfl)) (fun _ _ _ h => h) (Or.inl ⟨by rfl, ?_⟩) ?_ ?_
                    rotate_left
                    · intro w'
                      go_simp
                      with_reducible rfl
                    rotate_left
                    · simp only [Act.put, List.setIfInBounds_toArray, List.set_cons_zero, List.set_cons_succ, i64_w, i32_w]
                      rfl
                    refine take_ (i := 1) (N := some 38) (v := ?_) (a' := ?_) #[true, true, true, false, false, true, false, true, false, false, false, false] rfl rfl (take_ofW HT_.out HW_.out (by kernel_rfl)) (fun _ _ _ h => h) (Or.inl ⟨by rfl, ?_⟩) hHeld ?_ ?_
                    rotate_left
                    · rintro w' ⟨s0, s1, s2, s3, s4, s5, s6, s7, s8, s9, s10, s11⟩
                      go_simp
                      with_reducible rfl
                    rotate_left
                    · simp only [Act.put, List.setIfInBounds_toArray, List.set_cons_zero, List.set_cons_succ, i64_w, i32_w]
                      rfl
                    refine pure_ (i := 3) (N := some 40) (v := ?_) (a' := ?_) #[true, true, true, true, false, true, false, true, false, false, false, false] rfl rfl (any_of HT_.out (by kernel_rfl)) (fun _ _ _ h => h) (Or.inl ⟨by rfl, ?_⟩) ?_ ?_
                    rotate_left
                    · intro w'
                      go_simp
                      with_reducible rfl
                    rotate_left
                    · simp only [Act.put, List.setIfInBounds_toArray, List.set_cons_zero, List.set_cons_succ, i64_w, i32_w]
                      rfl
                    refine take_ (i := 4) (N := some 41) (v := ?_) (a' := ?_) #[true, true, true, true, true, true, false, true, false, false, false, false] rfl rfl (take_ofW HT_.out HW_.out (by kernel_rfl)) (fun _ _ _ h => h) (Or.inl ⟨by rfl, ?_⟩) hHeld ?_ ?_
                    rotate_left
                    · rintro w' ⟨s0, s1, s2, s3, s4, s5, s6, s7, s8, s9, s10, s11⟩
                      go_simp
                      with_reducible rfl
                    rotate_left
                    · simp only [Act.put, List.setIfInBounds_toArray, List.set_cons_zero, List.set_cons_succ, i64_w, i32_w]
                      rfl
                    refine take_ (i := 6) (N := some 43) (v := ?_) (a' := ?_) #[true, true, true, true, true, true, true, true, false, false, false, false] rfl rfl (take_ofW HT_.out HW_.out (by kernel_rfl)) (fun _ _ _ h => h) (Or.inl ⟨by rfl, ?_⟩) hHeld ?_ ?_
                    rotate_left
                    · rintro w' ⟨s0, s1, s2, s3, s4, s5, s6, s7, s8, s9, s10, s11⟩
                      go_simp
                      with_reducible rfl
                    rotate_left
                    · simp only [Act.put, List.setIfInBounds_toArray, List.set_cons_zero, List.set_cons_succ, i64_w, i32_w]
                      rfl
                    refine pure_ (i := 8) (N := some 45) (v := ?_) (a' := ?_) #[true, true, true, true, true, true, true, true, true, false, false, false] rfl rfl (any_of HT_.out (by kernel_rfl)) (fun _ _ _ h => h) (Or.inl ⟨by rfl, ?_⟩) ?_ ?_
                    rotate_left
                    · intro w'
                      go_simp
                      with_reducible rfl
                    rotate_left
                    · simp only [Act.put, List.setIfInBounds_toArray, List.set_cons_zero, List.set_cons_succ, i64_w, i32_w]
                      rfl
                    refine take_ (i := 9) (N := some 46) (v := ?_) (a' := ?_) #[true, true, true, true, true, true, true, true, true, true, false, false] rfl rfl (take_ofW HT_.out HW_.out (by kernel_rfl)) (fun _ _ _ h => h) (Or.inl ⟨by rfl, ?_⟩) hHeld ?_ ?_
                    rotate_left
                    · rintro w' ⟨s0, s1, s2, s3, s4, s5, s6, s7, s8, s9, s10, s11⟩
                      go_simp
                      with_reducible rfl
                    rotate_left
                    · simp only [Act.put, List.setIfInBounds_toArray, List.set_cons_zero, List.set_cons_succ, i64_w, i32_w]
                      rfl
                    refine one_ (i := 10) (N := some 47) #[true, true, true, true, true, true, true, true, true, true, true, false] rfl rfl (one_of HT_.out (by kernel_rfl)) (by decide) (fun K hK => ?_)
                    refine goes_ Try.func37 (by kernel_rfl) rfl #[.agg #[.int .u64 ((rd_T46 l0_2 x5_2).f0), .slice A300_1 ((rd_T46 l0_2 x5_2).f1).length c300_1, .slice A300_2 ((rd_T46 l0_2 x5_2).f2).length c300_2], .agg #[.int .u64 ((rd_T46 l1_2 x5_2).f0), .slice A301_1 ((rd_T46 l1_2 x5_2).f1).length c301_1, .slice A301_2 ((rd_T46 l1_2 x5_2).f2).length c301_2]] (by rfl) rfl rfl (by (try simp only [List.map_toArray, List.map_cons, List.map_nil]); first | done | rfl | (simp only [List.length_drop, List.length_take]; rfl)) ?_
                    with_reducible refine (ih k2 (by have := HJ2.out; have := HK2.out; omega) ((rd_T46 l0_2 x5_2).f0) _ _ ((rd_T46 l0_2 x5_2).f1) _ _ ((rd_T46 l0_2 x5_2).f2) ((rd_T46 l1_2 x5_2).f0) _ _ ((rd_T46 l1_2 x5_2).f1) _ _ ((rd_T46 l1_2 x5_2).f2) true _ ?side1 ?side2 ?side3 ?side4 ?side5 ?side6 ?side7 ?side8 A25.out).mono ?_
                    (case side1 => repeat (first | exact (Kd.C_below HR300_1.out HB.out) | (with_reducible refine Kd.C_alloc ?_ _) | (with_reducible refine Kd.C_drewN ?_ _) | (with_reducible refine Kd.C_drew ?_)))
                    (case side2 => exact HC300_1.out)
                    (case side3 => repeat (first | exact (Kd.C_below HR300_2.out HB.out) | (with_reducible refine Kd.C_alloc ?_ _) | (with_reducible refine Kd.C_drewN ?_ _) | (with_reducible refine Kd.C_drew ?_)))
                    (case side4 => exact HC300_2.out)
                    (case side5 => repeat (first | exact (Kd.C_below HR301_1.out HB.out) | (with_reducible refine Kd.C_alloc ?_ _) | (with_reducible refine Kd.C_drewN ?_ _) | (with_reducible refine Kd.C_drew ?_)))
                    (case side6 => exact HC301_1.out)
                    (case side7 => repeat (first | exact (Kd.C_below HR301_2.out HB.out) | (with_reducible refine Kd.C_alloc ?_ _) | (with_reducible refine Kd.C_drewN ?_ _) | (with_reducible refine Kd.C_drew ?_)))
                    (case side8 => exact HC301_2.out)
                    rintro e w30 ⟨rfl, hb⟩
                    refine ⟨_, rfl, ?_⟩
                    have n0_ := Aside0.mk (blk_below (g := gb298) (o := .cells #[.int .u64 a0_0, .slice A0_1 l0_1.length c0_1, .slice (some ad300) l0_2.length c0_2] 46 (0, 0)) (by (with_reducible repeat (first | refine blk_drewN ?_ _ | refine blk_drew ?_ | refine blk_alloc ?_ _)); exact BK298.out) hb)
                    have n1_ := Aside0.mk (blk_below (g := gb299) (o := .cells #[.int .u64 a1_0, .slice A1_1 l1_1.length c1_1, .slice (some ad301) l1_2.length c1_2] 46 (0, 0)) (by (with_reducible repeat (first | refine blk_drewN ?_ _ | refine blk_drew ?_ | refine blk_alloc ?_ _)); exact BK299.out) hb)
                    have n2_ := Aside0.mk (below_step (by repeat (first | (with_reducible first | exact HB.out | apply below_alloc | apply pw_below_drewN | apply below_drew1 | refine below_set ?_ GE298.out | refine below_set ?_ GE299.out) | exact HB.out)) hb)
                    clear BK298
                    clear BK299
                    clear HB
                    have BK298 := n0_
                    have BK299 := n1_
                    have HB := n2_
                    clear n0_ n1_ n2_
                    (try clear hb)
                    (try clear hb2)
                    (try clear hk)
                    (try clear hi)
                    refine hK.out _ _ ⟨(blk_cell BK298.out 0).trans rfl, (blk_cell BK298.out 1).trans rfl, (blk_cell BK298.out 2).trans rfl, (blk_cell BK299.out 0).trans rfl, (blk_cell BK299.out 1).trans rfl, (blk_cell BK299.out 2).trans rfl, ((HB.out.cell (World.block_lt_of_cell? w _ hw300_0)).trans hw300_0), ((HB.out.cell (World.block_lt_of_cell? w _ hw300_1)).trans hw300_1), ((HB.out.cell (World.block_lt_of_cell? w _ hw300_2)).trans hw300_2), ((HB.out.cell (World.block_lt_of_cell? w _ hw301_0)).trans hw301_0), ((HB.out.cell (World.block_lt_of_cell? w _ hw301_1)).trans hw301_1), ((HB.out.cell (World.block_lt_of_cell? w _ hw301_2)).trans hw301_2)⟩ (fun hHeld => ?_)
                    clear hK K
                    refine norm_ (a' := ?_) ?_ ?_
                    rotate_left
                    · show Act.put _ (some 47) _ = _
                      simp only [Act.put, List.setIfInBounds_toArray, List.set_cons_zero, List.set_cons_succ, i64_w, i32_w]
                      rfl
                    refine pure_ (i := 11) (N := some 6) (v := ?_) (a' := ?_) #[true, true, true, true, true, true, true, true, true, true, true, true] rfl rfl (any_of HT_.out (by kernel_rfl)) (fun _ _ _ h => h) (Or.inl ⟨by rfl, ?_⟩) ?_ ?_
                    rotate_left
                    · intro w'
                      go_simp
                      with_reducible rfl
                    rotate_left
                    · simp only [Act.put, List.setIfInBounds_toArray, List.set_cons_zero, List.set_cons_succ, i64_w, i32_w]
                      rfl
                    refine done_ (done_of HT_.out (by kernel_rfl)) ?_
                    try go_wp2
                    go_roundg k2
                    case measure => have := HJ2.out; have := HK2.out; omega
                    case rel => exact ⟨(wrap64 (x5_2 + 1)), (by first | rfl | (simp; done) | (simp [*]; done)), H', ⟨by have := HJ2.out; have := HK2.out; omega⟩, ⟨by (with_reducible repeat (first | refine blk_drewN ?_ _ | refine blk_drew ?_ | refine blk_alloc ?_ _)); exact BK298.out⟩, ⟨by (with_reducible repeat (first | refine blk_drewN ?_ _ | refine blk_drew ?_ | refine blk_alloc ?_ _)); exact BK299.out⟩, ⟨by repeat (first | (with_reducible first | exact HB.out | apply below_alloc | apply pw_below_drewN | apply below_drew1 | refine below_set ?_ GE298.out | refine below_set ?_ GE299.out) | exact HB.out)⟩⟩
                  · replace c26 := Bool.eq_false_iff.mpr c26
                    subst c26
                    have H1 : (some false) = some r := by rw [if_neg (show ¬ (false = true) by decide)] at H; exact H
                    clear H
                    have H := H1
                    clear H1
                    obtain rfl := Option.some.inj H
                    have hnb31 := NB298_299.out
                    have hnc31 := NB299_298.out
                    have hcz32_0 : wr.cell? ⟨gb298, 0, none⟩ = some (.int .u64 a0_0) := (blk_cell BK298.out 0).trans rfl
                    have hcz32_1 : wr.cell? ⟨gb298, 1, none⟩ = some (.slice A0_1 l0_1.length c0_1) := (blk_cell BK298.out 1).trans rfl
                    have hcz32_2 : wr.cell? ⟨gb298, 2, none⟩ = some (.slice A0_2 l0_2.length c0_2) := (blk_cell BK298.out 2).trans rfl
                    have hfz32_0 := blk_frozen BK298.out 0
                    have hfz32_1 := blk_frozen BK298.out 1
                    have hfz32_2 := blk_frozen BK298.out 2
                    try go_wp2
                    have n0_ := Aside0.mk (blk_drew BK298.out)
                    have n1_ := Aside0.mk (blk_drew BK299.out)
                    have n2_ := Aside0.mk (below_drew1 HB.out)
                    clear BK298
                    clear BK299
                    clear HB
                    have BK298 := n0_
                    have BK299 := n1_
                    have HB := n2_
                    clear n0_ n1_ n2_
                    have p300 : 0 ≤ (x5_2 : Int) := of_decide_eq_true (by first | (with_reducible assumption) | assumption)
                    have q300 : x5_2 < (l0_2.length : Int) := of_decide_eq_true (by first | (with_reducible assumption) | assumption)
                    obtain ⟨ad300, A300_1, c300_1, A300_2, c300_2, e300, hx300_0, hx300_1, hx300_2, hl300_1, hi300_1, hl300_2, hi300_2⟩ := at_T46 HR0_2.out x5_2 p300 q300
                    have hw300_2 := hx300_2
                    have hw300_1 := hx300_1
                    have hw300_0 := hx300_0
                    cases e300
                    replace hx300_0 := (HB.out.cell (World.block_lt_of_cell? w _ hx300_0)).trans hx300_0
                    replace hx300_1 := (HB.out.cell (World.block_lt_of_cell? w _ hx300_1)).trans hx300_1
                    replace hx300_2 := (HB.out.cell (World.block_lt_of_cell? w _ hx300_2)).trans hx300_2
                    have HR300_1 := Aside0.mk hi300_1
                    have HC300_1 := Aside0.mk hl300_1
                    clear hi300_1 hl300_1
                    have HR300_2 := Aside0.mk hi300_2
                    have HC300_2 := Aside0.mk hl300_2
                    clear hi300_2 hl300_2
                    replace p300 := eq_true p300
                    replace q300 := eq_true q300
                    have p301 : 0 ≤ (x5_2 : Int) := of_decide_eq_true (by first | (with_reducible assumption) | assumption)
                    have q301 : x5_2 < (l1_2.length : Int) := of_decide_eq_true (by first | (with_reducible assumption) | assumption)
                    obtain ⟨ad301, A301_1, c301_1, A301_2, c301_2, e301, hx301_0, hx301_1, hx301_2, hl301_1, hi301_1, hl301_2, hi301_2⟩ := at_T46 HR1_2.out x5_2 p301 q301
                    have hw301_2 := hx301_2
                    have hw301_1 := hx301_1
                    have hw301_0 := hx301_0
                    cases e301
                    replace hx301_0 := (HB.out.cell (World.block_lt_of_cell? w _ hx301_0)).trans hx301_0
                    replace hx301_1 := (HB.out.cell (World.block_lt_of_cell? w _ hx301_1)).trans hx301_1
                    replace hx301_2 := (HB.out.cell (World.block_lt_of_cell? w _ hx301_2)).trans hx301_2
                    have HR301_1 := Aside0.mk hi301_1
                    have HC301_1 := Aside0.mk hl301_1
                    clear hi301_1 hl301_1
                    have HR301_2 := Aside0.mk hi301_2
                    have HC301_2 := Aside0.mk hl301_2
                    clear hi301_2 hl301_2
                    replace p301 := eq_true p301
                    replace q301 := eq_true q301
                    refine start_ (n := 12) (S := fun w' => w'.cell? ⟨gb298, 0, none⟩ = some (.int .u64 a0_0) ∧ w'.cell? ⟨gb298, 1, none⟩ = some (.slice A0_1 l0_1.length c0_1) ∧ w'.cell? ⟨gb298, 2, none⟩ = some (.slice (some ad300) l0_2.length c0_2) ∧ w'.cell? ⟨gb299, 0, none⟩ = some (.int .u64 a1_0) ∧ w'.cell? ⟨gb299, 1, none⟩ = some (.slice A1_1 l1_1.length c1_1) ∧ w'.cell? ⟨gb299, 2, none⟩ = some (.slice (some ad301) l1_2.length c1_2) ∧ w'.cell? (ad300.add ((x5_2).toNat * 3)) = some (.int .u64 ((rd_T46 l0_2 x5_2).f0)) ∧ w'.cell? ⟨(ad300.add ((x5_2).toNat * 3)).block, (ad300.add ((x5_2).toNat * 3)).off + 1, none⟩ = some (.slice A300_1 ((rd_T46 l0_2 x5_2).f1).length c300_1) ∧ w'.cell? ⟨(ad300.add ((x5_2).toNat * 3)).block, (ad300.add ((x5_2).toNat * 3)).off + 2, none⟩ = some (.slice A300_2 ((rd_T46 l0_2 x5_2).f2).length c300_2) ∧ w'.cell? (ad301.add ((x5_2).toNat * 3)) = some (.int .u64 ((rd_T46 l1_2 x5_2).f0)) ∧ w'.cell? ⟨(ad301.add ((x5_2).toNat * 3)).block, (ad301.add ((x5_2).toNat * 3)).off + 1, none⟩ = some (.slice A301_1 ((rd_T46 l1_2 x5_2).f1).length c301_1) ∧ w'.cell? ⟨(ad301.add ((x5_2).toNat * 3)).block, (ad301.add ((x5_2).toNat * 3)).off + 2, none⟩ = some (.slice A301_2 ((rd_T46 l1_2 x5_2).f2).length c301_2)) (ds := []) #[false, false, false, false, false, false, false, false, false, false, false, false] (by kernel_rfl) rfl rfl ⟨(blk_cell BK298.out 0).trans rfl, (blk_cell BK298.out 1).trans rfl, (blk_cell BK298.out 2).trans rfl, (blk_cell BK299.out 0).trans rfl, (blk_cell BK299.out 1).trans rfl, (blk_cell BK299.out 2).trans rfl, ((HB.out.cell (World.block_lt_of_cell? w _ hw300_0)).trans hw300_0), ((HB.out.cell (World.block_lt_of_cell? w _ hw300_1)).trans hw300_1), ((HB.out.cell (World.block_lt_of_cell? w _ hw300_2)).trans hw300_2), ((HB.out.cell (World.block_lt_of_cell? w _ hw301_0)).trans hw301_0), ((HB.out.cell (World.block_lt_of_cell? w _ hw301_1)).trans hw301_1), ((HB.out.cell (World.block_lt_of_cell? w _ hw301_2)).trans hw301_2)⟩ (fun hHeld => ?_); refine with_tabW passepartoutref05_Same.tab6 passepartoutref05_Same.bits6 (fun HT_ HW_ => ?_)
                    generalize wr.drew = w33 at BK298 BK299 HB HR300_1 HR300_2 HR301_1 HR301_2 hx300_0 hx300_1 hx300_2 hx301_0 hx301_1 hx301_2 hHeld ⊢
                    refine pure_ (i := 0) (N := some 37) (v := ?_) (a' := ?_) #[true, false, false, false, false, false, false, false, false, false, false, false] rfl rfl (any_of HT_.out (by kernel_rfl)) (fun _ _ _ h => h) (Or.inl ⟨by rfl, ?_⟩) ?_ ?_
                    rotate_left
                    · intro w'
                      go_simp
                      with_reducible rfl
                    rotate_left
                    · simp only [Act.put, List.setIfInBounds_toArray, List.set_cons_zero, List.set_cons_succ, i64_w, i32_w]
                      rfl
                    refine pure_ (i := 2) (N := some 39) (v := ?_) (a' := ?_) #[true, false, true, false, false, false, false, false, false, false, false, false] rfl rfl (any_of HT_.out (by kernel_rfl)) (fun _ _ _ h => h) (Or.inl ⟨by rfl, ?_⟩) ?_ ?_
                    rotate_left
                    · intro w'
                      go_simp
                      with_reducible rfl
                    rotate_left
                    · simp only [Act.put, List.setIfInBounds_toArray, List.set_cons_zero, List.set_cons_succ, i64_w, i32_w]
                      rfl
                    refine pure_ (i := 5) (N := some 42) (v := ?_) (a' := ?_) #[true, false, true, false, false, true, false, false, false, false, false, false] rfl rfl (any_of HT_.out (by kernel_rfl)) (fun _ _ _ h => h) (Or.inl ⟨by rfl, ?_⟩) ?_ ?_
                    rotate_left
                    · intro w'
                      go_simp
                      with_reducible rfl
                    rotate_left
                    · simp only [Act.put, List.setIfInBounds_toArray, List.set_cons_zero, List.set_cons_succ, i64_w, i32_w]
                      rfl
                    refine pure_ (i := 7) (N := some 44) (v := ?_) (a' := ?_) #[true, false, true, false, false, true, false, true, false, false, false, false] rfl rfl (any_of HT_.out (by kernel_rfl)) (fun _ _ _ h => h) (Or.inl ⟨by rfl, ?_⟩) ?_ ?_
                    rotate_left
                    · intro w'
                      go_simp
                      with_reducible rfl
                    rotate_left
                    · simp only [Act.put, List.setIfInBounds_toArray, List.set_cons_zero, List.set_cons_succ, i64_w, i32_w]
                      rfl
                    refine take_ (i := 1) (N := some 38) (v := ?_) (a' := ?_) #[true, true, true, false, false, true, false, true, false, false, false, false] rfl rfl (take_ofW HT_.out HW_.out (by kernel_rfl)) (fun _ _ _ h => h) (Or.inl ⟨by rfl, ?_⟩) hHeld ?_ ?_
                    rotate_left
                    · rintro w' ⟨s0, s1, s2, s3, s4, s5, s6, s7, s8, s9, s10, s11⟩
                      go_simp
                      with_reducible rfl
                    rotate_left
                    · simp only [Act.put, List.setIfInBounds_toArray, List.set_cons_zero, List.set_cons_succ, i64_w, i32_w]
                      rfl
                    refine pure_ (i := 3) (N := some 40) (v := ?_) (a' := ?_) #[true, true, true, true, false, true, false, true, false, false, false, false] rfl rfl (any_of HT_.out (by kernel_rfl)) (fun _ _ _ h => h) (Or.inl ⟨by rfl, ?_⟩) ?_ ?_
                    rotate_left
                    · intro w'
                      go_simp
                      with_reducible rfl
                    rotate_left
                    · simp only [Act.put, List.setIfInBounds_toArray, List.set_cons_zero, List.set_cons_succ, i64_w, i32_w]
                      rfl
                    refine take_ (i := 4) (N := some 41) (v := ?_) (a' := ?_) #[true, true, true, true, true, true, false, true, false, false, false, false] rfl rfl (take_ofW HT_.out HW_.out (by kernel_rfl)) (fun _ _ _ h => h) (Or.inl ⟨by rfl, ?_⟩) hHeld ?_ ?_
                    rotate_left
                    · rintro w' ⟨s0, s1, s2, s3, s4, s5, s6, s7, s8, s9, s10, s11⟩
                      go_simp
                      with_reducible rfl
                    rotate_left
                    · simp only [Act.put, List.setIfInBounds_toArray, List.set_cons_zero, List.set_cons_succ, i64_w, i32_w]
                      rfl
                    refine take_ (i := 6) (N := some 43) (v := ?_) (a' := ?_) #[true, true, true, true, true, true, true, true, false, false, false, false] rfl rfl (take_ofW HT_.out HW_.out (by kernel_rfl)) (fun _ _ _ h => h) (Or.inl ⟨by rfl, ?_⟩) hHeld ?_ ?_
                    rotate_left
                    · rintro w' ⟨s0, s1, s2, s3, s4, s5, s6, s7, s8, s9, s10, s11⟩
                      go_simp
                      with_reducible rfl
                    rotate_left
                    · simp only [Act.put, List.setIfInBounds_toArray, List.set_cons_zero, List.set_cons_succ, i64_w, i32_w]
                      rfl
                    refine pure_ (i := 8) (N := some 45) (v := ?_) (a' := ?_) #[true, true, true, true, true, true, true, true, true, false, false, false] rfl rfl (any_of HT_.out (by kernel_rfl)) (fun _ _ _ h => h) (Or.inl ⟨by rfl, ?_⟩) ?_ ?_
                    rotate_left
                    · intro w'
                      go_simp
                      with_reducible rfl
                    rotate_left
                    · simp only [Act.put, List.setIfInBounds_toArray, List.set_cons_zero, List.set_cons_succ, i64_w, i32_w]
                      rfl
                    refine take_ (i := 9) (N := some 46) (v := ?_) (a' := ?_) #[true, true, true, true, true, true, true, true, true, true, false, false] rfl rfl (take_ofW HT_.out HW_.out (by kernel_rfl)) (fun _ _ _ h => h) (Or.inl ⟨by rfl, ?_⟩) hHeld ?_ ?_
                    rotate_left
                    · rintro w' ⟨s0, s1, s2, s3, s4, s5, s6, s7, s8, s9, s10, s11⟩
                      go_simp
                      with_reducible rfl
                    rotate_left
                    · simp only [Act.put, List.setIfInBounds_toArray, List.set_cons_zero, List.set_cons_succ, i64_w, i32_w]
                      rfl
                    refine one_ (i := 10) (N := some 47) #[true, true, true, true, true, true, true, true, true, true, true, false] rfl rfl (one_of HT_.out (by kernel_rfl)) (by decide) (fun K hK => ?_)
                    refine goes_ Try.func37 (by kernel_rfl) rfl #[.agg #[.int .u64 ((rd_T46 l0_2 x5_2).f0), .slice A300_1 ((rd_T46 l0_2 x5_2).f1).length c300_1, .slice A300_2 ((rd_T46 l0_2 x5_2).f2).length c300_2], .agg #[.int .u64 ((rd_T46 l1_2 x5_2).f0), .slice A301_1 ((rd_T46 l1_2 x5_2).f1).length c301_1, .slice A301_2 ((rd_T46 l1_2 x5_2).f2).length c301_2]] (by rfl) rfl rfl (by (try simp only [List.map_toArray, List.map_cons, List.map_nil]); first | done | rfl | (simp only [List.length_drop, List.length_take]; rfl)) ?_
                    with_reducible refine (ih k2 (by have := HJ2.out; have := HK2.out; omega) ((rd_T46 l0_2 x5_2).f0) _ _ ((rd_T46 l0_2 x5_2).f1) _ _ ((rd_T46 l0_2 x5_2).f2) ((rd_T46 l1_2 x5_2).f0) _ _ ((rd_T46 l1_2 x5_2).f1) _ _ ((rd_T46 l1_2 x5_2).f2) false _ ?side1 ?side2 ?side3 ?side4 ?side5 ?side6 ?side7 ?side8 A25.out).mono ?_
                    (case side1 => repeat (first | exact (Kd.C_below HR300_1.out HB.out) | (with_reducible refine Kd.C_alloc ?_ _) | (with_reducible refine Kd.C_drewN ?_ _) | (with_reducible refine Kd.C_drew ?_)))
                    (case side2 => exact HC300_1.out)
                    (case side3 => repeat (first | exact (Kd.C_below HR300_2.out HB.out) | (with_reducible refine Kd.C_alloc ?_ _) | (with_reducible refine Kd.C_drewN ?_ _) | (with_reducible refine Kd.C_drew ?_)))
                    (case side4 => exact HC300_2.out)
                    (case side5 => repeat (first | exact (Kd.C_below HR301_1.out HB.out) | (with_reducible refine Kd.C_alloc ?_ _) | (with_reducible refine Kd.C_drewN ?_ _) | (with_reducible refine Kd.C_drew ?_)))
                    (case side6 => exact HC301_1.out)
                    (case side7 => repeat (first | exact (Kd.C_below HR301_2.out HB.out) | (with_reducible refine Kd.C_alloc ?_ _) | (with_reducible refine Kd.C_drewN ?_ _) | (with_reducible refine Kd.C_drew ?_)))
                    (case side8 => exact HC301_2.out)
                    rintro e w34 ⟨rfl, hb⟩
                    refine ⟨_, rfl, ?_⟩
                    have n0_ := Aside0.mk (blk_below (g := gb298) (o := .cells #[.int .u64 a0_0, .slice A0_1 l0_1.length c0_1, .slice (some ad300) l0_2.length c0_2] 46 (0, 0)) (by (with_reducible repeat (first | refine blk_drewN ?_ _ | refine blk_drew ?_ | refine blk_alloc ?_ _)); exact BK298.out) hb)
                    have n1_ := Aside0.mk (blk_below (g := gb299) (o := .cells #[.int .u64 a1_0, .slice A1_1 l1_1.length c1_1, .slice (some ad301) l1_2.length c1_2] 46 (0, 0)) (by (with_reducible repeat (first | refine blk_drewN ?_ _ | refine blk_drew ?_ | refine blk_alloc ?_ _)); exact BK299.out) hb)
                    have n2_ := Aside0.mk (below_step (by repeat (first | (with_reducible first | exact HB.out | apply below_alloc | apply pw_below_drewN | apply below_drew1 | refine below_set ?_ GE298.out | refine below_set ?_ GE299.out) | exact HB.out)) hb)
                    clear BK298
                    clear BK299
                    clear HB
                    have BK298 := n0_
                    have BK299 := n1_
                    have HB := n2_
                    clear n0_ n1_ n2_
                    (try clear hb)
                    (try clear hb2)
                    (try clear hk)
                    (try clear hi)
                    refine hK.out _ _ ⟨(blk_cell BK298.out 0).trans rfl, (blk_cell BK298.out 1).trans rfl, (blk_cell BK298.out 2).trans rfl, (blk_cell BK299.out 0).trans rfl, (blk_cell BK299.out 1).trans rfl, (blk_cell BK299.out 2).trans rfl, ((HB.out.cell (World.block_lt_of_cell? w _ hw300_0)).trans hw300_0), ((HB.out.cell (World.block_lt_of_cell? w _ hw300_1)).trans hw300_1), ((HB.out.cell (World.block_lt_of_cell? w _ hw300_2)).trans hw300_2), ((HB.out.cell (World.block_lt_of_cell? w _ hw301_0)).trans hw301_0), ((HB.out.cell (World.block_lt_of_cell? w _ hw301_1)).trans hw301_1), ((HB.out.cell (World.block_lt_of_cell? w _ hw301_2)).trans hw301_2)⟩ (fun hHeld => ?_)
                    clear hK K
                    refine norm_ (a' := ?_) ?_ ?_
                    rotate_left
                    · show Act.put _ (some 47) _ = _
                      simp only [Act.put, List.setIfInBounds_toArray, List.set_cons_zero, List.set_cons_succ, i64_w, i32_w]
                      rfl
                    refine pure_ (i := 11) (N := some 6) (v := ?_) (a' := ?_) #[true, true, true, true, true, true, true, true, true, true, true, true] rfl rfl (any_of HT_.out (by kernel_rfl)) (fun _ _ _ h => h) (Or.inl ⟨by rfl, ?_⟩) ?_ ?_
                    rotate_left
                    · intro w'
                      go_simp
                      with_reducible rfl
                    rotate_left
                    · simp only [Act.put, List.setIfInBounds_toArray, List.set_cons_zero, List.set_cons_succ, i64_w, i32_w]
                      rfl
                    refine done_ (done_of HT_.out (by kernel_rfl)) ?_
                    try go_wp2
                    go_ret
                    exact ⟨by first | rfl | (simp [errW_none, errW_some] <;> rfl) | (simp [*, errW_none, errW_some] <;> rfl), by repeat (first | (with_reducible first | exact HB.out | apply below_alloc | apply pw_below_drewN | apply below_drew1 | refine below_set ?_ GE298.out | refine below_set ?_ GE299.out) | exact HB.out)⟩
                · rw [if_neg c24] at H
                  exact absurd H (by simp)
              · rw [if_neg c23] at H
                exact absurd H (by simp)
            · rw [if_neg c22] at H
              have c22b0 : decide (x5_2 < (l0_2.length : Int)) = false := decide_eq_false c22
              clear c22
              obtain rfl := Option.some.inj H
              have hnb35 := NB298_299.out
              have hnc35 := NB299_298.out
              have hcz36_0 : wr.cell? ⟨gb298, 0, none⟩ = some (.int .u64 a0_0) := (blk_cell BK298.out 0).trans rfl
              have hcz36_1 : wr.cell? ⟨gb298, 1, none⟩ = some (.slice A0_1 l0_1.length c0_1) := (blk_cell BK298.out 1).trans rfl
              have hcz36_2 : wr.cell? ⟨gb298, 2, none⟩ = some (.slice A0_2 l0_2.length c0_2) := (blk_cell BK298.out 2).trans rfl
              have hfz36_0 := blk_frozen BK298.out 0
              have hfz36_1 := blk_frozen BK298.out 1
              have hfz36_2 := blk_frozen BK298.out 2
              go_wp2
              go_ret
              exact ⟨by first | rfl | (simp [errW_none, errW_some] <;> rfl) | (simp [*, errW_none, errW_some] <;> rfl), by repeat (first | (with_reducible first | exact HB.out | apply below_alloc | apply pw_below_drewN | apply below_drew1 | refine below_set ?_ GE298.out | refine below_set ?_ GE299.out) | exact HB.out)⟩

end Go.Proofs.Ytfcghajnnllmhaa.QP

namespace Go.Proofs.Ytfcghajnnllmhaa
open Go.RowKit YtfcghajnnllmhaaW.PrintWords

theorem cntv_ev (x : Vt) : ∀ m : Nat, m ≤ 2199023255552 → wfV x = true → Ev (fun k => QP.passepartoutref05_Count.f k x.a.n (bI x.a.b) (x.l.map ofV) (m : Int)) ((cntV m x : Nat) : Int) := by
  induction x using RT.induct with
  | h a l ih =>
  intro m hm hw
  obtain ⟨_, _, hl, hws⟩ := (wfV_mk _ _).1 hw
  apply Ev.step
  · intro k
    simp only [QP.passepartoutref05_Count.f]
    rfl
  rw [cntV]
  have key : ∀ (d j q : Nat), l.length - j = d → j ≤ l.length → 1 ≤ q → q ≤ m + 1 → Ev (fun k => QP.passepartoutref05_Count.l0 k (m : Int) (q : Int) (j : Int) a.n (bI a.b) (l.map ofV)) ((cntVs m q (l.drop j) : Nat) : Int) := by
    intro d
    induction d with
    | zero =>
      intro j q hd hj hq1 hq2
      apply Ev.step
      · intro k
        simp only [QP.passepartoutref05_Count.l0]
        rfl
      refine Ev.in_ (by simp; omega) ?_
      rw [cntVs_end (by omega)]
      exact Ev.now _
    | succ d ihd =>
      intro j q hd hj hq1 hq2
      have hlt : j < l.length := by omega
      apply Ev.step
      · intro k
        simp only [QP.passepartoutref05_Count.l0, rd_ofV l j hlt, ofV_f0, ofV_f1, ofV_f2]
        rfl
      refine Ev.ip (by simp; omega) ?_
      refine Ev.sp (fun hqm => ?_) (fun hqm => ?_)
      · have hqm' : q ≤ m := by omega
        have hb := cntV_bound l[j] (m - q)
        refine Ev.ip (by omega) ?_
        have h1 := ih l[j] (List.getElem_mem hlt) (m - q) (by omega) (hws _ (List.getElem_mem hlt))
        rw [w64 (by omega) (by omega), show (m : Int) - (q : Int) = ((m - q : Nat) : Int) by omega]
        refine Ev.bind h1 ?_
        rw [w64 (by omega) (by omega), w64 (by omega) (by omega), show (q : Int) + ((cntV (m - q) l[j] : Nat) : Int) = ((q + cntV (m - q) l[j] : Nat) : Int) by omega, show (j : Int) + 1 = ((j + 1 : Nat) : Int) by omega]
        refine Ev.eq_ (ihd (j + 1) (q + cntV (m - q) l[j]) (by omega) (by omega) (by omega) (by omega)) ?_
        rw [cntVs_drop (k := j) hlt, if_pos hqm']
      · rw [cntVs_end (by omega)]
        exact Ev.now _
  have h0 := key l.length 0 1 (by omega) (by omega) (by omega) (by omega)
  rw [List.drop_zero] at h0
  exact h0

theorem bytv_ev (x : Vt) : ∀ m : Nat, m ≤ 100000 → wfV x = true → Ev (fun k => QP.passepartoutref05_Bytes.f k x.a.n (bI x.a.b) (x.l.map ofV) (m : Int)) ((bytV m x : Nat) : Int) := by
  induction x using RT.induct with
  | h a l ih =>
  intro m hm hw
  obtain ⟨_, hbl, hl, hws⟩ := (wfV_mk _ _).1 hw
  apply Ev.step
  · intro k
    simp only [QP.passepartoutref05_Bytes.f]
    rfl
  rw [bytV]
  simp only [RT.a, RT.l, bI_len]
  have key : ∀ (d j q : Nat), l.length - j = d → j ≤ l.length → q ≤ m + 140737488355328 → Ev (fun k => QP.passepartoutref05_Bytes.l0 k (m : Int) (q : Int) (j : Int) a.n (bI a.b) (l.map ofV)) ((bytVs m q (l.drop j) : Nat) : Int) := by
    intro d
    induction d with
    | zero =>
      intro j q hd hj hq2
      apply Ev.step
      · intro k
        simp only [QP.passepartoutref05_Bytes.l0]
        rfl
      refine Ev.in_ (by simp; omega) ?_
      rw [bytVs_end (by omega)]
      exact Ev.now _
    | succ d ihd =>
      intro j q hd hj hq2
      have hlt : j < l.length := by omega
      apply Ev.step
      · intro k
        simp only [QP.passepartoutref05_Bytes.l0, rd_ofV l j hlt, ofV_f0, ofV_f1, ofV_f2]
        rfl
      refine Ev.ip (by simp; omega) ?_
      refine Ev.sp (fun hqm => ?_) (fun hqm => ?_)
      · have hqm' : q ≤ m := by omega
        have hb := bytV_bound l[j] (m - q) (hws _ (List.getElem_mem hlt)) (by omega)
        refine Ev.ip (by omega) ?_
        have h1 := ih l[j] (List.getElem_mem hlt) (m - q) (by omega) (hws _ (List.getElem_mem hlt))
        rw [w64 (by omega) (by omega), show (m : Int) - (q : Int) = ((m - q : Nat) : Int) by omega]
        refine Ev.bind h1 ?_
        rw [w64 (by omega) (by omega), w64 (by omega) (by omega), show (q : Int) + ((bytV (m - q) l[j] : Nat) : Int) = ((q + bytV (m - q) l[j] : Nat) : Int) by omega, show (j : Int) + 1 = ((j + 1 : Nat) : Int) by omega]
        refine Ev.eq_ (ihd (j + 1) (q + bytV (m - q) l[j]) (by omega) (by omega) (by omega)) ?_
        rw [bytVs_drop (k := j) hlt, if_pos hqm']
      · rw [bytVs_end (by omega)]
        exact Ev.now _
  have h0 := key l.length 0 a.b.length (by omega) (by omega) (by omega)
  rw [List.drop_zero] at h0
  exact h0

/-- Is a value greater than is looked at? -/
def bigV (x : Vt) : Bool := decide (2000 < cntV 2000 x) || decide (20000 < bytV 20000 x)
theorem Great_ev (f : Fm) (l : List Vt) (hf : wfF f = true) (hl : l.length ≤ 140737488355328) (hw : ∀ x ∈ l, wfV x = true) :
    Ev (fun k => QP.passepartoutlaw05_Great.f k f.a.k f.a.s f.a.lo f.a.hi f.a.st (f.l.map ofF) (l.map ofV)) (if decide (500 < cntR 500 f) || l.any bigV then 1 else 0) := by
  simp only [QP.passepartoutlaw05_Great.f]
  refine Ev.bind (cnt_ev f 500 (by omega) hf) ?_
  by_cases h5 : 500 < cntR 500 f
  · refine Ev.rp (by simp [h5]) ?_
    exact Ev.ip (by omega) (Ev.now _)
  refine Ev.in_ (by omega) ?_
  rw [List.length_map]
  have key : ∀ (d j : Nat), l.length - j = d → j ≤ l.length → Ev (fun k => QP.passepartoutlaw05_Great.l0 k (l.map ofV) (l.length : Int) (j : Int)) (if (l.drop j).any bigV then 1 else 0) := by
    intro d
    induction d with
    | zero =>
      intro j hd hj
      apply Ev.step
      · intro k
        simp only [QP.passepartoutlaw05_Great.l0]
        rfl
      refine Ev.rn (by rw [List.drop_of_length_le (by omega)]; simp) ?_
      exact Ev.in_ (by omega) (Ev.now _)
    | succ d ihd =>
      intro j hd hj
      have hlt : j < l.length := by omega
      have hwj := hw _ (List.getElem_mem hlt)
      apply Ev.step
      · intro k
        simp only [QP.passepartoutlaw05_Great.l0, rd_ofV l j hlt, ofV_f0, ofV_f1, ofV_f2]
        rfl
      refine Ev.ip (by omega) (Ev.ip (by omega) (Ev.ip (by rw [List.length_map]; omega) ?_))
      refine Ev.bind (cntv_ev l[j] 2000 (by omega) hwj) ?_
      rw [List.drop_eq_getElem_cons hlt, List.any_cons]
      by_cases h1 : 2000 < cntV 2000 l[j]
      · refine Ev.rp (by simp [bigV, h1]) (Ev.ip (by omega) (Ev.now _))
      refine Ev.in_ (by omega) (Ev.bind (bytv_ev l[j] 20000 (by omega) hwj) ?_)
      by_cases h2 : 20000 < bytV 20000 l[j]
      · refine Ev.rp (by simp [bigV, h2]) (Ev.ip (by omega) (Ev.now _))
      refine Ev.in_ (by omega) ?_
      rw [w64 (by omega) (by omega), show (j : Int) + 1 = ((j + 1 : Nat) : Int) by omega]
      have e : bigV l[j] = false := by simp [bigV, h1, h2]
      rw [e, Bool.false_or]
      exact ihd (j + 1) (by omega) (by omega)
  have h0 := key l.length 0 (by omega) (by omega)
  rw [List.drop_zero] at h0
  rw [decide_eq_false h5, Bool.false_or]
  exact h0

theorem strOf_list (a : List UInt8) : (strOfNums (bI a)).toList = a := by
  have e : strOfNums (bI a) = str a := by
    unfold strOfNums str
    have := iB_bI a
    unfold iB at this
    rw [this]
  rw [e]
  have := ByteArray.toList_eq (str a)
  rw [this]
  exact str_toList a
theorem strOf_bI (a b : List UInt8) : (strOfNums (bI a)).toList = (strOfNums (bI b)).toList ↔ a = b := by
  rw [strOf_list, strOf_list]
theorem same05_ev (x : Vt) : ∀ y : Vt, wfV x = true → wfV y = true → Ev (fun k => QP.passepartoutref05_Same.f k x.a.n (bI x.a.b) (x.l.map ofV) y.a.n (bI y.a.b) (y.l.map ofV)) (sameV x y) := by
  induction x using RT.induct with
  | h a l ih =>
  intro y hx hy
  obtain ⟨b, m⟩ := y
  obtain ⟨_, _, hl, hws⟩ := (wfV_mk _ _).1 hx
  obtain ⟨_, _, hm, hwm⟩ := (wfV_mk _ _).1 hy
  rw [sameV_mk]
  simp only [RT.a, RT.l]
  apply Ev.step
  · intro k
    simp only [QP.passepartoutref05_Same.f]
    rfl
  have hno : Ev (fun k => QP.passepartoutref05_Same.j0 k true a.n (bI a.b) (l.map ofV) b.n (bI b.b) (m.map ofV)) false := by
    apply Ev.step
    · intro k
      simp only [QP.passepartoutref05_Same.j0]
      rfl
    exact Ev.ip (by simp) (Ev.now _)
  by_cases hn : a.n = b.n
  rotate_left
  · rw [decide_eq_false hn, Bool.false_and]
    exact Ev.in_ hn hno
  rw [decide_eq_true hn, Bool.true_and]
  refine Ev.ip hn ?_
  by_cases hb : a.b = b.b
  rotate_left
  · rw [decide_eq_false hb, Bool.false_and]
    exact Ev.in_ (fun h => hb ((strOf_bI _ _).1 h)) hno
  rw [decide_eq_true hb, Bool.true_and]
  refine Ev.ip ((strOf_bI _ _).2 hb) ?_
  rw [List.length_map, List.length_map]
  by_cases hlen : l.length = m.length
  rotate_left
  · rw [sameVs_len hlen, show ((l.length : Int) != (m.length : Int)) = true by simp; omega]
    exact hno
  rw [show ((l.length : Int) != (m.length : Int)) = false by simp; omega]
  have key : ∀ (d j : Nat), l.length - j = d → j ≤ l.length → Ev (fun k => QP.passepartoutref05_Same.l0 k (j : Int) a.n (bI a.b) (l.map ofV) b.n (bI b.b) (m.map ofV)) (sameVs (l.drop j) (m.drop j)) := by
    intro d
    induction d with
    | zero =>
      intro j hd hj
      apply Ev.step
      · intro k
        simp only [QP.passepartoutref05_Same.l0]
        rfl
      rw [sameVs_end (by omega) (by omega)]
      exact Ev.in_ (by simp; omega) (Ev.now _)
    | succ d ihd =>
      intro j hd hj
      have hlt : j < l.length := by omega
      have hlm : j < m.length := by omega
      apply Ev.step
      · intro k
        simp only [QP.passepartoutref05_Same.l0, rd_ofV l j hlt, rd_ofV m j hlm, ofV_f0, ofV_f1, ofV_f2]
        rfl
      refine Ev.ip (by simp; omega) (Ev.ip (by omega) (Ev.ip (by simp; omega) ?_))
      refine Ev.bind (ih l[j] (List.getElem_mem hlt) m[j] (hws _ (List.getElem_mem hlt)) (hwm _ (List.getElem_mem hlm))) ?_
      rw [sameVs_drop hlt hlm, w64 (by omega) (by omega), show (j : Int) + 1 = ((j + 1 : Nat) : Int) by omega]
      cases sameV l[j] m[j]
      · rw [Bool.false_and]
        exact Ev.in_ (by simp) (Ev.now _)
      · rw [Bool.true_and]
        exact Ev.ip rfl (ihd (j + 1) (by omega) (by omega))
  apply Ev.step
  · intro k
    simp only [QP.passepartoutref05_Same.j0]
    rfl
  refine Ev.in_ (by simp) ?_
  have h0 := key l.length 0 (by omega) (by omega)
  rw [List.drop_zero, List.drop_zero] at h0
  exact h0
end Go.Proofs.Ytfcghajnnllmhaa

namespace Go.Proofs.Ytfcghajnnllmhaa
open Go.RowKit

theorem str_eq (a b : List UInt8) : ((str a).toList == (str b).toList) = decide (a = b) := by
  rw [Bool.eq_iff_iff]
  simp only [beq_iff_eq, decide_eq_true_eq]
  constructor
  · intro h
    apply str_inj
    apply ByteArray.ext
    have e : ∀ l : List UInt8, (str l).toList = l := fun l => by
      have := ByteArray.toList_eq (str l)
      first
        | exact this.trans (str_toList l)
        | (rw [this]; exact str_toList l)
    rw [e, e] at h
    rw [h]
  · intro h
    rw [h]
set_option maxRecDepth 100000 in
theorem beq_any (ok ok2 : Nat → Prop) (v u : Value) (a b : List UInt8) (w : World) (hv : BR w ok v a) (hu : BR w ok2 u b) :
    Calls Try.prog 59 #[v, u] w fun e w' => e = .returned (.bool (decide (a = b))) ∧ w = w' := by
  have h1 := run_str (P := Try.prog) (src := 43) (dst := 9) Try.underlying43 Try.underlying5 Try.underlying9 hv
  have h2 := run_str (P := Try.prog) (src := 43) (dst := 9) Try.underlying43 Try.underlying5 Try.underlying9 hu
  have he := str_eq a b
  generalize decide (a = b) = r at he ⊢
  generalize str a = s at h1 he
  generalize str b = t at h2 he
  clear hv hu
  go_enter Try.func59, Try.ntmps59
  go_wp2_with fail
  go_ret
  exact ⟨rfl, rfl⟩
end Go.Proofs.Ytfcghajnnllmhaa

namespace Go.Proofs.Ytfcghajnnllmhaa
open Go.RowKit

/-- How two elements are compared. -/
def CmpV (w : World) (ok ok2 : Nat → Prop) (l : List Vt) : Prop :=
  ∀ f, f ∈ l → ∀ (g : Vt) (v u : Value) (W : World), VtR W ok v f → VtR W ok2 u g → Kp (fun _ => False) w W → Calls Try.prog 40 #[v, u] W fun e w' => e = .returned (.bool (sameV f g)) ∧ Kp (fun _ => False) W w'

set_option maxRecDepth 100000 in
set_option maxHeartbeats 3200000 in
theorem veq_any (ok ok2 : Nat → Prop) (v u : Value) (l m : List Vt) (w : World) (hv : VsR w ok v l) (hu : VsR w ok2 u m) (hE : CmpV w ok ok2 l) :
    Calls Try.prog 60 #[v, u, .func (.func 40) #[] #[]] w fun e w' => e = .returned (.bool (sameVs l m)) ∧ Kp (fun _ => False) w w' := by
  obtain ⟨r, hr⟩ : ∃ r, sameVs l m = r := ⟨_, rfl⟩
  rw [hr]
  have HR := Lib.hid hr
  obtain ⟨A, c, rfl, h1, h2, _⟩ := id hv
  obtain ⟨A2, c2, rfl, h3, h4, _⟩ := id hu
  have HV := Lib.hid hv
  have HU := Lib.hid hu
  have HE := Lib.hid hE
  clear hv hu hE hr
  by_cases hlen : l.length = m.length
  · obtain ⟨n, hn⟩ : ∃ n, l.length = n := ⟨_, rfl⟩
    have HLN := Lib.hid hn
    have HMN := Lib.hid (show m.length = n by omega)
    rw [← hlen]
    rw [hn] at h1 h2 ⊢
    clear hlen hn h3 h4
    go_enter Try.func60, Try.ntmps60
    go_wp2_with fail
    go_loopw [17] (fun i wr => ∃ j : Nat, j ≤ n ∧ i = .int .i64 j ∧ sameVs (l.drop j) (m.drop j) = r ∧ Kp (fun _ => False) w wr) (fun i _ => n - (intOf i).toNat)
    case atStart => exact ⟨0, Nat.zero_le _, rfl, HR.out, Kp.refl _ _⟩
    case round =>
      obtain ⟨j, hj, rfl, he, hkr⟩ := hrel
      have HJ := Lib.hid he
      have HKR := Lib.hid hkr
      clear he
      by_cases hlt : j < n
      · have hl : j < l.length := by have := HLN.out; omega
        have hm : j < m.length := by have := HMN.out; omega
        obtain ⟨b, off, B1, d1, B2, d2, rfl, hb, hf, q0, q1, q2⟩ := (HV.out.kp hkr (fun _ _ h => h)).at_ hl
        obtain ⟨b', off', B3, d3, B4, d4, rfl, hb', hg, r0, r1, r2⟩ := (HU.out.kp hkr (fun _ _ h => h)).at_ hm
        have hmem : l[j] ∈ l := List.getElem_mem hl
        have hdr := sameVs_drop hl hm
        obtain ⟨f, hfe⟩ : ∃ f, l[j] = f := ⟨_, rfl⟩
        obtain ⟨g, hge⟩ : ∃ g, m[j] = g := ⟨_, rfl⟩
        rw [hfe] at hf q0 q1 q2 hmem hdr
        rw [hge] at hg r0 r1 r2 hdr
        have hka : ∀ o1 o2, Kp (fun _ => False) wr ((wr.alloc o1).alloc o2) := fun o1 o2 => ((Kp.refl _ _).alloc o1).alloc o2
        have HC := Lib.hid (fun o1 o2 => HE.out f hmem g _ _ ((wr.alloc o1).alloc o2) (hf.kp (hka o1 o2) (fun _ _ h => h)) (hg.kp (hka o1 o2) (fun _ _ h => h)) (hkr.then_ (hka o1 o2) (fun _ h => h.elim)))
        have HKA := Lib.hid hka
        have x0 : ∀ o, (wr.alloc o).cell? ⟨b', off' + j * 3, none⟩ = _ := fun o => ((Kp.refl (fun _ => False) wr).alloc o).cell r0 (fun h => h)
        have x1 : ∀ o, (wr.alloc o).cell? ⟨b', off' + j * 3 + 1, none⟩ = _ := fun o => ((Kp.refl (fun _ => False) wr).alloc o).cell r1 (fun h => h)
        have x2 : ∀ o, (wr.alloc o).cell? ⟨b', off' + j * 3 + 2, none⟩ = _ := fun o => ((Kp.refl (fun _ => False) wr).alloc o).cell r2 (fun h => h)
        have hi0 : (0 : Int) ≤ (j : Int) := by omega
        have hi1 : (j : Int) < (n : Int) := by omega
        generalize sameV f g = p at hdr HC
        cases p
        · have HX := Lib.hid (show r = false by rw [← HJ.out, hdr]; rfl)
          clear hdr hf hg hfe hge hmem hkr hka
          go_wp2_with fail
          refine (HC.out _ _).mono ?_
          rintro e w3 ⟨rfl, hk3⟩
          have hk := HKR.out.then_ ((HKA.out _ _).then_ hk3 (fun _ h => h.elim)) (fun _ h => h.elim)
          clear hk3
          go_wp2_with fail
          go_ret
          exact ⟨by rw [HX.out]; rfl, hk⟩
        · have HX := Lib.hid (show sameVs (l.drop (j + 1)) (m.drop (j + 1)) = r by rw [← HJ.out, hdr]; rfl)
          clear hdr hf hg hfe hge hmem hkr hka
          go_wp2_with fail
          refine (HC.out _ _).mono ?_
          rintro e w3 ⟨rfl, hk3⟩
          have HK3 := Lib.hid (HKR.out.then_ ((HKA.out _ _).then_ hk3 (fun _ h => h.elim)) (fun _ h => h.elim))
          clear hk3
          go_wp2_with fail
          go_roundw
          case rel => exact ⟨j + 1, by omega, by go_num, HX.out, HK3.out⟩
          case measure => simp [intOf]; omega
      · have hend := sameVs_end (l := l) (m := m) (k := j) (by have := HLN.out; omega) (by have := HMN.out; omega)
        have HX := Lib.hid (show r = true by rw [← HJ.out, hend])
        have hi1 : decide ((j : Int) < (n : Int)) = false := by simp; omega
        clear hend hkr
        go_wp2_with fail
        go_ret
        exact ⟨by rw [HX.out]; rfl, HKR.out⟩
  · have hx := sameVs_len hlen
    have HX := Lib.hid (show r = false by rw [← HR.out, hx])
    have hne : ((l.length : Int) != (m.length : Int)) = true := by simp; omega
    clear hlen hx
    go_enter Try.func60, Try.ntmps60
    go_wp2_with fail
    go_ret
    exact ⟨by rw [HX.out]; rfl, Kp.refl _ _⟩

set_option maxRecDepth 100000 in
set_option maxHeartbeats 3200000 in
theorem vsame_any (ok ok2 : Nat → Prop) : ∀ (f g : Vt) (v u : Value) (w : World), VtR w ok v f → VtR w ok2 u g →
    Calls Try.prog 40 #[v, u] w fun e w' => e = .returned (.bool (sameV f g)) ∧ Kp (fun _ => False) w w' := by
  intro f
  induction f using RT.induct with
  | h a l ih =>
  intro g v u w hv hu
  obtain ⟨n, B⟩ := a
  obtain ⟨⟨n', B'⟩, m⟩ := g
  obtain ⟨r, hr⟩ : ∃ r, sameV (.mk ⟨n, B⟩ l) (.mk ⟨n', B'⟩ m) = r := ⟨_, rfl⟩
  rw [hr]
  rw [sameV_mk] at hr
  simp only [] at hr
  obtain ⟨A1, c1, A2, c2, rfl, _, hc1, hl1, hb, hc2, hl2, hs⟩ := hv.parts
  obtain ⟨A3, c3, A4, c4, rfl, _, hc3, hl3, hb', hc4, hl4, hs'⟩ := hu.parts
  have hk0 : Kp (fun _ => False) w ((w.alloc (.cells #[.int .u64 n, .slice A1 B.length c1, .slice A2 l.length c2] 46)).alloc (.cells #[.int .u64 n', .slice A3 B'.length c3, .slice A4 m.length c4] 46)) := ((Kp.refl _ _).alloc _).alloc _
  have HK := Lib.hid hk0
  have HBE := Lib.hid (beq_any ok ok2 _ _ B B' _ (hb.kp hk0 (fun _ _ h => h)) (hb'.kp hk0 (fun _ _ h => h)))
  have HEQ := Lib.hid (veq_any ok ok2 _ _ l m _ (hs.kp hk0 (fun _ _ h => h)) (hs'.kp hk0 (fun _ _ h => h)) (fun f hm g v u W h1 h2 _ => ih f hm g v u W h1 h2))
  have HCA := Lib.hid (show ∀ o, (w.alloc (.cells #[.int .u64 n, .slice A1 B.length c1, .slice A2 l.length c2] 46)).alloc o = (w.alloc (.cells #[.int .u64 n, .slice A1 B.length c1, .slice A2 l.length c2] 46)).alloc o from fun _ => rfl)
  have t1 : (n == n') = decide (n = n') := by rw [Bool.eq_iff_iff]; simp
  generalize decide (n = n') = p at hr t1
  generalize decide (B = B') = q at hr HBE
  generalize sameVs l m = s at hr HEQ
  clear hv hu hb hb' hs hs' hk0 ih HCA
  cases p
  · have HX := Lib.hid (show r = false by rw [← hr]; rfl)
    clear hr
    go_enter Try.func40, Try.ntmps40
    go_wp2_with fail
    go_ret
    exact ⟨by rw [HX.out]; rfl, HK.out⟩
  cases q
  · have HX := Lib.hid (show r = false by rw [← hr]; rfl)
    clear hr
    go_enter Try.func40, Try.ntmps40
    go_wp2_with (go_at_call 59; (with_reducible refine HBE.out.mono ?_); rintro e w5 ⟨rfl, rfl⟩)
    go_ret
    exact ⟨by rw [HX.out]; rfl, HK.out⟩
  · have HX := Lib.hid (show r = s by rw [← hr]; rfl)
    clear hr
    go_enter Try.func40, Try.ntmps40
    go_wp2_with (first | (go_at_call 59; (with_reducible refine HBE.out.mono ?_); rintro e w5 ⟨rfl, rfl⟩) | (go_at_call 60; (with_reducible refine HEQ.out.mono ?_); rintro e w5 ⟨rfl, hk5⟩; have HK5 := Lib.hid (HK.out.then_ hk5 (fun _ h => h.elim)); clear hk5))
    go_ret
    exact ⟨by rw [HX.out]; rfl, HK5.out⟩
end Go.Proofs.Ytfcghajnnllmhaa

namespace Go.Proofs.Ytfcghajnnllmhaa.QP
open Go.RowKit Go.Proofs.YtfcghajnnllmhaaW.PrintWords Go.Proofs.YtfcghajnnllmhaaW.PrintLast Go.Proofs.YtfcghajnnllmhaaW.PrintMore
attribute [local go_sem] max2_int min2_int max_two min_two max_three min_three max_four min_four   -- for this text's walks alone
set_option linter.unusedVariables false
set_option linter.unusedSimpArgs false

/-! ### value_Same: function 40 -/
def value_Same.f (a0_0 : Int) (l0_1 : List Int) (l0_2 : List (S46)) (a1_0 : Int) (l1_1 : List Int) (l1_2 : List (S46)) : Option (Bool) := if wfSV ⟨a0_0, l0_1, l0_2⟩ && wfSV ⟨a1_0, l1_1, l1_2⟩ then some (sameV (toV ⟨a0_0, l0_1, l0_2⟩) (toV ⟨a1_0, l1_1, l1_2⟩)) else none
set_option maxHeartbeats 8000000 in
set_option maxRecDepth 100000 in
theorem value_Same.calls (a0_0 : Int) (A0_1 : Option Addr) (c0_1 : Nat) (l0_1 : List Int) (A0_2 : Option Addr) (c0_2 : Nat) (l0_2 : List (S46)) (a1_0 : Int) (A1_1 : Option Addr) (c1_1 : Nat) (l1_1 : List Int) (A1_2 : Option Addr) (c1_2 : Nat) (l1_2 : List (S46)) (r : Bool) (w : World) (hr0_1 : Kd.C (Kd.int .u8) w A0_1 l0_1.length l0_1) (hc0_1 : l0_1.length ≤ c0_1) (hr0_2 : Kd.C k46 w A0_2 l0_2.length l0_2) (hc0_2 : l0_2.length ≤ c0_2) (hr1_1 : Kd.C (Kd.int .u8) w A1_1 l1_1.length l1_1) (hc1_1 : l1_1.length ≤ c1_1) (hr1_2 : Kd.C k46 w A1_2 l1_2.length l1_2) (hc1_2 : l1_2.length ≤ c1_2) (h : value_Same.f a0_0 l0_1 l0_2 a1_0 l1_1 l1_2 = some r) :
    Calls Try.prog 40 #[.agg #[.int .u64 a0_0, .slice A0_1 l0_1.length c0_1, .slice A0_2 l0_2.length c0_2], .agg #[.int .u64 a1_0, .slice A1_1 l1_1.length c1_1, .slice A1_2 l1_2.length c1_2]] w fun e w' => e = .returned (.bool r) ∧ Below w.heap.size w w' := by
  unfold value_Same.f at h
  split at h
  · rename_i hw
    rw [Bool.and_eq_true] at hw
    injection h with h
    subst h
    exact (vsame_any (fun x => x < w.heap.size) (fun x => x < w.heap.size) (toV ⟨a0_0, l0_1, l0_2⟩) (toV ⟨a1_0, l1_1, l1_2⟩) _ _ w (c_VtR hr0_1 hc0_1 hr0_2 hc0_2 hw.1) (c_VtR hr1_1 hc1_1 hr1_2 hc1_2 hw.2)).mono fun e w' h => ⟨h.1, h.2.below⟩
  · cases h

end Go.Proofs.Ytfcghajnnllmhaa.QP

namespace Go.Proofs.Ytfcghajnnllmhaa.QP
open Go.RowKit Go.Proofs.YtfcghajnnllmhaaW.PrintWords Go.Proofs.YtfcghajnnllmhaaW.PrintLast Go.Proofs.YtfcghajnnllmhaaW.PrintMore
attribute [local go_sem] max2_int min2_int max_two min_two max_three min_three max_four min_four   -- for this text's walks alone
set_option linter.unusedVariables false
set_option linter.unusedSimpArgs false

/-! ### value_Count: function 41 -/
mutual
def value_Count.l0 : Nat → Int → List (S46) → Int → Int → Option (Int)
  | 0, _, _, _, _ => none
  | k + 1, x3, x7, x8, x9 => if x9 < x8 then (if 0 ≤ x9 then (if x9 < (x7.length : Int) then ((value_Count.f k ((rd_T46 x7 x9).f0) ((rd_T46 x7 x9).f1) ((rd_T46 x7 x9).f2)).bind fun t306 => (value_Count.l0 k (wrap64 (x3 + t306)) x7 x8 (wrap64 (x9 + 1)))) else (none)) else (none)) else (some x3)
def value_Count.f : Nat → Int → List Int → List (S46) → Option (Int)
  | 0, _, _, _ => none
  | k + 1, a0_0, l0_1, l0_2 => value_Count.l0 k 1 l0_2 (l0_2.length : Int) 0
end
theorem value_Count.mono_l : ∀ k, (∀ y0 y1 y2, LeO (value_Count.f k y0 y1 y2) (value_Count.f (k + 1) y0 y1 y2)) ∧ (∀ y0 y1 y2 y3, LeO (value_Count.l0 k y0 y1 y2 y3) (value_Count.l0 (k + 1) y0 y1 y2 y3))
  | 0 => ⟨fun _ _ _ r h => by simp [value_Count.f] at h, fun _ _ _ _ r h => by simp [value_Count.l0] at h⟩
  | k + 1 => by
    obtain ⟨ih0, ih1⟩ := value_Count.mono_l k
    refine ⟨?_, ?_⟩
    · intro y0 y1 y2
      unfold value_Count.f
      repeat' first
      | (with_reducible exact ih0 _ _ _)
      | (with_reducible exact ih1 _ _ _ _)
      | (with_reducible exact LeO.refl _)
      | (with_reducible exact LeO.none _)
      | (with_reducible refine LeO.ite ?_ ?_)
      | (with_reducible refine LeO.bind ?_ (fun _ => ?_))
      | exact ih0 _ _ _
      | exact ih1 _ _ _ _
      | exact LeO.none _
      | refine LeO.ite ?_ ?_
      | refine LeO.bind ?_ (fun _ => ?_)
    · intro y0 y1 y2 y3
      unfold value_Count.l0
      repeat' first
      | (with_reducible exact ih0 _ _ _)
      | (with_reducible exact ih1 _ _ _ _)
      | (with_reducible exact LeO.refl _)
      | (with_reducible exact LeO.none _)
      | (with_reducible refine LeO.ite ?_ ?_)
      | (with_reducible refine LeO.bind ?_ (fun _ => ?_))
      | exact ih0 _ _ _
      | exact ih1 _ _ _ _
      | exact LeO.none _
      | refine LeO.ite ?_ ?_
      | refine LeO.bind ?_ (fun _ => ?_)
theorem value_Count.mono : ∀ a0 a1 a2 k, LeO (value_Count.f k a0 a1 a2) (value_Count.f (k + 1) a0 a1 a2) := by
  intro a0 a1 a2 k
  obtain ⟨ih0, ih1⟩ := value_Count.mono_l k
  exact ih0 a0 a1 a2
set_option maxHeartbeats 8000000 in
set_option maxRecDepth 100000 in
theorem value_Count.calls (k : Nat) : ∀ (a0_0 : Int) (A0_1 : Option Addr) (c0_1 : Nat) (l0_1 : List Int) (A0_2 : Option Addr) (c0_2 : Nat) (l0_2 : List (S46)) (r : Int) (w : World) (hr0_1 : Kd.C (Kd.int .u8) w A0_1 l0_1.length l0_1) (hc0_1 : l0_1.length ≤ c0_1) (hr0_2 : Kd.C k46 w A0_2 l0_2.length l0_2) (hc0_2 : l0_2.length ≤ c0_2) (h : value_Count.f k a0_0 l0_1 l0_2 = some r),
    Calls Try.prog 41 #[.agg #[.int .u64 a0_0, .slice A0_1 l0_1.length c0_1, .slice A0_2 l0_2.length c0_2]] w fun e w' => e = .returned (.int .i64 r) ∧ Below w.heap.size w w' := by
  induction k using Nat.strongRecOn with
  | _ k ih =>
  intro a0_0 A0_1 c0_1 l0_1 A0_2 c0_2 l0_2 r w hr0_1 hc0_1 hr0_2 hc0_2 h
  cases k with
  | zero => exact absurd h (by simp [value_Count.f])
  | succ k =>
  simp only [value_Count.f] at h
  have hu46 := Try.underlying46
  have HR0_1 := Aside0.mk hr0_1
  have HC0_1 := Aside0.mk hc0_1
  clear hr0_1 hc0_1
  have HR0_2 := Aside0.mk hr0_2
  have HC0_2 := Aside0.mk hc0_2
  clear hr0_2 hc0_2
  have HB := Aside0.mk (Below.refl w.heap.size w)
  have H : (value_Count.l0 k 1 l0_2 (l0_2.length : Int) 0) = some r := h
  clear h
  have H' := Aside0.mk H
  clear H
  go_enter Try.func41, Try.ntmps41
  go_wp2_with (first | ((with_reducible refine gate_dst (N := 1) rfl ?_); refine box_event ?hg (N := 1) ?hd (cs := #[.int .u64 a0_0, .slice A0_1 l0_1.length c0_1, .slice A0_2 l0_2.length c0_2]) (t := 46) ?hr ?_; (case hd => rfl); (case hg => rfl); (case hr => first | (go_simp; done) | (go_simp; rfl)); intro gb303 hg w2 hbox hb; have n0_ := Aside0.mk (below_step (by repeat (first | (with_reducible first | exact HB.out | apply below_alloc | apply pw_below_drewN | apply below_drew1) | exact HB.out)) hb); have n1_ := Aside0.mk (hbox); have n2_ := Aside0.mk ((by rw [hg]; exact (below_size (by repeat (first | (with_reducible first | exact HB.out | apply below_alloc | apply pw_below_drewN | apply below_drew1) | exact HB.out))) : w.heap.size ≤ gb303)); have n3_ := Aside0.mk ((by rw [hg]; exact (below_size (by repeat (first | (with_reducible first | exact HB.out | apply below_alloc | apply pw_below_drewN | apply below_drew1) | exact HB.out))) : w.heap.size ≤ gb303)); clear HB; have HB := n0_; have BK303 := n1_; have GW303 := n2_; have GE303 := n3_; clear n0_ n1_ n2_ n3_; clear hb hbox hg; have hcz3_0 : w2.cell? ⟨gb303, 0, none⟩ = some (.int .u64 a0_0) := (blk_cell BK303.out 0).trans rfl; have hcz3_1 : w2.cell? ⟨gb303, 1, none⟩ = some (.slice A0_1 l0_1.length c0_1) := (blk_cell BK303.out 1).trans rfl; have hcz3_2 : w2.cell? ⟨gb303, 2, none⟩ = some (.slice A0_2 l0_2.length c0_2) := (blk_cell BK303.out 2).trans rfl; have hfz3_0 := blk_frozen BK303.out 0; have hfz3_1 := blk_frozen BK303.out 1; have hfz3_2 := blk_frozen BK303.out 2))
  go_loopg [3, 9] k (fun kq v3 v9 w' => ∃ (x3_1 : Int) (x9_1 : Int), v3 = .int .i64 x3_1 ∧ v9 = .int .i64 x9_1 ∧ Aside0 (value_Count.l0 kq x3_1 l0_2 (l0_2.length : Int) x9_1 = some r) ∧ Aside0 (kq ≤ k) ∧ Aside0 (w'.heap[gb303]? = some (.cells #[.int .u64 a0_0, (.slice A0_1 l0_1.length c0_1), (.slice A0_2 l0_2.length c0_2)] 46 (0, 0))) ∧ Aside0 (Below w.heap.size w w'))
  case atStart => exact ⟨(1), (0), (by first | rfl | (simp; done) | (simp [*]; done)), (by first | rfl | (simp; done) | (simp [*]; done)), H', ⟨Nat.le_refl _⟩, ⟨by (with_reducible repeat (first | refine blk_drewN ?_ _ | refine blk_drew ?_ | refine blk_alloc ?_ _)); exact BK303.out⟩, ⟨by repeat (first | (with_reducible first | exact HB.out | apply below_alloc | apply pw_below_drewN | apply below_drew1 | refine below_set ?_ GE303.out) | exact HB.out)⟩⟩
  case round =>
    clear H'
    try clear p2
    try clear hcz3_0
    try clear hcz3_1
    try clear hcz3_2
    try clear hfz3_0
    try clear hfz3_1
    try clear hfz3_2
    obtain ⟨x3_1, x9_1, rfl, rfl, HA, HK1, BK303, HB⟩ := hrel
    cases gk with
    | zero => exact absurd HA.out (by simp [value_Count.l0])
    | succ k1 =>
      have H := HA.out
      clear HA
      simp only [value_Count.l0] at H
      by_cases c4 : x9_1 < (l0_2.length : Int)
      · rw [if_pos c4] at H
        have c4b0 : decide (x9_1 < (l0_2.length : Int)) = true := decide_eq_true c4
        clear c4
        by_cases c5 : 0 ≤ x9_1
        · rw [if_pos c5] at H
          have c5b0 : decide (0 ≤ x9_1) = true := decide_eq_true c5
          clear c5
          by_cases c6 : x9_1 < (l0_2.length : Int)
          · rw [if_pos c6] at H
            have c6b0 : decide (x9_1 < (l0_2.length : Int)) = true := decide_eq_true c6
            clear c6
            replace H := Option.bind_eq_some_iff.mp H
            obtain ⟨t306, A70, H⟩ := H
            replace H : (value_Count.l0 k1 (wrap64 (x3_1 + t306)) l0_2 (l0_2.length : Int) (wrap64 (x9_1 + 1))) = some r := H
            have A7 := Aside0.mk A70
            clear A70
            have H' := Aside0.mk H
            clear H
            have p304 : 0 ≤ (x9_1 : Int) := of_decide_eq_true (by first | (with_reducible assumption) | assumption)
            have q304 : x9_1 < (l0_2.length : Int) := of_decide_eq_true (by first | (with_reducible assumption) | assumption)
            obtain ⟨ad304, A304_1, c304_1, A304_2, c304_2, e304, hx304_0, hx304_1, hx304_2, hl304_1, hi304_1, hl304_2, hi304_2⟩ := at_T46 HR0_2.out x9_1 p304 q304
            cases e304
            replace hx304_0 := (HB.out.cell (World.block_lt_of_cell? w _ hx304_0)).trans hx304_0
            replace hx304_1 := (HB.out.cell (World.block_lt_of_cell? w _ hx304_1)).trans hx304_1
            replace hx304_2 := (HB.out.cell (World.block_lt_of_cell? w _ hx304_2)).trans hx304_2
            have HR304_1 := Aside0.mk hi304_1
            have HC304_1 := Aside0.mk hl304_1
            clear hi304_1 hl304_1
            have HR304_2 := Aside0.mk hi304_2
            have HC304_2 := Aside0.mk hl304_2
            clear hi304_2 hl304_2
            replace p304 := eq_true p304
            replace q304 := eq_true q304
            go_wp2_with (first | ((with_reducible refine gate_dst (N := 5) rfl ?_); refine box_event ?hg (N := 5) ?hd (cs := #[.int .u64 0, .slice none 0 0, .slice none 0 0]) (t := 46) ?hr ?_; (case hd => rfl); (case hg => rfl); (case hr => first | (go_simp; done) | (go_simp; rfl)); intro gb305 hg w8 hbox hb; have n0_ := Aside0.mk (blk_below (g := gb303) (o := .cells #[.int .u64 a0_0, .slice A0_1 l0_1.length c0_1, .slice (some ad304) l0_2.length c0_2] 46 (0, 0)) (by (with_reducible repeat (first | refine blk_drewN ?_ _ | refine blk_drew ?_ | refine blk_alloc ?_ _)); exact BK303.out) hb); have n1_ := Aside0.mk (below_step (by repeat (first | (with_reducible first | exact HB.out | apply below_alloc | apply pw_below_drewN | apply below_drew1 | refine below_set ?_ GE303.out) | exact HB.out)) hb); have n2_ := Aside0.mk (hbox); have n3_ := Aside0.mk ((by rw [hg]; exact (below_size (by repeat (first | (with_reducible first | exact HB.out | apply below_alloc | apply pw_below_drewN | apply below_drew1 | refine below_set ?_ GE303.out) | exact HB.out))) : w.heap.size ≤ gb305)); have n4_ := Aside0.mk ((by rw [hg]; exact (below_size (by repeat (first | (with_reducible first | exact HB.out | apply below_alloc | apply pw_below_drewN | apply below_drew1 | refine below_set ?_ GE303.out) | exact HB.out))) : w.heap.size ≤ gb305)); have n5_ := Aside0.mk ((by rw [hg]; exact Nat.ne_of_lt (blk_lt (g := gb303) (o := .cells #[.int .u64 a0_0, .slice A0_1 l0_1.length c0_1, .slice (some ad304) l0_2.length c0_2] 46 (0, 0)) (by (with_reducible repeat (first | refine blk_drewN ?_ _ | refine blk_drew ?_ | refine blk_alloc ?_ _)); exact BK303.out)) : gb303 ≠ gb305)); have n6_ := Aside0.mk ((by rw [hg]; exact Nat.ne_of_gt (blk_lt (g := gb303) (o := .cells #[.int .u64 a0_0, .slice A0_1 l0_1.length c0_1, .slice (some ad304) l0_2.length c0_2] 46 (0, 0)) (by (with_reducible repeat (first | refine blk_drewN ?_ _ | refine blk_drew ?_ | refine blk_alloc ?_ _)); exact BK303.out)) : gb305 ≠ gb303)); clear BK303; clear HB; have BK303 := n0_; have HB := n1_; have BK305 := n2_; have GW305 := n3_; have GE305 := n4_; have NB303_305 := n5_; have NB305_303 := n6_; clear n0_ n1_ n2_ n3_ n4_ n5_ n6_; clear hb hbox hg; have hnb9 := NB305_303.out; have hnc9 := NB303_305.out; have hcz10_0 : w8.cell? ⟨gb305, 0, none⟩ = some (.int .u64 0) := (blk_cell BK305.out 0).trans rfl; have hcz10_1 : w8.cell? ⟨gb305, 1, none⟩ = some (.slice none 0 0) := (blk_cell BK305.out 1).trans rfl; have hcz10_2 : w8.cell? ⟨gb305, 2, none⟩ = some (.slice none 0 0) := (blk_cell BK305.out 2).trans rfl; have hfz10_0 := blk_frozen BK305.out 0; have hfz10_1 := blk_frozen BK305.out 1; have hfz10_2 := blk_frozen BK305.out 2) | ((with_reducible refine gate_callee (f := 41) rfl ?_); refine goesL_ (some 15) rfl rfl Try.func41 (by kernel_rfl) rfl #[.agg #[.int .u64 ((rd_T46 l0_2 x9_1).f0), .slice A304_1 ((rd_T46 l0_2 x9_1).f1).length c304_1, .slice A304_2 ((rd_T46 l0_2 x9_1).f2).length c304_2]] rfl (by (try simp only [List.map_toArray, List.map_cons, List.map_nil]); first | done | rfl | (simp only [List.length_drop, List.length_take]; rfl)) ?_; (with_reducible refine (ih k1 (by have := HK1.out; omega) ((rd_T46 l0_2 x9_1).f0) _ _ ((rd_T46 l0_2 x9_1).f1) _ _ ((rd_T46 l0_2 x9_1).f2) t306 _ ?side1 ?side2 ?side3 ?side4 A7.out).mono ?_); (case side1 => exact Kd.C_below HR304_1.out (by repeat (first | (with_reducible first | exact HB.out | apply below_alloc | apply pw_below_drewN | apply below_drew1 | refine below_set ?_ GE303.out | refine below_set ?_ GE305.out) | exact HB.out))); (case side2 => exact HC304_1.out); (case side3 => exact Kd.C_below HR304_2.out (by repeat (first | (with_reducible first | exact HB.out | apply below_alloc | apply pw_below_drewN | apply below_drew1 | refine below_set ?_ GE303.out | refine below_set ?_ GE305.out) | exact HB.out))); (case side4 => exact HC304_2.out); rintro e w11 ⟨rfl, hb⟩; refine ⟨_, rfl, ?_⟩; have n0_ := Aside0.mk (blk_below (g := gb303) (o := .cells #[.int .u64 a0_0, .slice A0_1 l0_1.length c0_1, .slice (some ad304) l0_2.length c0_2] 46 (0, 0)) (by (with_reducible repeat (first | refine blk_drewN ?_ _ | refine blk_drew ?_ | refine blk_alloc ?_ _)); refine blk_far ?_ NB303_305.out _; (with_reducible repeat (first | refine blk_drewN ?_ _ | refine blk_drew ?_ | refine blk_alloc ?_ _)); refine blk_far ?_ NB303_305.out _; (with_reducible repeat (first | refine blk_drewN ?_ _ | refine blk_drew ?_ | refine blk_alloc ?_ _)); refine blk_far ?_ NB303_305.out _; (with_reducible repeat (first | refine blk_drewN ?_ _ | refine blk_drew ?_ | refine blk_alloc ?_ _)); exact BK303.out) hb); have n1_ := Aside0.mk (blk_below (g := gb305) (o := .cells #[.int .u64 ((rd_T46 l0_2 x9_1).f0), .slice A304_1 ((rd_T46 l0_2 x9_1).f1).length c304_1, .slice A304_2 ((rd_T46 l0_2 x9_1).f2).length c304_2] 46 (0, 0)) (by (with_reducible repeat (first | refine blk_drewN ?_ _ | refine blk_drew ?_ | refine blk_alloc ?_ _)); refine blk_put (cs := #[.int .u64 ((rd_T46 l0_2 x9_1).f0), .slice A304_1 ((rd_T46 l0_2 x9_1).f1).length c304_1, .slice none 0 0]) ?_ 2 _ rfl; (with_reducible repeat (first | refine blk_drewN ?_ _ | refine blk_drew ?_ | refine blk_alloc ?_ _)); refine blk_put (cs := #[.int .u64 ((rd_T46 l0_2 x9_1).f0), .slice none 0 0, .slice none 0 0]) ?_ 1 _ rfl; (with_reducible repeat (first | refine blk_drewN ?_ _ | refine blk_drew ?_ | refine blk_alloc ?_ _)); refine blk_put (cs := #[.int .u64 0, .slice none 0 0, .slice none 0 0]) ?_ 0 _ rfl; (with_reducible repeat (first | refine blk_drewN ?_ _ | refine blk_drew ?_ | refine blk_alloc ?_ _)); exact BK305.out) hb); have n2_ := Aside0.mk (below_step (by repeat (first | (with_reducible first | exact HB.out | apply below_alloc | apply pw_below_drewN | apply below_drew1 | refine below_set ?_ GE303.out | refine below_set ?_ GE305.out) | exact HB.out)) hb); clear BK303; clear BK305; clear HB; have BK303 := n0_; have BK305 := n1_; have HB := n2_; clear n0_ n1_ n2_; (try clear hb); (try clear hb2); (try clear hk); (try clear hi)))
            go_roundg k1
            case measure => have := HK1.out; omega
            case rel => exact ⟨(wrap64 (x3_1 + t306)), (wrap64 (x9_1 + 1)), (by first | rfl | (simp; done) | (simp [*]; done)), (by first | rfl | (simp; done) | (simp [*]; done)), H', ⟨by have := HK1.out; omega⟩, ⟨by (with_reducible repeat (first | refine blk_drewN ?_ _ | refine blk_drew ?_ | refine blk_alloc ?_ _)); exact BK303.out⟩, ⟨by repeat (first | (with_reducible first | exact HB.out | apply below_alloc | apply pw_below_drewN | apply below_drew1 | refine below_set ?_ GE303.out | refine below_set ?_ GE305.out) | exact HB.out)⟩⟩
          · rw [if_neg c6] at H
            exact absurd H (by simp)
        · rw [if_neg c5] at H
          exact absurd H (by simp)
      · rw [if_neg c4] at H
        have c4b0 : decide (x9_1 < (l0_2.length : Int)) = false := decide_eq_false c4
        clear c4
        obtain rfl := Option.some.inj H
        go_wp2
        go_ret
        exact ⟨by first | rfl | (simp [errW_none, errW_some] <;> rfl) | (simp [*, errW_none, errW_some] <;> rfl), by repeat (first | (with_reducible first | exact HB.out | apply below_alloc | apply pw_below_drewN | apply below_drew1 | refine below_set ?_ GE303.out) | exact HB.out)⟩

end Go.Proofs.Ytfcghajnnllmhaa.QP

namespace Go.Proofs.Ytfcghajnnllmhaa
open Go.RowKit YtfcghajnnllmhaaW.PrintWords

theorem cntVs_ge {m : Nat} : ∀ (t : List Vt) (n : Nat), n ≤ cntVs m n t := by
  intro t
  induction t with
  | nil => intro n; rw [cntVs]; exact Nat.le_refl _
  | cons f t ih =>
    intro n
    rw [cntVs]
    split
    · exact Nat.le_trans (Nat.le_add_right _ _) (ih _)
    · exact Nat.le_refl _
/-- What a step of a count that ends in time says. -/
theorem cntVs_step {m n : Nat} {f : Vt} {t : List Vt} (h : cntVs m n (f :: t) ≤ m) : n ≤ m ∧ cntV (m - n) f ≤ m - n ∧ cntVs m (n + cntV (m - n) f) t ≤ m ∧ cntVs m n (f :: t) = cntVs m (n + cntV (m - n) f) t := by
  have e : cntVs m n (f :: t) = if n ≤ m then cntVs m (n + cntV (m - n) f) t else n := by rw [cntVs]
  by_cases hn : n ≤ m
  · rw [if_pos hn] at e
    rw [e] at h
    have h2 := cntVs_ge (m := m) t (n + cntV (m - n) f)
    exact ⟨hn, by omega, h, e⟩
  · rw [if_neg hn] at e
    omega
theorem cntV_grow (x : Vt) : ∀ m M : Nat, cntV m x ≤ m → m ≤ M → cntV M x = cntV m x := by
  induction x using RT.induct with
  | h a l ih =>
  intro m M h hM
  rw [cntV] at h ⊢
  rw [cntV]
  have key : ∀ (t : List Vt), (∀ f ∈ t, ∀ m M : Nat, cntV m f ≤ m → m ≤ M → cntV M f = cntV m f) → ∀ n, cntVs m n t ≤ m → cntVs M n t = cntVs m n t := by
    intro t
    induction t with
    | nil => intro _ n _; rw [cntVs, cntVs]
    | cons f t ih2 =>
      intro hf n hn
      obtain ⟨h1, h2, h3, e⟩ := cntVs_step hn
      rw [e, ← ih2 (fun g hg => hf g (by simp [hg])) _ h3]
      have e2 : cntVs M n (f :: t) = if n ≤ M then cntVs M (n + cntV (M - n) f) t else n := by rw [cntVs]
      rw [e2, if_pos (by omega), hf f (by simp) (m - n) (M - n) h2 (by omega)]
  exact key l ih 1 h

theorem vcount_ev (x : Vt) : ∀ m : Nat, m ≤ 100000 → cntV m x ≤ m → wfV x = true → Ev (fun k => QP.value_Count.f k x.a.n (bI x.a.b) (x.l.map ofV)) ((cntV m x : Nat) : Int) := by
  induction x using RT.induct with
  | h a l ih =>
  intro m hm hc hw
  obtain ⟨_, _, hl, hws⟩ := (wfV_mk _ _).1 hw
  apply Ev.step
  · intro k
    simp only [QP.value_Count.f]
    rfl
  rw [cntV] at hc ⊢
  simp only [RT.l, List.length_map]
  have key : ∀ (d j q : Nat), l.length - j = d → j ≤ l.length → cntVs m q (l.drop j) ≤ m → Ev (fun k => QP.value_Count.l0 k (q : Int) (l.map ofV) (l.length : Int) (j : Int)) ((cntVs m q (l.drop j) : Nat) : Int) := by
    intro d
    induction d with
    | zero =>
      intro j q hd hj hq
      apply Ev.step
      · intro k
        simp only [QP.value_Count.l0]
        rfl
      refine Ev.in_ (by omega) ?_
      rw [cntVs_end (by omega)]
      exact Ev.now _
    | succ d ihd =>
      intro j q hd hj hq
      have hlt : j < l.length := by omega
      apply Ev.step
      · intro k
        simp only [QP.value_Count.l0, rd_ofV l j hlt, ofV_f0, ofV_f1, ofV_f2]
        rfl
      rw [List.drop_eq_getElem_cons hlt] at hq ⊢
      obtain ⟨h1, h2, h3, e⟩ := cntVs_step hq
      refine Ev.ip (by omega) (Ev.ip (by omega) (Ev.ip (by rw [List.length_map]; omega) ?_))
      have h4 := ih l[j] (List.getElem_mem hlt) (m - q) (by omega) h2 (hws _ (List.getElem_mem hlt))
      refine Ev.bind h4 ?_
      rw [w64 (by omega) (by omega), w64 (by omega) (by omega), show (q : Int) + ((cntV (m - q) l[j] : Nat) : Int) = ((q + cntV (m - q) l[j] : Nat) : Int) by omega, show (j : Int) + 1 = ((j + 1 : Nat) : Int) by omega, e]
      exact ihd (j + 1) (q + cntV (m - q) l[j]) (by omega) (by omega) h3
  have h0 := key l.length 0 1 (by omega) (by omega) (by rw [List.drop_zero]; exact hc)
  rw [List.drop_zero] at h0
  exact h0

theorem to_mkV (x : Vt) : toV ⟨x.a.n, bI x.a.b, x.l.map ofV⟩ = x := by
  obtain ⟨⟨n, b⟩, l⟩ := x
  rw [toV_mk, map_to_ofV, iB_bI]
  rfl
theorem wfSV_of {x : Vt} (h : wfV x = true) : wfSV ⟨x.a.n, bI x.a.b, x.l.map ofV⟩ = true := by
  obtain ⟨a, l⟩ := x
  unfold wfV at h
  rw [ofV_mk] at h
  exact h
theorem vsame_f (x y : Vt) (hx : wfV x = true) (hy : wfV y = true) : QP.value_Same.f x.a.n (bI x.a.b) (x.l.map ofV) y.a.n (bI y.a.b) (y.l.map ofV) = some (sameV x y) := by
  rw [QP.value_Same.f, wfSV_of hx, wfSV_of hy, to_mkV, to_mkV]
  rfl
theorem wf_nilF : wfF nilF = true := (wfF_mk _ _).2 ⟨⟨by simp [i64B], by simp [i64B], by simp [i64B], by simp [i64B], by simp [i64B]⟩, by simp, fun _ h => by cases h⟩
theorem cnt_nilF : decide (500 < cntR 500 nilF) = false := by decide +kernel
/-- The looked-at sizes of a row of values. -/
theorem greatV_ev (l : List Vt) (hl : l.length ≤ 140737488355328) (hw : ∀ x ∈ l, wfV x = true) :
    Ev (fun k => QP.passepartoutlaw05_Great.f k 0 0 0 0 0 ([] : List SF) (l.map ofV)) (if l.any bigV then 1 else 0) := by
  have h := Great_ev nilF l wf_nilF hl hw
  rw [cnt_nilF, Bool.false_or] at h
  exact h
end Go.Proofs.Ytfcghajnnllmhaa

namespace Go.Proofs.Ytfcghajnnllmhaa.QP
open Go.RowKit Go.Proofs.YtfcghajnnllmhaaW.PrintWords Go.Proofs.YtfcghajnnllmhaaW.PrintLast Go.Proofs.YtfcghajnnllmhaaW.PrintMore
attribute [local go_sem] max2_int min2_int max_two min_two max_three min_three max_four min_four   -- for this text's walks alone
set_option linter.unusedVariables false
set_option linter.unusedSimpArgs false

/-! ### value_alone: function 70 -/
def value_alone.f (a0 : Int) (a1_0 : Int) (l1_1 : List Int) (l1_2 : List (S46)) : Option (Bool) := if okI a0 = true then some (aloneB a0 a1_0 l1_1.length l1_2.length) else none
set_option maxHeartbeats 8000000 in
set_option maxRecDepth 100000 in
theorem value_alone.calls (a0 : Int) (a1_0 : Int) (A1_1 : Option Addr) (c1_1 : Nat) (l1_1 : List Int) (A1_2 : Option Addr) (c1_2 : Nat) (l1_2 : List (S46)) (r : Bool) (w : World)  (hr1_1 : Kd.C (Kd.int .u8) w A1_1 l1_1.length l1_1) (hc1_1 : l1_1.length ≤ c1_1) (hr1_2 : Kd.C k46 w A1_2 l1_2.length l1_2) (hc1_2 : l1_2.length ≤ c1_2) (h : value_alone.f a0 a1_0 l1_1 l1_2 = some r) :
    Calls Try.prog 70 #[.int .i64 a0, .agg #[.int .u64 a1_0, .slice A1_1 l1_1.length c1_1, .slice A1_2 l1_2.length c1_2]] w fun e w' => e = .returned (.bool r) ∧ Below w.heap.size w w' := by
  unfold value_alone.f at h
  split at h
  · rename_i hw
    injection h with h
    subst h
    exact (alone_any a0 a1_0 (okI_wf hw) A1_1 A1_2 l1_1.length l1_2.length c1_1 c1_2 w).mono fun e w' h => ⟨h.1, h.2.below⟩
  · cases h

end Go.Proofs.Ytfcghajnnllmhaa.QP

namespace Go.Proofs.Ytfcghajnnllmhaa.QP
open Go.RowKit Go.Proofs.YtfcghajnnllmhaaW.PrintWords Go.Proofs.YtfcghajnnllmhaaW.PrintLast Go.Proofs.YtfcghajnnllmhaaW.PrintMore
attribute [local go_sem] max2_int min2_int max_two min_two max_three min_three max_four min_four   -- for this text's walks alone
set_option linter.unusedVariables false
set_option linter.unusedSimpArgs false

/-! ### value_may: function 71 -/
def value_may.f (a0 : Int) (a1 : Int) (a2 : Int) (a3 : Int) : Option (Int) := if a0 < a1 then (some 5) else (if a0 > a2 then (some 5) else (if a3 = 0 then (none) else (if (Int.tmod a0 a3) = 0 then (some 0) else (some 5))))
set_option maxHeartbeats 8000000 in
set_option maxRecDepth 100000 in
theorem value_may.calls (a0 : Int) (a1 : Int) (a2 : Int) (a3 : Int) (r : Int) (w : World) (h : value_may.f a0 a1 a2 a3 = some r) :
    Calls Try.prog 71 #[.int .i64 a0, .int .i64 a1, .int .i64 a2, .int .i64 a3] w fun e w' => e = .returned (.int .i64 r) ∧ Drawn0 w w' := by
  have H : (if a0 < a1 then (some 5) else (if a0 > a2 then (some 5) else (if a3 = 0 then (none) else (if (Int.tmod a0 a3) = 0 then (some 0) else (some 5))))) = some r := h
  clear h
  by_cases c5 : a0 < a1
  · rw [if_pos c5] at H
    have c5b0 : decide (a0 < a1) = true := decide_eq_true c5
    clear c5
    obtain rfl := Option.some.inj H
    go_enter Try.func71, Try.ntmps71
    go_wp2
    go_ret
    exact ⟨by first | rfl | (simp; done) | (simp [*]; done), by repeat (first | exact Drawn0.refl _ | apply Drawn0.step)⟩
  · rw [if_neg c5] at H
    have c5b0 : decide (a0 < a1) = false := decide_eq_false c5
    clear c5
    by_cases c6 : a0 > a2
    · rw [if_pos c6] at H
      have c6b0 : decide (a2 < a0) = true := decide_eq_true c6
      clear c6
      obtain rfl := Option.some.inj H
      go_enter Try.func71, Try.ntmps71
      go_wp2
      go_ret
      exact ⟨by first | rfl | (simp; done) | (simp [*]; done), by repeat (first | exact Drawn0.refl _ | apply Drawn0.step)⟩
    · rw [if_neg c6] at H
      have c6b0 : decide (a2 < a0) = false := decide_eq_false c6
      clear c6
      by_cases c7 : a3 = 0
      · rw [if_pos c7] at H
        exact absurd H (by simp)
      · rw [if_neg c7] at H
        have c7b0 : (a3 == 0) = false := beq_eq_false_iff_ne.mpr c7
        have c7b1 : (a3 != 0) = true := bne_iff_ne.mpr c7
        by_cases c8 : (Int.tmod a0 a3) = 0
        · rw [if_pos c8] at H
          have c8b0 : ((Int.tmod a0 a3) == 0) = true := beq_iff_eq.mpr c8
          have c8b1 : ((Int.tmod a0 a3) != 0) = false := bne_eq_false_iff_eq.mpr c8
          clear c8
          obtain rfl := Option.some.inj H
          go_enter Try.func71, Try.ntmps71
          go_wp2
          go_ret
          exact ⟨by first | rfl | (simp; done) | (simp [*]; done), by repeat (first | exact Drawn0.refl _ | apply Drawn0.step)⟩
        · rw [if_neg c8] at H
          have c8b0 : ((Int.tmod a0 a3) == 0) = false := beq_eq_false_iff_ne.mpr c8
          have c8b1 : ((Int.tmod a0 a3) != 0) = true := bne_iff_ne.mpr c8
          obtain rfl := Option.some.inj H
          go_enter Try.func71, Try.ntmps71
          go_wp2
          go_ret
          exact ⟨by first | rfl | (simp; done) | (simp [*]; done), by repeat (first | exact Drawn0.refl _ | apply Drawn0.step)⟩

end Go.Proofs.Ytfcghajnnllmhaa.QP
