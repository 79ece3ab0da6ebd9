/-
  Forms: my trees (Fm) and the printed texts' (SF), told in each other's words.
-/
import Derived.Test.YtfcghajnnllmhaaQPx0
import Derived.Test.YtfcghajnnllmhaaTrF
import Derived.Test.YtfcghajnnllmhaaTreeFlat
namespace Go.Proofs.Ytfcghajnnllmhaa
open Go.RowKit

abbrev SF := QP.S27
abbrev kF : YtfcghajnnllmhaaW.PrintWords.Kd SF := QP.k27
mutual
def toF : SF → Fm
  | ⟨a, b, c, d, e, l⟩ => .mk ⟨a, b, c, d, e⟩ (toFs l)
def toFs : List SF → List Fm
  | [] => []
  | x :: l => toF x :: toFs l
end
mutual
def ofF : Fm → SF
  | .mk a l => ⟨a.k, a.s, a.lo, a.hi, a.st, ofFs l⟩
def ofFs : List Fm → List SF
  | [] => []
  | x :: l => ofF x :: ofFs l
end
theorem toFs_map (l : List SF) : toFs l = l.map toF := by
  induction l with
  | nil => rw [toFs]; rfl
  | cons x l ih => rw [toFs, ih]; rfl
theorem ofFs_map (l : List Fm) : ofFs l = l.map ofF := by
  induction l with
  | nil => rw [ofFs]; rfl
  | cons x l ih => rw [ofFs, ih]; rfl
theorem toF_mk (a b c d e : Int) (l : List SF) : toF ⟨a, b, c, d, e, l⟩ = .mk ⟨a, b, c, d, e⟩ (l.map toF) := by rw [toF, toFs_map]
theorem ofF_mk (a : FH) (l : List Fm) : ofF (.mk a l) = ⟨a.k, a.s, a.lo, a.hi, a.st, l.map ofF⟩ := by rw [ofF, ofFs_map]
theorem to_ofF (x : Fm) : toF (ofF x) = x := by
  induction x using RT.induct with
  | h a l ih =>
  rw [ofF_mk, toF_mk]
  congr 1
  rw [List.map_map]
  conv => rhs; rw [← List.map_id l]
  exact List.map_congr_left ih
theorem map_to_ofF (l : List Fm) : (l.map ofF).map toF = l := by
  rw [List.map_map]
  conv => rhs; rw [← List.map_id l]
  exact List.map_congr_left (fun x _ => to_ofF x)
/-- An element, as the printed texts read it. -/
theorem rd_ofF (l : List Fm) (j : Nat) (h : j < l.length) : QP.rd_T27 (l.map ofF) (j : Int) = ofF l[j] := by
  simp [QP.rd_T27, h]
def okI (x : Int) : Bool := decide (-9223372036854775808 ≤ x) && decide (x < 9223372036854775808)
theorem okI_iff (x : Int) : okI x = true ↔ i64B x := by simp [okI, i64B]
def okFH (a : FH) : Bool := okI a.k && (okI a.s && (okI a.lo && (okI a.hi && okI a.st)))
theorem okFH_iff (a : FH) : okFH a = true ↔ a.ok := by
  simp only [okFH, Bool.and_eq_true, okI_iff]
  exact ⟨fun ⟨h1, h2, h3, h4, h5⟩ => ⟨h1, h2, h3, h4, h5⟩, fun h => ⟨h.k, h.s, h.lo, h.hi, h.st⟩⟩
mutual
/-- Numbers of 64 bits, and lengths that there may be. -/
def wfF : Fm → Bool
  | .mk a l => okFH a && (decide (l.length ≤ 140737488355328) && wfFs l)
def wfFs : List Fm → Bool
  | [] => true
  | x :: l => wfF x && wfFs l
end
theorem wfFs_iff (l : List Fm) : wfFs l = true ↔ ∀ x ∈ l, wfF x = true := by
  induction l with
  | nil => rw [wfFs]; simp
  | cons x l ih => rw [wfFs]; simp [ih]
theorem wfF_mk (a : FH) (l : List Fm) : wfF (.mk a l) = true ↔ a.ok ∧ l.length ≤ 140737488355328 ∧ ∀ x ∈ l, wfF x = true := by
  rw [wfF]
  simp only [Bool.and_eq_true, okFH_iff, decide_eq_true_eq, wfFs_iff]
section
open YtfcghajnnllmhaaW.PrintWords
theorem tr_wfF {w : World} {ok : Nat → Prop} (x : Fm) : ∀ cs, TR FHd 6 w ok x cs → wfF x = true := by
  induction x using RT.induct with
  | h a l ih =>
  intro cs h
  obtain ⟨hd, A, c, _, _, ⟨_, ho⟩, _, h2, h3⟩ := (TR_def _ _ _ _ _ _).1 h
  refine (wfF_mk _ _).2 ⟨ho, h2, fun x hx => ?_⟩
  obtain ⟨i, hi, rfl⟩ := List.mem_iff_getElem.1 hx
  obtain ⟨b, off, cs', _, _, ht, _⟩ := h3.at_ hi
  exact ih _ hx cs' ht
theorem tl_c {w : World} {ok : Nat → Prop} {l : List Fm} {A : Option Addr} (hl : l.length ≤ 140737488355328) (h : TL FHd 6 w ok l A) (hk : ∀ x ∈ l, ∀ cs, TR FHd 6 w ok x cs → kF.K w (ofF x) cs) : kF.C w A (l.map ofF).length (l.map ofF) := by
  refine ⟨rfl, by rw [List.length_map]; omega, fun h0 => ?_⟩
  rw [List.length_map] at h0
  obtain ⟨b, off, e, _, ht⟩ := h h0
  refine ⟨_, e, fun j p hj => ?_⟩
  rw [List.getElem?_map] at hj
  obtain ⟨x, hx, rfl⟩ := Option.map_eq_some_iff.1 hj
  obtain ⟨hjl, rfl⟩ := List.getElem?_eq_some_iff.1 hx
  obtain ⟨cs, h1, h2⟩ := ht.at_ hjl
  refine ⟨cs, ?_, hk _ (List.getElem_mem hjl) cs h1, fun i u hu => ?_⟩
  · obtain ⟨hd, A', c', e', hl', _⟩ := (TR_def _ _ _ _ _ _).1 h1
    rw [e', List.length_append]
    exact hl'
  · rw [add_spot]
    have := h2 i u hu
    rwa [Nat.add_assoc] at this
theorem tr_k {w : World} {ok : Nat → Prop} (x : Fm) : ∀ cs, TR FHd 6 w ok x cs → kF.K w (ofF x) cs := by
  induction x using RT.induct with
  | h a l ih =>
  intro cs h
  obtain ⟨hd, A, c, e, _, ⟨hh, _⟩, h1, h2, h3⟩ := (TR_def _ _ _ _ _ _).1 h
  subst hh
  subst e
  rw [ofF_mk]
  have hc := tl_c h2 h3 ih
  have := QP.k27_mk w ⟨a.k, a.s, a.lo, a.hi, a.st, l.map ofF⟩ (A5 := A) (c5 := c) (by simpa using (show l.length ≤ c from h1)) hc
  rw [List.length_map] at this
  exact this
/-- Forms in a slice, for the printed texts. -/
theorem FsR.c {w : World} {ok : Nat → Prop} {A : Option Addr} {n c : Nat} {l : List Fm} (h : FsR w ok (.slice A n c) l) : n = (l.map ofF).length ∧ (l.map ofF).length ≤ c ∧ kF.C w A (l.map ofF).length (l.map ofF) := by
  obtain ⟨A', c', e, h1, h2, h3⟩ := h
  injection e with e1 e2 e3
  subst e1 e2 e3
  exact ⟨by simp, by simpa using h1, tl_c h2 h3 (fun x _ => tr_k x)⟩
theorem FsR.wf {w : World} {ok : Nat → Prop} {v : Value} {l : List Fm} (h : FsR w ok v l) : l.length ≤ 140737488355328 ∧ ∀ x ∈ l, wfF x = true := by
  obtain ⟨A', c', e, h1, h2, h3⟩ := h
  refine ⟨h2, fun x hx => ?_⟩
  obtain ⟨i, hi, rfl⟩ := List.mem_iff_getElem.1 hx
  obtain ⟨b, off, cs', _, _, ht, _⟩ := h3.at_ hi
  exact tr_wfF _ cs' ht
/-- The other way. -/
theorem c_tl {w : World} {l : List SF} {A : Option Addr} {n : Nat} (h : kF.C w A n l) (hk : ∀ x ∈ l, ∀ cs, kF.K w x cs → TR FHd 6 w (· < w.heap.size) (toF x) cs) : TL FHd 6 w (· < w.heap.size) (l.map toF) A := by
  intro h0
  rw [List.length_map] at h0
  obtain ⟨hl, _, hc⟩ := h
  obtain ⟨ad, e, hcell⟩ := hc (by omega)
  have each : ∀ i (hi : i < l.length), ∃ cs, TR FHd 6 w (· < w.heap.size) (toF l[i]) cs ∧ ∀ j u, cs[j]? = some u → w.cell? (ad.add (i * 6 + j)) = some u := by
    intro i hi
    obtain ⟨cs, _, h2, h3⟩ := hcell i _ (List.getElem?_eq_getElem hi)
    exact ⟨cs, hk _ (List.getElem_mem hi) cs h2, h3⟩
  obtain ⟨cs0, t0, c0⟩ := each 0 h0
  obtain ⟨hd, A', c', e', hl', _⟩ := (TR_def _ _ _ _ _ _).1 t0
  have hlen : 0 < cs0.length := by rw [e']; simp
  have hc0 := c0 0 _ (List.getElem?_eq_getElem hlen)
  have hsp := World.cell?_spot hc0
  have hbk := cell_lt hc0
  rw [block_add] at hbk
  obtain ⟨b, off, spot⟩ := ad
  obtain rfl : spot = none := by simpa [Addr.add] using hsp
  refine ⟨b, off, e, hbk, TRs.of (fun i hi => ?_)⟩
  rw [List.length_map] at hi
  obtain ⟨cs, h1, h2⟩ := each i hi
  refine ⟨cs, by simpa using h1, fun j u hu => ?_⟩
  have := h2 j u hu
  rw [add_spot] at this
  rwa [Nat.add_assoc]
theorem k_tr {w : World} : ∀ (f : Fm) (x : SF), toF x = f → wfF f = true → ∀ cs, kF.K w x cs → TR FHd 6 w (· < w.heap.size) f cs := by
  intro f
  induction f using RT.induct with
  | h a l ih =>
  intro x hx hw cs hk
  obtain ⟨x0, x1, x2, x3, x4, xl⟩ := x
  rw [toF_mk] at hx
  injection hx with ha hl
  subst ha hl
  obtain ⟨ho, hl, hws⟩ := (wfF_mk _ _).1 hw
  obtain ⟨A, c, rfl, h1, h2⟩ := QP.k27_open hk
  have ht := c_tl h2 (fun y hy cs' hk' => ih _ (List.mem_map_of_mem hy) y rfl (hws _ (List.mem_map_of_mem hy)) cs' hk')
  rw [List.length_map] at hl
  refine (TR_def _ _ _ _ _ _).2 ⟨[.int .i64 x0, .int .i64 x1, .int .i64 x2, .int .i64 x3, .int .i64 x4], A, c, ?_, rfl, ⟨rfl, ho⟩, ?_, ?_, ht⟩
  · simp [RT.l]
  · simpa [RT.l] using h1
  · simpa [RT.l] using hl
theorem c_FsR {w : World} {l : List SF} {A : Option Addr} {c : Nat} (h : kF.C w A l.length l) (hc : l.length ≤ c) (hw : ∀ x ∈ l.map toF, wfF x = true) (hl : l.length ≤ 140737488355328) : FsR w (· < w.heap.size) (.slice A l.length c) (l.map toF) :=
  ⟨A, c, by simp, by simpa using hc, by simpa using hl, c_tl h (fun x hx cs hk => k_tr _ x rfl (hw _ (List.mem_map_of_mem hx)) cs hk)⟩
/-- A form that is handed over. -/
theorem c_FmR {w : World} {a0 a1 a2 a3 a4 : Int} {l : List SF} {A : Option Addr} {c : Nat} (h : kF.C w A l.length l) (hc : l.length ≤ c) (hw : wfF (toF ⟨a0, a1, a2, a3, a4, l⟩) = true) :
    FmR w (· < w.heap.size) (.agg #[.int .i64 a0, .int .i64 a1, .int .i64 a2, .int .i64 a3, .int .i64 a4, .slice A l.length c]) (toF ⟨a0, a1, a2, a3, a4, l⟩) := by
  rw [toF_mk] at hw ⊢
  obtain ⟨ho, hl, hws⟩ := (wfF_mk _ _).1 hw
  rw [List.length_map] at hl
  exact ⟨_, rfl, ho, c_FsR h hc hws hl⟩
end
end Go.Proofs.Ytfcghajnnllmhaa
