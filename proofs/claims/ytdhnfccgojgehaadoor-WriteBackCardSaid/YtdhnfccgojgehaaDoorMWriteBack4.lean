/-
  Texts for the law WriteBack: part 4.
-/
import Derived.Test.YtdhnfccgojgehaaDoorProg
import Derived.Deep.QuietTactic
import Derived.BigQuiet
import Derived.Deep.RegionHeld3
import Derived.Deep.RegionWith
import Derived.Laws.LoneSync
import Derived.Test.YtdhnfccgojgehaaDoorRows
import Derived.LaidHandle
import Derived.LaidMore
import Derived.Deep.LoopGhost
import Derived.Test.YtdhnfccgojgehaaDoorMWriteBack1
import Derived.Test.YtdhnfccgojgehaaDoorMWriteBack3

set_option linter.unusedVariables false
set_option linter.unusedSimpArgs false
namespace Go.Proofs.YtdhnfccgojgehaaDoor
open Go.RowKit YtdhnfccgojgehaaDoorW.PrintWords

theorem cntv_ev (x : Vt) : ∀ m : Nat,m ≤ 2199023255552 → wfV x = true → Ev (fun k => QP.passepartoutref05_Count.f k x.a.n (bI x.a.b) (x.l.map ofV) (m : Int)) ((cntV m x : Nat) : Int) := by
 induction x using RT.induct with
 | h a l ih =>
 intro m hm hw
 obtain ⟨_,_,hl,hws⟩ := (wfV_mk _ _).1 hw
 apply Ev.step
 ·intro k
  simp only [QP.passepartoutref05_Count.f]
  rfl
 rw [cntV]
 have key : ∀ (d j q : Nat),l.length - j = d → j ≤ l.length → 1 ≤ q → q ≤ m + 1 → Ev (fun k => QP.passepartoutref05_Count.l0 k (m : Int) (q : Int) (j : Int) a.n (bI a.b) (l.map ofV)) ((cntVs m q (l.drop j) : Nat) : Int) := by
  intro d
  induction d with
  | zero =>
   intro j q hd hj hq1 hq2
   apply Ev.step
   ·intro k
    simp only [QP.passepartoutref05_Count.l0]
    rfl
   refine Ev.in_ (by simp;omega) ?_
   rw [cntVs_end (by omega)]
   exact Ev.now _
  | succ d ihd =>
   intro j q hd hj hq1 hq2
   have hlt : j < l.length := by omega
   apply Ev.step
   ·intro k
    simp only [QP.passepartoutref05_Count.l0,rd_ofV l j hlt,ofV_f0,ofV_f1,ofV_f2]
    rfl
   refine Ev.ip (by simp;omega) ?_
   refine Ev.sp (fun hqm => ?_) (fun hqm => ?_)
   ·have hqm' : q ≤ m := by omega
    have hb := cntV_bound l[j] (m - q)
    refine Ev.ip (by omega) ?_
    have h1 := ih l[j] (List.getElem_mem hlt) (m - q) (by omega) (hws _ (List.getElem_mem hlt))
    rw [w64 (by omega) (by omega),show (m : Int) - (q : Int) = ((m - q : Nat) : Int) by omega]
    refine Ev.bind h1 ?_
    rw [w64 (by omega) (by omega),w64 (by omega) (by omega),show (q : Int) + ((cntV (m - q) l[j] : Nat) : Int) = ((q + cntV (m - q) l[j] : Nat) : Int) by omega,show (j : Int) + 1 = ((j + 1 : Nat) : Int) by omega]
    refine Ev.eq_ (ihd (j + 1) (q + cntV (m - q) l[j]) (by omega) (by omega) (by omega) (by omega)) ?_
    rw [cntVs_drop (k := j) hlt,if_pos hqm']
   ·rw [cntVs_end (by omega)]
    exact Ev.now _
 have h0 := key l.length 0 1 (by omega) (by omega) (by omega) (by omega)
 rw [List.drop_zero] at h0
 exact h0

theorem bytv_ev (x : Vt) : ∀ m : Nat,m ≤ 100000 → wfV x = true → Ev (fun k => QP.passepartoutref05_Bytes.f k x.a.n (bI x.a.b) (x.l.map ofV) (m : Int)) ((bytV m x : Nat) : Int) := by
 induction x using RT.induct with
 | h a l ih =>
 intro m hm hw
 obtain ⟨_,hbl,hl,hws⟩ := (wfV_mk _ _).1 hw
 apply Ev.step
 ·intro k
  simp only [QP.passepartoutref05_Bytes.f]
  rfl
 rw [bytV]
 simp only [RT.a,RT.l,bI_len]
 have key : ∀ (d j q : Nat),l.length - j = d → j ≤ l.length → q ≤ m + 140737488355328 → Ev (fun k => QP.passepartoutref05_Bytes.l0 k (m : Int) (q : Int) (j : Int) a.n (bI a.b) (l.map ofV)) ((bytVs m q (l.drop j) : Nat) : Int) := by
  intro d
  induction d with
  | zero =>
   intro j q hd hj hq2
   apply Ev.step
   ·intro k
    simp only [QP.passepartoutref05_Bytes.l0]
    rfl
   refine Ev.in_ (by simp;omega) ?_
   rw [bytVs_end (by omega)]
   exact Ev.now _
  | succ d ihd =>
   intro j q hd hj hq2
   have hlt : j < l.length := by omega
   apply Ev.step
   ·intro k
    simp only [QP.passepartoutref05_Bytes.l0,rd_ofV l j hlt,ofV_f0,ofV_f1,ofV_f2]
    rfl
   refine Ev.ip (by simp;omega) ?_
   refine Ev.sp (fun hqm => ?_) (fun hqm => ?_)
   ·have hqm' : q ≤ m := by omega
    have hb := bytV_bound l[j] (m - q) (hws _ (List.getElem_mem hlt)) (by omega)
    refine Ev.ip (by omega) ?_
    have h1 := ih l[j] (List.getElem_mem hlt) (m - q) (by omega) (hws _ (List.getElem_mem hlt))
    rw [w64 (by omega) (by omega),show (m : Int) - (q : Int) = ((m - q : Nat) : Int) by omega]
    refine Ev.bind h1 ?_
    rw [w64 (by omega) (by omega),w64 (by omega) (by omega),show (q : Int) + ((bytV (m - q) l[j] : Nat) : Int) = ((q + bytV (m - q) l[j] : Nat) : Int) by omega,show (j : Int) + 1 = ((j + 1 : Nat) : Int) by omega]
    refine Ev.eq_ (ihd (j + 1) (q + bytV (m - q) l[j]) (by omega) (by omega) (by omega)) ?_
    rw [bytVs_drop (k := j) hlt,if_pos hqm']
   ·rw [bytVs_end (by omega)]
    exact Ev.now _
 have h0 := key l.length 0 a.b.length (by omega) (by omega) (by omega)
 rw [List.drop_zero] at h0
 exact h0

/-- Is a value greater than is looked at? -/
def bigV (x : Vt) : Bool := decide (2000 < cntV 2000 x) || decide (20000 < bytV 20000 x)
theorem Great_ev (f : Fm) (l : List Vt) (hf : wfF f = true) (hl : l.length ≤ 140737488355328) (hw : ∀ x ∈ l,wfV x = true) :
  Ev (fun k => QP.passepartoutlaw05_Great.f k f.a.k f.a.s f.a.lo f.a.hi f.a.st (f.l.map ofF) (l.map ofV)) (if decide (500 < cntR 500 f) || l.any bigV then 1 else 0) := by
 simp only [QP.passepartoutlaw05_Great.f]
 refine Ev.bind (cnt_ev f 500 (by omega) hf) ?_
 by_cases h5 : 500 < cntR 500 f
 ·refine Ev.rp (by simp [h5]) ?_
  exact Ev.ip (by omega) (Ev.now _)
 refine Ev.in_ (by omega) ?_
 rw [List.length_map]
 have key : ∀ (d j : Nat),l.length - j = d → j ≤ l.length → Ev (fun k => QP.passepartoutlaw05_Great.l0 k (l.map ofV) (l.length : Int) (j : Int)) (if (l.drop j).any bigV then 1 else 0) := by
  intro d
  induction d with
  | zero =>
   intro j hd hj
   apply Ev.step
   ·intro k
    simp only [QP.passepartoutlaw05_Great.l0]
    rfl
   refine Ev.rn (by rw [List.drop_of_length_le (by omega)];simp) ?_
   exact Ev.in_ (by omega) (Ev.now _)
  | succ d ihd =>
   intro j hd hj
   have hlt : j < l.length := by omega
   have hwj := hw _ (List.getElem_mem hlt)
   apply Ev.step
   ·intro k
    simp only [QP.passepartoutlaw05_Great.l0,rd_ofV l j hlt,ofV_f0,ofV_f1,ofV_f2]
    rfl
   refine Ev.ip (by omega) (Ev.ip (by omega) (Ev.ip (by rw [List.length_map];omega) ?_))
   refine Ev.bind (cntv_ev l[j] 2000 (by omega) hwj) ?_
   rw [List.drop_eq_getElem_cons hlt,List.any_cons]
   by_cases h1 : 2000 < cntV 2000 l[j]
   ·refine Ev.rp (by simp [bigV,h1]) (Ev.ip (by omega) (Ev.now _))
   refine Ev.in_ (by omega) (Ev.bind (bytv_ev l[j] 20000 (by omega) hwj) ?_)
   by_cases h2 : 20000 < bytV 20000 l[j]
   ·refine Ev.rp (by simp [bigV,h2]) (Ev.ip (by omega) (Ev.now _))
   refine Ev.in_ (by omega) ?_
   rw [w64 (by omega) (by omega),show (j : Int) + 1 = ((j + 1 : Nat) : Int) by omega]
   have e : bigV l[j] = false := by simp [bigV,h1,h2]
   rw [e,Bool.false_or]
   exact ihd (j + 1) (by omega) (by omega)
 have h0 := key l.length 0 (by omega) (by omega)
 rw [List.drop_zero] at h0
 rw [decide_eq_false h5,Bool.false_or]
 exact h0

theorem strOf_list (a : List UInt8) : (strOfNums (bI a)).toList = a := by
 have e : strOfNums (bI a) = str a := by
  unfold strOfNums str
  have := iB_bI a
  unfold iB at this
  rw [this]
 rw [e]
 have := ByteArray.toList_eq (str a)
 rw [this]
 exact str_toList a
theorem strOf_bI (a b : List UInt8) : (strOfNums (bI a)).toList = (strOfNums (bI b)).toList ↔ a = b := by
 rw [strOf_list,strOf_list]
theorem same05_ev (x : Vt) : ∀ y : Vt,wfV x = true → wfV y = true → Ev (fun k => QP.passepartoutref05_Same.f k x.a.n (bI x.a.b) (x.l.map ofV) y.a.n (bI y.a.b) (y.l.map ofV)) (sameV x y) := by
 induction x using RT.induct with
 | h a l ih =>
 intro y hx hy
 obtain ⟨b,m⟩ := y
 obtain ⟨_,_,hl,hws⟩ := (wfV_mk _ _).1 hx
 obtain ⟨_,_,hm,hwm⟩ := (wfV_mk _ _).1 hy
 rw [sameV_mk]
 simp only [RT.a,RT.l]
 apply Ev.step
 ·intro k
  simp only [QP.passepartoutref05_Same.f]
  rfl
 have hno : Ev (fun k => QP.passepartoutref05_Same.j0 k true a.n (bI a.b) (l.map ofV) b.n (bI b.b) (m.map ofV)) false := by
  apply Ev.step
  ·intro k
   simp only [QP.passepartoutref05_Same.j0]
   rfl
  exact Ev.ip (by simp) (Ev.now _)
 by_cases hn : a.n = b.n
 rotate_left
 ·rw [decide_eq_false hn,Bool.false_and]
  exact Ev.in_ hn hno
 rw [decide_eq_true hn,Bool.true_and]
 refine Ev.ip hn ?_
 by_cases hb : a.b = b.b
 rotate_left
 ·rw [decide_eq_false hb,Bool.false_and]
  exact Ev.in_ (fun h => hb ((strOf_bI _ _).1 h)) hno
 rw [decide_eq_true hb,Bool.true_and]
 refine Ev.ip ((strOf_bI _ _).2 hb) ?_
 rw [List.length_map,List.length_map]
 by_cases hlen : l.length = m.length
 rotate_left
 ·rw [sameVs_len hlen,show ((l.length : Int) != (m.length : Int)) = true by simp;omega]
  exact hno
 rw [show ((l.length : Int) != (m.length : Int)) = false by simp;omega]
 have key : ∀ (d j : Nat),l.length - j = d → j ≤ l.length → Ev (fun k => QP.passepartoutref05_Same.l0 k (j : Int) a.n (bI a.b) (l.map ofV) b.n (bI b.b) (m.map ofV)) (sameVs (l.drop j) (m.drop j)) := by
  intro d
  induction d with
  | zero =>
   intro j hd hj
   apply Ev.step
   ·intro k
    simp only [QP.passepartoutref05_Same.l0]
    rfl
   rw [sameVs_end (by omega) (by omega)]
   exact Ev.in_ (by simp;omega) (Ev.now _)
  | succ d ihd =>
   intro j hd hj
   have hlt : j < l.length := by omega
   have hlm : j < m.length := by omega
   apply Ev.step
   ·intro k
    simp only [QP.passepartoutref05_Same.l0,rd_ofV l j hlt,rd_ofV m j hlm,ofV_f0,ofV_f1,ofV_f2]
    rfl
   refine Ev.ip (by simp;omega) (Ev.ip (by omega) (Ev.ip (by simp;omega) ?_))
   refine Ev.bind (ih l[j] (List.getElem_mem hlt) m[j] (hws _ (List.getElem_mem hlt)) (hwm _ (List.getElem_mem hlm))) ?_
   rw [sameVs_drop hlt hlm,w64 (by omega) (by omega),show (j : Int) + 1 = ((j + 1 : Nat) : Int) by omega]
   cases sameV l[j] m[j]
   ·rw [Bool.false_and]
    exact Ev.in_ (by simp) (Ev.now _)
   ·rw [Bool.true_and]
    exact Ev.ip rfl (ihd (j + 1) (by omega) (by omega))
 apply Ev.step
 ·intro k
  simp only [QP.passepartoutref05_Same.j0]
  rfl
 refine Ev.in_ (by simp) ?_
 have h0 := key l.length 0 (by omega) (by omega)
 rw [List.drop_zero,List.drop_zero] at h0
 exact h0
end Go.Proofs.YtdhnfccgojgehaaDoor

namespace Go.Proofs.YtdhnfccgojgehaaDoor
open Go.RowKit

/-- A cursor at block g: the bytes ahead, its place. -/
def Cur (w : World) (ok : Nat → Prop) (g : Nat) (l : List UInt8) (at_ : Int) : Prop :=
 ∃ v,BR w ok v l ∧ Blk w g 96 #[v,.int .i64 at_]

section
variable {w w' : World} {ok ok' S : Nat → Prop} {g : Nat} {l : List UInt8} {a : Int}
theorem Cur.kp (h : Cur w ok g l a) (hk : Kp S w w') (hd : ∀ i,ok i → ¬ S i) (hg : ¬ S g) : Cur w' ok g l a := by
 obtain ⟨v,h1,h2⟩ := h
 exact ⟨v,h1.kp hk hd,h2.kp hk hg⟩
theorem Cur.lt (h : Cur w ok g l a) : g < w.heap.size := by
 obtain ⟨v,h1,h2⟩ := h
 exact h2.lt
theorem Cur.mono (h : Cur w ok g l a) (hd : ∀ i,ok i → ok' i) : Cur w ok' g l a := by
 obtain ⟨v,h1,h2⟩ := h
 exact ⟨v,h1.mono hd,h2⟩
end

/-- What a call of next leaves. -/
def NextP (ok : Nat → Prop) (g : Nat) (l : List UInt8) (a n : Int) (w : World) (e : Ending) (w' : World) : Prop :=
 ∃ v,e = .returned (.tuple #[v,.int .i64 (nx l n).2]) ∧ BR w' ok v (nx l n).1 ∧ Cur w' ok g (l.drop (nx l n).1.length) (a + (nx l n).1.length) ∧ Kp (· = g) w w'

theorem next_done {w : World} {ok : Nat → Prop} {g : Nat} {l : List UInt8} {a : Int} {A A' : Option Addr} {n c : Nat} (hr : Rd w ok 1 A l.length (bc l)) (hb : Blk w g 96 #[.slice A l.length c,.int .i64 a])
  (hok : ¬ ok g) (hn : n ≤ l.length) (hlc : l.length ≤ c) (hA : A' = if c = n then A else A.map (·.add n)) :
  NextP ok g l a n w (.returned (.tuple #[.slice A n n,.int .i64 0])) ((w.setCell ⟨g,0,none⟩ (.slice A' (l.length - n) (c - n))).setCell ⟨g,1,none⟩ (.int .i64 (a + n))) := by
 have hk : Kp (· = g) w ((w.setCell ⟨g,0,none⟩ (.slice A' (l.length - n) (c - n))).setCell ⟨g,1,none⟩ (.int .i64 (a + n))) :=
  ((Kp.refl (· = g) w).setCell (p := ⟨g,0,none⟩) (.inl rfl) _).setCell (p := ⟨g,1,none⟩) (.inl rfl) _
 have hlt : (l.take (n : Int).toNat).length = n := by simp;omega
 have hB : BR ((w.setCell ⟨g,0,none⟩ (.slice A' (l.length - n) (c - n))).setCell ⟨g,1,none⟩ (.int .i64 (a + n))) ok (.slice A' (l.length - n) (c - n)) (l.drop n) := by
  refine ⟨A',c - n,by rw [List.length_drop],by rw [List.length_drop];omega,?_⟩
  have := (hr.cut hn hlc).kp hk (fun i hi hg => hok (hg ▸ hi))
  rw [Nat.mul_one,bc_drop] at this
  rw [List.length_drop]
  rw [← hA] at this
  exact this
 rw [NextP,nx_ok (by omega) (by omega)]
 refine ⟨_,rfl,⟨A,n,?_,?_,?_⟩,?_,hk⟩
 ·simp only [hlt]
 ·simp only [hlt];exact Nat.le_refl _
 ·have := (hr.take hn).kp hk (fun i hi hg => hok (hg ▸ hi))
  rw [Nat.mul_one,bc_take] at this
  simp only [hlt]
  exact this
 ·refine ⟨.slice A' (l.length - n) (c - n),?_,?_⟩
  ·simp only [hlt];exact hB
  ·have := (hb.set_ 0 (.slice A' (l.length - n) (c - n))).set_ 1 (.int .i64 (a + n))
   simp only [hlt]
   exact this

theorem next_any (ok : Nat → Prop) (g : Nat) (l : List UInt8) (a : Int) (n : Int) (w : World) (hc : Cur w ok g l a) (hok : ¬ ok g) (_hl : l.length ≤ 140737488351232) (ha : 0 ≤ a) (hal : a + l.length ≤ 9223372036854775807) :
  Calls Tryd.prog 85 #[.pointer (some ⟨g,0,none⟩),.int .i64 n] w (NextP ok g l a n w) := by
 by_cases hneg : n < 0
 ·have hP : NextP ok g l a n w (.returned (.tuple #[.slice none 0 0,.int .i64 2])) w := by
   rw [NextP,nx_neg hneg]
   exact ⟨_,rfl,BR.nil,by simpa using hc,Kp.refl _ _⟩
  go_enter Tryd.func85,Tryd.ntmps85
  go_wp2_with fail
  go_ret2
  exact hP
 by_cases hlong : (l.length : Int) < n
 ·have hP : NextP ok g l a n w (.returned (.tuple #[.slice none 0 0,.int .i64 4])) w := by
   rw [NextP,nx_short (by omega) hlong]
   exact ⟨_,rfl,BR.nil,by simpa using hc,Kp.refl _ _⟩
  obtain ⟨v,⟨A,c,rfl,hlc,hr⟩,hb⟩ := hc
  have hc0 : w.cell? ⟨g,0,none⟩ = some (.slice A l.length c) := hb.cell 0
  go_enter Tryd.func85,Tryd.ntmps85
  go_wp2_with fail
  go_ret2
  exact hP
 ·obtain ⟨n,rfl⟩ := Int.eq_ofNat_of_zero_le (Int.not_lt.1 hneg)
  have hn : n ≤ l.length := by omega
  obtain ⟨v,⟨A,c,rfl,hlc,hr⟩,hb⟩ := hc
  have hP : ∀ A' d,(A' = if c = n then A else A.map (·.add n)) → d = c - n → NextP ok g l a n w (.returned (.tuple #[.slice A n n,.int .i64 0])) ((w.setCell ⟨g,0,none⟩ (.slice A' (l.length - n) d)).setCell ⟨g,1,none⟩ (.int .i64 (a + n))) := by
   rintro A' d h rfl
   exact next_done hr hb hok hn hlc h
  have hc0 : w.cell? ⟨g,0,none⟩ = some (.slice A l.length c) := hb.cell 0
  have hc1 : w.cell? ⟨g,1,none⟩ = some (.int .i64 a) := hb.cell 1
  have hf0 : w.frozen? ⟨g,0,none⟩ = false := hb.frozen 0
  have hf1 : w.frozen? ⟨g,1,none⟩ = false := hb.frozen 1
  go_enter Tryd.func85,Tryd.ntmps85
  go_wp2_with fail
  all_goals go_ret2
  ·exact hP _ _ (by simp [*]) (by omega)
  ·exact hP _ _ (by simp [*]) (by omega)

/-! ### Places. -/
theorem new_any (ok : Nat → Prop) (v : Value) (l : List UInt8) (a : Int) (w : World) (hv : BR w ok v l) :
  Calls Tryd.prog 40 #[v,.int .i64 a] w fun e w' => ∃ g,e = .returned (.pointer (some ⟨g,0,none⟩)) ∧ w.heap.size ≤ g ∧ Cur w' ok g l a ∧ Kp (fun _ => False) w w' := by
 have hP : Cur (w.alloc (.cells #[v,.int .i64 a] 96)) ok w.heap.size l a ∧ Kp (fun _ => False) w (w.alloc (.cells #[v,.int .i64 a] 96)) :=
  ⟨⟨v,hv.kp ((Kp.refl (fun _ => False) w).alloc _) (fun _ _ h => h),Blk.new _ _ _⟩,(Kp.refl _ w).alloc _⟩
 obtain ⟨A,c,rfl,_,_⟩ := hv
 go_enter Tryd.func40,Tryd.ntmps40
 go_wp2_with fail
 go_ret
 exact ⟨_,rfl,Nat.le_refl _,hP⟩

theorem at_any (ok : Nat → Prop) (g : Nat) (l : List UInt8) (a : Int) (w : World) (hc : Cur w ok g l a) :
  Calls Tryd.prog 43 #[.pointer (some ⟨g,0,none⟩)] w fun e w' => e = .returned (.int .i64 a) ∧ w = w' := by
 obtain ⟨v,_,hb⟩ := hc
 have hc1 : w.cell? ⟨g,1,none⟩ = some (.int .i64 a) := hb.cell 1
 go_enter Tryd.func43,Tryd.ntmps43
 go_wp2_with fail
 go_ret
 exact ⟨rfl,rfl⟩

theorem left_any (ok : Nat → Prop) (g : Nat) (l : List UInt8) (a : Int) (w : World) (hc : Cur w ok g l a) :
  Calls Tryd.prog 42 #[.pointer (some ⟨g,0,none⟩)] w fun e w' => e = .returned (.int .i64 l.length) ∧ w = w' := by
 obtain ⟨v,⟨A,c,rfl,_,_⟩,hb⟩ := hc
 have hc0 : w.cell? ⟨g,0,none⟩ = some (.slice A l.length c) := hb.cell 0
 go_enter Tryd.func42,Tryd.ntmps42
 go_wp2_with fail
 go_ret
 exact ⟨rfl,rfl⟩

theorem end_any (ok : Nat → Prop) (g : Nat) (l : List UInt8) (a : Int) (w : World) (hc : Cur w ok g l a) (ha : 0 ≤ a) (hal : a + l.length ≤ 9223372036854775807) :
  Calls Tryd.prog 82 #[.pointer (some ⟨g,0,none⟩)] w fun e w' => e = .returned (.int .i64 (a + l.length)) ∧ w = w' := by
 go_enter Tryd.func82,Tryd.ntmps82
 go_wp2_with (first | (go_at_call 43;refine (at_any ok g l a _ hc).mono ?_;rintro e w' ⟨rfl,rfl⟩) | (go_at_call 42;refine (left_any ok g l a _ hc).mono ?_;rintro e w' ⟨rfl,rfl⟩))
 go_ret
 exact ⟨rfl,rfl⟩

/-! ### Numbers. -/
def NumP (ok : Nat → Prop) (g : Nat) (l : List UInt8) (a n : Int) (w : World) (e : Ending) (w' : World) : Prop :=
 e = .returned (.tuple #[.int .u64 (be (nn l n).1),.int .i64 (nn l n).2]) ∧ Cur w' ok g (l.drop (nn l n).1.length) (a + (nn l n).1.length) ∧ Kp (· = g) w w'

theorem number_any (ok : Nat → Prop) (g : Nat) (l : List UInt8) (a : Int) (n : Int) (w : World) (hc : Cur w ok g l a) (hok : ¬ ok g) (hl : l.length ≤ 140737488351232) (ha : 0 ≤ a) (hal : a + l.length ≤ 9223372036854775807) :
  Calls Tryd.prog 81 #[.pointer (some ⟨g,0,none⟩),.int .i64 n] w (NumP ok g l a n w) := by
 by_cases hs : szB n = true
 ·obtain ⟨h1,h8,h48⟩ := szB_true hs
  have hnn : nn l n = nx l n := by rw [nn,if_pos hs]
  obtain ⟨got,er,hgot⟩ : ∃ got er,nx l n = (got,er) := ⟨_,_,rfl⟩
  have hlen : got.length ≤ 8 := by have := nx_le l n;rw [hgot] at this;simp only at this;omega
  have hnext : Calls Tryd.prog 85 #[.pointer (some ⟨g,0,none⟩),.int .i64 n] w fun e w' => ∃ A c,e = .returned (.tuple #[.slice A got.length c,.int .i64 er]) ∧
    Rd w' ok 1 A got.length (bc got) ∧ Cur w' ok g (l.drop got.length) (a + got.length) ∧ Kp (· = g) w w' := by
   refine (next_any ok g l a n w hc hok hl ha hal).mono ?_
   rintro e w' ⟨v,rfl,⟨A,c,rfl,hlc,hr⟩,hcur,hkp⟩
   rw [hgot] at hr hcur ⊢
   exact ⟨A,c,rfl,hr,hcur,hkp⟩
  have hfin : ∀ w',Cur w' ok g (l.drop got.length) (a + got.length) → Kp (· = g) w w' → NumP ok g l a n w (.returned (.tuple #[.int .u64 (be got),.int .i64 er])) w' := by
   intro w' h1 h2
   rw [NumP,hnn,hgot]
   exact ⟨rfl,h1,h2⟩
  have HN := Lib.hid hnext
  have HF := Lib.hid hfin
  have h48' : n ≤ 4 ∨ n = 8 := by omega
  clear hnext hfin h48 hnn hgot hs
  go_enter Tryd.func81,Tryd.ntmps81
  rcases h48' with h4 | rfl
  all_goals
   go_wp2_with (go_at_call 85;refine (HN.out).mono ?_;rintro e w' ⟨A,c,rfl,hr,hcur,hkp⟩)
   go_loop [8,32] (fun x i => ∃ k : Nat,k ≤ got.length ∧ i = .int .i64 k ∧ x = .int .u64 (be (got.take k))) (fun _ i => got.length - (intOf i).toNat)
   case atStart => exact ⟨0,Nat.zero_le _,rfl,rfl⟩
   case round =>
    obtain ⟨k,hk,rfl,rfl⟩ := hrel
    by_cases hlt : k < got.length
    ·obtain ⟨b,off,rfl,hbok,hcell⟩ := hr.byte hlt
     have hbt := (got[k]).toNat_lt
     go_wp2_with fail
     go_round
     case rel => exact ⟨k + 1,by omega,by go_num,by rw [be_take _ _ hlt,or_byte _ _ (by omega) (be_small _ _ hlt hlen)]⟩
     case measure => simp [intOf];omega
    ·obtain rfl : k = got.length := by omega
     go_wp2_with fail
     go_ret2
     have := HF.out _ hcur hkp
     simpa using this
 ·have hP : NumP ok g l a n w (.returned (.tuple #[.int .u64 0,.int .i64 2])) w := by
   rw [NumP,nn,if_neg hs]
   exact ⟨rfl,by simpa using hc,Kp.refl _ _⟩
  have h := szB_false (by simpa using hs)
  go_enter Tryd.func81,Tryd.ntmps81
  rcases h with h | ⟨h,h'⟩
  ·go_wp2_with fail
   go_ret2
   exact hP
  ·have hb : (n != 8) = true := by simpa using h'
   go_wp2_with fail
   go_ret2
   exact hP

/-! ### Bytes taken. -/
theorem u8_info : (Tryd.prog.info? 5).map (fun i => (i.zero,i.size,i.bytes)) = some (some (.int .u8 0),1,1) := by kernel_rfl

def TakeP (ok : Nat → Prop) (g : Nat) (l : List UInt8) (a n : Int) (w : World) (e : Ending) (w' : World) : Prop :=
 ∃ v,e = .returned (.tuple #[v,.int .i64 (nx l n).2]) ∧ BR w' (fun k => w.heap.size ≤ k) v (nx l n).1 ∧ Cur w' ok g (l.drop (nx l n).1.length) (a + (nx l n).1.length) ∧ Kp (· = g) w w'

theorem take_any (ok : Nat → Prop) (g : Nat) (l : List UInt8) (a : Int) (n : Int) (w : World) (hc : Cur w ok g l a) (hok : ¬ ok g) (hl : l.length ≤ 140737488351232) (ha : 0 ≤ a) (hal : a + l.length ≤ 9223372036854775807) :
  Calls Tryd.prog 109 #[.pointer (some ⟨g,0,none⟩),.int .i64 n] w (TakeP ok g l a n w) := by
 obtain ⟨got,er,hgot⟩ : ∃ got er,nx l n = (got,er) := ⟨_,_,rfl⟩
 have hlen : got.length ≤ 140737488351232 := by have := nx_len l n;rw [hgot] at this;simp only at this;omega
 have hg := hc.lt
 have hnext : Calls Tryd.prog 85 #[.pointer (some ⟨g,0,none⟩),.int .i64 n] w fun e w' => ∃ A c,e = .returned (.tuple #[.slice A got.length c,.int .i64 er]) ∧
   Rd w' ok 1 A got.length (bc got) ∧ Cur w' ok g (l.drop got.length) (a + got.length) ∧ Kp (· = g) w w' := by
  refine (next_any ok g l a n w hc hok hl ha hal).mono ?_
  rintro e w' ⟨v,rfl,⟨A,c,rfl,hlc,hr⟩,hcur,hkp⟩
  rw [hgot] at hr hcur ⊢
  exact ⟨A,c,rfl,hr,hcur,hkp⟩
 have hfin : ∀ v w1 w2,Cur w1 ok g (l.drop got.length) (a + got.length) → Kp (· = g) w w1 → w2.ownsRow w1.heap.size 5 1 v (0 + got.length) ([] ++ bc got) → w1.grownBy w2 none →
   TakeP ok g l a n w (.returned (.tuple #[v,.int .i64 er])) w2 := by
  intro v w1 w2 h1 h2 h3 h4
  have hk : Kp (fun _ => False) w1 w2 := (Kp.refl _ _).grown h4 (fun k hk => by cases hk)
  rw [TakeP,hgot]
  simp only [List.nil_append] at h3
  refine ⟨v,rfl,BR.of_own h3 (fun k hk => ?_),h1.kp hk (fun _ _ h => h) (fun h => h),h2.trans (hk.mono (fun _ _ h => h.elim))⟩
  have := h3.lt k hk
  have := h2.size
  omega
 have HN := Lib.hid hnext
 have HF := Lib.hid hfin
 clear hnext hfin hgot
 obtain ⟨i0,hi0,hz0,hz1,hz2⟩ := info_parts u8_info
 go_enter Tryd.func109,Tryd.ntmps109
 go_wp2_with (first
  | (go_at_call 85;refine (HN.out).mono ?_;rintro e w1 ⟨A,c,rfl,hr,hcur,hkp⟩)
  | (at_builtin;refine wpList_append_any _ rfl (.const (.slice none 0 0)) (.tmp 14) _ rfl w1.heap.size 5 i0 _ 1 1 Tryd.underlying25 hi0 hz0 hz1 hz2 rfl (by omega) (.slice none 0 0) 0 [] rfl ⟨by simp,.inl ⟨rfl,rfl⟩⟩ ok A got.length c (bc got) rfl hr (bc_one _) (by simp only [maxLen];omega) (by omega) (Nat.le_refl _) ?_;intro v2 w2 hown hgrow hat))
 go_ret2
 exact HF.out _ _ _ hcur hkp hown hgrow

/-! ### A cursor of its own over the next bytes. -/
/-- The error alone, and nothing turned but for what is read. -/
def SubE (ok : Nat → Prop) (g : Nat) (l : List UInt8) (a n : Int) (w : World) (e : Ending) (w' : World) : Prop :=
 e = .returned (.tuple #[.pointer none,.int .i64 (nx l n).2]) ∧ Cur w' ok g l a ∧ Kp (· = g) w w'
def SubP (ok : Nat → Prop) (g : Nat) (l : List UInt8) (a : Int) (n : Nat) (w : World) (e : Ending) (w' : World) : Prop :=
 ∃ g',e = .returned (.tuple #[.pointer (some ⟨g',0,none⟩),.int .i64 0]) ∧ w.heap.size ≤ g' ∧ Cur w' ok g' (l.take n) a ∧ Cur w' ok g (l.drop n) (a + n) ∧ Kp (· = g) w w'

theorem sub_err (ok : Nat → Prop) (g : Nat) (l : List UInt8) (a : Int) (n : Int) (w : World) (hc : Cur w ok g l a) (hok : ¬ ok g) (hl : l.length ≤ 140737488351232) (ha : 0 ≤ a) (hal : a + l.length ≤ 9223372036854775807)
  (hn : n < 0 ∨ (l.length : Int) < n) :
  Calls Tryd.prog 83 #[.pointer (some ⟨g,0,none⟩),.int .i64 n] w (SubE ok g l a n w) := by
 obtain ⟨er,hgot,hne⟩ : ∃ er,nx l n = ([],er) ∧ (er != 0) = true := by
  rcases hn with h | h
  ·exact ⟨2,nx_neg h,rfl⟩
  ·exact ⟨4,nx_short (by omega) h,rfl⟩
 have hnext : Calls Tryd.prog 85 #[.pointer (some ⟨g,0,none⟩),.int .i64 n] w fun e w' => ∃ A c,e = .returned (.tuple #[.slice A 0 c,.int .i64 er]) ∧
   Cur w' ok g l a ∧ Kp (· = g) w w' := by
  refine (next_any ok g l a n w hc hok hl ha hal).mono ?_
  rintro e w' ⟨v,rfl,⟨A,c,rfl,hlc,hr⟩,hcur,hkp⟩
  rw [hgot] at hr hcur ⊢
  exact ⟨A,c,rfl,by simpa using hcur,hkp⟩
 have hfin : ∀ w1,Cur w1 ok g l a → Kp (· = g) w w1 → SubE ok g l a n w (.returned (.tuple #[.pointer none,.int .i64 er])) w1 := by
  intro w1 h1 h2
  rw [SubE,hgot]
  exact ⟨rfl,h1,h2⟩
 have HN := Lib.hid hnext
 have HF := Lib.hid hfin
 clear hnext hfin hgot hn
 go_enter Tryd.func83,Tryd.ntmps83
 go_wp2_with (first
  | (go_at_call 85;refine (HN.out).mono ?_;rintro e w1 ⟨A,c,rfl,hcur,hkp⟩)
  | (go_at_call 43;refine (at_any ok g l a _ hc).mono ?_;rintro e w' ⟨rfl,rfl⟩))
 go_ret2
 exact HF.out _ hcur hkp

theorem sub_ok (ok : Nat → Prop) (g : Nat) (l : List UInt8) (a : Int) (n : Nat) (w : World) (hc : Cur w ok g l a) (hok : ¬ ok g) (hl : l.length ≤ 140737488351232) (ha : 0 ≤ a) (hal : a + l.length ≤ 9223372036854775807)
  (hn : n ≤ l.length) :
  Calls Tryd.prog 83 #[.pointer (some ⟨g,0,none⟩),.int .i64 n] w (SubP ok g l a n w) := by
 have hlt := hc.lt
 have hnext : Calls Tryd.prog 85 #[.pointer (some ⟨g,0,none⟩),.int .i64 n] w fun e w' => ∃ A c,e = .returned (.tuple #[.slice A n c,.int .i64 0]) ∧
   BR w' ok (.slice A n c) (l.take n) ∧ Cur w' ok g (l.drop n) (a + n) ∧ Kp (· = g) w w' := by
  refine (next_any ok g l a n w hc hok hl ha hal).mono ?_
  rintro e w' ⟨v,rfl,hv,hcur,hkp⟩
  rw [nx_ok (by omega) (by omega)] at hv hcur ⊢
  have hlen : (l.take (n : Int).toNat).length = n := by simp;omega
  simp only [hlen] at hcur
  obtain ⟨A,c,rfl,h⟩ := id hv
  rw [hlen] at hv ⊢
  exact ⟨A,c,rfl,hv,hcur,hkp⟩
 have hfin : ∀ A c w1,BR w1 ok (.slice A n c) (l.take n) → Cur w1 ok g (l.drop n) (a + n) → Kp (· = g) w w1 →
   SubP ok g l a n w (.returned (.tuple #[.pointer (some ⟨w1.heap.size,0,none⟩),.int .i64 0])) (w1.alloc (.cells #[.slice A n c,.int .i64 a] 96)) := by
  intro A c w1 h0 h1 h2
  have hk : Kp (fun _ => False) w1 (w1.alloc (.cells #[.slice A n c,.int .i64 a] 96)) := (Kp.refl _ _).alloc _
  exact ⟨_,rfl,h2.size,⟨_,h0.kp hk (fun _ _ h => h),Blk.new _ _ _⟩,h1.kp hk (fun _ _ h => h) (fun h => h),h2.alloc _⟩
 have HN := Lib.hid hnext
 have HF := Lib.hid hfin
 clear hnext hfin hn
 go_enter Tryd.func83,Tryd.ntmps83
 go_wp2_with (first
  | (go_at_call 85;refine (HN.out).mono ?_;rintro e w1 ⟨A,c,rfl,hb,hcur,hkp⟩)
  | (go_at_call 43;refine (at_any ok g l a _ hc).mono ?_;rintro e w' ⟨rfl,rfl⟩))
 go_ret2
 exact HF.out _ _ _ hb hcur hkp

end Go.Proofs.YtdhnfccgojgehaaDoor

namespace Go.Proofs.YtdhnfccgojgehaaDoor
open Go.RowKit

/-- A reader at block g: its tally; where it is wrong, why. -/
def RdB (w : World) (g : Nat) (t : Value) (a e : Int) : Prop := Blk w g 76 #[t,.int .i64 a,.int .i64 e]
section
variable {w w' : World} {S : Nat → Prop} {g : Nat} {t : Value} {a e : Int}
theorem RdB.kp (h : RdB w g t a e) (hk : Kp S w w') (hg : ¬ S g) : RdB w' g t a e := Blk.kp h hk hg
end
set_option maxRecDepth 100000 in
theorem fail_any (g : Nat) (t : Value) (a0 e0 a e : Int) (w : World) (h : RdB w g t a0 e0) :
  Calls Tryd.prog 58 #[.pointer (some ⟨g,0,none⟩),.int .i64 a,.int .i64 e] w fun x w' => (∃ v,x = .returned v) ∧ RdB w' g t a e ∧ Kp (· = g) w w' := by
 have hf1 := Blk.frozen h 1
 have hf2 := Blk.frozen h 2
 have HP := Lib.hid (show RdB ((w.setCell ⟨g,1,none⟩ (.int .i64 a)).setCell ⟨g,2,none⟩ (.int .i64 e)) g t a e ∧ Kp (· = g) w ((w.setCell ⟨g,1,none⟩ (.int .i64 a)).setCell ⟨g,2,none⟩ (.int .i64 e)) from
  ⟨(Blk.set_ h 1 _).set_ 2 _,((Kp.refl (· = g) w).setCell (p := ⟨g,1,none⟩) (.inl rfl) _).setCell (p := ⟨g,2,none⟩) (.inl rfl) _⟩)
 have hc1 := Blk.cell h 1
 have hc2 := Blk.cell h 2
 simp at hc1 hc2
 clear h
 go_enter Tryd.func58,Tryd.ntmps58
 go_wp2_with fail
 exact bodyPost_end (results_none rfl _ _ _) rfl ⟨⟨_,rfl⟩,HP.out⟩

/-- A value of bytes alone, of a number alone. -/
theorem VtR.bytes {w : World} {ok : Nat → Prop} {v : Value} {l : List UInt8} (h : BR w ok v l) (hl : l.length ≤ 140737488355328) : VtR w ok (.agg #[.int .u64 0,v,.slice none 0 0]) (.mk ⟨0,l⟩ []) :=
 ⟨v,_,rfl,by unfold u64B;simp only [RT.a];omega,h,hl,VsR.nil⟩
theorem VtR.num {w : World} {ok : Nat → Prop} {n : Int} (h : u64B n) : VtR w ok (.agg #[.int .u64 n,.slice none 0 0,.slice none 0 0]) (.mk ⟨n,[]⟩ []) :=
 ⟨_,_,rfl,h,BR.nil,by simp [RT.a],VsR.nil⟩
theorem VtR.zero {w : World} {ok : Nat → Prop} : VtR w ok (.agg #[.int .u64 0,.slice none 0 0,.slice none 0 0]) (.mk ⟨0,[]⟩ []) := VtR.num (by unfold u64B;omega)

/-- What a function that reads leaves. -/
def FormP (ok : Nat → Prop) (S : Nat → Prop) (rg cg : Nat) (t : Value) (b : List UInt8) (a : Int) (w : World) (R : RdT) (e : Ending) (w' : World) : Prop :=
 ∃ v x,e = .returned v ∧ VtR w' (w.heap.size ≤ ·) v x ∧ Kp S w w' ∧
  match R with
  | .bad o er _ => RdB w' rg t (a + o) er ∧ er ≠ 0
  | .got y r _ => x = y ∧ RdB w' rg t 0 0 ∧ Cur w' ok cg r (a + (b.length - r.length : Nat))
def S2 (rg cg : Nat) : Nat → Prop := fun i => i = rg ∨ i = cg

section
variable {S : Nat → Prop} {w : World}
/-- The three stores of a value into a result. -/
theorem Kp.put3 {a : World} (h : Kp S a w) {B : Nat} (hB : S B ∨ a.heap.size ≤ B) (u0 u1 u2 : Value) : Kp S a (((w.setCell ⟨B,0,none⟩ u0).setCell ⟨B,1,none⟩ u1).setCell ⟨B,2,none⟩ u2) :=
 ((h.at_ B hB 0 u0).at_ B hB 1 u1).at_ B hB 2 u2
end

set_option maxRecDepth 100000 in
set_option maxHeartbeats 1600000 in
theorem bytes_any' (ok : Nat → Prop) (rg cg : Nat) (t : Value) (l : List UInt8) (a n : Int) (w : World) (got : List UInt8) (er : Int) (hn : nx l n = (got,er)) (hr : RdB w rg t 0 0) (hc : Cur w ok cg l a) (hoc : ¬ ok cg) (hrc : rg ≠ cg) (hokl : ∀ i,ok i → i < w.heap.size)
  (hl : l.length ≤ 140737488351232) (ha : 0 ≤ a) (hal : a + l.length ≤ 4611686018427387904) :
  Calls Tryd.prog 108 #[.pointer (some ⟨rg,0,none⟩),.pointer (some ⟨cg,0,none⟩),.int .i64 n] w fun e w' =>
   ∃ A c,e = .returned (.agg #[.int .u64 0,.slice A got.length c,.slice none 0 0]) ∧ VtR w' (w.heap.size ≤ ·) (.agg #[.int .u64 0,.slice A got.length c,.slice none 0 0]) (.mk ⟨0,got⟩ []) ∧ Kp (S2 rg cg) w w' ∧ (er = 0 → RdB w' rg t 0 0 ∧ Cur w' ok cg (l.drop got.length) (a + got.length)) ∧ (er ≠ 0 → RdB w' rg t (a + l.length) er) := by
 have hgl : got.length ≤ 140737488355328 := by
  have := nx_len l n
  rw [hn] at this
  simp only at this
  omega
 have hrlt : rg < w.heap.size := Blk.lt hr
 have hclt := hc.lt
 have ka : Kp (fun _ => False) w (w.alloc (.cells #[.int .u64 0,.slice none 0 0,.slice none 0 0] 31)) := (Kp.refl _ w).alloc _
 have HT := Lib.hid (take_any ok cg l a n _ (hc.kp ka (fun _ _ h => h) (fun h => h)) hoc hl ha (by omega))
 have HR0 := Lib.hid (hr.kp ka (fun h => h))
 have HB0 := Lib.hid (Blk.new w 31 #[.int .u64 0,.slice none 0 0,.slice none 0 0])
 have HKA := Lib.hid ka
 clear ka hr hc
 go_enter Tryd.func108,Tryd.ntmps108
 go_wp2_with fail
 refine HT.out.mono ?_
 rintro e w1 ⟨v1,rfl,hb1,hc1,hk1⟩
 rw [hn] at hb1 hc1 ⊢
 simp only at hb1 hc1 ⊢
 rw [World.size_alloc] at hb1
 have HB1 := Lib.hid (HB0.out.kp hk1 (by omega))
 have HR1 := Lib.hid (HR0.out.kp hk1 hrc)
 have HK1 := Lib.hid (show Kp (S2 rg cg) w w1 from (HKA.out.mono (fun _ _ h => h.elim)).then_ hk1 (fun i hi => .inl (.inr hi)))
 have HV1 := Lib.hid hb1
 have HC1 := Lib.hid hc1
 obtain ⟨A,c,rfl,_,_⟩ := id hb1
 clear hb1 hc1 hk1
 have FIN := Lib.hid (show ∀ (W : World),Kp (fun i => i = rg) w1 W → (er = 0 → W = w1) → (er ≠ 0 → RdB W rg t (a + l.length) er) →
   VtR (((W.setCell ⟨w.heap.size,0,none⟩ (.int .u64 0)).setCell ⟨w.heap.size,1,none⟩ (.slice A got.length c)).setCell ⟨w.heap.size,2,none⟩ (.slice none 0 0)) (w.heap.size ≤ ·) (.agg #[.int .u64 0,.slice A got.length c,.slice none 0 0]) (.mk ⟨0,got⟩ []) ∧
   Kp (S2 rg cg) w (((W.setCell ⟨w.heap.size,0,none⟩ (.int .u64 0)).setCell ⟨w.heap.size,1,none⟩ (.slice A got.length c)).setCell ⟨w.heap.size,2,none⟩ (.slice none 0 0)) ∧
   (er = 0 → RdB (((W.setCell ⟨w.heap.size,0,none⟩ (.int .u64 0)).setCell ⟨w.heap.size,1,none⟩ (.slice A got.length c)).setCell ⟨w.heap.size,2,none⟩ (.slice none 0 0)) rg t 0 0 ∧ Cur (((W.setCell ⟨w.heap.size,0,none⟩ (.int .u64 0)).setCell ⟨w.heap.size,1,none⟩ (.slice A got.length c)).setCell ⟨w.heap.size,2,none⟩ (.slice none 0 0)) ok cg (l.drop got.length) (a + got.length)) ∧
   (er ≠ 0 → RdB (((W.setCell ⟨w.heap.size,0,none⟩ (.int .u64 0)).setCell ⟨w.heap.size,1,none⟩ (.slice A got.length c)).setCell ⟨w.heap.size,2,none⟩ (.slice none 0 0)) rg t (a + l.length) er) from by
  intro W hk h0 h1
  have hs := HK1.out.size
  have hq : Kp (· = w.heap.size) W (((W.setCell ⟨w.heap.size,0,none⟩ (.int .u64 0)).setCell ⟨w.heap.size,1,none⟩ (.slice A got.length c)).setCell ⟨w.heap.size,2,none⟩ (.slice none 0 0)) := (Kp.refl (fun x => x = w.heap.size) W).put3 (B := w.heap.size) (.inl rfl) _ _ _
  refine ⟨?_,?_,?_,?_⟩
  ·exact VtR.bytes (((HV1.out.kp hk (fun i hi he => by omega)).kp hq (fun i hi he => by omega)).mono (fun i hi => by omega)) hgl
  ·exact (HK1.out.then_ hk (fun i hi => .inl (.inl hi))).then_ hq (fun i hi => .inr (by omega))
  ·intro he
   have := h0 he
   subst this
   exact ⟨HR1.out.kp hq (by omega),HC1.out.kp hq (fun i hi he => by have := hokl i hi;omega) (by omega)⟩
  ·intro he
   exact (h1 he).kp hq (by omega))
 have hb1 := HB1.out
 by_cases he : er = 0
 ·have hne : (er != 0) = false := by simp [he]
  have HZ := Lib.hid he
  clear he
  have z0 := hb1.frozen 0
  have z1 := hb1.frozen 1
  have z2 := hb1.frozen 2
  have y0 := hb1.cell 0
  have y1 := hb1.cell 1
  have y2 := hb1.cell 2
  simp at y0 y1 y2
  clear hb1
  go_wp2_with fail
  obtain ⟨f1,f2,f3,f4⟩ := FIN.out w1 (Kp.refl _ _) (fun _ => rfl) (fun h => absurd HZ.out h)
  refine bodyPost_ret (v := .agg #[.int .u64 0,.slice A got.length c,.slice none 0 0]) (by simp [results,Tryd.results108,go_sem,y0,y1,y2]) rfl ⟨A,c,rfl,f1,f2,f3,f4⟩
 ·have hne : (er != 0) = true := by simpa using he
  have hge : got = [] := by
   rcases nx_cases l n with ⟨h1,_⟩ | ⟨_,_,h3⟩
   ·rw [hn] at h1
    exact absurd h1 he
   ·rw [hn] at h3
    exact h3
  have HE := Lib.hid (end_any ok cg (l.drop got.length) (a + got.length) w1 HC1.out (by omega) (by rw [List.length_drop];omega))
  rw [show a + (got.length : Int) + ((l.drop got.length).length : Int) = a + (l.length : Int) by rw [hge];simp] at HE
  have HF := Lib.hid (fail_any rg t 0 0 (a + l.length) er w1 HR1.out)
  clear hb1 hge
  go_wp2_with (first | (go_at_call 82;refine HE.out.mono ?_;rintro e w2 ⟨rfl,rfl⟩) | (go_at_call 58;refine HF.out.mono ?_;rintro e w2 ⟨⟨v2,rfl⟩,hr2,hk2⟩;have hb2 := HB1.out.kp hk2 (by omega);have z0 := hb2.frozen 0;have z1 := hb2.frozen 1;have z2 := hb2.frozen 2;have y0 := hb2.cell 0;have y1 := hb2.cell 1;have y2 := hb2.cell 2;simp at y0 y1 y2;clear hb2))
  obtain ⟨f1,f2,f3,f4⟩ := FIN.out w2 hk2 (fun h => absurd h he) (fun _ => hr2)
  refine bodyPost_ret (v := .agg #[.int .u64 0,.slice A got.length c,.slice none 0 0]) (by simp [results,Tryd.results108,go_sem,y0,y1,y2]) rfl ⟨A,c,rfl,f1,f2,f3,f4⟩

/-- The stores of a result, told. -/
theorem form_fin {ok okn S : Nat → Prop} {rg cg : Nat} {t : Value} {b : List UInt8} {a : Int} {w W : World} {R : RdT} {u0 u1 u2 : Value} {x : Vt} {B : Nat} (hK : Kp S w W) (hB : w.heap.size ≤ B) (hv : VtR W okn (.agg #[u0,u1,u2]) x)
  (hokn : ∀ i,okn i → w.heap.size ≤ i ∧ i ≠ B) (hrg : rg ≠ B) (hcg : cg ≠ B) (hok : ∀ i,ok i → i ≠ B)
  (hR : match R with
  | .bad o er _ => RdB W rg t (a + o) er ∧ er ≠ 0
  | .got y r _ => x = y ∧ RdB W rg t 0 0 ∧ Cur W ok cg r (a + (b.length - r.length : Nat))) :
  FormP ok S rg cg t b a w R (.returned (.agg #[u0,u1,u2])) (((W.setCell ⟨B,0,none⟩ u0).setCell ⟨B,1,none⟩ u1).setCell ⟨B,2,none⟩ u2) := by
 have hq : Kp (fun i => i = B) W (((W.setCell ⟨B,0,none⟩ u0).setCell ⟨B,1,none⟩ u1).setCell ⟨B,2,none⟩ u2) := (Kp.refl (fun i => i = B) W).put3 (B := B) (.inl rfl) _ _ _
 refine ⟨_,x,rfl,(hv.kp hq (fun i hi he => (hokn i hi).2 he)).mono (fun i hi => (hokn i hi).1),hK.then_ hq (fun i hi => .inr (by omega)),?_⟩
 cases R with
 | bad o er q => exact ⟨hR.1.kp hq hrg,hR.2⟩
 | got y r q => exact ⟨hR.1,hR.2.1.kp hq hrg,hR.2.2.kp hq (fun i hi he => hok i hi he) hcg⟩

/-- A form's value. -/
abbrev fv (h : FH) (A : Option Addr) (n c : Nat) : Value := .agg #[.int .i64 h.k,.int .i64 h.s,.int .i64 h.lo,.int .i64 h.hi,.int .i64 h.st,.slice A n c]
theorem read_num {h : FH} {P : List Fm} {b got : List UInt8} {er : Int} (k0 : h.k = 0) (hs : szB h.s = true) (hn : nn b h.s = (got,er)) :
  (er = 0 ∧ readR (.mk h P) b = .got (.mk ⟨(be got : Nat),[]⟩ []) (b.drop got.length) 1 ∧ got.length ≤ b.length ∧ got.length ≤ 8) ∨ (er ≠ 0 ∧ readR (.mk h P) b = .bad b.length er 1 ∧ got = []) := by
 have hb := szB_true hs
 rw [nn,if_pos hs] at hn
 rw [readR_mk,if_pos k0]
 by_cases hl : (b.length : Int) < h.s
 ·rw [nx_short (by omega) hl] at hn
  injection hn with e1 e2
  subst e1 e2
  rw [if_pos hl]
  exact .inr ⟨by omega,rfl,rfl⟩
 ·rw [nx_ok (by omega) (by omega)] at hn
  injection hn with e1 e2
  subst e1 e2
  have hlen : (b.take h.s.toNat).length = h.s.toNat := by rw [List.length_take];omega
  rw [if_neg hl,hlen]
  exact .inl ⟨rfl,rfl,by omega,by omega⟩

set_option maxRecDepth 100000 in
set_option maxHeartbeats 1600000 in
theorem number_rd (ok : Nat → Prop) (rg cg : Nat) (t : Value) (h : FH) (P : List Fm) (A0 : Option Addr) (c0 : Nat) (b : List UInt8) (a : Int) (w : World) (k0 : h.k = 0) (hs : szB h.s = true) (hr : RdB w rg t 0 0) (hc : Cur w ok cg b a) (hoc : ¬ ok cg) (hrc : rg ≠ cg) (hokl : ∀ i,ok i → i < w.heap.size)
  (hl : b.length ≤ 140737488351232) (ha : 0 ≤ a) (hal : a + b.length ≤ 4611686018427387904) :
  Calls Tryd.prog 104 #[.pointer (some ⟨rg,0,none⟩),.pointer (some ⟨cg,0,none⟩),fv h A0 P.length c0] w (FormP ok (S2 rg cg) rg cg t b a w (readR (.mk h P) b)) := by
 obtain ⟨got,er,hn⟩ : ∃ got er,nn b h.s = (got,er) := ⟨_,_,rfl⟩
 have hcs := read_num (P := P) k0 hs hn
 generalize readR (.mk h P) b = R at hcs
 obtain ⟨k,s,lo,hi,st⟩ := h
 simp only at hn hs k0
 subst k0
 have hrlt : rg < w.heap.size := Blk.lt hr
 have hclt := hc.lt
 have ka : Kp (fun _ => False) w ((w.alloc (.cells #[.int .i64 0,.int .i64 s,.int .i64 lo,.int .i64 hi,.int .i64 st,.slice A0 P.length c0] 24)).alloc (.cells #[.int .u64 0,.slice none 0 0,.slice none 0 0] 31)) := ((Kp.refl _ w).alloc _).alloc _
 have HT := Lib.hid (number_any ok cg b a s _ (hc.kp ka (fun _ _ h => h) (fun h => h)) hoc hl ha (by omega))
 have HR0 := Lib.hid (hr.kp ka (fun h => h))
 have hb0 := Blk.new (w.alloc (.cells #[.int .i64 0,.int .i64 s,.int .i64 lo,.int .i64 hi,.int .i64 st,.slice A0 P.length c0] 24)) 31 #[.int .u64 0,.slice none 0 0,.slice none 0 0]
 rw [World.size_alloc] at hb0
 have HB0 := Lib.hid hb0
 have HKA := Lib.hid ka
 clear ka hr hc hb0
 go_enter Tryd.func104,Tryd.ntmps104
 go_wp2_with fail
 refine HT.out.mono ?_
 rintro e w1 ⟨rfl,hc1,hk1⟩
 rw [hn] at hc1 ⊢
 simp only at hc1 ⊢
 have HB1 := Lib.hid (HB0.out.kp hk1 (by omega))
 have HR1 := Lib.hid (HR0.out.kp hk1 hrc)
 have HK1 := Lib.hid (show Kp (S2 rg cg) w w1 from (HKA.out.mono (fun _ _ h => h.elim)).then_ hk1 (fun i hi => .inl (.inr hi)))
 have HC1 := Lib.hid hc1
 clear hc1 hk1
 rcases hcs with ⟨he,hR,hg1,hg2⟩ | ⟨he,hR,hg⟩
 ·have hne : (er != 0) = false := by simp [he]
  have hb2 := HB1.out
  have z0 := hb2.frozen 0
  have z1 := hb2.frozen 1
  have z2 := hb2.frozen 2
  have y0 := hb2.cell 0
  have y1 := hb2.cell 1
  have y2 := hb2.cell 2
  simp at y0 y1 y2
  clear hb2 he
  go_wp2_with fail
  refine bodyPost_ret (v := .agg #[.int .u64 ((be got : Nat) : Int),.slice none 0 0,.slice none 0 0]) (by simp [results,Tryd.results104,go_sem,y0,y1,y2]) rfl ?_
  refine form_fin (okn := fun _ => False) HK1.out (by omega) (VtR.num (u64_be hg2)) (fun i hi => hi.elim) (by omega) (by omega) (fun i hi => by have := hokl i hi;omega) ?_
  rw [hR]
  refine ⟨rfl,HR1.out,?_⟩
  have hc2 := HC1.out
  rw [show b.length - (b.drop got.length).length = got.length by rw [List.length_drop];omega]
  exact hc2
 ·have hne : (er != 0) = true := by simpa using he
  have hg0 : got.length = 0 := by rw [hg];rfl
  have HE := Lib.hid (end_any ok cg (b.drop got.length) (a + got.length) w1 HC1.out (by omega) (by rw [List.length_drop];omega))
  rw [show a + (got.length : Int) + ((b.drop got.length).length : Int) = a + (b.length : Int) by rw [hg];simp] at HE
  have HF := Lib.hid (fail_any rg t 0 0 (a + b.length) er w1 HR1.out)
  have hg8 : got.length ≤ 8 := by rw [hg];simp
  clear hg hg0
  go_wp2_with (first | (go_at_call 82;refine HE.out.mono ?_;rintro e w2 ⟨rfl,rfl⟩) | (go_at_call 58;refine HF.out.mono ?_;rintro e w2 ⟨⟨v2,rfl⟩,hr2,hk2⟩;have hb2 := HB1.out.kp hk2 (by omega);have z0 := hb2.frozen 0;have z1 := hb2.frozen 1;have z2 := hb2.frozen 2;have y0 := hb2.cell 0;have y1 := hb2.cell 1;have y2 := hb2.cell 2;simp at y0 y1 y2;clear hb2))
  refine bodyPost_ret (v := .agg #[.int .u64 ((be got : Nat) : Int),.slice none 0 0,.slice none 0 0]) (by simp [results,Tryd.results104,go_sem,y0,y1,y2]) rfl ?_
  refine form_fin (okn := fun _ => False) (HK1.out.then_ hk2 (fun i hi => .inl (.inl hi))) (by omega) (VtR.num (u64_be hg8)) (fun i hi => hi.elim) (by omega) (by omega) (fun i hi => by have := hokl i hi;omega) ?_
  rw [hR]
  exact ⟨hr2,he⟩
end Go.Proofs.YtdhnfccgojgehaaDoor

namespace Go.Proofs.YtdhnfccgojgehaaDoor
open Go.RowKit

/-- What sub leaves. -/
def SubQ (ok : Nat → Prop) (rg cg : Nat) (t : Value) (b : List UInt8) (a : Int) (s : Nat) (w : World) (L : Int × Int × Nat) (e : Ending) (w' : World) : Prop :=
 Kp (S2 rg cg) w w' ∧ ((L.2.1 ≠ 0 ∧ e = .returned (.pointer none) ∧ RdB w' rg t (a + L.1) L.2.1) ∨
  (L.2.1 = 0 ∧ ∃ g',e = .returned (.pointer (some ⟨g',0,none⟩)) ∧ w.heap.size ≤ g' ∧ Cur w' ok g' ((b.drop s).take L.2.2) (a + s) ∧ Cur w' ok cg (b.drop (s + L.2.2)) (a + (s + L.2.2 : Nat)) ∧ RdB w' rg t 0 0))
theorem len_cases {h : FH} {b got : List UInt8} {er : Int} (hs : 1 ≤ h.s ∧ h.s ≤ 3) (hn : nn b h.s = (got,er)) :
  (er ≠ 0 ∧ lenE h b = ((b.length : Int),er,0) ∧ got = []) ∨
  (er = 0 ∧ got = b.take h.s.toNat ∧ h.s.toNat ≤ b.length ∧ be got ≤ 16777215 ∧
   ((((be got : Nat) : Int) < h.lo ∨ h.hi < ((be got : Nat) : Int) ∨ Int.tmod ((be got : Nat) : Int) h.st ≠ 0) ∧ lenE h b = (0,5,0) ∨
    (h.lo ≤ ((be got : Nat) : Int) ∧ ((be got : Nat) : Int) ≤ h.hi ∧ Int.tmod ((be got : Nat) : Int) h.st = 0) ∧ (b.length < h.s.toNat + be got ∧ lenE h b = ((b.length : Int),4,0) ∨ h.s.toNat + be got ≤ b.length ∧ lenE h b = (0,0,be got)))) := by
 have hb : szB h.s = true := by unfold szB;simp only [Bool.or_eq_true,decide_eq_true_eq];omega
 rw [nn,if_pos hb] at hn
 unfold lenE
 by_cases hl : (b.length : Int) < h.s
 ·rw [nx_short (by omega) hl] at hn
  injection hn with e1 e2
  subst e1 e2
  rw [if_pos hl]
  exact .inl ⟨by omega,rfl,rfl⟩
 ·rw [nx_ok (by omega) (by omega)] at hn
  injection hn with e1 e2
  subst e1 e2
  rw [if_neg hl]
  have hlt := be_lt (b.take h.s.toNat)
  have hlen : (b.take h.s.toNat).length = h.s.toNat := by rw [List.length_take];omega
  rw [hlen] at hlt
  have h3 : (256 : Nat) ^ h.s.toNat ≤ 256 ^ 3 := Nat.pow_le_pow_right (by omega) (by omega)
  have h4 : (256 : Nat) ^ 3 = 16777216 := by decide
  refine .inr ⟨rfl,rfl,by omega,by omega,?_⟩
  split
  ·rename_i hc
   exact .inl ⟨hc,rfl⟩
  ·rename_i hc
   simp only [not_or,Decidable.not_not] at hc
   refine .inr ⟨⟨by omega,by omega,hc.2.2⟩,?_⟩
   split
   ·exact .inl ⟨by assumption,rfl⟩
   ·exact .inr ⟨by omega,rfl⟩

set_option maxRecDepth 100000 in
set_option maxHeartbeats 3200000 in
theorem sub_rd (ok : Nat → Prop) (rg cg : Nat) (t : Value) (h : FH) (n0 : Nat) (A0 : Option Addr) (c0 : Nat) (b : List UInt8) (a : Int) (w : World) (hs : 1 ≤ h.s ∧ h.s ≤ 3) (hst : 1 ≤ h.st ∧ h.st ≤ 65536) (hr : RdB w rg t 0 0) (hc : Cur w ok cg b a) (hoc : ¬ ok cg) (hrc : rg ≠ cg)
  (hl : b.length ≤ 140737488351232) (ha : 0 ≤ a) (hal : a + b.length ≤ 4611686018427387904) :
  Calls Tryd.prog 73 #[.pointer (some ⟨rg,0,none⟩),.pointer (some ⟨cg,0,none⟩),fv h A0 n0 c0] w (SubQ ok rg cg t b a h.s.toNat w (lenE h b)) := by
 obtain ⟨got,er,hn⟩ : ∃ got er,nn b h.s = (got,er) := ⟨_,_,rfl⟩
 have hcs := len_cases hs hn
 generalize lenE h b = L at hcs
 obtain ⟨k,s,lo,hi,st⟩ := h
 simp only at hn hs hst hcs
 have hrlt : rg < w.heap.size := Blk.lt hr
 have hclt := hc.lt
 have ka : Kp (fun _ => False) w (w.alloc (.cells #[.int .i64 k,.int .i64 s,.int .i64 lo,.int .i64 hi,.int .i64 st,.slice A0 n0 c0] 24)) := (Kp.refl _ w).alloc _
 have HAT := Lib.hid (at_any ok cg b a _ (hc.kp ka (fun _ _ h => h) (fun h => h)))
 have HT := Lib.hid (number_any ok cg b a s _ (hc.kp ka (fun _ _ h => h) (fun h => h)) hoc hl ha (by omega))
 have HR0 := Lib.hid (hr.kp ka (fun h => h))
 have HB0 := Lib.hid (Blk.new w 24 #[.int .i64 k,.int .i64 s,.int .i64 lo,.int .i64 hi,.int .i64 st,.slice A0 n0 c0])
 have HKA := Lib.hid ka
 clear ka hr hc
 go_enter Tryd.func73,Tryd.ntmps73
 go_wp2_with (go_at_call 43;refine HAT.out.mono ?_;rintro e w0 ⟨rfl,rfl⟩)
 refine HT.out.mono ?_
 rintro e w1 ⟨rfl,hc1,hk1⟩
 rw [hn] at hc1 ⊢
 simp only at hc1 ⊢
 have HB1 := Lib.hid (HB0.out.kp hk1 (by omega))
 have HR1 := Lib.hid (HR0.out.kp hk1 hrc)
 have HK1 := Lib.hid (show Kp (S2 rg cg) w w1 from (HKA.out.mono (fun _ _ h => h.elim)).then_ hk1 (fun i hi => .inl (.inr hi)))
 have HC1 := Lib.hid hc1
 have hb1 := HB1.out
 have y0 := hb1.cell 0
 have y1 := hb1.cell 1
 have y2 := hb1.cell 2
 have y3 := hb1.cell 3
 have y4 := hb1.cell 4
 simp at y0 y1 y2 y3 y4
 clear hc1 hk1 hb1
 rcases hcs with ⟨he,hL,hg⟩ | ⟨he,hg,hsl,hbe,hcs⟩
 ·have hne : (er != 0) = true := by simpa using he
  have hg0 : got.length = 0 := by rw [hg];rfl
  have HE := Lib.hid (end_any ok cg (b.drop got.length) (a + got.length) w1 HC1.out (by omega) (by rw [List.length_drop];omega))
  rw [show a + (got.length : Int) + ((b.drop got.length).length : Int) = a + (b.length : Int) by rw [hg];simp] at HE
  have HF := Lib.hid (fail_any rg t 0 0 (a + b.length) er w1 HR1.out)
  have hz : be got = 0 := by rw [hg];rfl
  rw [hz]
  clear hg hz HT hg0
  go_wp2_with (first | (go_at_call 82;refine HE.out.mono ?_;rintro e w2 ⟨rfl,rfl⟩) | (go_at_call 58;refine HF.out.mono ?_;rintro e w2 ⟨⟨v2,rfl⟩,hr2,hk2⟩))
  go_ret
  rw [hL]
  exact ⟨HK1.out.then_ hk2 (fun i hi => .inl (.inl hi)),.inl ⟨he,rfl,hr2⟩⟩
 ·have hne : (er != 0) = false := by simp [he]
  have hgl : got.length = s.toNat := by rw [hg,List.length_take];omega
  have HC2 := HC1.out
  rw [hgl] at HC2
  have HC3 := Lib.hid HC2
  clear HC2 HC1 HT he hg hgl
  generalize be got = m at *
  have hwm : IntKind.i64.wrap (m : Int) = (m : Int) := IntWalk.i64_in _ (by omega)
  rcases hcs with ⟨hbad,hL⟩ | ⟨⟨q1,q2,q3⟩,hlen⟩
  ·have HF := Lib.hid (fail_any rg t 0 0 a 5 w1 HR1.out)
   have hst0 : st ≠ 0 := by omega
   have HX := Lib.hid (show ∀ w2,RdB w2 rg t a 5 → Kp (fun i => i = rg) w1 w2 → SubQ ok rg cg t b a s.toNat w L (.returned (.pointer none)) w2 from fun w2 hr2 hk2 => by
    rw [hL]
    exact ⟨HK1.out.then_ hk2 (fun i hi => .inl (.inl hi)),.inl ⟨by simp,rfl,by simpa using hr2⟩⟩)
   clear hL
   by_cases p1 : (m : Int) < lo
   ·clear hbad
    go_wp2_with (go_at_call 58;refine HF.out.mono ?_;rintro e w2 ⟨⟨v2,rfl⟩,hr2,hk2⟩)
    go_ret
    exact HX.out w2 hr2 hk2
   ·by_cases p2 : hi < (m : Int)
    ·clear hbad
     go_wp2_with (go_at_call 58;refine HF.out.mono ?_;rintro e w2 ⟨⟨v2,rfl⟩,hr2,hk2⟩)
     go_ret
     exact HX.out w2 hr2 hk2
    ·have p3 : ((m : Int) % st != 0) = true := by
      rw [← Int.tmod_eq_emod_of_nonneg (by omega)]
      rcases hbad with h | h | h
      ·exact absurd h p1
      ·exact absurd h p2
      ·simpa using h
     clear hbad
     go_wp2_with (go_at_call 58;refine HF.out.mono ?_;rintro e w2 ⟨⟨v2,rfl⟩,hr2,hk2⟩)
     go_ret
     exact HX.out w2 hr2 hk2
  ·have hst0 : st ≠ 0 := by omega
   have p3 : ((m : Int) % st != 0) = false := by rw [Int.tmod_eq_emod_of_nonneg (by omega)] at q3;simp [q3]
   have p1 : decide ((m : Int) < lo) = false := by simp;omega
   have p2 : decide (hi < (m : Int)) = false := by simp;omega
   clear q3
   have hdl : (b.drop s.toNat).length = b.length - s.toNat := List.length_drop
   rcases hlen with ⟨hshort,hL⟩ | ⟨hfit,hL⟩
   ·have HS := Lib.hid (sub_err ok cg (b.drop s.toNat) (a + s.toNat) m w1 HC3.out hoc (by omega) (by omega) (by omega) (.inr (by omega)))
    have hnx : (nx (b.drop s.toNat) (m : Int)).2 = 4 := by rw [nx_short (by omega) (by omega)]
    have HX := Lib.hid (show ∀ w2 w3,Cur w2 ok cg (b.drop s.toNat) (a + s.toNat) → Kp (fun i => i = cg) w1 w2 → RdB w3 rg t (a + b.length) 4 → Kp (fun i => i = rg) w2 w3 → SubQ ok rg cg t b a s.toNat w L (.returned (.pointer none)) w3 from fun w2 w3 _ hk2 hr3 hk3 => by
     rw [hL]
     exact ⟨(HK1.out.then_ hk2 (fun i hi => .inl (.inr hi))).then_ hk3 (fun i hi => .inl (.inl hi)),.inl ⟨by simp,rfl,hr3⟩⟩)
    have HEN := Lib.hid (fun w2 (hc2 : Cur w2 ok cg (b.drop s.toNat) (a + s.toNat)) => end_any ok cg (b.drop s.toNat) (a + s.toNat) w2 hc2 (by omega) (by omega))
    have HFA := Lib.hid (fun w2 (hk2 : Kp (fun i => i = cg) w1 w2) => fail_any rg t 0 0 (a + b.length) 4 w2 (HR1.out.kp hk2 hrc))
    rw [show a + (s.toNat : Int) + ((b.drop s.toNat).length : Int) = a + (b.length : Int) by omega] at HEN
    unfold SubE at HS
    rw [hnx] at HS
    clear hL hnx hdl
    go_wp2_with (first | (go_at_call 83;refine HS.out.mono ?_;rintro e w2 ⟨rfl,hc2,hk2⟩;have HE2 := Lib.hid (HEN.out w2 hc2);have HF2 := Lib.hid (HFA.out w2 hk2);have HX2 := Lib.hid (fun w3 => HX.out w2 w3 hc2 hk2);clear HEN HFA HX hc2 hk2) | (go_at_call 82;refine HE2.out.mono ?_;rintro e w3 ⟨rfl,rfl⟩) | (go_at_call 58;refine HF2.out.mono ?_;rintro e w3 ⟨⟨v2,rfl⟩,hr3,hk3⟩))
    go_ret
    exact HX2.out w3 hr3 hk3
   ·have HS := Lib.hid (sub_ok ok cg (b.drop s.toNat) (a + s.toNat) m w1 HC3.out hoc (by omega) (by omega) (by omega) (by omega))
    have HX := Lib.hid (show ∀ g' w2,w1.heap.size ≤ g' → Cur w2 ok g' ((b.drop s.toNat).take m) (a + s.toNat) → Cur w2 ok cg ((b.drop s.toNat).drop m) (a + s.toNat + m) → Kp (fun i => i = cg) w1 w2 → SubQ ok rg cg t b a s.toNat w L (.returned (.pointer (some ⟨g',0,none⟩))) w2 from fun g' w2 hg' hc2 hc3 hk2 => by
     rw [hL]
     refine ⟨HK1.out.then_ hk2 (fun i hi => .inl (.inr hi)),.inr ⟨rfl,g',rfl,by have := HK1.out.size;omega,hc2,?_,HR1.out.kp hk2 hrc⟩⟩
     rw [List.drop_drop] at hc3
     have e : a + (s.toNat : Int) + (m : Int) = a + ((s.toNat + m : Nat) : Int) := by omega
     rw [e] at hc3
     exact hc3)
    clear hL hdl
    go_wp2_with (go_at_call 83;refine HS.out.mono ?_;rintro e w2 ⟨g',rfl,hg',hc2,hc3,hk2⟩;have HX2 := Lib.hid (HX.out g' w2 hg' hc2 hc3 hk2);clear HX hc2 hc3 hk2 hg')
    go_ret
    exact HX2.out
end Go.Proofs.YtdhnfccgojgehaaDoor

namespace Go.Proofs.YtdhnfccgojgehaaDoor
open Go.RowKit

theorem Cur.drewN {w : World} {ok : Nat → Prop} {g : Nat} {l : List UInt8} {a : Int} (h : Cur w ok g l a) (n : Nat) : Cur (w.drewN n) ok g l a := h.kp (S := fun _ => False) ((Kp.refl _ w).drewN n) (fun _ _ h => h) (fun h => h)
theorem read_opq {h : FH} {P : List Fm} {b : List UInt8} (k1 : h.k = 1) : readR (.mk h P) b = if (lenE h b).2.1 ≠ 0 then .bad (lenE h b).1 (lenE h b).2.1 1 else .got (.mk ⟨0,(b.drop h.s.toNat).take (lenE h b).2.2⟩ []) (b.drop (h.s.toNat + (lenE h b).2.2)) 1 := by
 rw [readR_mk,if_neg (by omega),if_pos k1]
set_option maxRecDepth 100000 in
set_option maxHeartbeats 1600000 in
theorem opaque_rd (ok : Nat → Prop) (rg cg : Nat) (t : Value) (h : FH) (P : List Fm) (A0 : Option Addr) (c0 : Nat) (b : List UInt8) (a : Int) (w : World) (k1 : h.k = 1) (hs : 1 ≤ h.s ∧ h.s ≤ 3) (hst : 1 ≤ h.st ∧ h.st ≤ 65536) (hr : RdB w rg t 0 0) (hc : Cur w ok cg b a) (hor : ¬ ok rg) (hoc : ¬ ok cg) (hrc : rg ≠ cg) (hokl : ∀ i,ok i → i < w.heap.size)
  (hl : b.length ≤ 140737488351232) (ha : 0 ≤ a) (hal : a + b.length ≤ 4611686018427387904) :
  Calls Tryd.prog 105 #[.pointer (some ⟨rg,0,none⟩),.pointer (some ⟨cg,0,none⟩),fv h A0 P.length c0] w (FormP ok (S2 rg cg) rg cg t b a w (readR (.mk h P) b)) := by
 have hR := read_opq (P := P) (b := b) k1
 have hsub := fun (W : World) h1 h2 => sub_rd ok rg cg t h P.length A0 c0 b a W hs hst h1 h2 hoc hrc hl ha hal
 have hLn : (lenE h b).2.1 = 0 → h.s.toNat + (lenE h b).2.2 ≤ b.length := fun he => (lenE_ok he).2.2.2.2.1
 generalize readR (.mk h P) b = R at hR
 generalize lenE h b = L at hR hsub hLn
 obtain ⟨k,s,lo,hi,st⟩ := h
 simp only at hs hst hR k1 hLn hsub
 subst k1
 have hrlt : rg < w.heap.size := Blk.lt hr
 have hclt := hc.lt
 have ka : Kp (fun _ => False) w ((w.alloc (.cells #[.int .i64 1,.int .i64 s,.int .i64 lo,.int .i64 hi,.int .i64 st,.slice A0 P.length c0] 24)).alloc (.cells #[.int .u64 0,.slice none 0 0,.slice none 0 0] 31)) := ((Kp.refl _ w).alloc _).alloc _
 have HS := Lib.hid (hsub _ (hr.kp ka (fun h => h)) (hc.kp ka (fun _ _ h => h) (fun h => h)))
 have hb0 := Blk.new (w.alloc (.cells #[.int .i64 1,.int .i64 s,.int .i64 lo,.int .i64 hi,.int .i64 st,.slice A0 P.length c0] 24)) 31 #[.int .u64 0,.slice none 0 0,.slice none 0 0]
 rw [World.size_alloc] at hb0
 have HB0 := Lib.hid hb0
 have HKA := Lib.hid ka
 have hsz : ((w.alloc (.cells #[.int .i64 1,.int .i64 s,.int .i64 lo,.int .i64 hi,.int .i64 st,.slice A0 P.length c0] 24)).alloc (.cells #[.int .u64 0,.slice none 0 0,.slice none 0 0] 31)).heap.size = w.heap.size + 2 := by rw [World.size_alloc,World.size_alloc]
 have HRR := Lib.hid hR
 have HLN := Lib.hid hLn
 clear ka hr hc hb0 hsub hR hLn
 go_enter Tryd.func105,Tryd.ntmps105
 go_wp2_with fail
 refine HS.out.mono ?_
 rintro e w1 ⟨hk1,hres⟩
 have HB1 := Lib.hid (HB0.out.kp hk1 (by unfold S2;omega))
 have HK1 := Lib.hid (show Kp (S2 rg cg) w w1 from (HKA.out.mono (fun _ _ h => h.elim)).then_ hk1 (fun i hi => .inl hi))
 have hz1 := hk1.size
 rw [hsz] at hz1
 rcases hres with ⟨he,rfl,hr1⟩ | ⟨he,g',rfl,hg',hc1,hc2,hr1⟩
 ·have HR1 := Lib.hid hr1
  have hR := HRR.out
  rw [if_pos he] at hR
  have hb2 := HB1.out
  have z0 := hb2.frozen 0
  have z1 := hb2.frozen 1
  have z2 := hb2.frozen 2
  have y0 := hb2.cell 0
  have y1 := hb2.cell 1
  have y2 := hb2.cell 2
  simp at y0 y1 y2
  have HE := Lib.hid he
  clear hb2 hr1 hk1 HS he
  go_wp2_with fail
  refine bodyPost_ret (v := .agg #[.int .u64 0,.slice none 0 0,.slice none 0 0]) (by simp [results,Tryd.results105,go_sem,y0,y1,y2]) rfl ?_
  refine form_fin (okn := fun _ => False) HK1.out (by omega) VtR.zero (fun i hi => hi.elim) (by omega) (by omega) (fun i hi => by have := hokl i hi;omega) ?_
  rw [hR]
  exact ⟨HR1.out,HE.out⟩
 ·have hl2 := HLN.out he
  have hR := HRR.out
  rw [if_neg (by simp [he])] at hR
  clear HRR HLN
  generalize L.2.2 = n at *
  have hdl : ((b.drop s.toNat).take n).length = n := by rw [List.length_take,List.length_drop];omega
  have hnx : nx ((b.drop s.toNat).take n) (n : Int) = ((b.drop s.toNat).take n,0) := by
   rw [nx_ok (by omega) (by omega)]
   simp [List.take_take]
  rw [hsz] at hg'
  have HL := Lib.hid (left_any ok g' _ _ w1 hc1)
  generalize (b.drop s.toNat).take n = B at *
  rw [hdl] at HL
  have HY := Lib.hid (bytes_any' ok rg g' t _ _ n w1 _ _ hnx hr1 hc1 (fun h => by have := hokl g' h;omega) (by omega) (fun i hi => by have := hokl i hi;omega) (by omega) (by omega) (by omega))
  have HC2 := Lib.hid hc2
  clear hr1 hc1 hc2 hk1 HS hnx hdl he
  go_wp2_with (go_at_call 42;refine HL.out.mono ?_;rintro e w2 ⟨rfl,rfl⟩)
  refine HY.out.mono ?_
  rintro e w2 ⟨A5,c5,rfl,hv2,hk2,hq1,_⟩
  have hb2 := HB1.out.kp hk2 (by unfold S2;omega)
  have z0 := hb2.frozen 0
  have z1 := hb2.frozen 1
  have z2 := hb2.frozen 2
  have y0 := hb2.cell 0
  have y1 := hb2.cell 1
  have y2 := hb2.cell 2
  simp at y0 y1 y2
  have HV2 := Lib.hid hv2
  have HQ1 := Lib.hid (hq1 (by first | rfl | trivial))
  have HK2 := Lib.hid hk2
  clear hb2 hq1 hv2 hk2
  go_wp2_with fail
  refine bodyPost_ret (v := .agg #[.int .u64 0,.slice A5 B.length c5,.slice none 0 0]) (by simp [results,Tryd.results105,go_sem,y0,y1,y2]) rfl ?_
  refine form_fin (okn := fun i => w1.heap.size ≤ i) (HK1.out.then_ HK2.out (fun i hi => by unfold S2 at hi ⊢;omega)) (by omega) HV2.out (fun i hi => by omega) (by omega) (by omega) (fun i hi => by have := hokl i hi;omega) ?_
  rw [hR]
  refine ⟨rfl,HQ1.out.1,?_⟩
  rw [show b.length - (b.drop (s.toNat + n)).length = s.toNat + n by rw [List.length_drop];omega]
  exact HC2.out.kp HK2.out (fun i hi he => by rcases he with rfl | rfl;exact hor hi;have := hokl _ hi;omega) (by unfold S2;omega)

theorem read_fix {h : FH} {P : List Fm} {b got : List UInt8} {er : Int} (k5 : h.k = 5) (h0 : 0 ≤ h.lo) (hn : nx b h.lo = (got,er)) :
  (er = 0 ∧ readR (.mk h P) b = .got (.mk ⟨0,got⟩ []) (b.drop got.length) 1 ∧ got.length ≤ b.length) ∨ (er ≠ 0 ∧ readR (.mk h P) b = .bad b.length er 1) := by
 rw [readR_mk,if_neg (by omega),if_neg (by omega),if_neg (by omega),if_pos k5]
 by_cases hl : (b.length : Int) < h.lo
 ·rw [nx_short (by omega) hl] at hn
  injection hn with e1 e2
  subst e1 e2
  rw [if_pos hl]
  exact .inr ⟨by omega,rfl⟩
 ·rw [nx_ok (by omega) (by omega)] at hn
  injection hn with e1 e2
  subst e1 e2
  have hlen : (b.take h.lo.toNat).length = h.lo.toNat := by rw [List.length_take];omega
  rw [if_neg hl,hlen]
  exact .inl ⟨rfl,rfl,by omega⟩
set_option maxRecDepth 100000 in
set_option maxHeartbeats 1600000 in
theorem fixed_rd (ok : Nat → Prop) (rg cg : Nat) (t : Value) (h : FH) (P : List Fm) (A0 : Option Addr) (c0 : Nat) (b : List UInt8) (a : Int) (w : World) (k5 : h.k = 5) (h0 : 0 ≤ h.lo) (hr : RdB w rg t 0 0) (hc : Cur w ok cg b a) (hoc : ¬ ok cg) (hrc : rg ≠ cg) (hokl : ∀ i,ok i → i < w.heap.size)
  (hl : b.length ≤ 140737488351232) (ha : 0 ≤ a) (hal : a + b.length ≤ 4611686018427387904) :
  Calls Tryd.prog 107 #[.pointer (some ⟨rg,0,none⟩),.pointer (some ⟨cg,0,none⟩),fv h A0 P.length c0] w (FormP ok (S2 rg cg) rg cg t b a w (readR (.mk h P) b)) := by
 obtain ⟨got,er,hn⟩ : ∃ got er,nx b h.lo = (got,er) := ⟨_,_,rfl⟩
 have HCS := Lib.hid (read_fix (P := P) k5 h0 hn)
 generalize readR (.mk h P) b = R at HCS
 obtain ⟨k,s,lo,hi,st⟩ := h
 simp only at hn k5
 subst k5
 have hrlt : rg < w.heap.size := Blk.lt hr
 have hclt := hc.lt
 have ka : Kp (fun _ => False) w ((w.alloc (.cells #[.int .i64 5,.int .i64 s,.int .i64 lo,.int .i64 hi,.int .i64 st,.slice A0 P.length c0] 24)).alloc (.cells #[.int .u64 0,.slice none 0 0,.slice none 0 0] 31)) := ((Kp.refl _ w).alloc _).alloc _
 have hsz : ((w.alloc (.cells #[.int .i64 5,.int .i64 s,.int .i64 lo,.int .i64 hi,.int .i64 st,.slice A0 P.length c0] 24)).alloc (.cells #[.int .u64 0,.slice none 0 0,.slice none 0 0] 31)).heap.size = w.heap.size + 2 := by rw [World.size_alloc,World.size_alloc]
 have HY := Lib.hid (bytes_any' ok rg cg t b a lo _ got er hn (hr.kp ka (fun h => h)) (hc.kp ka (fun _ _ h => h) (fun h => h)) hoc hrc (fun i hi => by have := hokl i hi;rw [hsz];omega) hl ha hal)
 have hb0 := Blk.new (w.alloc (.cells #[.int .i64 5,.int .i64 s,.int .i64 lo,.int .i64 hi,.int .i64 st,.slice A0 P.length c0] 24)) 31 #[.int .u64 0,.slice none 0 0,.slice none 0 0]
 rw [World.size_alloc] at hb0
 have HB0 := Lib.hid hb0
 have HKA := Lib.hid ka
 clear ka hr hc hb0 hn
 go_enter Tryd.func107,Tryd.ntmps107
 go_wp2_with fail
 refine HY.out.mono ?_
 rintro e w2 ⟨A5,c5,rfl,hv2,hk2,hq1,hq2⟩
 have hb2 := HB0.out.kp hk2 (by unfold S2;omega)
 have z0 := hb2.frozen 0
 have z1 := hb2.frozen 1
 have z2 := hb2.frozen 2
 have y0 := hb2.cell 0
 have y1 := hb2.cell 1
 have y2 := hb2.cell 2
 simp at y0 y1 y2
 rw [hsz] at hv2
 have HV2 := Lib.hid hv2
 have HQ1 := Lib.hid hq1
 have HQ2 := Lib.hid hq2
 have HK2 := Lib.hid (show Kp (S2 rg cg) w w2 from (HKA.out.mono (fun _ _ h => h.elim)).then_ hk2 (fun i hi => .inl hi))
 clear hb2 hq1 hq2 hv2 hk2
 go_wp2_with fail
 refine bodyPost_ret (v := .agg #[.int .u64 0,.slice A5 got.length c5,.slice none 0 0]) (by simp [results,Tryd.results107,go_sem,y0,y1,y2]) rfl ?_
 refine form_fin (okn := fun i => w.heap.size + 2 ≤ i) HK2.out (by omega) HV2.out (fun i hi => by omega) (by omega) (by omega) (fun i hi => by have := hokl i hi;omega) ?_
 rcases HCS.out with ⟨he,hR,hg⟩ | ⟨he,hR⟩
 ·rw [hR]
  refine ⟨rfl,(HQ1.out he).1,?_⟩
  rw [show b.length - (b.drop got.length).length = got.length by rw [List.length_drop];omega]
  exact (HQ1.out he).2
 ·rw [hR]
  exact ⟨HQ2.out he,he⟩
end Go.Proofs.YtdhnfccgojgehaaDoor

namespace Go.Proofs.YtdhnfccgojgehaaDoor
open Go.RowKit

theorem RdB.drewN {w : World} {g : Nat} {t : Value} {a e : Int} (h : RdB w g t a e) (n : Nat) : RdB (w.drewN n) g t a e := h
set_option maxRecDepth 100000 in
set_option maxHeartbeats 1600000 in
theorem rest_rd (ok : Nat → Prop) (rg cg : Nat) (t : Value) (h : FH) (P : List Fm) (A0 : Option Addr) (c0 : Nat) (b : List UInt8) (a : Int) (w : World) (k4 : h.k = 4) (h0 : 0 ≤ h.lo ∧ h.lo ≤ h.hi ∧ h.hi ≤ 16777215) (hr : RdB w rg t 0 0) (hc : Cur w ok cg b a) (hoc : ¬ ok cg) (hrc : rg ≠ cg) (hokl : ∀ i,ok i → i < w.heap.size)
  (hl : b.length ≤ 140737488351232) (ha : 0 ≤ a) (hal : a + b.length ≤ 4611686018427387904) :
  Calls Tryd.prog 106 #[.pointer (some ⟨rg,0,none⟩),.pointer (some ⟨cg,0,none⟩),fv h A0 P.length c0] w (FormP ok (S2 rg cg) rg cg t b a w (readR (.mk h P) b)) := by
 have hR : readR (.mk h P) b = if (b.length : Int) < h.lo then .bad b.length 4 1 else if h.hi < (b.length : Int) then .bad h.hi 6 1 else .got (.mk ⟨0,b⟩ []) [] 1 := by
  rw [readR_mk,if_neg (by omega),if_neg (by omega),if_pos k4]
 generalize readR (.mk h P) b = R at hR
 obtain ⟨k,s,lo,hi,st⟩ := h
 simp only at hR k4 h0
 subst k4
 have hrlt : rg < w.heap.size := Blk.lt hr
 have hclt := hc.lt
 have ka : Kp (fun _ => False) w ((w.alloc (.cells #[.int .i64 4,.int .i64 s,.int .i64 lo,.int .i64 hi,.int .i64 st,.slice A0 P.length c0] 24)).alloc (.cells #[.int .u64 0,.slice none 0 0,.slice none 0 0] 31)) := ((Kp.refl _ w).alloc _).alloc _
 have hsz : ((w.alloc (.cells #[.int .i64 4,.int .i64 s,.int .i64 lo,.int .i64 hi,.int .i64 st,.slice A0 P.length c0] 24)).alloc (.cells #[.int .u64 0,.slice none 0 0,.slice none 0 0] 31)).heap.size = w.heap.size + 2 := by rw [World.size_alloc,World.size_alloc]
 have hb0 := Blk.new (w.alloc (.cells #[.int .i64 4,.int .i64 s,.int .i64 lo,.int .i64 hi,.int .i64 st,.slice A0 P.length c0] 24)) 31 #[.int .u64 0,.slice none 0 0,.slice none 0 0]
 rw [World.size_alloc] at hb0
 have HB0 := Lib.hid hb0
 have HBF := Lib.hid ((Blk.new w 24 #[.int .i64 4,.int .i64 s,.int .i64 lo,.int .i64 hi,.int .i64 st,.slice A0 P.length c0]).alloc (.cells #[.int .u64 0,.slice none 0 0,.slice none 0 0] 31))
 have HC0 := Lib.hid (hc.kp ka (fun _ _ h => h) (fun h => h))
 have HR0 := Lib.hid (hr.kp ka (fun h => h))
 have HKA := Lib.hid ka
 have HRR := Lib.hid hR
 clear ka hr hc hb0 hR
 go_enter Tryd.func106,Tryd.ntmps106
 go_upto_region 1 with fail
 obtain ⟨W,hW⟩ : ∃ W,(w.alloc (.cells #[.int .i64 4,.int .i64 s,.int .i64 lo,.int .i64 hi,.int .i64 st,.slice A0 P.length c0] 24)).alloc (.cells #[.int .u64 0,.slice none 0 0,.slice none 0 0] 31) = W := ⟨_,rfl⟩
 rw [hW] at HB0 HBF HC0 HR0 HKA hsz ⊢
 clear hW
 have f2 := HBF.out.cell 2
 have f3 := HBF.out.cell 3
 simp at f2 f3
 have HL := Lib.hid (fun n => left_any ok cg b a (W.drewN n) (HC0.out.drewN n))
 -- the stores of nothing, and the reader's error
 have HZ := Lib.hid (show ∀ W4 o er,er ≠ 0 → Kp (S2 rg cg) w W4 → RdB W4 rg t (a + o) er → R = .bad o er 1 → FormP ok (S2 rg cg) rg cg t b a w R (.returned (.agg #[.int .u64 0,.slice none 0 0,.slice none 0 0])) (((W4.setCell ⟨w.heap.size + 1,0,none⟩ (.int .u64 0)).setCell ⟨w.heap.size + 1,1,none⟩ (.slice none 0 0)).setCell ⟨w.heap.size + 1,2,none⟩ (.slice none 0 0)) from fun W4 o er he hk hr4 hR => by
  refine form_fin (okn := fun _ => False) hk (by omega) VtR.zero (fun i hi => hi.elim) (by omega) (by omega) (fun i hi => by have := hokl i hi;omega) ?_
  rw [hR]
  exact ⟨hr4,he⟩)
 by_cases p1 : (b.length : Int) < lo
 ·have q1 : decide ((b.length : Int) < lo) = true := decide_eq_true p1
  go_quiet ((go_at_call 42;exact quiet_left (HL.out _)))
  generalize hW2 : W.drewN _ = W2
  have hk2 : Kp (fun _ => False) W W2 := hW2 ▸ (Kp.refl _ W).drewN _
  have HE2 := Lib.hid (end_any ok cg b a W2 (HC0.out.kp hk2 (fun _ _ h => h) (fun h => h)) ha (by omega))
  have HF2 := Lib.hid (fail_any rg t 0 0 (a + b.length) 4 W2 (HR0.out.kp hk2 (fun h => h)))
  have HB2 := Lib.hid (HB0.out.kp hk2 (fun h => h))
  have HK2 := Lib.hid (HKA.out.then_ hk2 (fun _ h => h.elim))
  have hR := HRR.out
  rw [if_pos p1] at hR
  have HRR2 := Lib.hid hR
  clear hk2 hW2 HL HRR f2 f3 p1 hR
  go_wp2_with (first | (go_at_call 82;refine HE2.out.mono ?_;rintro e w3 ⟨rfl,rfl⟩) | (go_at_call 58;refine HF2.out.mono ?_;rintro e w3 ⟨⟨v2,rfl⟩,hr3,hk3⟩;have hb3 := HB2.out.kp hk3 (by omega);have z0 := hb3.frozen 0;have z1 := hb3.frozen 1;have z2 := hb3.frozen 2;have y0 := hb3.cell 0;have y1 := hb3.cell 1;have y2 := hb3.cell 2;simp at y0 y1 y2;have e2 := Blk.cell hr3 2;simp at e2;have HX := Lib.hid (HZ.out w3 _ 4 (by omega) ((HK2.out.mono (fun _ _ h => h.elim)).then_ hk3 (fun i hi => .inl (.inl hi))) hr3 HRR2.out);clear hb3 hk3 hr3))
  exact bodyPost_ret (v := .agg #[.int .u64 0,.slice none 0 0,.slice none 0 0]) (by simp [results,Tryd.results106,go_sem,y0,y1,y2]) rfl HX.out
 ·have q1 : decide ((b.length : Int) < lo) = false := decide_eq_false p1
  go_quiet ((go_at_call 42;exact quiet_left (HL.out _)))
  generalize hW2 : W.drewN _ = W2
  have hk2 : Kp (fun _ => False) W W2 := hW2 ▸ (Kp.refl _ W).drewN _
  have HC2 := Lib.hid (HC0.out.kp hk2 (fun _ _ h => h) (fun h => h))
  have HR2 := Lib.hid (HR0.out.kp hk2 (fun h => h))
  have HB2 := Lib.hid (HB0.out.kp hk2 (fun h => h))
  have HBF2 := Lib.hid (HBF.out.kp hk2 (fun h => h))
  have HK2 := Lib.hid (HKA.out.then_ hk2 (fun _ h => h.elim))
  have hR := HRR.out
  rw [if_neg p1] at hR
  have HRR2 := Lib.hid hR
  have hz2 := hk2.size
  clear hk2 hW2 HL HRR f2 f3 p1 hR HC0 HR0 HB0 HBF HKA
  have f3 := HBF2.out.cell 3
  simp at f3
  have HL := Lib.hid (fun n => left_any ok cg b a (W2.drewN n) (HC2.out.drewN n))
  go_upto_region 3 with fail
  by_cases p2 : hi < (b.length : Int)
  ·have q2 : decide (hi < (b.length : Int)) = true := decide_eq_true p2
   go_quiet ((go_at_call 42;exact quiet_left (HL.out _)))
   generalize hW3 : W2.drewN _ = W3
   have hk3 : Kp (fun _ => False) W2 W3 := hW3 ▸ (Kp.refl _ W2).drewN _
   have hc3 := HC2.out.kp hk3 (fun _ _ h => h) (fun h => h)
   have hr3 := HR2.out.kp hk3 (fun h => h)
   have HB3 := Lib.hid (HB2.out.kp hk3 (fun h => h))
   have HBF3 := Lib.hid (HBF2.out.kp hk3 (fun h => h))
   have HK3 := Lib.hid (HK2.out.then_ hk3 (fun _ h => h.elim))
   have hR := HRR2.out
   rw [if_pos p2] at hR
   have HRR3 := Lib.hid hR
   have HAT := Lib.hid (fun W4 (hk4 : Kp (fun _ => False) W3 W4) => at_any ok cg b a W4 (hc3.kp hk4 (fun _ _ h => h) (fun h => h)))
   have HFA := Lib.hid (fun W4 (hk4 : Kp (fun _ => False) W3 W4) => fail_any rg t 0 0 (IntKind.i64.wrap (a + hi)) 6 W4 (hr3.kp hk4 (fun h => h)))
   have HCE := Lib.hid (show ∀ W4,Kp (fun i => i = rg) W3 W4 → W4.cell? ⟨w.heap.size,3,none⟩ = some (.int .i64 hi) from fun W4 hk4 => ((HBF3.out.kp hk4 (by omega)).cell 3).trans rfl)
   have HKR := Lib.hid (Kp.refl (fun i => i = rg) W3)
   have HKF := Lib.hid (Kp.refl (fun _ => False) W3)
   have HW := Lib.hid (show IntKind.i64.wrap (a + hi) = a + hi from IntWalk.i64_in _ (by omega))
   clear hk3 hW3 HL f3 p2 hR HC2 HR2 HB2 HBF2 HRR2 hr3 hc3
   go_upto_region 4 with fail
   go_region_held3 (fun w' => (w').cell? ⟨w.heap.size,3,none⟩ = some (.int .i64 hi)) (first | exact HCE.out _ HKR.out | exact HCE.out _ HKR.out.drew) (first | (go_at_call 43;refine (HAT.out _ ?_).mono ?_;(first | exact HKF.out | exact HKF.out.drew);rintro e w5 ⟨rfl,rfl⟩) | (go_at_call 58;refine (HFA.out _ ?_).mono ?_;(first | exact HKF.out | exact HKF.out.drew);rintro e w5 ⟨⟨v2,rfl⟩,hr5,hk5⟩;have hq := Kp.then_ (a := W3) (S := fun i => i = rg) (by first | exact HKR.out | exact HKR.out.drew) hk5 (fun i h => .inl h);clear HKR;have HKR := Lib.hid hq;have HR5 := Lib.hid hr5;clear hk5 hq hr5))
   have hr5 := HR5.out
   rw [HW.out] at hr5
   have hb5 := HB3.out.kp HKR.out (by omega)
   have z0 := hb5.frozen 0
   have z1 := hb5.frozen 1
   have z2 := hb5.frozen 2
   have y0 := hb5.cell 0
   have y1 := hb5.cell 1
   have y2 := hb5.cell 2
   simp at y0 y1 y2
   have e2 := Blk.cell hr5 2
   simp at e2
   have HX := Lib.hid (HZ.out w5 hi 6 (by omega) ((HK3.out.mono (fun _ _ h => h.elim)).then_ HKR.out (fun i hi => .inl (.inl hi))) hr5 HRR3.out)
   clear hb5 hr5 HR5
   go_wp2_with fail
   exact bodyPost_ret (v := .agg #[.int .u64 0,.slice none 0 0,.slice none 0 0]) (by simp [results,Tryd.results106,go_sem,y0,y1,y2]) rfl HX.out
  ·have q2 : decide (hi < (b.length : Int)) = false := decide_eq_false p2
   go_quiet ((go_at_call 42;exact quiet_left (HL.out _)))
   generalize hW3 : W2.drewN _ = W3
   have hk3 : Kp (fun _ => False) W2 W3 := hW3 ▸ (Kp.refl _ W2).drewN _
   have hc3 := HC2.out.kp hk3 (fun _ _ h => h) (fun h => h)
   have hr3 := HR2.out.kp hk3 (fun h => h)
   have HB3 := Lib.hid (HB2.out.kp hk3 (fun h => h))
   have HK3 := Lib.hid (HK2.out.then_ hk3 (fun _ h => h.elim))
   have hz3 := hk3.size
   have hR := HRR2.out
   rw [if_neg p2] at hR
   have HRR3 := Lib.hid hR
   have HL3 := Lib.hid (left_any ok cg b a W3 hc3)
   have hzz := HK3.out.size
   have hnx : nx b (b.length : Int) = (b,0) := by
    rw [nx_ok (by omega) (by omega)]
    simp
   have HY := Lib.hid (bytes_any' ok rg cg t b a b.length W3 b 0 hnx hr3 hc3 hoc hrc (fun i hi => by have := hokl i hi;omega) hl ha hal)
   have e2 := Blk.cell hr3 2
   simp at e2
   clear hk3 hW3 HL f3 p2 hR HC2 HR2 HB2 HBF2 HRR2 hr3 hc3 hnx HZ
   go_wp2_with (go_at_call 42;refine HL3.out.mono ?_;rintro e w3 ⟨rfl,rfl⟩)
   refine HY.out.mono ?_
   rintro e w4 ⟨A5,c5,rfl,hv2,hk2,hq1,_⟩
   have hb2 := HB3.out.kp hk2 (by unfold S2;omega)
   have z0 := hb2.frozen 0
   have z1 := hb2.frozen 1
   have z2 := hb2.frozen 2
   have y0 := hb2.cell 0
   have y1 := hb2.cell 1
   have y2 := hb2.cell 2
   simp at y0 y1 y2
   have HV2 := Lib.hid hv2
   have HQ1 := Lib.hid (hq1 (by first | rfl | trivial))
   have HK4 := Lib.hid (show Kp (S2 rg cg) w w4 from (HK3.out.mono (fun _ _ h => h.elim)).then_ hk2 (fun i hi => .inl hi))
   clear hb2 hq1 hv2 hk2
   go_wp2_with fail
   refine bodyPost_ret (v := .agg #[.int .u64 0,.slice A5 b.length c5,.slice none 0 0]) (by simp [results,Tryd.results106,go_sem,y0,y1,y2]) rfl ?_
   refine form_fin (okn := fun i => w.heap.size + 2 ≤ i) HK4.out (by omega) (HV2.out.mono (fun i hi => by omega)) (fun i hi => by omega) (by omega) (by omega) (fun i hi => by have := hokl i hi;omega) ?_
   rw [HRR3.out]
   refine ⟨rfl,HQ1.out.1,?_⟩
   have := HQ1.out.2
   rw [List.drop_of_length_le (Nat.le_refl _)] at this
   simpa using this
end Go.Proofs.YtdhnfccgojgehaaDoor

namespace Go.Proofs.YtdhnfccgojgehaaDoor
open Go.RowKit

/-- A tally at block g: the most, how many. -/
def TalB (w : World) (g : Nat) (most q : Int) : Prop := Blk w g 63 #[.int .i64 most,.int .i64 q]
theorem TalB.kp {S : Nat → Prop} {w w' : World} {g : Nat} {m q : Int} (h : TalB w g m q) (hk : Kp S w w') (hg : ¬ S g) : TalB w' g m q := Blk.kp h hk hg

set_option maxRecDepth 100000 in
theorem load_any (g : Nat) (m q : Int) (w : World) (h : TalB w g m q) : Calls Tryd.prog 32 #[.pointer (some ⟨g,1,none⟩)] w fun e w' => e = .returned (.int .i64 q) ∧ w = w' := by
 have h1 := Blk.cell h 1
 simp at h1
 have hl := run_call_load (P := Tryd.prog) Tryd.func47 (by kernel_rfl) (by kernel_rfl) (by kernel_rfl) .i64 (by kernel_rfl) h1
 clear h
 go_enter Tryd.func32,Tryd.ntmps32
 go_wp2_with fail
 go_ret
 exact ⟨rfl,rfl⟩
set_option maxRecDepth 100000 in
theorem cas_any (g : Nat) (m q y : Int) (w : World) (h : TalB w g m q) : Calls Tryd.prog 72 #[.pointer (some ⟨g,1,none⟩),.int .i64 q,.int .i64 y] w fun e w' => e = .returned (.bool true) ∧ TalB w' g m y ∧ Kp (· = g) w w' := by
 have h1 := Blk.cell h 1
 simp at h1
 have hf := Blk.frozen h 1
 have hl := run_call_cas_hit (P := Tryd.prog) Tryd.func80 (by kernel_rfl) (by kernel_rfl) (by kernel_rfl) .i64 (by kernel_rfl) (y := y) h1 hf
 have HP := Lib.hid (show TalB (w.setCell ⟨g,1,none⟩ (.int .i64 y)) g m y ∧ Kp (· = g) w (w.setCell ⟨g,1,none⟩ (.int .i64 y)) from ⟨Blk.set_ h 1 _,(Kp.refl (· = g) w).setCell (p := ⟨g,1,none⟩) (.inl rfl) _⟩)
 clear h
 go_enter Tryd.func72,Tryd.ntmps72
 go_wp2_with fail
 go_ret
 exact ⟨rfl,HP.out⟩
set_option maxRecDepth 100000 in
theorem spend_any (g : Nat) (m q : Int) (w : World) (h : TalB w g m q) (h0 : 0 ≤ q) (h1 : q + 1 ≤ m) (h2 : m ≤ 1099511627776) : Calls Tryd.prog 57 #[.pointer (some ⟨g,0,none⟩),.int .i64 1] w fun e w' => e = .returned (.int .i64 0) ∧ TalB w' g m (q + 1) ∧ Kp (· = g) w w' := by
 have c0 := Blk.cell h 0
 simp at c0
 have HL := Lib.hid (load_any g m q w h)
 have HC := Lib.hid (cas_any g m q (q + 1) w h)
 have hd : decide (m - q < 1) = false := by simp;omega
 clear h
 go_enter Tryd.func57,Tryd.ntmps57
 go_wp2_with fail
 refine wp_loop_rounds 1 ?_
 rw [rounds_succ]
 go_wp2_with (first | (go_at_call 32;refine HL.out.mono ?_;rintro e w2 ⟨rfl,rfl⟩) | (go_at_call 72;refine HC.out.mono ?_;rintro e w2 ⟨rfl,ht,hk⟩))
 go_ret
 exact ⟨rfl,ht,hk⟩
end Go.Proofs.YtdhnfccgojgehaaDoor

namespace Go.Proofs.YtdhnfccgojgehaaDoor
open Go.RowKit

/-- The table lies as the program's text lays it. -/
structure Tab06 (w : World) : Prop where
 c0 : w.cell? ⟨0,0,none⟩ = some (.func (.func 104) #[] #[])
 c1 : w.cell? ⟨0,1,none⟩ = some (.func (.func 105) #[] #[])
 c4 : w.cell? ⟨0,4,none⟩ = some (.func (.func 106) #[] #[])
 c5 : w.cell? ⟨0,5,none⟩ = some (.func (.func 107) #[] #[])
theorem Tab06.kp {S : Nat → Prop} {w w' : World} (h : Tab06 w) (hk : Kp S w w') (hs : ¬ S 0) : Tab06 w' := ⟨hk.cell h.c0 hs,hk.cell h.c1 hs,hk.cell h.c4 hs,hk.cell h.c5 hs⟩
set_option maxRecDepth 100000 in
theorem tab06 {W : World} (h : laidMetH Tryd.prog [("passepartout/read.kinds", Rows.laid_passepartout_read_kinds)] W) : Tab06 W := by
 have g0 : Tryd.prog.globalNamed "passepartout/read.kinds" = some 0 := by kernel_rfl
 have t0 : (Tryd.prog.globals[0]?).map (·.type) = some 100 := by kernel_rfl
 obtain ⟨g,t,cs,fuel,p,hg,ht,hv,hd⟩ := h.funcs (List.mem_singleton.2 rfl)
 obtain rfl := Option.some.inj (g0.symm.trans hg)
 obtain rfl := Option.some.inj (t0.symm.trans ht)
 obtain ⟨xs,m,e1,e2,e3,hl,hat⟩ := DataW.trod_array Tryd.underlying100 hd
 have e4 : xs.map (·.1) = [.held [40,42,112,97,115,115,101,112,97,114,116,111,117,116,47,114,101,97,100,46,114,101,97,100,101,114,41,46,110,117,109,98,101,114],.held [40,42,112,97,115,115,101,112,97,114,116,111,117,116,47,114,101,97,100,46,114,101,97,100,101,114,41,46,111,112,97,113,117,101],.nil,.nil,.held [40,42,112,97,115,115,101,112,97,114,116,111,117,116,47,114,101,97,100,46,114,101,97,100,101,114,41,46,114,101,115,116],.held [40,42,112,97,115,115,101,112,97,114,116,111,117,116,47,114,101,97,100,46,114,101,97,100,101,114,41,46,102,105,120,101,100]] := by
  have := congrArg Prod.fst e2
  injection this with this
  exact this.symm
 rw [show Tryd.prog.cellsOf 99 = 1 from by kernel_rfl] at hat
 rw [show Tryd.prog.cellsOf 100 = 6 from by kernel_rfl] at e3
 have each : ∀ (i : Nat) (b : UInt8) (r : List UInt8) (f0 : FuncId),i < 6 → (xs.map (·.1))[i]? = some (.held (b :: r)) → ((List.range Tryd.prog.funcs.size).filter fun f => (Tryd.prog.funcs[f]?).any (·.name.toUTF8.data.toList == b :: r)) = [f0] → W.cell? ⟨0,i,none⟩ = some (.func (.func f0) #[] #[]) := by
  intro i b r f0 hi hx hone
  have h1 := hat i hi
  rw [Nat.mul_one] at h1
  have hlt : i < cs.toList.length := by rw [e3];omega
  rw [List.drop_eq_getElem_cons hlt,List.take_succ_cons,List.take_zero] at h1
  rw [List.getElem?_map] at hx
  obtain ⟨y,hy,hy1⟩ := Option.map_eq_some_iff.1 hx
  rw [hy] at h1
  have h2 : DataW.trod (funcToken Tryd.prog) Tryd.prog W 0 (fun _ => true) true m 99 [cs.toList[i]] = some (.held (b :: r),y.2) := by rw [h1,← hy1]
  have h3 := func_of_trod Tryd.underlying99 hone h2
  rw [World.var?_cell g0 hv i,← Array.getElem?_toList,List.getElem?_eq_getElem hlt,h3]
 exact ⟨each 0 _ _ _ (by omega) (by rw [e4];rfl) (by kernel_rfl),each 1 _ _ _ (by omega) (by rw [e4];rfl) (by kernel_rfl),each 4 _ _ _ (by omega) (by rw [e4];rfl) (by kernel_rfl),each 5 _ _ _ (by omega) (by rw [e4];rfl) (by kernel_rfl)⟩
end Go.Proofs.YtdhnfccgojgehaaDoor

namespace Go.Proofs.YtdhnfccgojgehaaDoor
open Go.RowKit

section
variable {α : Type}
/-- Cells that read as a list of trees, one behind the other. -/
def TRl (H : Head α) (n : Nat) (w : World) (ok : Nat → Prop) : List (RT α) → List Value → Prop
 | [],xs => xs = []
 | t :: l,xs => ∃ cs rest,xs = cs ++ rest ∧ cs.length = n ∧ (∀ u ∈ cs,u.oneCell' = true) ∧ TR H n w ok t cs ∧ TRl H n w ok l rest
theorem TRl.len {H : Head α} {n : Nat} {w : World} {ok : Nat → Prop} : ∀ {l : List (RT α)} {xs : List Value},TRl H n w ok l xs → xs.length = l.length * n
 | [],xs,h => by rw [TRl] at h;simp [h]
 | t :: l,xs,h => by
  rw [TRl] at h
  obtain ⟨cs,rest,rfl,h1,_,_,h2⟩ := h
  rw [List.length_append,h1,TRl.len h2,List.length_cons,Nat.succ_mul]
  omega
theorem TRl.one {H : Head α} {n : Nat} {w : World} {ok : Nat → Prop} : ∀ {l : List (RT α)} {xs : List Value},TRl H n w ok l xs → ∀ u ∈ xs,u.oneCell' = true
 | [],xs,h => by rw [TRl] at h;simp [h]
 | t :: l,xs,h => by
  rw [TRl] at h
  obtain ⟨cs,rest,rfl,_,h1,_,h2⟩ := h
  intro u hu
  rcases List.mem_append.1 hu with hu | hu
  ·exact h1 u hu
  ·exact TRl.one h2 u hu
theorem TRl.kp_ {H : Head α} (hH : HeadKp H) {n : Nat} {w w' : World} {ok ok' S : Nat → Prop} (hk : Kp S w w') (hd : ∀ i,ok i → ¬ S i) (hm : ∀ i,ok i → ok' i) : ∀ {l : List (RT α)} {xs : List Value},TRl H n w ok l xs → TRl H n w' ok' l xs
 | [],xs,h => by rw [TRl] at h ⊢;exact h
 | t :: l,xs,h => by
  rw [TRl] at h ⊢
  obtain ⟨cs,rest,rfl,h1,h2,h3,h4⟩ := h
  exact ⟨cs,rest,rfl,h1,h2,TR.kp_ hH hk hd hm t cs h3,TRl.kp_ hH hk hd hm h4⟩
theorem TRl.snoc {H : Head α} {n : Nat} {w : World} {ok : Nat → Prop} {t : RT α} {cs : List Value} (hc : cs.length = n) (h1 : ∀ u ∈ cs,u.oneCell' = true) (ht : TR H n w ok t cs) : ∀ {l : List (RT α)} {xs : List Value},TRl H n w ok l xs → TRl H n w ok (l ++ [t]) (xs ++ cs)
 | [],xs,h => by
  rw [TRl] at h
  subst h
  rw [List.nil_append,List.nil_append,TRl]
  exact ⟨cs,[],by simp,hc,h1,ht,by rw [TRl]⟩
 | t' :: l,xs,h => by
  rw [TRl] at h
  obtain ⟨cs',rest,rfl,g1,g2,g3,g4⟩ := h
  rw [List.cons_append,TRl]
  exact ⟨cs',rest ++ cs,by rw [List.append_assoc],g1,g2,g3,TRl.snoc hc h1 ht g4⟩
theorem TRl.trs {H : Head α} {n : Nat} {w : World} {ok : Nat → Prop} : ∀ {l : List (RT α)} {xs : List Value} {b off : Nat},TRl H n w ok l xs → (∀ j u,xs[j]? = some u → w.cell? ⟨b,off + j,none⟩ = some u) → TRs H n w ok l b off
 | [],_,_,_,_,_ => by rw [TRs];trivial
 | t :: l,xs,b,off,h,hc => by
  rw [TRl] at h
  obtain ⟨cs,rest,rfl,g1,g2,g3,g4⟩ := h
  rw [TRs]
  refine ⟨⟨cs,g3,fun j u hu => hc j u ?_⟩,TRl.trs g4 (fun j u hu => ?_)⟩
  ·rw [List.getElem?_append_left (List.getElem?_eq_some_iff.1 hu).1]
   exact hu
  ·have := hc (n + j) u (by rw [List.getElem?_append_right (by omega),← hu,g1];congr 1;omega)
   rw [show off + (n + j) = off + n + j from by omega] at this
   exact this
/-- Where such cells lie, a slice reads as the list. -/
theorem TRl.tl {H : Head α} {n : Nat} {w : World} {ok : Nat → Prop} {l : List (RT α)} {xs : List Value} {A : Option Addr} (h : TRl H n w ok l xs) (hr : Rd w ok n A l.length xs) : TL H n w ok l A := by
 intro h0
 obtain ⟨⟨b,off,sp⟩,rfl,hsp,hb,hc⟩ := hr.2 h0
 obtain rfl : sp = none := hsp
 exact ⟨b,off,rfl,hb,h.trs (fun j u hu => by rw [← add_spot];exact hc j u hu)⟩
/-- A row of the call's own that reads as these trees: what they lead to lies elsewhere. -/
def OwnT (H : Head α) (n : Nat) (e : TypeId) (w : World) (ok : Nat → Prop) (v : Value) (l : List (RT α)) : Prop := ∃ xs,Own w ok e n v l.length xs ∧ TRl H n w (fun i => ok i ∧ v.ownBlock ≠ some i) l xs
theorem OwnT.nil {H : Head α} {n : Nat} {e : TypeId} {w : World} {ok : Nat → Prop} : OwnT H n e w ok (.slice none 0 0) [] := ⟨[],Own.nil,by rw [TRl]⟩
theorem OwnT.kp_ {H : Head α} (hH : HeadKp H) {n : Nat} {e : TypeId} {w w' : World} {ok S : Nat → Prop} {v : Value} {l : List (RT α)} (h : OwnT H n e w ok v l) (hk : Kp S w w') (hd : ∀ i,ok i → ¬ S i) : OwnT H n e w' ok v l := by
 obtain ⟨xs,h1,h2⟩ := h
 exact ⟨xs,h1.kp hk hd,h2.kp_ hH hk (fun i hi => hd i hi.1) (fun _ h => h)⟩
theorem OwnT.tl {H : Head α} (hH : HeadKp H) {n : Nat} {e : TypeId} {w : World} {ok : Nat → Prop} {A : Option Addr} {c : Nat} {l : List (RT α)} (h : OwnT H n e w ok (.slice A l.length c) l) : l.length ≤ c ∧ TL H n w ok l A := by
 obtain ⟨xs,h1,h2⟩ := h
 obtain ⟨A',c',e',hc⟩ := h1.shape
 injection e' with e1 e2 e3
 subst e1 e3
 exact ⟨hc,(h2.kp_ hH (Kp.refl (fun _ => False) w) (fun _ _ h => h) (ok' := ok) (fun i hi => hi.1)).tl h1.rd⟩
theorem OwnT.shape {H : Head α} {n : Nat} {e : TypeId} {w : World} {ok : Nat → Prop} {v : Value} {l : List (RT α)} (h : OwnT H n e w ok v l) : ∃ A c,v = .slice A l.length c ∧ l.length ≤ c := by
 obtain ⟨xs,h1,h2⟩ := h
 exact h1.shape
theorem OwnT.lt {H : Head α} {n : Nat} {e : TypeId} {w : World} {ok : Nat → Prop} {v : Value} {l : List (RT α)} (h : OwnT H n e w ok v l) {i : Nat} (hi : v.ownBlock = some i) : i < w.heap.size := by
 obtain ⟨xs,h1,h2⟩ := h
 exact h1.lt i hi
end
/-- append of one tree that was laid as a slice of its own, at a step of a region. -/
theorem wp_push {α : Type} {H : Head α} (hH : HeadKp H) (hL : HeadLt H) {P : Program} {w : World} {o : Oper} {a : Act} {K : Act → World → Prop} {Q : Exit → Act → World → Prop} (s x : Operand) (t : TypeId)
  (ho : o.op = .call { callee := .builtin .append,args := #[s,x],argTypes := #[t,t] }) (e : TypeId) (i : TypeInfo) (z : Value) (size bytes : Nat) (ht : P.underlying t = some (.slice e)) (hi : P.info? e = some i) (hz : i.zero = some z)
  (hsize : i.size = size) (hby : i.bytes = bytes) (hzs : z.cells.size = size) (hsz : 0 < size)
  (ok okt : Nat → Prop) (v : Value) (l : List (RT α)) (hs : a.eval s = v) (hown : OwnT H size e w ok v l) (Bx cx : Nat) (hx : a.eval x = .slice (some ⟨Bx,0,none⟩) 1 cx) (cs : List Value) (hcs : cs.length = size) (hb : Blk w Bx e cs.toArray) (y : RT α) (hy : TR H size w okt y cs) (h1 : ∀ u ∈ cs,u.oneCell' = true)
  (hokt : ∀ i,okt i → ok i ∧ v.ownBlock ≠ some i) (hnew : ∀ i,w.heap.size ≤ i → ok i) (hn : l.length + 1 ≤ 4398046511104) (hby2 : (l.length + 1) * bytes ≤ 140737488355328)
  (h : ∀ v' w',OwnT H size e w' ok v' (l ++ [y]) → Kp (fun i => v.ownBlock = some i) w w' → (v'.ownBlock = v.ownBlock ∨ v'.ownBlock = some w.heap.size) → K (a.put o.dst v') w') : o.wp P a w K Q := by
 obtain ⟨xs,ho1,ho2⟩ := hown
 have hr : Rd w (fun j => j = Bx) size (some ⟨Bx,0,none⟩) 1 cs := ⟨by omega,fun _ => ⟨_,rfl,rfl,rfl,fun j u hu => by
  rw [add_spot,Nat.zero_add,hb.cell]
  simpa using hu⟩⟩
 refine wp_append_any w s x t ho 0 e i z size bytes ht hi hz hsize hby hzs hsz v l.length xs hs ho1.1 _ (some ⟨Bx,0,none⟩) 1 cx cs hx hr h1 (by simp only [maxLen];omega) hby2 (Nat.zero_le _) ?_
 intro v' w' g1 g2 g3
 have hk : Kp (fun j => v.ownBlock = some j) w w' := (Kp.refl _ w).grown g2 (fun j hj => .inl hj)
 have hlt := ho1.lt
 refine h v' w' ⟨xs ++ cs,⟨by rw [List.length_append,List.length_singleton];exact g1,fun j hj => ?_⟩,?_⟩ hk g3
 ·rcases g3 with e1 | e1
  ·exact ho1.2 j (e1 ▸ hj)
  ·rw [e1] at hj
   injection hj with hj
   exact hnew j (by omega)
 ·have hb' : ∀ j,(ok j ∧ v.ownBlock ≠ some j) ∧ j < w.heap.size → ok j ∧ v'.ownBlock ≠ some j := by
   intro j hj
   refine ⟨hj.1.1,fun he => ?_⟩
   rcases g3 with e1 | e1
   ·exact hj.1.2 (e1 ▸ he)
   ·rw [e1] at he
    injection he with he
    omega
  refine TRl.snoc hcs h1 ?_ ?_
  ·exact TR.kp_ hH hk (fun j hj => (hokt j hj.1).2) (fun j hj => hb' j ⟨hokt j hj.1,hj.2⟩) y cs (TR.lt_ hL y cs hy)
  ·have hlist : ∀ {l : List (RT α)} {xs : List Value},TRl H size w (fun j => ok j ∧ v.ownBlock ≠ some j) l xs → TRl H size w (fun j => (ok j ∧ v.ownBlock ≠ some j) ∧ j < w.heap.size) l xs := by
    intro l
    induction l with
    | nil => intro xs h;rw [TRl] at h ⊢;exact h
    | cons t l ih =>
     intro xs h
     rw [TRl] at h ⊢
     obtain ⟨cs,rest,rfl,g1,g2,g3,g4⟩ := h
     exact ⟨cs,rest,rfl,g1,g2,TR.lt_ hL t cs g3,ih g4⟩
   exact (hlist ho2).kp_ hH hk (fun j hj => hj.1.2) hb'
/-- The same in a region that draws. -/
theorem step_push {α : Type} {H : Head α} (hH : HeadKp H) (hL : HeadLt H) {P : Program} {w : World} {ops : Array Oper} {K : Act → World → Prop} {E : Prop} {o : Oper} {a : Act} {Q : Exit → Act → World → Prop} (hgd : o.guard = none) (s x : Operand) (t : TypeId)
  (ho : o.op = .call { callee := .builtin .append,args := #[s,x],argTypes := #[t,t] }) (e : TypeId) (i : TypeInfo) (z : Value) (size bytes : Nat) (ht : P.underlying t = some (.slice e)) (hi : P.info? e = some i) (hz : i.zero = some z)
  (hsize : i.size = size) (hby : i.bytes = bytes) (hzs : z.cells.size = size) (hsz : 0 < size)
  (ok okt : Nat → Prop) (v : Value) (l : List (RT α)) (hs : a.eval s = v) (hown : OwnT H size e w ok v l) (Bx cx : Nat) (hx : a.eval x = .slice (some ⟨Bx,0,none⟩) 1 cx) (cs : List Value) (hcs : cs.length = size) (hb : Blk w Bx e cs.toArray) (y : RT α) (hy : TR H size w okt y cs) (h1 : ∀ u ∈ cs,u.oneCell' = true)
  (hokt : ∀ i,okt i → ok i ∧ v.ownBlock ≠ some i) (hnew : ∀ i,w.heap.size ≤ i → ok i) (hn : l.length + 1 ≤ 4398046511104) (hby2 : (l.length + 1) * bytes ≤ 140737488355328)
  (h : ∀ v' w',OwnT H size e w' ok v' (l ++ [y]) → Kp (fun i => v.ownBlock = some i) w w' → (v'.ownBlock = v.ownBlock ∨ v'.ownBlock = some w.heap.size) → K (a.put o.dst v') w') : if Region.wanted o (yielded ops a.tmps) = true then Oper.wp P o a w K Q else E := by
 have hw : Region.wanted o (yielded ops a.tmps) = true := by simp [Region.wanted,hgd]
 rw [if_pos hw]
 exact wp_push hH hL s x t ho e i z size bytes ht hi hz hsize hby hzs hsz ok okt v l hs hown Bx cx hx cs hcs hb y hy h1 hokt hnew hn hby2 h
end Go.Proofs.YtdhnfccgojgehaaDoor

namespace Go.Proofs.YtdhnfccgojgehaaDoor
open Go.RowKit

theorem BR.lt_ {w : World} {ok : Nat → Prop} {v : Value} {l : List UInt8} (h : BR w ok v l) : BR w (fun i => ok i ∧ i < w.heap.size) v l := by
  obtain ⟨A, c, e, hc, hl, hr⟩ := h
  refine ⟨A, c, e, hc, hl, fun h0 => ?_⟩
  obtain ⟨ad, e1, hsp, hb, hcell⟩ := hr h0
  refine ⟨ad, e1, hsp, ⟨hb, ?_⟩, hcell⟩
  have h1 : (bc l)[0]? = some ((bc l)[0]'(by rw [bc_length]; omega)) := List.getElem?_eq_getElem _
  have := cell_lt (hcell 0 _ h1)
  rwa [block_add] at this
theorem VHd_lt : HeadLt VHd := ⟨fun ⟨v, e, h1, h2, h3⟩ => ⟨v, e, h1, h2.lt_, h3⟩⟩

theorem VtR.shape {w : World} {ok : Nat → Prop} {v : Value} {x : Vt} (h : VtR w ok v x) : ∃ A1 c1 A2 c2, v = .agg #[.int .u64 x.a.n, .slice A1 x.a.b.length c1, .slice A2 x.l.length c2] ∧ TR VHd 3 w ok x [.int .u64 x.a.n, .slice A1 x.a.b.length c1, .slice A2 x.l.length c2] := by
  obtain ⟨bv, sv, rfl, h1, ⟨A1, c1, rfl, h2⟩, h3, ⟨A2, c2, rfl, h4, h5, h6⟩⟩ := h
  exact ⟨A1, c1, A2, c2, rfl, (TR_def _ _ _ _ _ _).2 ⟨[.int .u64 x.a.n, .slice A1 x.a.b.length c1], A2, c2, rfl, rfl, ⟨_, rfl, h1, ⟨A1, c1, rfl, h2⟩, h3⟩, h4, h5, h6⟩⟩
/-- How a reading ends. -/
def EndQ (ok : Nat → Prop) (rg cg : Nat) (t : Value) (b : List UInt8) (a : Int) (W : World) (x : Vt) : RdT → Prop
  | .bad o er _ => RdB W rg t (a + o) er ∧ er ≠ 0
  | .got y r _ => x = y ∧ RdB W rg t 0 0 ∧ Cur W ok cg r (a + (b.length - r.length : Nat))
theorem form_end {ok okn S : Nat → Prop} {rg cg : Nat} {t : Value} {b : List UInt8} {a : Int} {w W : World} {R : RdT} {u0 u1 u2 : Value} {x : Vt} {B : Nat} (hK : Kp S w W) (hB : w.heap.size ≤ B) (hv : VtR W okn (.agg #[u0, u1, u2]) x)
    (hokn : ∀ i, okn i → w.heap.size ≤ i ∧ i ≠ B) (hrg : rg ≠ B) (hcg : cg ≠ B) (hok : ∀ i, ok i → i ≠ B) (hR : EndQ ok rg cg t b a W x R) :
    FormP ok S rg cg t b a w R (.returned (.agg #[u0, u1, u2])) (((W.setCell ⟨B, 0, none⟩ u0).setCell ⟨B, 1, none⟩ u1).setCell ⟨B, 2, none⟩ u2) :=
  form_fin hK hB hv hokn hrg hcg hok (by cases R <;> exact hR)
theorem FormP.parts {ok S : Nat → Prop} {rg cg : Nat} {t : Value} {b : List UInt8} {a : Int} {w w' : World} {R : RdT} {e : Ending} (h : FormP ok S rg cg t b a w R e w') : ∃ v x, e = .returned v ∧ VtR w' (w.heap.size ≤ ·) v x ∧ Kp S w w' ∧ EndQ ok rg cg t b a w' x R := by
  obtain ⟨v, x, h1, h2, h3, h4⟩ := h
  refine ⟨v, x, h1, h2, h3, ?_⟩
  cases R <;> exact h4
/-- The tally, if there is one, counted so many. -/
def Tl (w : World) (t : Value) (q : Nat) : Prop := ∀ g, t = .pointer (some ⟨g, 0, none⟩) → TalB w g 1073741824 q
def IsT (t : Value) : Prop := t = .pointer none ∨ ∃ g, t = .pointer (some ⟨g, 0, none⟩)
def S3 (rg cg : Nat) (t : Value) : Nat → Prop := fun i => i = rg ∨ i = cg ∨ t = .pointer (some ⟨i, 0, none⟩)
def FormQ (ok : Nat → Prop) (rg cg : Nat) (t : Value) (b : List UInt8) (a : Int) (q : Nat) (w : World) (R : RdT) (e : Ending) (w' : World) : Prop :=
  FormP ok (S3 rg cg t) rg cg t b a w R e w' ∧ Tl w' t (q + R.steps)
theorem Tl.kp {S : Nat → Prop} {w w' : World} {t : Value} {q : Nat} (h : Tl w t q) (hk : Kp S w w') (hs : ∀ g, t = .pointer (some ⟨g, 0, none⟩) → ¬ S g) : Tl w' t q := fun g hg => (h g hg).kp hk (hs g hg)
/-- What lies where: the reader, the cursor, the tally, and what is read of. -/
structure RdEnv (ok : Nat → Prop) (rg cg : Nat) (t : Value) (b : List UInt8) (a : Int) (w : World) : Prop where
  hor : ¬ ok rg
  hoc : ¬ ok cg
  hot : ∀ g, t = .pointer (some ⟨g, 0, none⟩) → ¬ ok g
  hrc : rg ≠ cg
  htr : ∀ g, t = .pointer (some ⟨g, 0, none⟩) → g ≠ rg
  htc : ∀ g, t = .pointer (some ⟨g, 0, none⟩) → g ≠ cg
  hrl : rg < w.heap.size
  hcl : cg < w.heap.size
  htl : ∀ g, t = .pointer (some ⟨g, 0, none⟩) → g < w.heap.size
  hokl : ∀ i, ok i → i < w.heap.size
  hok0 : ok 0
  hl : b.length ≤ 1000000000
  ha : 0 ≤ a
  hal : a + b.length ≤ 4611686018427387904
theorem RdEnv.ok_S {ok : Nat → Prop} {rg cg : Nat} {t : Value} {b : List UInt8} {a : Int} {w : World} (E : RdEnv ok rg cg t b a w) : ∀ i, ok i → ¬ S3 rg cg t i := by
  intro i hi hs
  rcases hs with rfl | rfl | hs
  · exact E.hor hi
  · exact E.hoc hi
  · exact E.hot i hs hi
theorem RdEnv.new_S {ok : Nat → Prop} {rg cg : Nat} {t : Value} {b : List UInt8} {a : Int} {w : World} (E : RdEnv ok rg cg t b a w) : ∀ i, w.heap.size ≤ i → ¬ S3 rg cg t i := by
  intro i hi hs
  rcases hs with rfl | rfl | hs
  · have := E.hrl; omega
  · have := E.hcl; omega
  · have := E.htl i hs; omega
theorem RdEnv.at_ {ok : Nat → Prop} {rg cg : Nat} {t : Value} {b b' : List UInt8} {a a' : Int} {w w' : World} (E : RdEnv ok rg cg t b a w) (hz : w.heap.size ≤ w'.heap.size) (ha : 0 ≤ a') (hl : b'.length ≤ b.length) (hal : a' + b'.length ≤ 4611686018427387904) : RdEnv ok rg cg t b' a' w' :=
  ⟨E.hor, E.hoc, E.hot, E.hrc, E.htr, E.htc, Nat.lt_of_lt_of_le E.hrl hz, Nat.lt_of_lt_of_le E.hcl hz, fun g hg => Nat.lt_of_lt_of_le (E.htl g hg) hz, fun i hi => Nat.lt_of_lt_of_le (E.hokl i hi) hz, E.hok0, by have := E.hl; omega, ha, hal⟩
/-- The contract of a form that is read. -/
def FormC (ok : Nat → Prop) (rg : Nat) (t : Value) (f : Fm) : Prop :=
  ∀ (cg : Nat) (b : List UInt8) (a : Int) (q : Nat) (v : Value) (w : World), RdEnv ok rg cg t b a w → FmR w ok v f → RdB w rg t 0 0 → Cur w ok cg b a → Tl w t q → (t = .pointer none ∨ q + (readR f b).steps ≤ 1073741824) → Tab06 w →
    Calls Tryd.prog 41 #[.pointer (some ⟨rg, 0, none⟩), .pointer (some ⟨cg, 0, none⟩), v] w (FormQ ok rg cg t b a q w (readR f b))
theorem value_info : (Tryd.prog.info? 31).map (fun i => (i.zero, i.size, i.bytes)) = some (some (.agg #[.int .u64 0, .slice none 0 0, .slice none 0 0]), 3, 56) := by kernel_rfl

theorem FmR.row {w : World} {ok : Nat → Prop} {h : FH} {P : List Fm} {A : Option Addr} {c : Nat} (hv : FmR w ok (fv h A P.length c) (.mk h P)) : FsR w ok (.slice A P.length c) P := by
  obtain ⟨sv, e, _, h2⟩ := hv
  simp only [fv, RT.a, Value.agg.injEq, Array.mk.injEq, List.cons.injEq, and_true, true_and] at e
  subst e
  exact h2
/-- A row's loop: what holds at each round. -/
def RowI (ok : Nat → Prop) (rg cg : Nat) (t : Value) (h : FH) (P : List Fm) (A0 : Option Addr) (c0 : Nat) (b : List UInt8) (a : Int) (q : Nat) (R : RdT) (w : World) (iv : Value) (wr : World) : Prop :=
  ∃ (i : Nat) (acc : List Vt) (v : Value), iv = .int .i64 i ∧ i ≤ P.length ∧ acc.length ≤ i ∧ Kp (S3 rg cg t) w wr ∧ Blk wr w.heap.size 24 #[.int .i64 h.k, .int .i64 h.s, .int .i64 h.lo, .int .i64 h.hi, .int .i64 h.st, .slice A0 P.length c0] ∧
    Blk wr (w.heap.size + 1) 31 #[.int .u64 0, .slice none 0 0, .slice none 0 0] ∧ Blk wr (w.heap.size + 2) 31 #[.int .u64 0, .slice none 0 0, v] ∧ OwnT VHd 3 31 wr (w.heap.size + 3 ≤ ·) v acc ∧ w.heap.size + 3 ≤ wr.heap.size ∧
    ((∃ (b' : List UInt8) (d q' : Nat), readRow (P.drop i) b' d q' acc = R ∧ d + b'.length = b.length ∧ RdB wr rg t 0 0 ∧ Cur wr ok cg b' (a + d) ∧ Tl wr t (q + q') ∧ q' ≤ R.steps) ∨
     (∃ o er s, R = .bad o er s ∧ er ≠ 0 ∧ RdB wr rg t (a + o) er ∧ Tl wr t (q + s)))
theorem row_steps : ∀ (P : List Fm) (b : List UInt8) (d q : Nat) (acc : List Vt), q ≤ (readRow P b d q acc).steps
  | [], b, d, q, acc => by rw [readRow]; exact Nat.le_refl _
  | g :: P, b, d, q, acc => by
    rw [readRow]
    split
    · simp only [RdT.steps]; omega
    · exact Nat.le_trans (by omega) (row_steps P _ _ _ _)
theorem RdT.rest_le {f : Fm} {b : List UInt8} (hz : szF f ≤ 100000) (hc : checkR f = 0) (hb : b.length ≤ 140737488351232) {x : Vt} {r : List UInt8} {s : Nat} (h : readR f b = .got x r s) : r.length ≤ b.length := by
  obtain ⟨u, e, _⟩ := read_got f hz hc b hb x r s h
  rw [e, List.length_append]
  omega

/-- One part more. -/
theorem row_next {ok : Nat → Prop} {rg cg : Nat} {t : Value} {h : FH} {P : List Fm} {A0 : Option Addr} {c0 : Nat} {b : List UInt8} {a : Int} {q : Nat} {R : RdT} {w wr : World} {i : Nat} (hlt : i < P.length) {acc : List Vt} (hacc : acc.length ≤ i) {v : Value} {b' : List UInt8} {d q' : Nat}
    (E : RdEnv ok rg cg t b a w) (hk : Kp (S3 rg cg t) w wr) (hbf : Blk wr w.heap.size 24 #[.int .i64 h.k, .int .i64 h.s, .int .i64 h.lo, .int .i64 h.hi, .int .i64 h.st, .slice A0 P.length c0])
    (hb1 : Blk wr (w.heap.size + 1) 31 #[.int .u64 0, .slice none 0 0, .slice none 0 0]) (hbv : Blk wr (w.heap.size + 2) 31 #[.int .u64 0, .slice none 0 0, v]) (ho : OwnT VHd 3 31 wr (w.heap.size + 3 ≤ ·) v acc) (hzz : w.heap.size + 3 ≤ wr.heap.size)
    (hbl : d + b'.length = b.length) (hms : q' + (readR P[i] b').steps ≤ R.steps)
    (hstep : ∀ y r s2, readR P[i] b' = .got y r s2 → readRow (P.drop (i + 1)) r (d + (b'.length - r.length)) (q' + s2) (acc ++ [y]) = R ∧ r.length ≤ b'.length) (hstep2 : ∀ o er s2, readR P[i] b' = .bad o er s2 → R = .bad (d + o) er (q' + s2))
    {w2 w3 : World} {x : Vt} {v2 : Value} {o : Obj} (hk2 : Kp (S3 rg cg t) wr w2) (hq : EndQ ok rg cg t b' (a + d) w2 x (readR P[i] b')) (ht : Tl w2 t (q + q' + (readR P[i] b').steps))
    (ho3 : OwnT VHd 3 31 w3 (w.heap.size + 3 ≤ ·) v2 (acc ++ [x])) (hk3 : Kp (fun j => v.ownBlock = some j) (w2.alloc o) w3) :
    RowI ok rg cg t h P A0 c0 b a q R w (.int .i64 ((i : Int) + 1)) (w3.setCell ⟨w.heap.size + 2, 2, none⟩ v2) := by
  have e1 := E.hrl
  have e2 := E.hcl
  have hw := hk.size
  have hz2 := hk2.size
  have hvl : ∀ j, v.ownBlock = some j → w.heap.size + 3 ≤ j := fun j hj => by
    obtain ⟨xs, h1, _⟩ := ho
    exact h1.2 j hj
  have hvl2 : ∀ j, v.ownBlock = some j → j < wr.heap.size := fun j hj => ho.lt hj
  have hka : Kp (fun j => v.ownBlock = some j) w2 w3 := ((Kp.refl _ w2).alloc o).then_ hk3 (fun j hj => .inl hj)
  have hks : Kp (fun j => j = w.heap.size + 2) w3 (w3.setCell ⟨w.heap.size + 2, 2, none⟩ v2) := (Kp.refl (fun j => j = w.heap.size + 2) w3).setCell (p := ⟨w.heap.size + 2, 2, none⟩) (.inl rfl) v2
  have hz3 := hka.size
  have nS : ∀ j, w.heap.size ≤ j → ¬ S3 rg cg t j := E.new_S
  have hk4 : Kp (S3 rg cg t) w w3 := (hk.then_ hk2 (fun j hj => .inl hj)).then_ hka (fun j hj => .inr (by have := hvl j hj; omega))
  have g1 : ∀ {T : TypeId} {cs : Array Value} (g : Nat), w.heap.size ≤ g → g < w.heap.size + 2 → Blk wr g T cs → Blk (w3.setCell ⟨w.heap.size + 2, 2, none⟩ v2) g T cs := fun g h1 h2 hb =>
    ((hb.kp hk2 (nS g h1)).kp hka (fun he => by have := hvl g he; omega)).kp hks (by omega)
  have hv3 : Blk w3 (w.heap.size + 2) 31 #[.int .u64 0, .slice none 0 0, v] := (hbv.kp hk2 (nS _ (by omega))).kp hka (fun he => by have := hvl _ he; omega)
  have keepOk : ∀ j, ok j → ¬ v.ownBlock = some j := fun j hj he => by have := E.hokl j hj; have := hvl j he; omega
  refine ⟨i + 1, acc ++ [x], v2, by rfl, by omega, by rw [List.length_append, List.length_singleton]; omega, hk4.then_ hks (fun j hj => .inr (by omega)), g1 _ (by omega) (by omega) hbf, g1 _ (by omega) (by omega) hb1, ?_, ho3.kp_ VHd_kp hks (fun j hj he => by omega), by have := hks.size; omega, ?_⟩
  · have := hv3.set_ 2 v2
    simpa using this
  · have hrg : ∀ {a1 e1 : Int}, RdB w2 rg t a1 e1 → RdB (w3.setCell ⟨w.heap.size + 2, 2, none⟩ v2) rg t a1 e1 := fun h1 => (h1.kp hka (fun he => by have := hvl rg he; omega)).kp hks (by omega)
    have htl : Tl (w3.setCell ⟨w.heap.size + 2, 2, none⟩ v2) t (q + q' + (readR P[i] b').steps) := (ht.kp hka (fun g hg he => by have := E.htl g hg; have := hvl g he; omega)).kp hks (fun g hg he => by have := E.htl g hg; omega)
    cases hg : readR P[i] b' with
    | bad o2 er s2 =>
      rw [hg] at hq htl
      obtain ⟨hq1, hq2⟩ := hq
      refine .inr ⟨d + o2, er, q' + s2, hstep2 o2 er s2 hg, hq2, ?_, ?_⟩
      · have := hrg hq1
        rw [show a + (d : Int) + o2 = a + (d + o2) by omega] at this
        exact this
      · rw [show q + (q' + s2) = q + q' + s2 by omega]
        exact htl
    | got y r s2 =>
      rw [hg] at hq htl hms
      obtain ⟨rfl, hq2, hq3⟩ := hq
      obtain ⟨hs1, hs2⟩ := hstep x r s2 hg
      refine .inl ⟨r, d + (b'.length - r.length), q' + s2, hs1, by omega, hrg hq2, ?_, ?_, hms⟩
      · have := (hq3.kp hka keepOk (fun he => by have := hvl cg he; omega)).kp hks (fun j hj he => by have := E.hokl j hj; omega) (by omega)
        rw [show a + ((d + (b'.length - r.length) : Nat) : Int) = a + (d : Int) + ((b'.length - r.length : Nat) : Int) by omega]
        exact this
      · rw [show q + (q' + s2) = q + q' + s2 by omega]
        exact htl

set_option maxRecDepth 100000 in
set_option maxHeartbeats 3200000 in
theorem row_rd (ok : Nat → Prop) (rg cg : Nat) (t : Value) (h : FH) (P : List Fm) (A0 : Option Addr) (c0 : Nat) (b : List UInt8) (a : Int) (q : Nat) (w : World) (k3 : h.k = 3) (hP : P.length ≤ 32) (hPz : ∀ y ∈ P, szF y ≤ 100000) (hPc : ∀ y ∈ P, checkR y = 0) (ih : ∀ y ∈ P, FormC ok rg t y) (E : RdEnv ok rg cg t b a w)
    (hv : FmR w ok (fv h A0 P.length c0) (.mk h P)) (hr : RdB w rg t 0 0) (hc : Cur w ok cg b a) (ht : Tl w t (q + 1)) (hroom : t = .pointer none ∨ q + (readR (.mk h P) b).steps ≤ 1073741824) (tab : Tab06 w) :
    Calls Tryd.prog 60 #[.pointer (some ⟨rg, 0, none⟩), .pointer (some ⟨cg, 0, none⟩), fv h A0 P.length c0] w (FormQ ok rg cg t b a q w (readR (.mk h P) b)) := by
  have hR : readRow P b 0 1 [] = readR (.mk h P) b := by
    rw [readR_mk, if_neg (by omega), if_neg (by omega), if_neg (by omega), if_neg (by omega), if_pos k3]
  generalize readR (.mk h P) b = R at hR hroom
  obtain ⟨k, s, lo, hi, st⟩ := h
  simp only at k3
  subst k3
  have ka : Kp (fun _ => False) w (((w.alloc (.cells #[.int .i64 3, .int .i64 s, .int .i64 lo, .int .i64 hi, .int .i64 st, .slice A0 P.length c0] 24)).alloc (.cells #[.int .u64 0, .slice none 0 0, .slice none 0 0] 31)).alloc (.cells #[.int .u64 0, .slice none 0 0, .slice none 0 0] 31)) := (((Kp.refl _ w).alloc _).alloc _).alloc _
  have hsz : (((w.alloc (.cells #[.int .i64 3, .int .i64 s, .int .i64 lo, .int .i64 hi, .int .i64 st, .slice A0 P.length c0] 24)).alloc (.cells #[.int .u64 0, .slice none 0 0, .slice none 0 0] 31)).alloc (.cells #[.int .u64 0, .slice none 0 0, .slice none 0 0] 31)).heap.size = w.heap.size + 3 := by rw [World.size_alloc, World.size_alloc, World.size_alloc]
  have hb0 := ((Blk.new w 24 #[.int .i64 3, .int .i64 s, .int .i64 lo, .int .i64 hi, .int .i64 st, .slice A0 P.length c0]).alloc (.cells #[.int .u64 0, .slice none 0 0, .slice none 0 0] 31)).alloc (.cells #[.int .u64 0, .slice none 0 0, .slice none 0 0] 31)
  have hb1 := (Blk.new (w.alloc (.cells #[.int .i64 3, .int .i64 s, .int .i64 lo, .int .i64 hi, .int .i64 st, .slice A0 P.length c0] 24)) 31 #[.int .u64 0, .slice none 0 0, .slice none 0 0]).alloc (.cells #[.int .u64 0, .slice none 0 0, .slice none 0 0] 31)
  have hb2 := Blk.new ((w.alloc (.cells #[.int .i64 3, .int .i64 s, .int .i64 lo, .int .i64 hi, .int .i64 st, .slice A0 P.length c0] 24)).alloc (.cells #[.int .u64 0, .slice none 0 0, .slice none 0 0] 31)) 31 #[.int .u64 0, .slice none 0 0, .slice none 0 0]
  rw [World.size_alloc] at hb1
  rw [World.size_alloc, World.size_alloc] at hb2
  have HI0 := Lib.hid (show RowI ok rg cg t ⟨3, s, lo, hi, st⟩ P A0 c0 b a q R w (.int .i64 0) (((w.alloc (.cells #[.int .i64 3, .int .i64 s, .int .i64 lo, .int .i64 hi, .int .i64 st, .slice A0 P.length c0] 24)).alloc (.cells #[.int .u64 0, .slice none 0 0, .slice none 0 0] 31)).alloc (.cells #[.int .u64 0, .slice none 0 0, .slice none 0 0] 31)) from
    ⟨0, [], .slice none 0 0, rfl, Nat.zero_le _, Nat.zero_le _, ka.mono (fun _ _ h => h.elim), hb0, hb1, hb2, OwnT.nil, by omega, .inl ⟨b, 0, 1, by rw [List.drop_zero]; exact hR, by omega, hr.kp ka (fun h => h), by
      have := hc.kp ka (fun _ _ h => h) (fun h => h)
      simpa using this, ht.kp ka (fun _ _ h => h), by rw [← hR]; exact row_steps _ _ _ _ _⟩⟩)
  have HV := Lib.hid hv
  have HIH := Lib.hid ih
  have HE := Lib.hid E
  have HT := Lib.hid tab
  have HRM := Lib.hid hroom
  clear ka hb0 hb1 hb2 hr hc ht hv ih E tab hroom hsz hR
  go_enter Tryd.func60, Tryd.ntmps60
  go_upto_region 3 with fail
  generalize (((w.alloc (.cells #[.int .i64 3, .int .i64 s, .int .i64 lo, .int .i64 hi, .int .i64 st, .slice A0 P.length c0] 24)).alloc (.cells #[.int .u64 0, .slice none 0 0, .slice none 0 0] 31)).alloc (.cells #[.int .u64 0, .slice none 0 0, .slice none 0 0] 31)) = W0 at HI0 ⊢
  go_loopw [8] (fun iv wr => RowI ok rg cg t ⟨3, s, lo, hi, st⟩ P A0 c0 b a q R w iv wr) (fun iv _ => P.length - (intOf iv).toNat)
  case atStart => exact HI0.out
  case round =>
    clear HI0
    obtain ⟨i, acc, v, rfl, hiq, hacc, hk, hbf, hb1, hbv, ho, hzz, hst⟩ := hrel
    obtain ⟨A, c, rfl, hlc⟩ := ho.shape
    have f5 := hbf.cell 5
    have g0 := hbv.cell 0
    have g1 := hbv.cell 1
    have g2 := hbv.cell 2
    have z0 := hb1.frozen 0
    have z1 := hb1.frozen 1
    have z2 := hb1.frozen 2
    have y0 := hb1.cell 0
    have y1 := hb1.cell 1
    have y2 := hb1.cell 2
    simp at f5 g0 g1 g2 y0 y1 y2
    have HK := Lib.hid hk
    have HBF := Lib.hid hbf
    have HB1 := Lib.hid hb1
    have HBV := Lib.hid hbv
    have HO := Lib.hid ho
    have HX := Lib.hid (show EndQ ok rg cg t b a wr (.mk ⟨0, []⟩ acc) R → Tl wr t (q + R.steps) →
        FormQ ok rg cg t b a q w R (.returned (.agg #[.int .u64 0, .slice none 0 0, .slice A acc.length c])) (((wr.setCell ⟨w.heap.size + 1, 0, none⟩ (.int .u64 0)).setCell ⟨w.heap.size + 1, 1, none⟩ (.slice none 0 0)).setCell ⟨w.heap.size + 1, 2, none⟩ (.slice A acc.length c)) from fun hm htl => by
      have E := HE.out
      have e1 := E.hrl
      have e2 := E.hcl
      obtain ⟨_, htl2⟩ := OwnT.tl VHd_kp HO.out
      refine ⟨form_end (okn := fun i => w.heap.size + 3 ≤ i) (x := .mk ⟨0, []⟩ acc) HK.out (by omega) ⟨_, _, rfl, by unfold u64B; simp only [RT.a]; omega, BR.nil, by simp [RT.a], A, c, rfl, hlc, by simp only [RT.l]; omega, htl2⟩ (fun i hi => by omega) (by omega) (by omega) (fun i hi => by have := E.hokl i hi; omega) hm, ?_⟩
      exact htl.kp ((Kp.refl (fun i => i = w.heap.size + 1) wr).put3 (B := w.heap.size + 1) (.inl rfl) _ _ _) (fun g hg he => by have := E.htl g hg; omega))
    clear hk hbf hb1 hbv ho
    by_cases hlt : i < P.length
    · have hi1 : (i : Int) < (P.length : Int) := by omega
      rcases hst with ⟨b', d, q', hrow, hbl, hr, hc, ht, hqs⟩ | ⟨o, er, s2, hRb, her, hr, ht⟩
      · have e2 := Blk.cell hr 2
        simp at e2
        have e2b : ((0 : Int) == 0) = true := rfl
        have hmem := List.getElem_mem hlt
        have hfs := FsR.kp HV.out.row HK.out HE.out.ok_S
        obtain ⟨b1, off, A2, c2, rfl, hok1, hfm, m0, m1, m2, m3, m4, m5⟩ := hfs.at_ hlt
        have hD : Kp (fun _ => False) wr wr.drew := (Kp.refl _ wr).drew
        have hkD := HK.out.then_ hD (fun _ h => h.elim)
        have E := HE.out
        have E2 : RdEnv ok rg cg t b' (a + d) wr.drew := E.at_ hkD.size (by have := E.ha; omega) (by omega) (by have := E.hal; omega)
        have hstep : ∀ y r s2, readR P[i] b' = .got y r s2 → readRow (P.drop (i + 1)) r (d + (b'.length - r.length)) (q' + s2) (acc ++ [y]) = R ∧ r.length ≤ b'.length := by
          intro y r s2 hg
          rw [readRow_drop hlt, hg] at hrow
          exact ⟨hrow, RdT.rest_le (hPz _ hmem) (hPc _ hmem) (by have := E2.hl; omega) hg⟩
        have hstep2 : ∀ o er s2, readR P[i] b' = .bad o er s2 → R = .bad (d + o) er (q' + s2) := by
          intro o er s2 hg
          rw [readRow_drop hlt, hg] at hrow
          exact hrow.symm
        have hms : q' + (readR P[i] b').steps ≤ R.steps := by
          cases hg : readR P[i] b' with
          | bad o er s2 => rw [hstep2 o er s2 hg]; simp only [RdT.steps]; omega
          | got y r s2 => rw [← (hstep y r s2 hg).1]; simp only [RdT.steps]; exact row_steps _ _ _ _ _
        have HC := Lib.hid (HIH.out _ hmem cg b' (a + d) (q + q') _ wr.drew E2 (hfm.kp hD (fun _ _ h => h)) (hr.kp hD (fun h => h)) (hc.kp hD (fun _ _ h => h) (fun h => h)) (ht.kp hD (fun _ _ h => h)) (HRM.out.imp id (fun h => by omega)) (HT.out.kp hkD (E.ok_S _ E.hok0)))
        have HS1 := Lib.hid hstep
        have HS2 := Lib.hid hstep2
        have HBF2 := Lib.hid (HBF.out.kp hD (fun h => h))
        have HB12 := Lib.hid (HB1.out.kp hD (fun h => h))
        have HBV2 := Lib.hid (HBV.out.kp hD (fun h => h))
        have HO2 := Lib.hid (HO.out.kp_ VHd_kp hD (fun _ _ h => h))
        have HK2 := Lib.hid hkD
        have HZ2 := Lib.hid (show w.heap.size + 3 ≤ wr.drew.heap.size from hzz)
        have e3 : (P.length : Int) > (i : Int) := by omega
        have HBL := Lib.hid hbl
        -- what the loads read holds as long as the form's blocks do
        have hSK : ∀ (T : Nat → Prop) (W : World), Kp T wr W → ¬ T w.heap.size → ¬ T b1 → (fun w' : World => w'.cell? ⟨w.heap.size, 5, none⟩ = some (.slice (some ⟨b1, off, none⟩) P.length c0) ∧ w'.cell? ⟨b1, off + i * 6, none⟩ = some (.int .i64 P[i].a.k) ∧ w'.cell? ⟨b1, off + i * 6 + 1, none⟩ = some (.int .i64 P[i].a.s) ∧ w'.cell? ⟨b1, off + i * 6 + 2, none⟩ = some (.int .i64 P[i].a.lo) ∧ w'.cell? ⟨b1, off + i * 6 + 3, none⟩ = some (.int .i64 P[i].a.hi) ∧ w'.cell? ⟨b1, off + i * 6 + 4, none⟩ = some (.int .i64 P[i].a.st) ∧ w'.cell? ⟨b1, off + i * 6 + 5, none⟩ = some (.slice A2 P[i].l.length c2)) W := fun T W hk h1 h2 =>
          ⟨hk.cell f5 h1, hk.cell m0 h2, hk.cell m1 h2, hk.cell m2 h2, hk.cell m3 h2, hk.cell m4 h2, hk.cell m5 h2⟩
        have hS0 := hSK (fun _ => False) wr.drew hD (fun h => h) (fun h => h)
        have HSK := Lib.hid hSK
        have hob := HO2.out
        have hb1l := E.hokl b1 hok1
        have g2D : wr.drew.cell? ⟨w.heap.size + 2, 2, none⟩ = some (.slice A acc.length c) := g2
        have gfD : wr.drew.frozen? ⟨w.heap.size + 2, 2, none⟩ = false := HBV2.out.frozen 2
        have HE3 := Lib.hid E2
        have HAL := Lib.hid (show acc.length + 1 ≤ 2513169434916 from by omega)
        have HMS := Lib.hid hms
        obtain ⟨i0, hi0, hj0, hj1, hj2⟩ := info_parts value_info
        have HNX := Lib.hid (fun w2 w3 x v2 o => row_next (ok := ok) (rg := rg) (cg := cg) (t := t) (h := ⟨3, s, lo, hi, st⟩) (P := P) (A0 := some ⟨b1, off, none⟩) (c0 := c0) (b := b) (a := a) (q := q) (R := R) (w := w) (wr := wr.drew) hlt hacc E hkD HBF2.out HB12.out HBV2.out hob HZ2.out hbl hms hstep hstep2 (w2 := w2) (w3 := w3) (x := x) (v2 := v2) (o := o))
        clear hD hkD E E2 hstep hstep2 hms hrow hqs hr hc ht hfs hfm hbl HBF HB1 HBV HO HK HX HV z0 z1 z2 y0 y1 y2 hSK hob HS1 HS2
        go_upto_region 5 with fail
        refine wp_region_noPanic ?_
        refine wp_region_held_drew (S := (fun w' : World => w'.cell? ⟨w.heap.size, 5, none⟩ = some (.slice (some ⟨b1, off, none⟩) P.length c0) ∧ w'.cell? ⟨b1, off + i * 6, none⟩ = some (.int .i64 P[i].a.k) ∧ w'.cell? ⟨b1, off + i * 6 + 1, none⟩ = some (.int .i64 P[i].a.s) ∧ w'.cell? ⟨b1, off + i * 6 + 2, none⟩ = some (.int .i64 P[i].a.lo) ∧ w'.cell? ⟨b1, off + i * 6 + 3, none⟩ = some (.int .i64 P[i].a.hi) ∧ w'.cell? ⟨b1, off + i * 6 + 4, none⟩ = some (.int .i64 P[i].a.st) ∧ w'.cell? ⟨b1, off + i * 6 + 5, none⟩ = some (.slice A2 P[i].l.length c2))) (by kernel_rfl) hS0 (fun hHeld => ?_)
        refine wpAnyH_take (i := 0) (v := ?v0) (by simp only [List.getElem?_toArray, List.getElem?_cons_zero]; rfl) (by kernel_rfl) (by kernel_rfl) (by kernel_rfl) (fun _ _ _ h => h) (Or.inl ⟨by rfl, ?hy0⟩) (by assumption) ?rest0
        case hy0 => (intro w hSw; (try dsimp only at hSw); go_simp; (try with_reducible rfl))
        try simp only [Act.put, List.setIfInBounds_toArray, List.set_cons_zero, List.set_cons_succ]
        refine wpAnyH_take (i := 2) (v := ?v2) (by simp only [List.getElem?_toArray, List.getElem?_cons_succ, List.getElem?_cons_zero]; rfl) (by kernel_rfl) (by kernel_rfl) (by kernel_rfl) (fun _ _ _ h => h) (Or.inl ⟨by rfl, ?hy2⟩) (by assumption) ?rest2
        case hy2 => (intro w hSw; (try dsimp only at hSw); go_simp; (try with_reducible rfl))
        try simp only [Act.put, List.setIfInBounds_toArray, List.set_cons_zero, List.set_cons_succ]
        refine wpAnyH_take (i := 3) (v := ?v3) (by simp only [List.getElem?_toArray, List.getElem?_cons_succ, List.getElem?_cons_zero]; rfl) (by kernel_rfl) (by kernel_rfl) (by kernel_rfl) (fun _ _ _ h => h) (Or.inl ⟨by rfl, ?hy3⟩) (by assumption) ?rest3
        case hy3 => (intro w hSw; (try dsimp only at hSw); go_simp; (try with_reducible rfl))
        try simp only [Act.put, List.setIfInBounds_toArray, List.set_cons_zero, List.set_cons_succ]
        refine wpAnyH_take (i := 4) (v := ?v4) (by simp only [List.getElem?_toArray, List.getElem?_cons_succ, List.getElem?_cons_zero]; rfl) (by kernel_rfl) (by kernel_rfl) (by kernel_rfl) (fun _ _ _ h => h) (Or.inl ⟨by rfl, ?hy4⟩) (by assumption) ?rest4
        case hy4 => (intro w hSw; (try dsimp only at hSw); go_simp; (try with_reducible rfl))
        try simp only [Act.put, List.setIfInBounds_toArray, List.set_cons_zero, List.set_cons_succ]
        refine wpAnyH_take (i := 5) (v := ?v5) (by simp only [List.getElem?_toArray, List.getElem?_cons_succ, List.getElem?_cons_zero]; rfl) (by kernel_rfl) (by kernel_rfl) (by kernel_rfl) (fun _ _ _ h => h) (Or.inl ⟨by rfl, ?hy5⟩) (by assumption) ?rest5
        case hy5 => (intro w hSw; (try dsimp only at hSw); go_simp; (try with_reducible rfl))
        try simp only [Act.put, List.setIfInBounds_toArray, List.set_cons_zero, List.set_cons_succ]
        refine wpAnyH_take (i := 6) (v := ?v6) (by simp only [List.getElem?_toArray, List.getElem?_cons_succ, List.getElem?_cons_zero]; rfl) (by kernel_rfl) (by kernel_rfl) (by kernel_rfl) (fun _ _ _ h => h) (Or.inl ⟨by rfl, ?hy6⟩) (by assumption) ?rest6
        case hy6 => (intro w hSw; (try dsimp only at hSw); go_simp; (try with_reducible rfl))
        try simp only [Act.put, List.setIfInBounds_toArray, List.set_cons_zero, List.set_cons_succ]
        refine wpAnyH_take (i := 7) (v := ?v7) (by simp only [List.getElem?_toArray, List.getElem?_cons_succ, List.getElem?_cons_zero]; rfl) (by kernel_rfl) (by kernel_rfl) (by kernel_rfl) (fun _ _ _ h => h) (Or.inl ⟨by rfl, ?hy7⟩) (by assumption) ?rest7
        case hy7 => (intro w hSw; (try dsimp only at hSw); go_simp; (try with_reducible rfl))
        try simp only [Act.put, List.setIfInBounds_toArray, List.set_cons_zero, List.set_cons_succ]
        refine wpAnyH_take (i := 8) (v := ?v8) (by simp only [List.getElem?_toArray, List.getElem?_cons_succ, List.getElem?_cons_zero]; rfl) (by kernel_rfl) (by kernel_rfl) (by kernel_rfl) (fun _ _ _ h => h) (Or.inl ⟨by rfl, ?hy8⟩) (by assumption) ?rest8
        case hy8 => (intro w hSw; (try dsimp only at hSw); go_simp; (try with_reducible rfl))
        try simp only [Act.put, List.setIfInBounds_toArray, List.set_cons_zero, List.set_cons_succ]
        refine wpAnyH_ready (rs := [1, 9]) (by kernel_rfl) (by simp) ?_
        refine (AllReadyH.cons (o := _) rfl (fun K hK => ?_) (AllReadyH.cons (o := _) rfl (fun K hK => ?_) AllReadyH.nil))
        · go_simp
          refine hK.out _ _ (by assumption) (fun hHeld => ?_)
          clear hK K
          refine wpAnyH_ready (rs := [9]) (by kernel_rfl) (by simp) ?_
          refine (AllReadyH.cons (o := _) rfl (fun K hK => ?_) AllReadyH.nil)
          go_simp
          refine HC.out.mono ?_
          rintro e w2 ⟨hfp, htl⟩
          obtain ⟨v3, x, rfl, hvx, hk2, hen⟩ := hfp.parts
          obtain ⟨A5, c5, A6, c6, rfl, htr5⟩ := hvx.shape
          have hS2 := HSK.out (S3 rg cg t) w2 (((Kp.refl (fun _ => False) wr).drew.mono (fun _ _ h => h.elim)).then_ hk2 (fun j hj => .inl hj)) (HE.out.new_S _ (Nat.le_refl _)) (HE.out.ok_S _ hok1)
          have gV2 := hk2.cell g2D (HE.out.new_S _ (Nat.le_add_right _ 2))
          have gF2 := (HBV2.out.kp hk2 (HE.out.new_S _ (Nat.le_add_right _ 2))).frozen 2
          have HQ := Lib.hid (And.intro hk2 (And.intro hen (And.intro htl (And.intro hvx htr5))))
          clear hvx hen htl htr5 hfp
          try dsimp only
          refine hK.out _ _ hS2 (fun hHeld => ?_)
          clear hK K
          refine wpAnyH_ready (rs := [10]) (by kernel_rfl) (by simp) ?_
          refine (AllReadyH.cons (o := _) rfl (fun K hK => ?_) AllReadyH.nil)
          go_simp
          have hS3 := HSK.out (S3 rg cg t) (w2.alloc (.cells #[.int .u64 x.a.n, .slice A5 x.a.b.length c5, .slice A6 x.l.length c6] 31)) ((((Kp.refl (fun _ => False) wr).drew.mono (fun _ _ h => h.elim)).then_ hk2 (fun j hj => .inl hj)).alloc _) (HE.out.new_S _ (Nat.le_refl _)) (HE.out.ok_S _ hok1)
          have gV3 := ((Kp.refl (fun _ => False) w2).alloc (.cells #[.int .u64 x.a.n, .slice A5 x.a.b.length c5, .slice A6 x.l.length c6] 31)).cell gV2 (fun h => h)
          try dsimp only
          refine hK.out _ _ hS3 (fun hHeld => ?_)
          clear hK K
          refine wpAnyH_ready (rs := [11]) (by kernel_rfl) (by simp) ?_
          refine (AllReadyH.cons (o := _) rfl (fun K hK => ?_) AllReadyH.nil)
          refine step_push VHd_kp VHd_lt rfl (.tmp 24) (.tmp 33) _ rfl 31 i0 _ 3 56 Tryd.underlying29 hi0 hj0 hj1 hj2 rfl (by omega) (w.heap.size + 3 ≤ ·) (fun j => wr.drew.heap.size ≤ j) (.slice A acc.length c) acc (by simp [Act.eval]) (HO2.out.kp_ VHd_kp (HQ.out.1.alloc _) (fun j hj => HE.out.new_S j (by omega))) w2.heap.size 1 (by simp [Act.eval]) [.int .u64 x.a.n, .slice A5 x.a.b.length c5, .slice A6 x.l.length c6] rfl (Blk.new w2 _ _) x (TR.kp_ VHd_kp ((Kp.refl (fun _ => False) w2).alloc _) (fun _ _ h => h) (fun _ h => h) x _ HQ.out.2.2.2.2) (by intro u hu; simp at hu; rcases hu with rfl | rfl | rfl <;> rfl) (fun j hj => ⟨Nat.le_trans HZ2.out hj, fun he => by have := HO2.out.lt he; omega⟩) (fun j hj => by have := HQ.out.1.size; have := HZ2.out; rw [World.size_alloc] at hj; omega) (by have := HAL.out; omega) (by have := HAL.out; omega) ?_
          intro v4 w3 ho3 hk3 _
          obtain ⟨A4, c4, rfl, _⟩ := ho3.shape
          generalize hal4 : (acc ++ [x]).length = n4 at ho3 ⊢
          have hS4 := HSK.out (fun j => S3 rg cg t j ∨ Value.ownBlock (.slice A acc.length c) = some j) w3 ((((((Kp.refl (fun _ => False) wr).drew.mono (fun _ _ h => h.elim)).then_ HQ.out.1 (fun j hj => .inl (.inl hj))).alloc (.cells #[.int .u64 x.a.n, .slice A5 x.a.b.length c5, .slice A6 x.l.length c6] 31)).then_ hk3 (fun j hj => .inl (.inr hj)))) (fun hh => hh.elim (HE.out.new_S _ (Nat.le_refl _)) (fun he => by obtain ⟨xs9, ho9, _⟩ := HO2.out; have := ho9.2 _ he; omega)) (fun hh => hh.elim (HE.out.ok_S _ hok1) (fun he => by obtain ⟨xs9, ho9, _⟩ := HO2.out; have := ho9.2 _ he; omega))
          have hown9 : ¬ Value.ownBlock (.slice A acc.length c) = some (w.heap.size + 2) := (fun he => by obtain ⟨xs9, ho9, _⟩ := HO2.out; have := ho9.2 _ he; omega)
          have gV4 := hk3.cell gV3 hown9
          have gF4 := (((HBV2.out.kp HQ.out.1 (HE.out.new_S _ (by omega))).alloc _).kp hk3 hown9).frozen 2
          have HQ3 := Lib.hid (HNX.out w2 w3 x (.slice A4 n4 c4) _ HQ.out.1 HQ.out.2.1 HQ.out.2.2.1 ho3 hk3)
          clear ho3 hk3 hown9
          refine hK.out _ _ hS4 (fun hHeld => ?_)
          clear hK K
          refine wpAnyH_ready (rs := [12]) (by kernel_rfl) (by simp) ?_
          refine (AllReadyH.cons (o := _) rfl (fun K hK => ?_) AllReadyH.nil)
          go_simp
          refine hK.out _ _ (by assumption) (fun hHeld => ?_)
          clear hK K
          refine wpAnyH_ready (rs := [13]) (by kernel_rfl) (by simp) ?_
          refine (AllReadyH.cons (o := _) rfl (fun K hK => ?_) AllReadyH.nil)
          go_simp
          have hS5 := (show (fun w' : World => w'.cell? ⟨w.heap.size, 5, none⟩ = some (.slice (some ⟨b1, off, none⟩) P.length c0) ∧ w'.cell? ⟨b1, off + i * 6, none⟩ = some (.int .i64 P[i].a.k) ∧ w'.cell? ⟨b1, off + i * 6 + 1, none⟩ = some (.int .i64 P[i].a.s) ∧ w'.cell? ⟨b1, off + i * 6 + 2, none⟩ = some (.int .i64 P[i].a.lo) ∧ w'.cell? ⟨b1, off + i * 6 + 3, none⟩ = some (.int .i64 P[i].a.hi) ∧ w'.cell? ⟨b1, off + i * 6 + 4, none⟩ = some (.int .i64 P[i].a.st) ∧ w'.cell? ⟨b1, off + i * 6 + 5, none⟩ = some (.slice A2 P[i].l.length c2)) (w3.setCell ⟨w.heap.size + 2, 2, none⟩ (.slice A4 n4 c4)) from by obtain ⟨s1, s2, s3, s4, s5, s6, s7⟩ := hS4; have hks : Kp (fun j => j = w.heap.size + 2) w3 (w3.setCell ⟨w.heap.size + 2, 2, none⟩ (.slice A4 n4 c4)) := (Kp.refl (fun j => j = w.heap.size + 2) w3).setCell (p := ⟨w.heap.size + 2, 2, none⟩) (.inl rfl) _; exact ⟨hks.cell s1 (by show w.heap.size ≠ w.heap.size + 2; omega), hks.cell s2 (by show b1 ≠ _; omega), hks.cell s3 (by show b1 ≠ _; omega), hks.cell s4 (by show b1 ≠ _; omega), hks.cell s5 (by show b1 ≠ _; omega), hks.cell s6 (by show b1 ≠ _; omega), hks.cell s7 (by show b1 ≠ _; omega)⟩)
          try dsimp only
          refine hK.out _ _ hS5 (fun hHeld => ?_)
          clear hK K
          refine wpAnyH_done (by kernel_rfl) ?_ _
          refine NoPanic.normal ?_
          go_wp2_with fail
          go_roundw
          case rel => exact HQ3.out
          case measure => simp [intOf]; omega
        · go_simp
          refine HC.out.mono ?_
          rintro e w2 ⟨hfp, htl⟩
          obtain ⟨v3, x, rfl, hvx, hk2, hen⟩ := hfp.parts
          obtain ⟨A5, c5, A6, c6, rfl, htr5⟩ := hvx.shape
          have hS2 := HSK.out (S3 rg cg t) w2 (((Kp.refl (fun _ => False) wr).drew.mono (fun _ _ h => h.elim)).then_ hk2 (fun j hj => .inl hj)) (HE.out.new_S _ (Nat.le_refl _)) (HE.out.ok_S _ hok1)
          have gV2 := hk2.cell g2D (HE.out.new_S _ (Nat.le_add_right _ 2))
          have gF2 := (HBV2.out.kp hk2 (HE.out.new_S _ (Nat.le_add_right _ 2))).frozen 2
          have HQ := Lib.hid (And.intro hk2 (And.intro hen (And.intro htl (And.intro hvx htr5))))
          clear hvx hen htl htr5 hfp
          try dsimp only
          refine hK.out _ _ hS2 (fun hHeld => ?_)
          clear hK K
          refine wpAnyH_ready (rs := [1, 10]) (by kernel_rfl) (by simp) ?_
          refine (AllReadyH.cons (o := _) rfl (fun K hK => ?_) (AllReadyH.cons (o := _) rfl (fun K hK => ?_) AllReadyH.nil))
          · go_simp
            refine hK.out _ _ (by assumption) (fun hHeld => ?_)
            clear hK K
            refine wpAnyH_ready (rs := [10]) (by kernel_rfl) (by simp) ?_
            refine (AllReadyH.cons (o := _) rfl (fun K hK => ?_) AllReadyH.nil)
            go_simp
            have hS3 := HSK.out (S3 rg cg t) (w2.alloc (.cells #[.int .u64 x.a.n, .slice A5 x.a.b.length c5, .slice A6 x.l.length c6] 31)) ((((Kp.refl (fun _ => False) wr).drew.mono (fun _ _ h => h.elim)).then_ hk2 (fun j hj => .inl hj)).alloc _) (HE.out.new_S _ (Nat.le_refl _)) (HE.out.ok_S _ hok1)
            have gV3 := ((Kp.refl (fun _ => False) w2).alloc (.cells #[.int .u64 x.a.n, .slice A5 x.a.b.length c5, .slice A6 x.l.length c6] 31)).cell gV2 (fun h => h)
            try dsimp only
            refine hK.out _ _ hS3 (fun hHeld => ?_)
            clear hK K
            refine wpAnyH_ready (rs := [11]) (by kernel_rfl) (by simp) ?_
            refine (AllReadyH.cons (o := _) rfl (fun K hK => ?_) AllReadyH.nil)
            refine step_push VHd_kp VHd_lt rfl (.tmp 24) (.tmp 33) _ rfl 31 i0 _ 3 56 Tryd.underlying29 hi0 hj0 hj1 hj2 rfl (by omega) (w.heap.size + 3 ≤ ·) (fun j => wr.drew.heap.size ≤ j) (.slice A acc.length c) acc (by simp [Act.eval]) (HO2.out.kp_ VHd_kp (HQ.out.1.alloc _) (fun j hj => HE.out.new_S j (by omega))) w2.heap.size 1 (by simp [Act.eval]) [.int .u64 x.a.n, .slice A5 x.a.b.length c5, .slice A6 x.l.length c6] rfl (Blk.new w2 _ _) x (TR.kp_ VHd_kp ((Kp.refl (fun _ => False) w2).alloc _) (fun _ _ h => h) (fun _ h => h) x _ HQ.out.2.2.2.2) (by intro u hu; simp at hu; rcases hu with rfl | rfl | rfl <;> rfl) (fun j hj => ⟨Nat.le_trans HZ2.out hj, fun he => by have := HO2.out.lt he; omega⟩) (fun j hj => by have := HQ.out.1.size; have := HZ2.out; rw [World.size_alloc] at hj; omega) (by have := HAL.out; omega) (by have := HAL.out; omega) ?_
            intro v4 w3 ho3 hk3 _
            obtain ⟨A4, c4, rfl, _⟩ := ho3.shape
            generalize hal4 : (acc ++ [x]).length = n4 at ho3 ⊢
            have hS4 := HSK.out (fun j => S3 rg cg t j ∨ Value.ownBlock (.slice A acc.length c) = some j) w3 ((((((Kp.refl (fun _ => False) wr).drew.mono (fun _ _ h => h.elim)).then_ HQ.out.1 (fun j hj => .inl (.inl hj))).alloc (.cells #[.int .u64 x.a.n, .slice A5 x.a.b.length c5, .slice A6 x.l.length c6] 31)).then_ hk3 (fun j hj => .inl (.inr hj)))) (fun hh => hh.elim (HE.out.new_S _ (Nat.le_refl _)) (fun he => by obtain ⟨xs9, ho9, _⟩ := HO2.out; have := ho9.2 _ he; omega)) (fun hh => hh.elim (HE.out.ok_S _ hok1) (fun he => by obtain ⟨xs9, ho9, _⟩ := HO2.out; have := ho9.2 _ he; omega))
            have hown9 : ¬ Value.ownBlock (.slice A acc.length c) = some (w.heap.size + 2) := (fun he => by obtain ⟨xs9, ho9, _⟩ := HO2.out; have := ho9.2 _ he; omega)
            have gV4 := hk3.cell gV3 hown9
            have gF4 := (((HBV2.out.kp HQ.out.1 (HE.out.new_S _ (by omega))).alloc _).kp hk3 hown9).frozen 2
            have HQ3 := Lib.hid (HNX.out w2 w3 x (.slice A4 n4 c4) _ HQ.out.1 HQ.out.2.1 HQ.out.2.2.1 ho3 hk3)
            clear ho3 hk3 hown9
            refine hK.out _ _ hS4 (fun hHeld => ?_)
            clear hK K
            refine wpAnyH_ready (rs := [12]) (by kernel_rfl) (by simp) ?_
            refine (AllReadyH.cons (o := _) rfl (fun K hK => ?_) AllReadyH.nil)
            go_simp
            refine hK.out _ _ (by assumption) (fun hHeld => ?_)
            clear hK K
            refine wpAnyH_ready (rs := [13]) (by kernel_rfl) (by simp) ?_
            refine (AllReadyH.cons (o := _) rfl (fun K hK => ?_) AllReadyH.nil)
            go_simp
            have hS5 := (show (fun w' : World => w'.cell? ⟨w.heap.size, 5, none⟩ = some (.slice (some ⟨b1, off, none⟩) P.length c0) ∧ w'.cell? ⟨b1, off + i * 6, none⟩ = some (.int .i64 P[i].a.k) ∧ w'.cell? ⟨b1, off + i * 6 + 1, none⟩ = some (.int .i64 P[i].a.s) ∧ w'.cell? ⟨b1, off + i * 6 + 2, none⟩ = some (.int .i64 P[i].a.lo) ∧ w'.cell? ⟨b1, off + i * 6 + 3, none⟩ = some (.int .i64 P[i].a.hi) ∧ w'.cell? ⟨b1, off + i * 6 + 4, none⟩ = some (.int .i64 P[i].a.st) ∧ w'.cell? ⟨b1, off + i * 6 + 5, none⟩ = some (.slice A2 P[i].l.length c2)) (w3.setCell ⟨w.heap.size + 2, 2, none⟩ (.slice A4 n4 c4)) from by obtain ⟨s1, s2, s3, s4, s5, s6, s7⟩ := hS4; have hks : Kp (fun j => j = w.heap.size + 2) w3 (w3.setCell ⟨w.heap.size + 2, 2, none⟩ (.slice A4 n4 c4)) := (Kp.refl (fun j => j = w.heap.size + 2) w3).setCell (p := ⟨w.heap.size + 2, 2, none⟩) (.inl rfl) _; exact ⟨hks.cell s1 (by show w.heap.size ≠ w.heap.size + 2; omega), hks.cell s2 (by show b1 ≠ _; omega), hks.cell s3 (by show b1 ≠ _; omega), hks.cell s4 (by show b1 ≠ _; omega), hks.cell s5 (by show b1 ≠ _; omega), hks.cell s6 (by show b1 ≠ _; omega), hks.cell s7 (by show b1 ≠ _; omega)⟩)
            try dsimp only
            refine hK.out _ _ hS5 (fun hHeld => ?_)
            clear hK K
            refine wpAnyH_done (by kernel_rfl) ?_ _
            refine NoPanic.normal ?_
            go_wp2_with fail
            go_roundw
            case rel => exact HQ3.out
            case measure => simp [intOf]; omega
          · go_simp
            have hS3 := HSK.out (S3 rg cg t) (w2.alloc (.cells #[.int .u64 x.a.n, .slice A5 x.a.b.length c5, .slice A6 x.l.length c6] 31)) ((((Kp.refl (fun _ => False) wr).drew.mono (fun _ _ h => h.elim)).then_ hk2 (fun j hj => .inl hj)).alloc _) (HE.out.new_S _ (Nat.le_refl _)) (HE.out.ok_S _ hok1)
            have gV3 := ((Kp.refl (fun _ => False) w2).alloc (.cells #[.int .u64 x.a.n, .slice A5 x.a.b.length c5, .slice A6 x.l.length c6] 31)).cell gV2 (fun h => h)
            try dsimp only
            refine hK.out _ _ hS3 (fun hHeld => ?_)
            clear hK K
            refine wpAnyH_ready (rs := [1]) (by kernel_rfl) (by simp) ?_
            refine (AllReadyH.cons (o := _) rfl (fun K hK => ?_) AllReadyH.nil)
            go_simp
            refine hK.out _ _ (by assumption) (fun hHeld => ?_)
            clear hK K
            refine wpAnyH_ready (rs := [11]) (by kernel_rfl) (by simp) ?_
            refine (AllReadyH.cons (o := _) rfl (fun K hK => ?_) AllReadyH.nil)
            refine step_push VHd_kp VHd_lt rfl (.tmp 24) (.tmp 33) _ rfl 31 i0 _ 3 56 Tryd.underlying29 hi0 hj0 hj1 hj2 rfl (by omega) (w.heap.size + 3 ≤ ·) (fun j => wr.drew.heap.size ≤ j) (.slice A acc.length c) acc (by simp [Act.eval]) (HO2.out.kp_ VHd_kp (HQ.out.1.alloc _) (fun j hj => HE.out.new_S j (by omega))) w2.heap.size 1 (by simp [Act.eval]) [.int .u64 x.a.n, .slice A5 x.a.b.length c5, .slice A6 x.l.length c6] rfl (Blk.new w2 _ _) x (TR.kp_ VHd_kp ((Kp.refl (fun _ => False) w2).alloc _) (fun _ _ h => h) (fun _ h => h) x _ HQ.out.2.2.2.2) (by intro u hu; simp at hu; rcases hu with rfl | rfl | rfl <;> rfl) (fun j hj => ⟨Nat.le_trans HZ2.out hj, fun he => by have := HO2.out.lt he; omega⟩) (fun j hj => by have := HQ.out.1.size; have := HZ2.out; rw [World.size_alloc] at hj; omega) (by have := HAL.out; omega) (by have := HAL.out; omega) ?_
            intro v4 w3 ho3 hk3 _
            obtain ⟨A4, c4, rfl, _⟩ := ho3.shape
            generalize hal4 : (acc ++ [x]).length = n4 at ho3 ⊢
            have hS4 := HSK.out (fun j => S3 rg cg t j ∨ Value.ownBlock (.slice A acc.length c) = some j) w3 ((((((Kp.refl (fun _ => False) wr).drew.mono (fun _ _ h => h.elim)).then_ HQ.out.1 (fun j hj => .inl (.inl hj))).alloc (.cells #[.int .u64 x.a.n, .slice A5 x.a.b.length c5, .slice A6 x.l.length c6] 31)).then_ hk3 (fun j hj => .inl (.inr hj)))) (fun hh => hh.elim (HE.out.new_S _ (Nat.le_refl _)) (fun he => by obtain ⟨xs9, ho9, _⟩ := HO2.out; have := ho9.2 _ he; omega)) (fun hh => hh.elim (HE.out.ok_S _ hok1) (fun he => by obtain ⟨xs9, ho9, _⟩ := HO2.out; have := ho9.2 _ he; omega))
            have hown9 : ¬ Value.ownBlock (.slice A acc.length c) = some (w.heap.size + 2) := (fun he => by obtain ⟨xs9, ho9, _⟩ := HO2.out; have := ho9.2 _ he; omega)
            have gV4 := hk3.cell gV3 hown9
            have gF4 := (((HBV2.out.kp HQ.out.1 (HE.out.new_S _ (by omega))).alloc _).kp hk3 hown9).frozen 2
            have HQ3 := Lib.hid (HNX.out w2 w3 x (.slice A4 n4 c4) _ HQ.out.1 HQ.out.2.1 HQ.out.2.2.1 ho3 hk3)
            clear ho3 hk3 hown9
            refine hK.out _ _ hS4 (fun hHeld => ?_)
            clear hK K
            refine wpAnyH_ready (rs := [12]) (by kernel_rfl) (by simp) ?_
            refine (AllReadyH.cons (o := _) rfl (fun K hK => ?_) AllReadyH.nil)
            go_simp
            refine hK.out _ _ (by assumption) (fun hHeld => ?_)
            clear hK K
            refine wpAnyH_ready (rs := [13]) (by kernel_rfl) (by simp) ?_
            refine (AllReadyH.cons (o := _) rfl (fun K hK => ?_) AllReadyH.nil)
            go_simp
            have hS5 := (show (fun w' : World => w'.cell? ⟨w.heap.size, 5, none⟩ = some (.slice (some ⟨b1, off, none⟩) P.length c0) ∧ w'.cell? ⟨b1, off + i * 6, none⟩ = some (.int .i64 P[i].a.k) ∧ w'.cell? ⟨b1, off + i * 6 + 1, none⟩ = some (.int .i64 P[i].a.s) ∧ w'.cell? ⟨b1, off + i * 6 + 2, none⟩ = some (.int .i64 P[i].a.lo) ∧ w'.cell? ⟨b1, off + i * 6 + 3, none⟩ = some (.int .i64 P[i].a.hi) ∧ w'.cell? ⟨b1, off + i * 6 + 4, none⟩ = some (.int .i64 P[i].a.st) ∧ w'.cell? ⟨b1, off + i * 6 + 5, none⟩ = some (.slice A2 P[i].l.length c2)) (w3.setCell ⟨w.heap.size + 2, 2, none⟩ (.slice A4 n4 c4)) from by obtain ⟨s1, s2, s3, s4, s5, s6, s7⟩ := hS4; have hks : Kp (fun j => j = w.heap.size + 2) w3 (w3.setCell ⟨w.heap.size + 2, 2, none⟩ (.slice A4 n4 c4)) := (Kp.refl (fun j => j = w.heap.size + 2) w3).setCell (p := ⟨w.heap.size + 2, 2, none⟩) (.inl rfl) _; exact ⟨hks.cell s1 (by show w.heap.size ≠ w.heap.size + 2; omega), hks.cell s2 (by show b1 ≠ _; omega), hks.cell s3 (by show b1 ≠ _; omega), hks.cell s4 (by show b1 ≠ _; omega), hks.cell s5 (by show b1 ≠ _; omega), hks.cell s6 (by show b1 ≠ _; omega), hks.cell s7 (by show b1 ≠ _; omega)⟩)
            try dsimp only
            refine hK.out _ _ hS5 (fun hHeld => ?_)
            clear hK K
            refine wpAnyH_done (by kernel_rfl) ?_ _
            refine NoPanic.normal ?_
            go_wp2_with fail
            go_roundw
            case rel => exact HQ3.out
            case measure => simp [intOf]; omega
      · have e2 := Blk.cell hr 2
        simp at e2
        have e2b : (er == 0) = false := by simpa using her
        have HF := Lib.hid (HX.out (by rw [hRb]; exact ⟨hr, her⟩) (by rw [hRb]; exact ht))
        clear hr ht HX hRb her
        go_wp2_with fail
        exact bodyPost_ret (v := .agg #[.int .u64 0, .slice none 0 0, .slice A acc.length c]) (by simp [results, Tryd.results60, go_sem, y0, y1, y2]) rfl HF.out
    · obtain rfl : i = P.length := by omega
      have hF : (FormQ ok rg cg t b a q w R (.returned (.agg #[.int .u64 0, .slice none 0 0, .slice A acc.length c])) (((wr.setCell ⟨w.heap.size + 1, 0, none⟩ (.int .u64 0)).setCell ⟨w.heap.size + 1, 1, none⟩ (.slice none 0 0)).setCell ⟨w.heap.size + 1, 2, none⟩ (.slice A acc.length c))) := by
        rcases hst with ⟨b', d, q', hrow, hbl, hr, hc, ht, hqs⟩ | ⟨o, er, s2, hRb, her, hr, ht⟩
        · rw [readRow_end (Nat.le_refl _)] at hrow
          refine HX.out ?_ ?_
          · rw [← hrow]
            refine ⟨rfl, hr, ?_⟩
            rw [show b.length - b'.length = d by omega]
            exact hc
          · rw [← hrow]
            exact ht
        · exact HX.out (by rw [hRb]; exact ⟨hr, her⟩) (by rw [hRb]; exact ht)
      have HF := Lib.hid hF
      clear hF
      clear hst HX
      go_wp2_with fail
      exact bodyPost_ret (v := .agg #[.int .u64 0, .slice none 0 0, .slice A acc.length c]) (by simp [results, Tryd.results60, go_sem, y0, y1, y2]) rfl HF.out
end Go.Proofs.YtdhnfccgojgehaaDoor

namespace Go.Proofs.YtdhnfccgojgehaaDoor
open Go.RowKit

theorem iter_end {f : List UInt8 → RdT} {n : Nat} {b : List UInt8} {d q : Nat} {acc : List Vt} (h : b.length = 0) : iterR f n b d q acc = .got (.mk ⟨0, []⟩ acc) b q := by
  cases n with
  | zero => rw [iterR]
  | succ n => rw [iterR, if_pos h]
theorem iter_step {f : List UInt8 → RdT} {n : Nat} {b : List UInt8} {d q : Nat} {acc : List Vt} (h : b.length ≠ 0) : iterR f (n + 1) b d q acc = match f b with
    | .bad a e s => .bad (d + a) e (q + s)
    | .got x r s => iterR f n r (d + (b.length - r.length)) (q + s) (acc ++ [x]) := by
  rw [iterR, if_neg h]
  rfl
theorem iter_steps {f : List UInt8 → RdT} : ∀ (n : Nat) (b : List UInt8) (d q : Nat) (acc : List Vt), q ≤ (iterR f n b d q acc).steps
  | 0, b, d, q, acc => by rw [iterR]; exact Nat.le_refl _
  | n + 1, b, d, q, acc => by
    rw [iterR]
    split
    · exact Nat.le_refl _
    · split
      · simp only [RdT.steps]; omega
      · exact Nat.le_trans (by omega) (iter_steps n _ _ _ _)
theorem read_less {f : Fm} {b : List UInt8} (hz : szF f ≤ 100000) (hc : checkR f = 0) (hl : leastR f ≠ 0) (hb : b.length ≤ 140737488351232) {x : Vt} {r : List UInt8} {s : Nat} (h : readR f b = .got x r s) : r.length < b.length := by
  obtain ⟨u, e, _, h1, _⟩ := read_got f hz hc b hb x r s h
  have h2 := (span_sz FH.lo (.inl rfl) f hz hc).1
  have h3 : leastR f = spanR FH.lo f := rfl
  rw [e, List.length_append]
  omega

/-- A list's loop: what holds at each round. 'gs': the cursor of its own; 'N': behind the last of its bytes. -/
def ListI (ok : Nat → Prop) (rg cg gs : Nat) (t : Value) (h : FH) (A0 : Option Addr) (c0 : Nat) (f : List UInt8 → RdT) (N : Nat) (rest : List UInt8) (a : Int) (q : Nat) (R : RdT) (w : World) (gh : Nat) (wr : World) : Prop :=
  ∃ (acc : List Vt) (v : Value), acc.length ≤ N ∧ Kp (S3 rg cg t) w wr ∧ Blk wr w.heap.size 24 #[.int .i64 h.k, .int .i64 h.s, .int .i64 h.lo, .int .i64 h.hi, .int .i64 h.st, .slice A0 1 c0] ∧
    Blk wr (w.heap.size + 1) 31 #[.int .u64 0, .slice none 0 0, .slice none 0 0] ∧ Blk wr (w.heap.size + 2) 31 #[.int .u64 0, .slice none 0 0, v] ∧ OwnT VHd 3 31 wr (fun j => w.heap.size + 3 ≤ j ∧ j ≠ gs) v acc ∧ w.heap.size + 3 ≤ wr.heap.size ∧ gs < wr.heap.size ∧ Cur wr ok cg rest (a + N) ∧
    ((∃ (b' : List UInt8) (d q' fuel : Nat), gh = b'.length + 1 ∧ b'.length ≤ fuel ∧ iterR f fuel b' d q' acc = R ∧ d + b'.length = N ∧ acc.length ≤ d ∧ RdB wr rg t 0 0 ∧ Cur wr ok gs b' (a + d) ∧ Tl wr t (q + q') ∧ q' ≤ R.steps) ∨
     (gh = 0 ∧ ∃ o er s, R = .bad o er s ∧ er ≠ 0 ∧ RdB wr rg t (a + o) er ∧ Tl wr t (q + s)))

/-- One thing more. -/
theorem list_next {ok : Nat → Prop} {rg cg gs : Nat} {t : Value} {h : FH} {A0 : Option Addr} {c0 : Nat} {g : Fm} {N : Nat} {rest : List UInt8} {a : Int} {q : Nat} {R : RdT} {w wr : World} {acc : List Vt} {v : Value} {b' : List UInt8} {d q' fuel : Nat}
    (hz : szF g ≤ 100000) (hc : checkR g = 0) (hl : leastR g ≠ 0) (hbm : b'.length ≤ 140737488351232) (h0 : b'.length ≠ 0) (hfu : b'.length ≤ fuel)
    (E : RdEnv ok rg gs t b' (a + d) wr) (hcg : cg < w.heap.size) (hokl : ∀ i, ok i → i < w.heap.size) (hrc : rg ≠ cg) (hrw : rg < w.heap.size) (htc : ∀ g, t = .pointer (some ⟨g, 0, none⟩) → g < w.heap.size ∧ g ≠ cg) (hgs : w.heap.size + 3 ≤ gs)
    (hk : Kp (S3 rg cg t) w wr) (hbf : Blk wr w.heap.size 24 #[.int .i64 h.k, .int .i64 h.s, .int .i64 h.lo, .int .i64 h.hi, .int .i64 h.st, .slice A0 1 c0])
    (hb1 : Blk wr (w.heap.size + 1) 31 #[.int .u64 0, .slice none 0 0, .slice none 0 0]) (hbv : Blk wr (w.heap.size + 2) 31 #[.int .u64 0, .slice none 0 0, v]) (ho : OwnT VHd 3 31 wr (fun j => w.heap.size + 3 ≤ j ∧ j ≠ gs) v acc) 
    (hcur : Cur wr ok cg rest (a + N)) (hdn : d + b'.length = N) (hacc : acc.length ≤ d) (hrow : iterR (readR g) fuel b' d q' acc = R)
    {w2 w3 : World} {x : Vt} {v2 : Value} {o : Obj} (hk2 : Kp (S3 rg gs t) wr w2) (hq : EndQ ok rg gs t b' (a + d) w2 x (readR g b')) (ht : Tl w2 t (q + q' + (readR g b').steps))
    (ho3 : OwnT VHd 3 31 w3 (fun j => w.heap.size + 3 ≤ j ∧ j ≠ gs) v2 (acc ++ [x])) (hk3 : Kp (fun j => v.ownBlock = some j) (w2.alloc o) w3) :
    ∃ gn, gn < b'.length + 1 ∧ ListI ok rg cg gs t h A0 c0 (readR g) N rest a q R w gn (w3.setCell ⟨w.heap.size + 2, 2, none⟩ v2) := by
  have hw := hk.size
  have hz2 := hk2.size
  have hvl : ∀ j, v.ownBlock = some j → w.heap.size + 3 ≤ j ∧ j ≠ gs := fun j hj => by
    obtain ⟨xs, h1, _⟩ := ho
    exact h1.2 j hj
  have hvl2 : ∀ j, v.ownBlock = some j → j < wr.heap.size := fun j hj => ho.lt hj
  have hka : Kp (fun j => v.ownBlock = some j) w2 w3 := ((Kp.refl _ w2).alloc o).then_ hk3 (fun j hj => .inl hj)
  have hks : Kp (fun j => j = w.heap.size + 2) w3 (w3.setCell ⟨w.heap.size + 2, 2, none⟩ v2) := (Kp.refl (fun j => j = w.heap.size + 2) w3).setCell (p := ⟨w.heap.size + 2, 2, none⟩) (.inl rfl) v2
  have hz3 := hka.size
  have nS : ∀ j, w.heap.size ≤ j → j ≠ gs → ¬ S3 rg gs t j := fun j hj hg hs => by
    rcases hs with rfl | rfl | hs
    · omega
    · exact hg rfl
    · have := (htc j hs).1; omega
  have hk4 : Kp (S3 rg cg t) w w3 := (hk.then_ hk2 (fun j hj => by
    rcases hj with rfl | rfl | hs
    · exact .inl (.inl rfl)
    · exact .inr (by omega)
    · exact .inl (.inr (.inr hs)))).then_ hka (fun j hj => .inr (by have := (hvl j hj).1; omega))
  have g1 : ∀ {T : TypeId} {cs : Array Value} (g : Nat), w.heap.size ≤ g → g < w.heap.size + 2 → Blk wr g T cs → Blk (w3.setCell ⟨w.heap.size + 2, 2, none⟩ v2) g T cs := fun g h1 h2 hb =>
    ((hb.kp hk2 (nS g h1 (by omega))).kp hka (fun he => by have := (hvl g he).1; omega)).kp hks (by omega)
  have hv3 : Blk w3 (w.heap.size + 2) 31 #[.int .u64 0, .slice none 0 0, v] := (hbv.kp hk2 (nS _ (by omega) (by omega))).kp hka (fun he => by have := (hvl _ he).1; omega)
  have keepOk : ∀ j, ok j → ¬ v.ownBlock = some j := fun j hj he => by have := hokl j hj; have := (hvl j he).1; omega
  have hc4 : Cur (w3.setCell ⟨w.heap.size + 2, 2, none⟩ v2) ok cg rest (a + N) := ((hcur.kp hk2 (fun j hj => E.ok_S j hj) (fun hs => by
    rcases hs with rfl | rfl | hs
    · exact hrc rfl
    · omega
    · exact (htc _ hs).2 rfl)).kp hka keepOk (fun he => by have := (hvl cg he).1; omega)).kp hks (fun j hj he => by have := hokl j hj; omega) (by omega)
  have hrg : ∀ {a1 e1 : Int}, RdB w2 rg t a1 e1 → RdB (w3.setCell ⟨w.heap.size + 2, 2, none⟩ v2) rg t a1 e1 := fun h1 => (h1.kp hka (fun he => by have := (hvl rg he).1; omega)).kp hks (by omega)
  have htl : Tl (w3.setCell ⟨w.heap.size + 2, 2, none⟩ v2) t (q + q' + (readR g b').steps) := (ht.kp hka (fun g hg he => by have := (htc g hg).1; have := (hvl g he).1; omega)).kp hks (fun g hg he => by have := (htc g hg).1; omega)
  have hv4 : Blk (w3.setCell ⟨w.heap.size + 2, 2, none⟩ v2) (w.heap.size + 2) 31 #[.int .u64 0, .slice none 0 0, v2] := by
    have := hv3.set_ 2 v2
    simpa using this
  have ho4 := ho3.kp_ VHd_kp hks (fun j hj he => by have := hj.1; omega)
  have hgl := E.hcl
  have hlen : (acc ++ [x]).length = acc.length + 1 := by simp
  have hzk := hks.size
  obtain ⟨fl, rfl⟩ : ∃ fl, fuel = fl + 1 := ⟨fuel - 1, by omega⟩
  rw [iter_step h0] at hrow
  cases hg : readR g b' with
  | bad o2 er s2 =>
    rw [hg] at hq htl hrow
    obtain ⟨hq1, hq2⟩ := hq
    simp only at hrow
    refine ⟨0, by omega, acc ++ [x], v2, by omega, hk4.then_ hks (fun j hj => .inr (by omega)), g1 _ (by omega) (by omega) hbf, g1 _ (by omega) (by omega) hb1, hv4, ho4, by omega, by omega, hc4, .inr ⟨rfl, d + o2, er, q' + s2, hrow.symm, hq2, ?_, ?_⟩⟩
    · have := hrg hq1
      rw [show a + (d : Int) + o2 = a + (d + o2) by omega] at this
      exact this
    · rw [show q + (q' + s2) = q + q' + s2 by omega]
      exact htl
  | got y r s2 =>
    rw [hg] at hq htl hrow
    obtain ⟨rfl, hq2, hq3⟩ := hq
    simp only at hrow
    have hlt := read_less hz hc hl hbm hg
    refine ⟨r.length + 1, by omega, acc ++ [x], v2, by omega, hk4.then_ hks (fun j hj => .inr (by omega)), g1 _ (by omega) (by omega) hbf, g1 _ (by omega) (by omega) hb1, hv4, ho4, by omega, by omega, hc4, .inl ⟨r, d + (b'.length - r.length), q' + s2, fl, rfl, by omega, hrow, by omega, by omega, hrg hq2, ?_, ?_, by rw [← hrow]; exact iter_steps _ _ _ _ _⟩⟩
    · have := (hq3.kp hka keepOk (fun he => (hvl gs he).2 rfl)).kp hks (fun j hj he => by have := hokl j hj; omega) (by omega)
      rw [show a + ((d + (b'.length - r.length) : Nat) : Int) = a + (d : Int) + ((b'.length - r.length : Nat) : Int) by omega]
      exact this
    · rw [show q + (q' + s2) = q + q' + s2 by omega]
      exact htl

set_option maxRecDepth 100000 in
set_option maxHeartbeats 3200000 in
theorem list_rd (ok : Nat → Prop) (rg cg : Nat) (t : Value) (h : FH) (g : Fm) (A0 : Option Addr) (c0 : Nat) (b : List UInt8) (a : Int) (q : Nat) (w : World) (k2 : h.k = 2) (hs : 1 ≤ h.s ∧ h.s ≤ 3) (hst : 1 ≤ h.st ∧ h.st ≤ 65536) (hz : szF g ≤ 100000) (hck : checkR g = 0) (hl : leastR g ≠ 0) (ih : FormC ok rg t g) (E : RdEnv ok rg cg t b a w)
    (hv : FmR w ok (fv h A0 1 c0) (.mk h [g])) (hr : RdB w rg t 0 0) (hc : Cur w ok cg b a) (ht : Tl w t (q + 1)) (hroom : t = .pointer none ∨ q + (readR (.mk h [g]) b).steps ≤ 1073741824) (tab : Tab06 w) :
    Calls Tryd.prog 59 #[.pointer (some ⟨rg, 0, none⟩), .pointer (some ⟨cg, 0, none⟩), fv h A0 1 c0] w (FormQ ok rg cg t b a q w (readR (.mk h [g]) b)) := by
  have hR : readR (.mk h [g]) b = if (lenE h b).2.1 ≠ 0 then .bad (lenE h b).1 (lenE h b).2.1 1
    else match iterR (readR g) (lenE h b).2.2 ((b.drop h.s.toNat).take (lenE h b).2.2) h.s.toNat 1 [] with
      | .bad a e q => .bad a e q
      | .got x _ q => .got x (b.drop (h.s.toNat + (lenE h b).2.2)) q := by
    rw [readR_mk, if_neg (by omega), if_neg (by omega), if_neg (by omega), if_neg (by omega), if_neg (by omega), readHd_one]
    rfl
  have hsub := fun (W : World) h1 h2 => sub_rd ok rg cg t h 1 A0 c0 b a W hs hst h1 h2 E.hoc E.hrc (by have := E.hl; omega) E.ha E.hal
  have hLn : (lenE h b).2.1 = 0 → h.s.toNat + (lenE h b).2.2 ≤ b.length := fun he => (lenE_ok he).2.2.2.2.1
  generalize readR (.mk h [g]) b = R at hR hroom
  generalize lenE h b = L at hR hsub hLn
  obtain ⟨k, s, lo, hi, st⟩ := h
  simp only at k2 hs hst hR hsub hLn
  subst k2
  have ka : Kp (fun _ => False) w (((w.alloc (.cells #[.int .i64 2, .int .i64 s, .int .i64 lo, .int .i64 hi, .int .i64 st, .slice A0 1 c0] 24)).alloc (.cells #[.int .u64 0, .slice none 0 0, .slice none 0 0] 31)).alloc (.cells #[.int .u64 0, .slice none 0 0, .slice none 0 0] 31)) := (((Kp.refl _ w).alloc _).alloc _).alloc _
  have hsz : (((w.alloc (.cells #[.int .i64 2, .int .i64 s, .int .i64 lo, .int .i64 hi, .int .i64 st, .slice A0 1 c0] 24)).alloc (.cells #[.int .u64 0, .slice none 0 0, .slice none 0 0] 31)).alloc (.cells #[.int .u64 0, .slice none 0 0, .slice none 0 0] 31)).heap.size = w.heap.size + 3 := by rw [World.size_alloc, World.size_alloc, World.size_alloc]
  have hb0 := ((Blk.new w 24 #[.int .i64 2, .int .i64 s, .int .i64 lo, .int .i64 hi, .int .i64 st, .slice A0 1 c0]).alloc (.cells #[.int .u64 0, .slice none 0 0, .slice none 0 0] 31)).alloc (.cells #[.int .u64 0, .slice none 0 0, .slice none 0 0] 31)
  have hb1 := (Blk.new (w.alloc (.cells #[.int .i64 2, .int .i64 s, .int .i64 lo, .int .i64 hi, .int .i64 st, .slice A0 1 c0] 24)) 31 #[.int .u64 0, .slice none 0 0, .slice none 0 0]).alloc (.cells #[.int .u64 0, .slice none 0 0, .slice none 0 0] 31)
  have hb2 := Blk.new ((w.alloc (.cells #[.int .i64 2, .int .i64 s, .int .i64 lo, .int .i64 hi, .int .i64 st, .slice A0 1 c0] 24)).alloc (.cells #[.int .u64 0, .slice none 0 0, .slice none 0 0] 31)) 31 #[.int .u64 0, .slice none 0 0, .slice none 0 0]
  rw [World.size_alloc] at hb1
  rw [World.size_alloc, World.size_alloc] at hb2
  have HS := Lib.hid (hsub _ (hr.kp ka (fun h => h)) (hc.kp ka (fun _ _ h => h) (fun h => h)))
  have HB0 := Lib.hid hb0
  have HB1 := Lib.hid hb1
  have HB2 := Lib.hid hb2
  have HKA := Lib.hid ka
  have HV := Lib.hid hv
  have HIH := Lib.hid ih
  have HE := Lib.hid E
  have HT := Lib.hid tab
  have HTL := Lib.hid (ht.kp ka (fun _ _ h => h))
  have HRM := Lib.hid hroom
  have HRR := Lib.hid hR
  have HLN := Lib.hid hLn
  have hrl := E.hrl
  have hcl := E.hcl
  clear ka hb0 hb1 hb2 hr hc ht hv ih E tab hroom hR hLn hsub
  go_enter Tryd.func59, Tryd.ntmps59
  go_wp2_with fail
  generalize (((w.alloc (.cells #[.int .i64 2, .int .i64 s, .int .i64 lo, .int .i64 hi, .int .i64 st, .slice A0 1 c0] 24)).alloc (.cells #[.int .u64 0, .slice none 0 0, .slice none 0 0] 31)).alloc (.cells #[.int .u64 0, .slice none 0 0, .slice none 0 0] 31)) = W0 at HS HB0 HB1 HB2 HKA HTL hsz ⊢
  refine HS.out.mono ?_
  rintro e w1 ⟨hk1, hres⟩
  have HBF1 := Lib.hid (HB0.out.kp hk1 (by unfold S2; omega))
  have HB11 := Lib.hid (HB1.out.kp hk1 (by unfold S2; omega))
  have HBV1 := Lib.hid (HB2.out.kp hk1 (by unfold S2; omega))
  have HK1 := Lib.hid (show Kp (S3 rg cg t) w w1 from (HKA.out.mono (fun _ _ h => h.elim)).then_ hk1 (fun i hi => .inl (hi.imp id .inl)))
  have HTL1 := Lib.hid (HTL.out.kp hk1 (fun gg hgg hs => hs.elim (fun e => HE.out.htr gg hgg e) (fun e => HE.out.htc gg hgg e)))
  have hz1 := hk1.size
  rw [hsz] at hz1
  clear hk1 HS HB0 HB1 HB2 HKA HTL
  rcases hres with ⟨he, rfl, hr1⟩ | ⟨he, gs, rfl, hgs, hc1, hc2, hr1⟩
  · have e2 := Blk.cell hr1 2
    simp at e2
    have e2b : (L.2.1 == 0) = false := by simpa using he
    have hb2 := HB11.out
    have z0 := hb2.frozen 0
    have z1 := hb2.frozen 1
    have z2 := hb2.frozen 2
    have y0 := hb2.cell 0
    have y1 := hb2.cell 1
    have y2 := hb2.cell 2
    have hb3 := HBV1.out
    have g0 := hb3.cell 0
    have g1 := hb3.cell 1
    have g2 := hb3.cell 2
    simp at y0 y1 y2 g0 g1 g2
    have hF : FormQ ok rg cg t b a q w R (.returned (.agg #[.int .u64 0, .slice none 0 0, .slice none 0 0])) (((w1.setCell ⟨w.heap.size + 1, 0, none⟩ (.int .u64 0)).setCell ⟨w.heap.size + 1, 1, none⟩ (.slice none 0 0)).setCell ⟨w.heap.size + 1, 2, none⟩ (.slice none 0 0)) := by
      have hR := HRR.out
      rw [if_pos he] at hR
      refine ⟨form_end (okn := fun _ => False) HK1.out (by omega) VtR.zero (fun i hi => hi.elim) (by omega) (by omega) (fun i hi => by have := HE.out.hokl i hi; omega) ?_, ?_⟩
      · rw [hR]
        exact ⟨hr1, he⟩
      · rw [hR]
        exact HTL1.out.kp ((Kp.refl (fun i => i = w.heap.size + 1) w1).put3 (B := w.heap.size + 1) (.inl rfl) _ _ _) (fun g hg he => by have := HE.out.htl g hg; omega)
    have HF := Lib.hid hF
    clear hF hb2 hb3 hr1 he
    go_wp2_with fail
    refine wp_loop_rounds 1 ?_
    rw [rounds_succ]
    go_wp2_with fail
    exact bodyPost_ret (v := .agg #[.int .u64 0, .slice none 0 0, .slice none 0 0]) (by simp [results, Tryd.results59, go_sem, y0, y1, y2]) rfl HF.out
  · have hl2 := HLN.out he
    have hR := HRR.out
    rw [if_neg (by simp [he])] at hR
    generalize L.2.2 = n at hR hl2 hc1 hc2
    have hdl : ((b.drop s.toNat).take n).length = n := by rw [List.length_take, List.length_drop]; omega
    have hits := iter_steps (f := readR g) n ((b.drop s.toNat).take n) s.toNat 1 []
    obtain ⟨Rit, hit⟩ : ∃ Rit, iterR (readR g) n ((b.drop s.toNat).take n) s.toNat 1 [] = Rit := ⟨_, rfl⟩
    rw [hit] at hR hits
    have hrst : R.steps = Rit.steps := by rw [hR]; cases Rit <;> rfl
    have HI0 := Lib.hid (show ListI ok rg cg gs t ⟨2, s, lo, hi, st⟩ A0 c0 (readR g) (s.toNat + n) (b.drop (s.toNat + n)) a q Rit w (n + 1) w1 from
      ⟨[], .slice none 0 0, Nat.zero_le _, HK1.out, HBF1.out, HB11.out, HBV1.out, OwnT.nil, by omega, hc1.lt, hc2, .inl ⟨_, s.toNat, 1, n, by rw [hdl], by omega, hit, by omega, Nat.zero_le _, hr1, hc1, HTL1.out, hits⟩⟩)
    have HRX := Lib.hid hR
    have HRS := Lib.hid hrst
    clear hc1 hc2 hr1 he hR hrst hit hits HTL1 HBF1 HB11 HBV1 HRR HLN HK1
    rw [hsz] at hgs
    go_wp2_with fail
    go_loopg [] (n + 1) (fun gh wr => ListI ok rg cg gs t ⟨2, s, lo, hi, st⟩ A0 c0 (readR g) (s.toNat + n) (b.drop (s.toNat + n)) a q Rit w gh wr)
    case atStart => exact HI0.out
    case round =>
      clear HI0
      obtain ⟨acc, v, hacc, hk, hbf, hb1, hbv, ho, hzz, hgl, hco, hst2⟩ := hrel
      obtain ⟨A, c, rfl, hlc⟩ := ho.shape
      have f5 := hbf.cell 5
      have g0 := hbv.cell 0
      have g1 := hbv.cell 1
      have g2 := hbv.cell 2
      have z0 := hb1.frozen 0
      have z1 := hb1.frozen 1
      have z2 := hb1.frozen 2
      have y0 := hb1.cell 0
      have y1 := hb1.cell 1
      have y2 := hb1.cell 2
      simp at f5 g0 g1 g2 y0 y1 y2
      have HK := Lib.hid hk
      have HBF := Lib.hid hbf
      have HB1 := Lib.hid hb1
      have HBV := Lib.hid hbv
      have HO := Lib.hid ho
      have HCO := Lib.hid hco
      have HX := Lib.hid (show EndQ ok rg cg t b a wr (.mk ⟨0, []⟩ acc) R → Tl wr t (q + R.steps) →
        FormQ ok rg cg t b a q w R (.returned (.agg #[.int .u64 0, .slice none 0 0, .slice A acc.length c])) (((wr.setCell ⟨w.heap.size + 1, 0, none⟩ (.int .u64 0)).setCell ⟨w.heap.size + 1, 1, none⟩ (.slice none 0 0)).setCell ⟨w.heap.size + 1, 2, none⟩ (.slice A acc.length c)) from fun hm htl => by
        have E := HE.out
        have e1 := E.hrl
        have e2 := E.hcl
        have e3 := E.hl
        obtain ⟨_, htl2⟩ := OwnT.tl VHd_kp HO.out
        refine ⟨form_end (okn := fun j => w.heap.size + 3 ≤ j ∧ j ≠ gs) (x := .mk ⟨0, []⟩ acc) HK.out (by omega) ⟨_, _, rfl, by unfold u64B; simp only [RT.a]; omega, BR.nil, by simp [RT.a], A, c, rfl, hlc, by simp only [RT.l]; omega, htl2⟩ (fun i hi => by omega) (by omega) (by omega) (fun i hi => by have := E.hokl i hi; omega) hm, ?_⟩
        exact htl.kp ((Kp.refl (fun i => i = w.heap.size + 1) wr).put3 (B := w.heap.size + 1) (.inl rfl) _ _ _) (fun g hg he => by have := E.htl g hg; omega))
      clear hk hbf hb1 hbv ho hco
      rcases hst2 with ⟨b', d, q', fuel, rfl, hfu, hrow, hdn, had, hr, hc, ht, hqs⟩ | ⟨rfl, o, er, s2, hRb, her, hr, ht⟩
      · have e2 := Blk.cell hr 2
        simp at e2
        have e2b : ((0 : Int) == 0) = true := rfl
        have HLF := Lib.hid (left_any ok gs b' (a + d) wr hc)
        by_cases h0 : b'.length = 0
        · have e4 : decide (0 < b'.length) = false := decide_eq_false (by omega)
          have hF : FormQ ok rg cg t b a q w R (.returned (.agg #[.int .u64 0, .slice none 0 0, .slice A acc.length c])) (((wr.setCell ⟨w.heap.size + 1, 0, none⟩ (.int .u64 0)).setCell ⟨w.heap.size + 1, 1, none⟩ (.slice none 0 0)).setCell ⟨w.heap.size + 1, 2, none⟩ (.slice A acc.length c)) := by
            rw [iter_end h0] at hrow
            have hR := HRX.out
            rw [← hrow] at hR
            simp only at hR
            refine HX.out ?_ ?_
            · rw [hR]
              refine ⟨rfl, hr, ?_⟩
              rw [show b.length - (b.drop (s.toNat + n)).length = s.toNat + n by rw [List.length_drop]; omega]
              exact HCO.out
            · rw [hR]
              exact ht
          have HF := Lib.hid hF
          clear hF hr hc ht hrow HX hqs h0
          go_wp2_with (go_at_call 42; refine HLF.out.mono ?_; rintro e w2 ⟨rfl, rfl⟩)
          exact bodyPost_ret (v := .agg #[.int .u64 0, .slice none 0 0, .slice A acc.length c]) (by simp [results, Tryd.results59, go_sem, y0, y1, y2]) rfl HF.out
        have e4 : decide (0 < b'.length) = true := decide_eq_true (by omega)
        have hfs := FsR.kp (FmR.row (P := [g]) HV.out) HK.out HE.out.ok_S
        obtain ⟨b1, off, A2, c2, rfl, hok1, hfm, m0, m1, m2, m3, m4, m5⟩ := hfs.at_ (i := 0) (by simp)
        simp only [List.getElem_cons_zero, Nat.zero_mul, Nat.add_zero] at hfm m0 m1 m2 m3 m4 m5
        have hD : Kp (fun _ => False) wr wr.drew := (Kp.refl _ wr).drew
        have hkD := HK.out.then_ hD (fun _ h => h.elim)
        have E := HE.out
        have E2 : RdEnv ok rg gs t b' (a + d) wr.drew := ⟨E.hor, fun h => by have := E.hokl gs h; omega, E.hot, by omega, E.htr, fun gg hgg => by have := E.htl gg hgg; omega, Nat.lt_of_lt_of_le E.hrl hkD.size, hgl, fun gg hgg => Nat.lt_of_lt_of_le (E.htl gg hgg) hkD.size, fun i hi => Nat.lt_of_lt_of_le (E.hokl i hi) hkD.size, E.hok0, by have := E.hl; omega, by have := E.ha; omega, by have := E.hal; omega⟩
        have hms : q' + (readR g b').steps ≤ Rit.steps := by
          obtain ⟨fl, rfl⟩ : ∃ fl, fuel = fl + 1 := ⟨fuel - 1, by omega⟩
          rw [iter_step h0] at hrow
          rw [← hrow]
          cases hg : readR g b' with
          | bad o er s2 => simp only [RdT.steps]; omega
          | got y r s2 => simp only [RdT.steps]; exact iter_steps _ _ _ _ _
        have HC := Lib.hid (HIH.out gs b' (a + d) (q + q') _ wr.drew E2 (hfm.kp hD (fun _ _ h => h)) (hr.kp hD (fun h => h)) (hc.kp hD (fun _ _ h => h) (fun h => h)) (ht.kp hD (fun _ _ h => h)) (HRM.out.imp id (fun h => by have := HRS.out; omega)) (HT.out.kp hkD (E.ok_S _ E.hok0)))
        have hBF2 := HBF.out.kp hD (fun h => h)
        have hB12 := HB1.out.kp hD (fun h => h)
        have HBV2 := Lib.hid (HBV.out.kp hD (fun h => h))
        have HO2 := Lib.hid (HO.out.kp_ VHd_kp hD (fun _ _ h => h))
        have HZ2 := Lib.hid (show w.heap.size + 3 ≤ wr.drew.heap.size ∧ gs < wr.drew.heap.size from ⟨hzz, hgl⟩)
        -- what the loads read holds as long as the form's blocks do
        have hSK : ∀ (T : Nat → Prop) (W : World), Kp T wr W → ¬ T w.heap.size → ¬ T b1 → (fun w' : World => w'.cell? ⟨w.heap.size, 5, none⟩ = some (.slice (some ⟨b1, off, none⟩) 1 c0) ∧ w'.cell? ⟨b1, off, none⟩ = some (.int .i64 g.a.k) ∧ w'.cell? ⟨b1, off + 1, none⟩ = some (.int .i64 g.a.s) ∧ w'.cell? ⟨b1, off + 2, none⟩ = some (.int .i64 g.a.lo) ∧ w'.cell? ⟨b1, off + 3, none⟩ = some (.int .i64 g.a.hi) ∧ w'.cell? ⟨b1, off + 4, none⟩ = some (.int .i64 g.a.st) ∧ w'.cell? ⟨b1, off + 5, none⟩ = some (.slice A2 g.l.length c2)) W := fun T W hk h1 h2 =>
          ⟨hk.cell f5 h1, hk.cell m0 h2, hk.cell m1 h2, hk.cell m2 h2, hk.cell m3 h2, hk.cell m4 h2, hk.cell m5 h2⟩
        have hS0 := hSK (fun _ => False) wr.drew hD (fun h => h) (fun h => h)
        have HSK := Lib.hid hSK
        have hb1l := E.hokl b1 hok1
        have g2D : wr.drew.cell? ⟨w.heap.size + 2, 2, none⟩ = some (.slice A acc.length c) := g2
        have gfD : wr.drew.frozen? ⟨w.heap.size + 2, 2, none⟩ = false := HBV2.out.frozen 2
        have hnS : ∀ j, w.heap.size ≤ j → j ≠ gs → ¬ S3 rg gs t j := fun j hj hg hs => by
          rcases hs with rfl | rfl | hs
          · omega
          · exact hg rfl
          · have := E.htl j hs; omega
        have HNF := Lib.hid (hnS w.heap.size (Nat.le_refl _) (by omega))
        have HNV := Lib.hid (hnS (w.heap.size + 2) (by omega) (by omega))
        have HNO := Lib.hid (fun j (hj : w.heap.size + 3 ≤ j) hg => hnS j (by omega) hg)
        have HAL := Lib.hid (show acc.length + 1 ≤ 2513169434916 from by have := E.hl; omega)
        obtain ⟨i0, hi0, hj0, hj1, hj2⟩ := info_parts value_info
        have HNX := Lib.hid (fun w2 w3 x v2 o => list_next (ok := ok) (rg := rg) (cg := cg) (gs := gs) (t := t) (h := ⟨2, s, lo, hi, st⟩) (A0 := some ⟨b1, off, none⟩) (c0 := c0) (g := g) (N := s.toNat + n) (rest := b.drop (s.toNat + n)) (a := a) (q := q) (R := Rit) (w := w) (wr := wr.drew) hz hck hl (by have := E2.hl; omega) h0 hfu E2 hcl E.hokl E.hrc hrl (fun gg hgg => ⟨E.htl gg hgg, E.htc gg hgg⟩) (by omega) hkD hBF2 hB12 HBV2.out HO2.out (HCO.out.kp hD (fun _ _ h => h) (fun h => h)) hdn had hrow (w2 := w2) (w3 := w3) (x := x) (v2 := v2) (o := o))
        have HE2 := Lib.hid E2
        clear HE
        have HE := HE2
        clear HE2 hD hkD E E2 hms hrow hqs hr hc ht hfs hfm HBF HB1 HBV HO HK HX HV z0 z1 z2 y0 y1 y2 hSK hnS hBF2 hB12 HCO HIH HRM
        go_upto_region 4 with (go_at_call 42; refine HLF.out.mono ?_; rintro e w2 ⟨rfl, rfl⟩)
        refine wp_region_noPanic ?_
        refine wp_region_held_drew (S := (fun w' : World => w'.cell? ⟨w.heap.size, 5, none⟩ = some (.slice (some ⟨b1, off, none⟩) 1 c0) ∧ w'.cell? ⟨b1, off, none⟩ = some (.int .i64 g.a.k) ∧ w'.cell? ⟨b1, off + 1, none⟩ = some (.int .i64 g.a.s) ∧ w'.cell? ⟨b1, off + 2, none⟩ = some (.int .i64 g.a.lo) ∧ w'.cell? ⟨b1, off + 3, none⟩ = some (.int .i64 g.a.hi) ∧ w'.cell? ⟨b1, off + 4, none⟩ = some (.int .i64 g.a.st) ∧ w'.cell? ⟨b1, off + 5, none⟩ = some (.slice A2 g.l.length c2))) (by kernel_rfl) hS0 (fun hHeld => ?_)
        refine wpAnyH_take (i := 0) (v := ?v0) (by simp only [List.getElem?_toArray, List.getElem?_cons_zero]; rfl) (by kernel_rfl) (by kernel_rfl) (by kernel_rfl) (fun _ _ _ h => h) (Or.inl ⟨by rfl, ?hy0⟩) (by assumption) ?rest0
        case hy0 => (intro w hSw; (try dsimp only at hSw); go_simp; (try with_reducible rfl))
        try simp only [Act.put, List.setIfInBounds_toArray, List.set_cons_zero, List.set_cons_succ]
        refine wpAnyH_take (i := 2) (v := ?v2) (by simp only [List.getElem?_toArray, List.getElem?_cons_succ, List.getElem?_cons_zero]; rfl) (by kernel_rfl) (by kernel_rfl) (by kernel_rfl) (fun _ _ _ h => h) (Or.inl ⟨by rfl, ?hy2⟩) (by assumption) ?rest2
        case hy2 => (intro w hSw; (try dsimp only at hSw); go_simp; (try with_reducible rfl))
        try simp only [Act.put, List.setIfInBounds_toArray, List.set_cons_zero, List.set_cons_succ]
        refine wpAnyH_take (i := 3) (v := ?v3) (by simp only [List.getElem?_toArray, List.getElem?_cons_succ, List.getElem?_cons_zero]; rfl) (by kernel_rfl) (by kernel_rfl) (by kernel_rfl) (fun _ _ _ h => h) (Or.inl ⟨by rfl, ?hy3⟩) (by assumption) ?rest3
        case hy3 => (intro w hSw; (try dsimp only at hSw); go_simp; (try with_reducible rfl))
        try simp only [Act.put, List.setIfInBounds_toArray, List.set_cons_zero, List.set_cons_succ]
        refine wpAnyH_take (i := 4) (v := ?v4) (by simp only [List.getElem?_toArray, List.getElem?_cons_succ, List.getElem?_cons_zero]; rfl) (by kernel_rfl) (by kernel_rfl) (by kernel_rfl) (fun _ _ _ h => h) (Or.inl ⟨by rfl, ?hy4⟩) (by assumption) ?rest4
        case hy4 => (intro w hSw; (try dsimp only at hSw); go_simp; (try with_reducible rfl))
        try simp only [Act.put, List.setIfInBounds_toArray, List.set_cons_zero, List.set_cons_succ]
        refine wpAnyH_take (i := 5) (v := ?v5) (by simp only [List.getElem?_toArray, List.getElem?_cons_succ, List.getElem?_cons_zero]; rfl) (by kernel_rfl) (by kernel_rfl) (by kernel_rfl) (fun _ _ _ h => h) (Or.inl ⟨by rfl, ?hy5⟩) (by assumption) ?rest5
        case hy5 => (intro w hSw; (try dsimp only at hSw); go_simp; (try with_reducible rfl))
        try simp only [Act.put, List.setIfInBounds_toArray, List.set_cons_zero, List.set_cons_succ]
        refine wpAnyH_take (i := 6) (v := ?v6) (by simp only [List.getElem?_toArray, List.getElem?_cons_succ, List.getElem?_cons_zero]; rfl) (by kernel_rfl) (by kernel_rfl) (by kernel_rfl) (fun _ _ _ h => h) (Or.inl ⟨by rfl, ?hy6⟩) (by assumption) ?rest6
        case hy6 => (intro w hSw; (try dsimp only at hSw); go_simp; (try with_reducible rfl))
        try simp only [Act.put, List.setIfInBounds_toArray, List.set_cons_zero, List.set_cons_succ]
        refine wpAnyH_take (i := 7) (v := ?v7) (by simp only [List.getElem?_toArray, List.getElem?_cons_succ, List.getElem?_cons_zero]; rfl) (by kernel_rfl) (by kernel_rfl) (by kernel_rfl) (fun _ _ _ h => h) (Or.inl ⟨by rfl, ?hy7⟩) (by assumption) ?rest7
        case hy7 => (intro w hSw; (try dsimp only at hSw); go_simp; (try with_reducible rfl))
        try simp only [Act.put, List.setIfInBounds_toArray, List.set_cons_zero, List.set_cons_succ]
        refine wpAnyH_ready (rs := [1, 8]) (by kernel_rfl) (by simp) ?_
        refine (AllReadyH.cons (o := _) rfl (fun K hK => ?_) (AllReadyH.cons (o := _) rfl (fun K hK => ?_) AllReadyH.nil))
        · go_simp
          refine hK.out _ _ (by assumption) (fun hHeld => ?_)
          clear hK K
          refine wpAnyH_ready (rs := [8]) (by kernel_rfl) (by simp) ?_
          refine (AllReadyH.cons (o := _) rfl (fun K hK => ?_) AllReadyH.nil)
          go_simp
          refine HC.out.mono ?_
          rintro e w2 ⟨hfp, htl⟩
          obtain ⟨v3, x, rfl, hvx, hk2, hen⟩ := hfp.parts
          obtain ⟨A5, c5, A6, c6, rfl, htr5⟩ := hvx.shape
          have hS2 := HSK.out (S3 rg gs t) w2 (((Kp.refl (fun _ => False) wr).drew.mono (fun _ _ h => h.elim)).then_ hk2 (fun j hj => .inl hj)) HNF.out (HE.out.ok_S _ hok1)
          have gV2 := hk2.cell g2D HNV.out
          have gF2 := (HBV2.out.kp hk2 HNV.out).frozen 2
          have HQ := Lib.hid (And.intro hk2 (And.intro hen (And.intro htl (And.intro hvx htr5))))
          clear hvx hen htl htr5 hfp
          try dsimp only
          refine hK.out _ _ hS2 (fun hHeld => ?_)
          clear hK K
          refine wpAnyH_ready (rs := [9]) (by kernel_rfl) (by simp) ?_
          refine (AllReadyH.cons (o := _) rfl (fun K hK => ?_) AllReadyH.nil)
          go_simp
          have hS3 := HSK.out (S3 rg gs t) (w2.alloc (.cells #[.int .u64 x.a.n, .slice A5 x.a.b.length c5, .slice A6 x.l.length c6] 31)) ((((Kp.refl (fun _ => False) wr).drew.mono (fun _ _ h => h.elim)).then_ hk2 (fun j hj => .inl hj)).alloc _) HNF.out (HE.out.ok_S _ hok1)
          have gV3 := ((Kp.refl (fun _ => False) w2).alloc (.cells #[.int .u64 x.a.n, .slice A5 x.a.b.length c5, .slice A6 x.l.length c6] 31)).cell gV2 (fun h => h)
          try dsimp only
          refine hK.out _ _ hS3 (fun hHeld => ?_)
          clear hK K
          refine wpAnyH_ready (rs := [10]) (by kernel_rfl) (by simp) ?_
          refine (AllReadyH.cons (o := _) rfl (fun K hK => ?_) AllReadyH.nil)
          refine step_push VHd_kp VHd_lt rfl (.tmp 24) (.tmp 32) _ rfl 31 i0 _ 3 56 Tryd.underlying29 hi0 hj0 hj1 hj2 rfl (by omega) (fun j => w.heap.size + 3 ≤ j ∧ j ≠ gs) (fun j => wr.drew.heap.size ≤ j) (.slice A acc.length c) acc (by simp [Act.eval]) (HO2.out.kp_ VHd_kp (HQ.out.1.alloc _) (fun j hj => HNO.out j hj.1 hj.2)) w2.heap.size 1 (by simp [Act.eval]) [.int .u64 x.a.n, .slice A5 x.a.b.length c5, .slice A6 x.l.length c6] rfl (Blk.new w2 _ _) x (TR.kp_ VHd_kp ((Kp.refl (fun _ => False) w2).alloc _) (fun _ _ h => h) (fun _ h => h) x _ HQ.out.2.2.2.2) (by intro u hu; simp at hu; rcases hu with rfl | rfl | rfl <;> rfl) (fun j hj => ⟨⟨Nat.le_trans HZ2.out.1 hj, fun he => by have := HZ2.out.2; omega⟩, fun he => by have := HO2.out.lt he; omega⟩) (fun j hj => by have := HQ.out.1.size; have := HZ2.out; rw [World.size_alloc] at hj; omega) (by have := HAL.out; omega) (by have := HAL.out; omega) ?_
          intro v4 w3 ho3 hk3 _
          obtain ⟨A4, c4, rfl, _⟩ := ho3.shape
          generalize hal4 : (acc ++ [x]).length = n4 at ho3 ⊢
          have hS4 := HSK.out (fun j => S3 rg gs t j ∨ Value.ownBlock (.slice A acc.length c) = some j) w3 (((((((Kp.refl (fun _ => False) wr).drew.mono (fun _ _ h => h.elim)).then_ HQ.out.1 (fun j hj => .inl (.inl hj))).alloc (.cells #[.int .u64 x.a.n, .slice A5 x.a.b.length c5, .slice A6 x.l.length c6] 31)).then_ hk3 (fun j hj => .inl (.inr hj))))) (fun hh => hh.elim HNF.out (fun he => by obtain ⟨xs9, ho9, _⟩ := HO2.out; have := (ho9.2 _ he).1; omega)) (fun hh => hh.elim (HE.out.ok_S _ hok1) (fun he => by obtain ⟨xs9, ho9, _⟩ := HO2.out; have := (ho9.2 _ he).1; omega))
          have hown9 : ¬ Value.ownBlock (.slice A acc.length c) = some (w.heap.size + 2) := (fun he => by obtain ⟨xs9, ho9, _⟩ := HO2.out; have := (ho9.2 _ he).1; omega)
          have gV4 := hk3.cell gV3 hown9
          have gF4 := (((HBV2.out.kp HQ.out.1 HNV.out).alloc _).kp hk3 hown9).frozen 2
          have HQ3 := Lib.hid (HNX.out w2 w3 x (.slice A4 n4 c4) _ HQ.out.1 HQ.out.2.1 HQ.out.2.2.1 ho3 hk3)
          clear ho3 hk3 hown9
          refine hK.out _ _ hS4 (fun hHeld => ?_)
          clear hK K
          refine wpAnyH_ready (rs := [11]) (by kernel_rfl) (by simp) ?_
          refine (AllReadyH.cons (o := _) rfl (fun K hK => ?_) AllReadyH.nil)
          go_simp
          refine hK.out _ _ (by assumption) (fun hHeld => ?_)
          clear hK K
          refine wpAnyH_ready (rs := [12]) (by kernel_rfl) (by simp) ?_
          refine (AllReadyH.cons (o := _) rfl (fun K hK => ?_) AllReadyH.nil)
          go_simp
          have hS5 := (show (fun w' : World => w'.cell? ⟨w.heap.size, 5, none⟩ = some (.slice (some ⟨b1, off, none⟩) 1 c0) ∧ w'.cell? ⟨b1, off, none⟩ = some (.int .i64 g.a.k) ∧ w'.cell? ⟨b1, off + 1, none⟩ = some (.int .i64 g.a.s) ∧ w'.cell? ⟨b1, off + 2, none⟩ = some (.int .i64 g.a.lo) ∧ w'.cell? ⟨b1, off + 3, none⟩ = some (.int .i64 g.a.hi) ∧ w'.cell? ⟨b1, off + 4, none⟩ = some (.int .i64 g.a.st) ∧ w'.cell? ⟨b1, off + 5, none⟩ = some (.slice A2 g.l.length c2)) (w3.setCell ⟨w.heap.size + 2, 2, none⟩ (.slice A4 n4 c4)) from by obtain ⟨s1, s2, s3, s4, s5, s6, s7⟩ := hS4; have hks : Kp (fun j => j = w.heap.size + 2) w3 (w3.setCell ⟨w.heap.size + 2, 2, none⟩ (.slice A4 n4 c4)) := (Kp.refl (fun j => j = w.heap.size + 2) w3).setCell (p := ⟨w.heap.size + 2, 2, none⟩) (.inl rfl) _; exact ⟨hks.cell s1 (by show w.heap.size ≠ w.heap.size + 2; omega), hks.cell s2 (by show b1 ≠ _; omega), hks.cell s3 (by show b1 ≠ _; omega), hks.cell s4 (by show b1 ≠ _; omega), hks.cell s5 (by show b1 ≠ _; omega), hks.cell s6 (by show b1 ≠ _; omega), hks.cell s7 (by show b1 ≠ _; omega)⟩)
          try dsimp only
          refine hK.out _ _ hS5 (fun hHeld => ?_)
          clear hK K
          refine wpAnyH_done (by kernel_rfl) ?_ _
          refine NoPanic.normal ?_
          go_wp2_with fail
          obtain ⟨gn, hgn, hli⟩ := HQ3.out
          go_roundg gn
          case rel => exact hli
          case measure => exact hgn
        · go_simp
          refine HC.out.mono ?_
          rintro e w2 ⟨hfp, htl⟩
          obtain ⟨v3, x, rfl, hvx, hk2, hen⟩ := hfp.parts
          obtain ⟨A5, c5, A6, c6, rfl, htr5⟩ := hvx.shape
          have hS2 := HSK.out (S3 rg gs t) w2 (((Kp.refl (fun _ => False) wr).drew.mono (fun _ _ h => h.elim)).then_ hk2 (fun j hj => .inl hj)) HNF.out (HE.out.ok_S _ hok1)
          have gV2 := hk2.cell g2D HNV.out
          have gF2 := (HBV2.out.kp hk2 HNV.out).frozen 2
          have HQ := Lib.hid (And.intro hk2 (And.intro hen (And.intro htl (And.intro hvx htr5))))
          clear hvx hen htl htr5 hfp
          try dsimp only
          refine hK.out _ _ hS2 (fun hHeld => ?_)
          clear hK K
          refine wpAnyH_ready (rs := [1, 9]) (by kernel_rfl) (by simp) ?_
          refine (AllReadyH.cons (o := _) rfl (fun K hK => ?_) (AllReadyH.cons (o := _) rfl (fun K hK => ?_) AllReadyH.nil))
          · go_simp
            refine hK.out _ _ (by assumption) (fun hHeld => ?_)
            clear hK K
            refine wpAnyH_ready (rs := [9]) (by kernel_rfl) (by simp) ?_
            refine (AllReadyH.cons (o := _) rfl (fun K hK => ?_) AllReadyH.nil)
            go_simp
            have hS3 := HSK.out (S3 rg gs t) (w2.alloc (.cells #[.int .u64 x.a.n, .slice A5 x.a.b.length c5, .slice A6 x.l.length c6] 31)) ((((Kp.refl (fun _ => False) wr).drew.mono (fun _ _ h => h.elim)).then_ hk2 (fun j hj => .inl hj)).alloc _) HNF.out (HE.out.ok_S _ hok1)
            have gV3 := ((Kp.refl (fun _ => False) w2).alloc (.cells #[.int .u64 x.a.n, .slice A5 x.a.b.length c5, .slice A6 x.l.length c6] 31)).cell gV2 (fun h => h)
            try dsimp only
            refine hK.out _ _ hS3 (fun hHeld => ?_)
            clear hK K
            refine wpAnyH_ready (rs := [10]) (by kernel_rfl) (by simp) ?_
            refine (AllReadyH.cons (o := _) rfl (fun K hK => ?_) AllReadyH.nil)
            refine step_push VHd_kp VHd_lt rfl (.tmp 24) (.tmp 32) _ rfl 31 i0 _ 3 56 Tryd.underlying29 hi0 hj0 hj1 hj2 rfl (by omega) (fun j => w.heap.size + 3 ≤ j ∧ j ≠ gs) (fun j => wr.drew.heap.size ≤ j) (.slice A acc.length c) acc (by simp [Act.eval]) (HO2.out.kp_ VHd_kp (HQ.out.1.alloc _) (fun j hj => HNO.out j hj.1 hj.2)) w2.heap.size 1 (by simp [Act.eval]) [.int .u64 x.a.n, .slice A5 x.a.b.length c5, .slice A6 x.l.length c6] rfl (Blk.new w2 _ _) x (TR.kp_ VHd_kp ((Kp.refl (fun _ => False) w2).alloc _) (fun _ _ h => h) (fun _ h => h) x _ HQ.out.2.2.2.2) (by intro u hu; simp at hu; rcases hu with rfl | rfl | rfl <;> rfl) (fun j hj => ⟨⟨Nat.le_trans HZ2.out.1 hj, fun he => by have := HZ2.out.2; omega⟩, fun he => by have := HO2.out.lt he; omega⟩) (fun j hj => by have := HQ.out.1.size; have := HZ2.out; rw [World.size_alloc] at hj; omega) (by have := HAL.out; omega) (by have := HAL.out; omega) ?_
            intro v4 w3 ho3 hk3 _
            obtain ⟨A4, c4, rfl, _⟩ := ho3.shape
            generalize hal4 : (acc ++ [x]).length = n4 at ho3 ⊢
            have hS4 := HSK.out (fun j => S3 rg gs t j ∨ Value.ownBlock (.slice A acc.length c) = some j) w3 (((((((Kp.refl (fun _ => False) wr).drew.mono (fun _ _ h => h.elim)).then_ HQ.out.1 (fun j hj => .inl (.inl hj))).alloc (.cells #[.int .u64 x.a.n, .slice A5 x.a.b.length c5, .slice A6 x.l.length c6] 31)).then_ hk3 (fun j hj => .inl (.inr hj))))) (fun hh => hh.elim HNF.out (fun he => by obtain ⟨xs9, ho9, _⟩ := HO2.out; have := (ho9.2 _ he).1; omega)) (fun hh => hh.elim (HE.out.ok_S _ hok1) (fun he => by obtain ⟨xs9, ho9, _⟩ := HO2.out; have := (ho9.2 _ he).1; omega))
            have hown9 : ¬ Value.ownBlock (.slice A acc.length c) = some (w.heap.size + 2) := (fun he => by obtain ⟨xs9, ho9, _⟩ := HO2.out; have := (ho9.2 _ he).1; omega)
            have gV4 := hk3.cell gV3 hown9
            have gF4 := (((HBV2.out.kp HQ.out.1 HNV.out).alloc _).kp hk3 hown9).frozen 2
            have HQ3 := Lib.hid (HNX.out w2 w3 x (.slice A4 n4 c4) _ HQ.out.1 HQ.out.2.1 HQ.out.2.2.1 ho3 hk3)
            clear ho3 hk3 hown9
            refine hK.out _ _ hS4 (fun hHeld => ?_)
            clear hK K
            refine wpAnyH_ready (rs := [11]) (by kernel_rfl) (by simp) ?_
            refine (AllReadyH.cons (o := _) rfl (fun K hK => ?_) AllReadyH.nil)
            go_simp
            refine hK.out _ _ (by assumption) (fun hHeld => ?_)
            clear hK K
            refine wpAnyH_ready (rs := [12]) (by kernel_rfl) (by simp) ?_
            refine (AllReadyH.cons (o := _) rfl (fun K hK => ?_) AllReadyH.nil)
            go_simp
            have hS5 := (show (fun w' : World => w'.cell? ⟨w.heap.size, 5, none⟩ = some (.slice (some ⟨b1, off, none⟩) 1 c0) ∧ w'.cell? ⟨b1, off, none⟩ = some (.int .i64 g.a.k) ∧ w'.cell? ⟨b1, off + 1, none⟩ = some (.int .i64 g.a.s) ∧ w'.cell? ⟨b1, off + 2, none⟩ = some (.int .i64 g.a.lo) ∧ w'.cell? ⟨b1, off + 3, none⟩ = some (.int .i64 g.a.hi) ∧ w'.cell? ⟨b1, off + 4, none⟩ = some (.int .i64 g.a.st) ∧ w'.cell? ⟨b1, off + 5, none⟩ = some (.slice A2 g.l.length c2)) (w3.setCell ⟨w.heap.size + 2, 2, none⟩ (.slice A4 n4 c4)) from by obtain ⟨s1, s2, s3, s4, s5, s6, s7⟩ := hS4; have hks : Kp (fun j => j = w.heap.size + 2) w3 (w3.setCell ⟨w.heap.size + 2, 2, none⟩ (.slice A4 n4 c4)) := (Kp.refl (fun j => j = w.heap.size + 2) w3).setCell (p := ⟨w.heap.size + 2, 2, none⟩) (.inl rfl) _; exact ⟨hks.cell s1 (by show w.heap.size ≠ w.heap.size + 2; omega), hks.cell s2 (by show b1 ≠ _; omega), hks.cell s3 (by show b1 ≠ _; omega), hks.cell s4 (by show b1 ≠ _; omega), hks.cell s5 (by show b1 ≠ _; omega), hks.cell s6 (by show b1 ≠ _; omega), hks.cell s7 (by show b1 ≠ _; omega)⟩)
            try dsimp only
            refine hK.out _ _ hS5 (fun hHeld => ?_)
            clear hK K
            refine wpAnyH_done (by kernel_rfl) ?_ _
            refine NoPanic.normal ?_
            go_wp2_with fail
            obtain ⟨gn, hgn, hli⟩ := HQ3.out
            go_roundg gn
            case rel => exact hli
            case measure => exact hgn
          · go_simp
            have hS3 := HSK.out (S3 rg gs t) (w2.alloc (.cells #[.int .u64 x.a.n, .slice A5 x.a.b.length c5, .slice A6 x.l.length c6] 31)) ((((Kp.refl (fun _ => False) wr).drew.mono (fun _ _ h => h.elim)).then_ hk2 (fun j hj => .inl hj)).alloc _) HNF.out (HE.out.ok_S _ hok1)
            have gV3 := ((Kp.refl (fun _ => False) w2).alloc (.cells #[.int .u64 x.a.n, .slice A5 x.a.b.length c5, .slice A6 x.l.length c6] 31)).cell gV2 (fun h => h)
            try dsimp only
            refine hK.out _ _ hS3 (fun hHeld => ?_)
            clear hK K
            refine wpAnyH_ready (rs := [1]) (by kernel_rfl) (by simp) ?_
            refine (AllReadyH.cons (o := _) rfl (fun K hK => ?_) AllReadyH.nil)
            go_simp
            refine hK.out _ _ (by assumption) (fun hHeld => ?_)
            clear hK K
            refine wpAnyH_ready (rs := [10]) (by kernel_rfl) (by simp) ?_
            refine (AllReadyH.cons (o := _) rfl (fun K hK => ?_) AllReadyH.nil)
            refine step_push VHd_kp VHd_lt rfl (.tmp 24) (.tmp 32) _ rfl 31 i0 _ 3 56 Tryd.underlying29 hi0 hj0 hj1 hj2 rfl (by omega) (fun j => w.heap.size + 3 ≤ j ∧ j ≠ gs) (fun j => wr.drew.heap.size ≤ j) (.slice A acc.length c) acc (by simp [Act.eval]) (HO2.out.kp_ VHd_kp (HQ.out.1.alloc _) (fun j hj => HNO.out j hj.1 hj.2)) w2.heap.size 1 (by simp [Act.eval]) [.int .u64 x.a.n, .slice A5 x.a.b.length c5, .slice A6 x.l.length c6] rfl (Blk.new w2 _ _) x (TR.kp_ VHd_kp ((Kp.refl (fun _ => False) w2).alloc _) (fun _ _ h => h) (fun _ h => h) x _ HQ.out.2.2.2.2) (by intro u hu; simp at hu; rcases hu with rfl | rfl | rfl <;> rfl) (fun j hj => ⟨⟨Nat.le_trans HZ2.out.1 hj, fun he => by have := HZ2.out.2; omega⟩, fun he => by have := HO2.out.lt he; omega⟩) (fun j hj => by have := HQ.out.1.size; have := HZ2.out; rw [World.size_alloc] at hj; omega) (by have := HAL.out; omega) (by have := HAL.out; omega) ?_
            intro v4 w3 ho3 hk3 _
            obtain ⟨A4, c4, rfl, _⟩ := ho3.shape
            generalize hal4 : (acc ++ [x]).length = n4 at ho3 ⊢
            have hS4 := HSK.out (fun j => S3 rg gs t j ∨ Value.ownBlock (.slice A acc.length c) = some j) w3 (((((((Kp.refl (fun _ => False) wr).drew.mono (fun _ _ h => h.elim)).then_ HQ.out.1 (fun j hj => .inl (.inl hj))).alloc (.cells #[.int .u64 x.a.n, .slice A5 x.a.b.length c5, .slice A6 x.l.length c6] 31)).then_ hk3 (fun j hj => .inl (.inr hj))))) (fun hh => hh.elim HNF.out (fun he => by obtain ⟨xs9, ho9, _⟩ := HO2.out; have := (ho9.2 _ he).1; omega)) (fun hh => hh.elim (HE.out.ok_S _ hok1) (fun he => by obtain ⟨xs9, ho9, _⟩ := HO2.out; have := (ho9.2 _ he).1; omega))
            have hown9 : ¬ Value.ownBlock (.slice A acc.length c) = some (w.heap.size + 2) := (fun he => by obtain ⟨xs9, ho9, _⟩ := HO2.out; have := (ho9.2 _ he).1; omega)
            have gV4 := hk3.cell gV3 hown9
            have gF4 := (((HBV2.out.kp HQ.out.1 HNV.out).alloc _).kp hk3 hown9).frozen 2
            have HQ3 := Lib.hid (HNX.out w2 w3 x (.slice A4 n4 c4) _ HQ.out.1 HQ.out.2.1 HQ.out.2.2.1 ho3 hk3)
            clear ho3 hk3 hown9
            refine hK.out _ _ hS4 (fun hHeld => ?_)
            clear hK K
            refine wpAnyH_ready (rs := [11]) (by kernel_rfl) (by simp) ?_
            refine (AllReadyH.cons (o := _) rfl (fun K hK => ?_) AllReadyH.nil)
            go_simp
            refine hK.out _ _ (by assumption) (fun hHeld => ?_)
            clear hK K
            refine wpAnyH_ready (rs := [12]) (by kernel_rfl) (by simp) ?_
            refine (AllReadyH.cons (o := _) rfl (fun K hK => ?_) AllReadyH.nil)
            go_simp
            have hS5 := (show (fun w' : World => w'.cell? ⟨w.heap.size, 5, none⟩ = some (.slice (some ⟨b1, off, none⟩) 1 c0) ∧ w'.cell? ⟨b1, off, none⟩ = some (.int .i64 g.a.k) ∧ w'.cell? ⟨b1, off + 1, none⟩ = some (.int .i64 g.a.s) ∧ w'.cell? ⟨b1, off + 2, none⟩ = some (.int .i64 g.a.lo) ∧ w'.cell? ⟨b1, off + 3, none⟩ = some (.int .i64 g.a.hi) ∧ w'.cell? ⟨b1, off + 4, none⟩ = some (.int .i64 g.a.st) ∧ w'.cell? ⟨b1, off + 5, none⟩ = some (.slice A2 g.l.length c2)) (w3.setCell ⟨w.heap.size + 2, 2, none⟩ (.slice A4 n4 c4)) from by obtain ⟨s1, s2, s3, s4, s5, s6, s7⟩ := hS4; have hks : Kp (fun j => j = w.heap.size + 2) w3 (w3.setCell ⟨w.heap.size + 2, 2, none⟩ (.slice A4 n4 c4)) := (Kp.refl (fun j => j = w.heap.size + 2) w3).setCell (p := ⟨w.heap.size + 2, 2, none⟩) (.inl rfl) _; exact ⟨hks.cell s1 (by show w.heap.size ≠ w.heap.size + 2; omega), hks.cell s2 (by show b1 ≠ _; omega), hks.cell s3 (by show b1 ≠ _; omega), hks.cell s4 (by show b1 ≠ _; omega), hks.cell s5 (by show b1 ≠ _; omega), hks.cell s6 (by show b1 ≠ _; omega), hks.cell s7 (by show b1 ≠ _; omega)⟩)
            try dsimp only
            refine hK.out _ _ hS5 (fun hHeld => ?_)
            clear hK K
            refine wpAnyH_done (by kernel_rfl) ?_ _
            refine NoPanic.normal ?_
            go_wp2_with fail
            obtain ⟨gn, hgn, hli⟩ := HQ3.out
            go_roundg gn
            case rel => exact hli
            case measure => exact hgn
      · have e2 := Blk.cell hr 2
        simp at e2
        have e2b : (er == 0) = false := by simpa using her
        have hR := HRX.out
        rw [hRb] at hR
        simp only at hR
        have HF := Lib.hid (HX.out (by rw [hR]; exact ⟨hr, her⟩) (by rw [hR]; exact ht))
        clear hr ht HX hRb her hR
        go_wp2_with fail
        exact bodyPost_ret (v := .agg #[.int .u64 0, .slice none 0 0, .slice A acc.length c]) (by simp [results, Tryd.results59, go_sem, y0, y1, y2]) rfl HF.out
end Go.Proofs.YtdhnfccgojgehaaDoor

namespace Go.Proofs.YtdhnfccgojgehaaDoor
open Go.RowKit

theorem read_pos (f : Fm) (b : List UInt8) : 1 ≤ (readR f b).steps := by
 obtain ⟨h,P⟩ := f
 rw [readR_mk]
 split
 ·split <;> exact Nat.le_refl _
 ·split
  ·split <;> exact Nat.le_refl _
  ·split
   ·split
    ·exact Nat.le_refl _
    ·split <;> exact Nat.le_refl _
   ·split
    ·split <;> exact Nat.le_refl _
    ·split
     ·exact row_steps _ _ _ _ _
     ·split
      ·exact Nat.le_refl _
      ·have := iter_steps (f := readHd P) (lenE h b).2.2 ((b.drop h.s.toNat).take (lenE h b).2.2) h.s.toNat 1 []
       split
       ·rename_i h1;rw [h1] at this;exact this
       ·rename_i h1;rw [h1] at this;exact this
/-- Behind the step that is spent. -/
structure FormW (ok : Nat → Prop) (rg cg : Nat) (t : Value) (h : FH) (A0 : Option Addr) (n0 c0 : Nat) (b : List UInt8) (a : Int) (q : Nat) (w W : World) : Prop where
 hk : Kp (S3 rg cg t) w W
 hz : w.heap.size + 2 ≤ W.heap.size
 hbf : Blk W w.heap.size 24 #[.int .i64 h.k,.int .i64 h.s,.int .i64 h.lo,.int .i64 h.hi,.int .i64 h.st,.slice A0 n0 c0]
 hb1 : Blk W (w.heap.size + 1) 31 #[.int .u64 0,.slice none 0 0,.slice none 0 0]
 hr : RdB W rg t 0 0
 hc : Cur W ok cg b a
 ht : Tl W t (q + 1)
 tab : Tab06 W
theorem formW_pre {ok : Nat → Prop} {rg cg : Nat} {t : Value} {h : FH} {A0 : Option Addr} {n0 c0 : Nat} {b : List UInt8} {a : Int} {q : Nat} {w W : World} (hr : RdB w rg t 0 0) (hc : Cur w ok cg b a) (tab : Tab06 w)
  (hW : (w.alloc (.cells #[.int .i64 h.k,.int .i64 h.s,.int .i64 h.lo,.int .i64 h.hi,.int .i64 h.st,.slice A0 n0 c0] 24)).alloc (.cells #[.int .u64 0,.slice none 0 0,.slice none 0 0] 31) = W) (ht : Tl W t (q + 1)) : FormW ok rg cg t h A0 n0 c0 b a q w W := by
 have ka : Kp (fun _ => False) w ((w.alloc (.cells #[.int .i64 h.k,.int .i64 h.s,.int .i64 h.lo,.int .i64 h.hi,.int .i64 h.st,.slice A0 n0 c0] 24)).alloc (.cells #[.int .u64 0,.slice none 0 0,.slice none 0 0] 31)) := ((Kp.refl _ w).alloc _).alloc _
 have hb0 := Blk.new (w.alloc (.cells #[.int .i64 h.k,.int .i64 h.s,.int .i64 h.lo,.int .i64 h.hi,.int .i64 h.st,.slice A0 n0 c0] 24)) 31 #[.int .u64 0,.slice none 0 0,.slice none 0 0]
 rw [World.size_alloc] at hb0
 have hbf := (Blk.new w 24 #[.int .i64 h.k,.int .i64 h.s,.int .i64 h.lo,.int .i64 h.hi,.int .i64 h.st,.slice A0 n0 c0]).alloc (.cells #[.int .u64 0,.slice none 0 0,.slice none 0 0] 31)
 have hsz : ((w.alloc (.cells #[.int .i64 h.k,.int .i64 h.s,.int .i64 h.lo,.int .i64 h.hi,.int .i64 h.st,.slice A0 n0 c0] 24)).alloc (.cells #[.int .u64 0,.slice none 0 0,.slice none 0 0] 31)).heap.size = w.heap.size + 2 := by rw [World.size_alloc,World.size_alloc]
 rw [hW] at ka hb0 hbf hsz
 exact ⟨ka.mono (fun _ _ h => h.elim),by omega,hbf,hb0,hr.kp ka (fun h => h),hc.kp ka (fun _ _ h => h) (fun h => h),ht,tab.kp ka (fun h => h)⟩
/-- The tally turned alone. -/
theorem formW_spent {ok : Nat → Prop} {rg cg tg : Nat} {h : FH} {A0 : Option Addr} {n0 c0 : Nat} {b : List UInt8} {a : Int} {q : Nat} {w W W2 : World} (E : RdEnv ok rg cg (.pointer (some ⟨tg,0,none⟩)) b a w) (hr : RdB w rg (.pointer (some ⟨tg,0,none⟩)) 0 0) (hc : Cur w ok cg b a) (tab : Tab06 w)
  (hW : (w.alloc (.cells #[.int .i64 h.k,.int .i64 h.s,.int .i64 h.lo,.int .i64 h.hi,.int .i64 h.st,.slice A0 n0 c0] 24)).alloc (.cells #[.int .u64 0,.slice none 0 0,.slice none 0 0] 31) = W) (hk : Kp (· = tg) W W2) (ht : TalB W2 tg 1073741824 ((q : Int) + 1)) : FormW ok rg cg (.pointer (some ⟨tg,0,none⟩)) h A0 n0 c0 b a q w W2 := by
 have ka : Kp (fun _ => False) w ((w.alloc (.cells #[.int .i64 h.k,.int .i64 h.s,.int .i64 h.lo,.int .i64 h.hi,.int .i64 h.st,.slice A0 n0 c0] 24)).alloc (.cells #[.int .u64 0,.slice none 0 0,.slice none 0 0] 31)) := ((Kp.refl _ w).alloc _).alloc _
 have hb0 := Blk.new (w.alloc (.cells #[.int .i64 h.k,.int .i64 h.s,.int .i64 h.lo,.int .i64 h.hi,.int .i64 h.st,.slice A0 n0 c0] 24)) 31 #[.int .u64 0,.slice none 0 0,.slice none 0 0]
 rw [World.size_alloc] at hb0
 have hbf := (Blk.new w 24 #[.int .i64 h.k,.int .i64 h.s,.int .i64 h.lo,.int .i64 h.hi,.int .i64 h.st,.slice A0 n0 c0]).alloc (.cells #[.int .u64 0,.slice none 0 0,.slice none 0 0] 31)
 have hsz : ((w.alloc (.cells #[.int .i64 h.k,.int .i64 h.s,.int .i64 h.lo,.int .i64 h.hi,.int .i64 h.st,.slice A0 n0 c0] 24)).alloc (.cells #[.int .u64 0,.slice none 0 0,.slice none 0 0] 31)).heap.size = w.heap.size + 2 := by rw [World.size_alloc,World.size_alloc]
 rw [hW] at ka hb0 hbf hsz
 have h1 := E.htl tg rfl
 have h2 := E.htr tg rfl
 have h3 := E.htc tg rfl
 have h4 := E.hot tg rfl
 have hz := hk.size
 refine ⟨(ka.mono (fun _ _ h => h.elim)).then_ hk (fun i hi => .inl (.inr (.inr (by rw [hi])))),by omega,hbf.kp hk (by omega),hb0.kp hk (by omega),(hr.kp ka (fun h => h)).kp hk (fun h => h2 h.symm),(hc.kp ka (fun _ _ h => h) (fun h => h)).kp hk (fun i hi he => h4 (he ▸ hi)) (fun h => h3 h.symm),fun g hg => ?_,(tab.kp ka (fun h => h)).kp hk (fun he => h4 (he ▸ E.hok0))⟩
 have : tg = g := by simpa using hg
 subst this
 have e : ((q + 1 : Nat) : Int) = (q : Int) + 1 := by omega
 rw [e]
 exact ht
/-- The result stored. -/
theorem form_done {ok : Nat → Prop} {rg cg : Nat} {t : Value} {h : FH} {A0 : Option Addr} {n0 c0 : Nat} {b : List UInt8} {a : Int} {q : Nat} {w W w2 : World} {R : RdT} {u0 u1 u2 : Value} {x : Vt} (E : RdEnv ok rg cg t b a w) (F : FormW ok rg cg t h A0 n0 c0 b a q w W)
  (hv : VtR w2 (W.heap.size ≤ ·) (.agg #[u0,u1,u2]) x) (hk : Kp (S3 rg cg t) W w2) (hq : EndQ ok rg cg t b a w2 x R) (ht : Tl w2 t (q + R.steps)) :
  FormQ ok rg cg t b a q w R (.returned (.agg #[u0,u1,u2])) (((w2.setCell ⟨w.heap.size + 1,0,none⟩ u0).setCell ⟨w.heap.size + 1,1,none⟩ u1).setCell ⟨w.heap.size + 1,2,none⟩ u2) := by
 have h1 := E.hrl
 have h2 := E.hcl
 have h3 := F.hz
 exact ⟨form_end (okn := fun i => W.heap.size ≤ i) (F.hk.then_ hk (fun i hi => .inl hi)) (by omega) hv (fun i hi => by omega) (by omega) (by omega) (fun i hi => by have := E.hokl i hi;omega) hq,
  ht.kp ((Kp.refl (fun i => i = w.heap.size + 1) w2).put3 (B := w.heap.size + 1) (.inl rfl) _ _ _) (fun g hg he => by have := E.htl g hg;omega)⟩
theorem RdEnv.far {ok : Nat → Prop} {rg cg : Nat} {t : Value} {b : List UInt8} {a : Int} {w : World} (E : RdEnv ok rg cg t b a w) {w' : World} (hz : w.heap.size ≤ w'.heap.size) : RdEnv ok rg cg t b a w' := E.at_ hz E.ha (Nat.le_refl _) E.hal
/-- A leaf's contract, with the tally. -/
theorem leaf_up {ok : Nat → Prop} {rg cg : Nat} {t : Value} {b : List UInt8} {a : Int} {q : Nat} {w w' : World} {R : RdT} {e : Ending} (E : RdEnv ok rg cg t b a w) (h : FormP ok (S2 rg cg) rg cg t b a w R e w') (hs : R.steps = 1) (ht : Tl w t (q + 1)) : FormQ ok rg cg t b a q w R e w' := by
 obtain ⟨v,x,rfl,h1,h2,h3⟩ := h
 refine ⟨⟨v,x,rfl,h1,h2.mono (fun i _ hi => hi.imp id .inl),h3⟩,?_⟩
 rw [hs]
 exact ht.kp h2 (fun g hg hx => hx.elim (fun e => E.htr g hg e) (fun e => E.htc g hg e))

set_option maxRecDepth 100000 in
set_option maxHeartbeats 3200000 in
theorem form_number (ok : Nat → Prop) (rg cg : Nat) (t : Value) (h : FH) (P : List Fm) (A0 : Option Addr) (c0 : Nat) (b : List UInt8) (a : Int) (q : Nat) (w : World) (hk : h.k = 0) (hT : IsT t) (hs : szB h.s = true) (E : RdEnv ok rg cg t b a w)
  (hv : FmR w ok (fv h A0 P.length c0) (.mk h P)) (hr : RdB w rg t 0 0) (hc : Cur w ok cg b a) (ht : Tl w t q) (hroom : t = .pointer none ∨ q + (readR (.mk h P) b).steps ≤ 1073741824) (tab : Tab06 w) :
  Calls Tryd.prog 41 #[.pointer (some ⟨rg,0,none⟩),.pointer (some ⟨cg,0,none⟩),fv h A0 P.length c0] w (FormQ ok rg cg t b a q w (readR (.mk h P) b)) := by
 have hpos := read_pos (.mk h P) b
 have HCW := Lib.hid (fun (W : World) (E2 : RdEnv ok rg cg t b a W) (hk2 : Kp (S3 rg cg t) w W) (hr : RdB W rg t 0 0) (hc : Cur W ok cg b a) (ht : Tl W t (q + 1)) (tab : Tab06 W) => show Calls Tryd.prog 104 #[.pointer (some ⟨rg,0,none⟩),.pointer (some ⟨cg,0,none⟩),fv h A0 P.length c0] W (FormQ ok rg cg t b a q W (readR (.mk h P) b)) from (number_rd ok rg cg t h P A0 c0 b a W hk hs hr hc E2.hoc E2.hrc E2.hokl (by have := E2.hl;omega) E2.ha E2.hal).mono fun e w' hq => leaf_up E2 hq (by rw [readR_mk,if_pos hk];split <;> rfl) ht)
 generalize readR (.mk h P) b = R at hroom hpos HCW ⊢
 obtain ⟨k,s,lo,hi,st⟩ := h
 simp only at hk
 subst hk
 have HPRE := Lib.hid (fun W hW ht => formW_pre (h := ⟨0,s,lo,hi,st⟩) (A0 := A0) (n0 := P.length) (c0 := c0) (q := q) (W := W) hr hc tab hW ht)
 have hka : Kp (fun _ => False) w ((w.alloc (.cells #[.int .i64 0,.int .i64 s,.int .i64 lo,.int .i64 hi,.int .i64 st,.slice A0 P.length c0] 24)).alloc (.cells #[.int .u64 0,.slice none 0 0,.slice none 0 0] 31)) := ((Kp.refl _ w).alloc _).alloc _
 have hr0 := Blk.cell (hr.kp hka (fun h => h)) 0
 simp at hr0
 have HE := Lib.hid E
 obtain ⟨W,hW⟩ : ∃ W,(w.alloc (.cells #[.int .i64 0,.int .i64 s,.int .i64 lo,.int .i64 hi,.int .i64 st,.slice A0 P.length c0] 24)).alloc (.cells #[.int .u64 0,.slice none 0 0,.slice none 0 0] 31) = W := ⟨_,rfl⟩
 have HWE := Lib.hid hW
 rw [hW] at hr0 hka
 rcases hT with rfl | ⟨tg,rfl⟩
 ·have HF := Lib.hid (HPRE.out W hW (fun g hg => by cases hg))
  clear hr hc ht tab E hroom hv hW hpos HPRE hka
  go_enter Tryd.func41,Tryd.ntmps41
  go_upto_region 1 with fail
  rw [HWE.out]
  clear HWE
  go_upto_region 4 with fail
  have E2 := HE.out.far (w' := W) (by have := HF.out.hz;omega)
  have F := HF.out
  have t0 := F.hbf.cell 0
  have t1 := F.hbf.cell 1
  have t2 := F.hbf.cell 2
  have t3 := F.hbf.cell 3
  have t4 := F.hbf.cell 4
  have t5 := F.hbf.cell 5
  simp at t0 t1 t2 t3 t4 t5
  have tc := F.tab.c0
  have hSK : ∀ (T : Nat → Prop) (V : World),Kp T W V → ¬ T w.heap.size → ¬ T 0 → (fun w' : World => w'.cell? ⟨w.heap.size,0,none⟩ = some (.int .i64 0) ∧ w'.cell? ⟨w.heap.size,1,none⟩ = some (.int .i64 s) ∧ w'.cell? ⟨w.heap.size,2,none⟩ = some (.int .i64 lo) ∧ w'.cell? ⟨w.heap.size,3,none⟩ = some (.int .i64 hi) ∧ w'.cell? ⟨w.heap.size,4,none⟩ = some (.int .i64 st) ∧ w'.cell? ⟨w.heap.size,5,none⟩ = some (.slice A0 P.length c0) ∧ w'.cell? ⟨0,0,none⟩ = some (.func (.func 104) #[] #[])) V := fun T V hk h1 h2 => ⟨hk.cell t0 h1,hk.cell t1 h1,hk.cell t2 h1,hk.cell t3 h1,hk.cell t4 h1,hk.cell t5 h1,hk.cell tc h2⟩
  have hD : Kp (fun _ => False) W W.drew := (Kp.refl _ W).drew
  have HC := Lib.hid (HCW.out W.drew (E2.far hD.size) (F.hk.then_ hD (fun _ h => h.elim)) (F.hr.kp hD (fun h => h)) (F.hc.kp hD (fun _ _ h => h) (fun h => h)) (F.ht.kp hD (fun _ _ h => h)) (F.tab.kp hD (fun h => h)))
  have hS0 := hSK (fun _ => False) W.drew hD (fun h => h) (fun h => h)
  have HSK := Lib.hid hSK
  have HF2 := Lib.hid (show FormW ok rg cg _ ⟨0,s,lo,hi,st⟩ A0 P.length c0 b a q w W.drew from ⟨F.hk.then_ hD (fun _ h => h.elim),Nat.le_trans F.hz hD.size,F.hbf.kp hD (fun h => h),F.hb1.kp hD (fun h => h),F.hr.kp hD (fun h => h),F.hc.kp hD (fun _ _ h => h) (fun h => h),F.ht.kp hD (fun _ _ h => h),F.tab.kp hD (fun h => h)⟩)
  clear HCW E2 F hD hSK
  go_upto_region 9 with fail
  refine wp_region_noPanic ?_
  refine wp_region_held_drew (S := (fun w' : World => w'.cell? ⟨w.heap.size,0,none⟩ = some (.int .i64 0) ∧ w'.cell? ⟨w.heap.size,1,none⟩ = some (.int .i64 s) ∧ w'.cell? ⟨w.heap.size,2,none⟩ = some (.int .i64 lo) ∧ w'.cell? ⟨w.heap.size,3,none⟩ = some (.int .i64 hi) ∧ w'.cell? ⟨w.heap.size,4,none⟩ = some (.int .i64 st) ∧ w'.cell? ⟨w.heap.size,5,none⟩ = some (.slice A0 P.length c0) ∧ w'.cell? ⟨0,0,none⟩ = some (.func (.func 104) #[] #[]))) (by kernel_rfl) hS0 (fun hHeld => ?_)
  refine wpAnyH_take (i := 0) (v := ?vW_0) (by simp only [List.getElem?_toArray,List.getElem?_cons_zero];rfl) (by kernel_rfl) (by kernel_rfl) (by kernel_rfl) (fun _ _ _ h => h) (Or.inl ⟨by rfl,?hyW_0⟩) (by assumption) ?restW_0
  case hyW_0 => (intro w hSw;(try dsimp only at hSw);go_simp;(try with_reducible rfl))
  try simp only [Act.put,List.setIfInBounds_toArray,List.set_cons_zero,List.set_cons_succ]
  refine wpAnyH_take (i := 1) (v := ?vW_1) (by simp only [List.getElem?_toArray,List.getElem?_cons_succ,List.getElem?_cons_zero];rfl) (by kernel_rfl) (by kernel_rfl) (by kernel_rfl) (fun _ _ _ h => h) (Or.inl ⟨by rfl,?hyW_1⟩) (by assumption) ?restW_1
  case hyW_1 => (intro w hSw;(try dsimp only at hSw);go_simp;(try with_reducible rfl))
  try simp only [Act.put,List.setIfInBounds_toArray,List.set_cons_zero,List.set_cons_succ]
  refine wpAnyH_take (i := 2) (v := ?vW_2) (by simp only [List.getElem?_toArray,List.getElem?_cons_succ,List.getElem?_cons_zero];rfl) (by kernel_rfl) (by kernel_rfl) (by kernel_rfl) (fun _ _ _ h => h) (Or.inl ⟨by rfl,?hyW_2⟩) (by assumption) ?restW_2
  case hyW_2 => (intro w hSw;(try dsimp only at hSw);go_simp;(try with_reducible rfl))
  try simp only [Act.put,List.setIfInBounds_toArray,List.set_cons_zero,List.set_cons_succ]
  refine wpAnyH_take (i := 3) (v := ?vW_3) (by simp only [List.getElem?_toArray,List.getElem?_cons_succ,List.getElem?_cons_zero];rfl) (by kernel_rfl) (by kernel_rfl) (by kernel_rfl) (fun _ _ _ h => h) (Or.inl ⟨by rfl,?hyW_3⟩) (by assumption) ?restW_3
  case hyW_3 => (intro w hSw;(try dsimp only at hSw);go_simp;(try with_reducible rfl))
  try simp only [Act.put,List.setIfInBounds_toArray,List.set_cons_zero,List.set_cons_succ]
  refine wpAnyH_take (i := 4) (v := ?vW_4) (by simp only [List.getElem?_toArray,List.getElem?_cons_succ,List.getElem?_cons_zero];rfl) (by kernel_rfl) (by kernel_rfl) (by kernel_rfl) (fun _ _ _ h => h) (Or.inl ⟨by rfl,?hyW_4⟩) (by assumption) ?restW_4
  case hyW_4 => (intro w hSw;(try dsimp only at hSw);go_simp;(try with_reducible rfl))
  try simp only [Act.put,List.setIfInBounds_toArray,List.set_cons_zero,List.set_cons_succ]
  refine wpAnyH_take (i := 5) (v := ?vW_5) (by simp only [List.getElem?_toArray,List.getElem?_cons_succ,List.getElem?_cons_zero];rfl) (by kernel_rfl) (by kernel_rfl) (by kernel_rfl) (fun _ _ _ h => h) (Or.inl ⟨by rfl,?hyW_5⟩) (by assumption) ?restW_5
  case hyW_5 => (intro w hSw;(try dsimp only at hSw);go_simp;(try with_reducible rfl))
  try simp only [Act.put,List.setIfInBounds_toArray,List.set_cons_zero,List.set_cons_succ]
  refine wpAnyH_take (i := 6) (v := ?vW_6) (by simp only [List.getElem?_toArray,List.getElem?_cons_succ,List.getElem?_cons_zero];rfl) (by kernel_rfl) (by kernel_rfl) (by kernel_rfl) (fun _ _ _ h => h) (Or.inl ⟨by rfl,?hyW_6⟩) (by assumption) ?restW_6
  case hyW_6 => (intro w hSw;(try dsimp only at hSw);go_simp;(try with_reducible rfl))
  try simp only [Act.put,List.setIfInBounds_toArray,List.set_cons_zero,List.set_cons_succ]
  refine wpAnyH_ready (rs := [7]) (by kernel_rfl) (by simp) ?_
  refine (AllReadyH.cons (o := _) rfl (fun K hK => ?_) AllReadyH.nil)
  go_simp
  refine HC.out.mono ?_
  rintro e w3 ⟨hfp,htl⟩
  obtain ⟨v3,x,rfl,hvx,hk3,hen⟩ := hfp.parts
  obtain ⟨A5,c5,A6,c6,rfl,_⟩ := hvx.shape
  have hn1 := HE.out.new_S w.heap.size (Nat.le_refl _)
  have hn2 := HE.out.ok_S _ HE.out.hok0
  have hb3 := HF2.out.hb1.kp hk3 (fun hs => (HE.out.new_S _ (by omega) hs))
  have z0 := hb3.frozen 0
  have z1 := hb3.frozen 1
  have z2 := hb3.frozen 2
  have y0 := hb3.cell 0
  have y1 := hb3.cell 1
  have y2 := hb3.cell 2
  simp at y0 y1 y2
  have HD := Lib.hid (form_done HE.out HF2.out hvx hk3 hen htl)
  have hk4 := ((Kp.refl (fun _ => False) W).drew.mono (fun _ _ h => h.elim)).then_ (S := S3 rg cg _) hk3 (fun j hj => .inl hj)
  have hS2 := HSK.out _ w3 hk4 hn1 hn2
  have hS3 := fun u0 u1 u2 => HSK.out (fun j => S3 rg cg _ j ∨ j = w.heap.size + 1) _ ((hk4.mono (fun _ _ h => .inl h)).put3 (B := w.heap.size + 1) (.inl (.inr rfl)) u0 u1 u2) (fun hh => hh.elim hn1 (fun e => by omega)) (fun hh => hh.elim hn2 (fun e => by have := HE.out.hokl _ HE.out.hok0;omega))
  clear hb3 hvx hk3 hen htl hfp hk4
  generalize hl5 : x.a.b.length = l5 at HD ⊢
  generalize hl6 : x.l.length = l6 at HD ⊢
  generalize hn5 : x.a.n = n5 at HD ⊢
  try dsimp only
  refine hK.out _ _ hS2 (fun hHeld => ?_)
  clear hK K
  refine wpAnyH_ready (rs := [8]) (by kernel_rfl) (by simp) ?_
  refine (AllReadyH.cons (o := _) rfl (fun K hK => ?_) AllReadyH.nil)
  go_simp
  try dsimp only
  refine hK.out _ _ (hS3 _ _ _) (fun hHeld => ?_)
  clear hK K
  refine wpAnyH_done (by kernel_rfl) ?_ _
  refine NoPanic.normal ?_
  go_wp2_with fail
  exact bodyPost_ret (v := .agg #[.int .u64 n5,.slice A5 l5 c5,.slice A6 l6 c6]) (by simp [results,Tryd.results41,go_sem,y0,y1,y2]) rfl HD.out
 ·have hT2 := ht tg rfl
  have HSP := Lib.hid (spend_any tg 1073741824 q W (hT2.kp hka (fun h => h)) (by omega) (by have := hroom.resolve_left (by simp);omega) (by omega))
  have HSW := Lib.hid (fun W2 hk ht => formW_spent (h := ⟨0,s,lo,hi,st⟩) (A0 := A0) (n0 := P.length) (c0 := c0) (q := q) (W := W) (W2 := W2) E hr hc tab hW hk ht)
  clear hr hc ht tab E hroom hv hW hpos HPRE hT2 hka
  go_enter Tryd.func41,Tryd.ntmps41
  go_upto_region 1 with fail
  rw [HWE.out]
  clear HWE
  go_upto_region 4 with (go_at_call 57;refine HSP.out.mono ?_;rintro e W2 ⟨rfl,ht2,hk2⟩)
  have HF := Lib.hid (HSW.out W2 hk2 ht2)
  clear HSP HSW ht2 hk2 hr0
  have E2 := HE.out.far (w' := W2) (by have := HF.out.hz;omega)
  have F := HF.out
  have t0 := F.hbf.cell 0
  have t1 := F.hbf.cell 1
  have t2 := F.hbf.cell 2
  have t3 := F.hbf.cell 3
  have t4 := F.hbf.cell 4
  have t5 := F.hbf.cell 5
  simp at t0 t1 t2 t3 t4 t5
  have tc := F.tab.c0
  have hSK : ∀ (T : Nat → Prop) (V : World),Kp T W2 V → ¬ T w.heap.size → ¬ T 0 → (fun w' : World => w'.cell? ⟨w.heap.size,0,none⟩ = some (.int .i64 0) ∧ w'.cell? ⟨w.heap.size,1,none⟩ = some (.int .i64 s) ∧ w'.cell? ⟨w.heap.size,2,none⟩ = some (.int .i64 lo) ∧ w'.cell? ⟨w.heap.size,3,none⟩ = some (.int .i64 hi) ∧ w'.cell? ⟨w.heap.size,4,none⟩ = some (.int .i64 st) ∧ w'.cell? ⟨w.heap.size,5,none⟩ = some (.slice A0 P.length c0) ∧ w'.cell? ⟨0,0,none⟩ = some (.func (.func 104) #[] #[])) V := fun T V hk h1 h2 => ⟨hk.cell t0 h1,hk.cell t1 h1,hk.cell t2 h1,hk.cell t3 h1,hk.cell t4 h1,hk.cell t5 h1,hk.cell tc h2⟩
  have hD : Kp (fun _ => False) W2 W2.drew := (Kp.refl _ W2).drew
  have HC := Lib.hid (HCW.out W2.drew (E2.far hD.size) (F.hk.then_ hD (fun _ h => h.elim)) (F.hr.kp hD (fun h => h)) (F.hc.kp hD (fun _ _ h => h) (fun h => h)) (F.ht.kp hD (fun _ _ h => h)) (F.tab.kp hD (fun h => h)))
  have hS0 := hSK (fun _ => False) W2.drew hD (fun h => h) (fun h => h)
  have HSK := Lib.hid hSK
  have HF2 := Lib.hid (show FormW ok rg cg _ ⟨0,s,lo,hi,st⟩ A0 P.length c0 b a q w W2.drew from ⟨F.hk.then_ hD (fun _ h => h.elim),Nat.le_trans F.hz hD.size,F.hbf.kp hD (fun h => h),F.hb1.kp hD (fun h => h),F.hr.kp hD (fun h => h),F.hc.kp hD (fun _ _ h => h) (fun h => h),F.ht.kp hD (fun _ _ h => h),F.tab.kp hD (fun h => h)⟩)
  clear HCW E2 F hD hSK
  go_upto_region 9 with fail
  refine wp_region_noPanic ?_
  refine wp_region_held_drew (S := (fun w' : World => w'.cell? ⟨w.heap.size,0,none⟩ = some (.int .i64 0) ∧ w'.cell? ⟨w.heap.size,1,none⟩ = some (.int .i64 s) ∧ w'.cell? ⟨w.heap.size,2,none⟩ = some (.int .i64 lo) ∧ w'.cell? ⟨w.heap.size,3,none⟩ = some (.int .i64 hi) ∧ w'.cell? ⟨w.heap.size,4,none⟩ = some (.int .i64 st) ∧ w'.cell? ⟨w.heap.size,5,none⟩ = some (.slice A0 P.length c0) ∧ w'.cell? ⟨0,0,none⟩ = some (.func (.func 104) #[] #[]))) (by kernel_rfl) hS0 (fun hHeld => ?_)
  refine wpAnyH_take (i := 0) (v := ?vW2_0) (by simp only [List.getElem?_toArray,List.getElem?_cons_zero];rfl) (by kernel_rfl) (by kernel_rfl) (by kernel_rfl) (fun _ _ _ h => h) (Or.inl ⟨by rfl,?hyW2_0⟩) (by assumption) ?restW2_0
  case hyW2_0 => (intro w hSw;(try dsimp only at hSw);go_simp;(try with_reducible rfl))
  try simp only [Act.put,List.setIfInBounds_toArray,List.set_cons_zero,List.set_cons_succ]
  refine wpAnyH_take (i := 1) (v := ?vW2_1) (by simp only [List.getElem?_toArray,List.getElem?_cons_succ,List.getElem?_cons_zero];rfl) (by kernel_rfl) (by kernel_rfl) (by kernel_rfl) (fun _ _ _ h => h) (Or.inl ⟨by rfl,?hyW2_1⟩) (by assumption) ?restW2_1
  case hyW2_1 => (intro w hSw;(try dsimp only at hSw);go_simp;(try with_reducible rfl))
  try simp only [Act.put,List.setIfInBounds_toArray,List.set_cons_zero,List.set_cons_succ]
  refine wpAnyH_take (i := 2) (v := ?vW2_2) (by simp only [List.getElem?_toArray,List.getElem?_cons_succ,List.getElem?_cons_zero];rfl) (by kernel_rfl) (by kernel_rfl) (by kernel_rfl) (fun _ _ _ h => h) (Or.inl ⟨by rfl,?hyW2_2⟩) (by assumption) ?restW2_2
  case hyW2_2 => (intro w hSw;(try dsimp only at hSw);go_simp;(try with_reducible rfl))
  try simp only [Act.put,List.setIfInBounds_toArray,List.set_cons_zero,List.set_cons_succ]
  refine wpAnyH_take (i := 3) (v := ?vW2_3) (by simp only [List.getElem?_toArray,List.getElem?_cons_succ,List.getElem?_cons_zero];rfl) (by kernel_rfl) (by kernel_rfl) (by kernel_rfl) (fun _ _ _ h => h) (Or.inl ⟨by rfl,?hyW2_3⟩) (by assumption) ?restW2_3
  case hyW2_3 => (intro w hSw;(try dsimp only at hSw);go_simp;(try with_reducible rfl))
  try simp only [Act.put,List.setIfInBounds_toArray,List.set_cons_zero,List.set_cons_succ]
  refine wpAnyH_take (i := 4) (v := ?vW2_4) (by simp only [List.getElem?_toArray,List.getElem?_cons_succ,List.getElem?_cons_zero];rfl) (by kernel_rfl) (by kernel_rfl) (by kernel_rfl) (fun _ _ _ h => h) (Or.inl ⟨by rfl,?hyW2_4⟩) (by assumption) ?restW2_4
  case hyW2_4 => (intro w hSw;(try dsimp only at hSw);go_simp;(try with_reducible rfl))
  try simp only [Act.put,List.setIfInBounds_toArray,List.set_cons_zero,List.set_cons_succ]
  refine wpAnyH_take (i := 5) (v := ?vW2_5) (by simp only [List.getElem?_toArray,List.getElem?_cons_succ,List.getElem?_cons_zero];rfl) (by kernel_rfl) (by kernel_rfl) (by kernel_rfl) (fun _ _ _ h => h) (Or.inl ⟨by rfl,?hyW2_5⟩) (by assumption) ?restW2_5
  case hyW2_5 => (intro w hSw;(try dsimp only at hSw);go_simp;(try with_reducible rfl))
  try simp only [Act.put,List.setIfInBounds_toArray,List.set_cons_zero,List.set_cons_succ]
  refine wpAnyH_take (i := 6) (v := ?vW2_6) (by simp only [List.getElem?_toArray,List.getElem?_cons_succ,List.getElem?_cons_zero];rfl) (by kernel_rfl) (by kernel_rfl) (by kernel_rfl) (fun _ _ _ h => h) (Or.inl ⟨by rfl,?hyW2_6⟩) (by assumption) ?restW2_6
  case hyW2_6 => (intro w hSw;(try dsimp only at hSw);go_simp;(try with_reducible rfl))
  try simp only [Act.put,List.setIfInBounds_toArray,List.set_cons_zero,List.set_cons_succ]
  refine wpAnyH_ready (rs := [7]) (by kernel_rfl) (by simp) ?_
  refine (AllReadyH.cons (o := _) rfl (fun K hK => ?_) AllReadyH.nil)
  go_simp
  refine HC.out.mono ?_
  rintro e w3 ⟨hfp,htl⟩
  obtain ⟨v3,x,rfl,hvx,hk3,hen⟩ := hfp.parts
  obtain ⟨A5,c5,A6,c6,rfl,_⟩ := hvx.shape
  have hn1 := HE.out.new_S w.heap.size (Nat.le_refl _)
  have hn2 := HE.out.ok_S _ HE.out.hok0
  have hb3 := HF2.out.hb1.kp hk3 (fun hs => (HE.out.new_S _ (by omega) hs))
  have z0 := hb3.frozen 0
  have z1 := hb3.frozen 1
  have z2 := hb3.frozen 2
  have y0 := hb3.cell 0
  have y1 := hb3.cell 1
  have y2 := hb3.cell 2
  simp at y0 y1 y2
  have HD := Lib.hid (form_done HE.out HF2.out hvx hk3 hen htl)
  have hk4 := ((Kp.refl (fun _ => False) W2).drew.mono (fun _ _ h => h.elim)).then_ (S := S3 rg cg _) hk3 (fun j hj => .inl hj)
  have hS2 := HSK.out _ w3 hk4 hn1 hn2
  have hS3 := fun u0 u1 u2 => HSK.out (fun j => S3 rg cg _ j ∨ j = w.heap.size + 1) _ ((hk4.mono (fun _ _ h => .inl h)).put3 (B := w.heap.size + 1) (.inl (.inr rfl)) u0 u1 u2) (fun hh => hh.elim hn1 (fun e => by omega)) (fun hh => hh.elim hn2 (fun e => by have := HE.out.hokl _ HE.out.hok0;omega))
  clear hb3 hvx hk3 hen htl hfp hk4
  generalize hl5 : x.a.b.length = l5 at HD ⊢
  generalize hl6 : x.l.length = l6 at HD ⊢
  generalize hn5 : x.a.n = n5 at HD ⊢
  try dsimp only
  refine hK.out _ _ hS2 (fun hHeld => ?_)
  clear hK K
  refine wpAnyH_ready (rs := [8]) (by kernel_rfl) (by simp) ?_
  refine (AllReadyH.cons (o := _) rfl (fun K hK => ?_) AllReadyH.nil)
  go_simp
  try dsimp only
  refine hK.out _ _ (hS3 _ _ _) (fun hHeld => ?_)
  clear hK K
  refine wpAnyH_done (by kernel_rfl) ?_ _
  refine NoPanic.normal ?_
  go_wp2_with fail
  exact bodyPost_ret (v := .agg #[.int .u64 n5,.slice A5 l5 c5,.slice A6 l6 c6]) (by simp [results,Tryd.results41,go_sem,y0,y1,y2]) rfl HD.out

set_option maxRecDepth 100000 in
set_option maxHeartbeats 3200000 in
theorem form_opaque (ok : Nat → Prop) (rg cg : Nat) (t : Value) (h : FH) (P : List Fm) (A0 : Option Addr) (c0 : Nat) (b : List UInt8) (a : Int) (q : Nat) (w : World) (hk : h.k = 1) (hT : IsT t) (hs : 1 ≤ h.s ∧ h.s ≤ 3) (hst : 1 ≤ h.st ∧ h.st ≤ 65536) (E : RdEnv ok rg cg t b a w)
  (hv : FmR w ok (fv h A0 P.length c0) (.mk h P)) (hr : RdB w rg t 0 0) (hc : Cur w ok cg b a) (ht : Tl w t q) (hroom : t = .pointer none ∨ q + (readR (.mk h P) b).steps ≤ 1073741824) (tab : Tab06 w) :
  Calls Tryd.prog 41 #[.pointer (some ⟨rg,0,none⟩),.pointer (some ⟨cg,0,none⟩),fv h A0 P.length c0] w (FormQ ok rg cg t b a q w (readR (.mk h P) b)) := by
 have hpos := read_pos (.mk h P) b
 have HCW := Lib.hid (fun (W : World) (E2 : RdEnv ok rg cg t b a W) (hk2 : Kp (S3 rg cg t) w W) (hr : RdB W rg t 0 0) (hc : Cur W ok cg b a) (ht : Tl W t (q + 1)) (tab : Tab06 W) => show Calls Tryd.prog 105 #[.pointer (some ⟨rg,0,none⟩),.pointer (some ⟨cg,0,none⟩),fv h A0 P.length c0] W (FormQ ok rg cg t b a q W (readR (.mk h P) b)) from (opaque_rd ok rg cg t h P A0 c0 b a W hk hs hst hr hc E2.hor E2.hoc E2.hrc E2.hokl (by have := E2.hl;omega) E2.ha E2.hal).mono fun e w' hq => leaf_up E2 hq (by rw [read_opq hk];split <;> rfl) ht)
 generalize readR (.mk h P) b = R at hroom hpos HCW ⊢
 obtain ⟨k,s,lo,hi,st⟩ := h
 simp only at hk
 subst hk
 have HPRE := Lib.hid (fun W hW ht => formW_pre (h := ⟨1,s,lo,hi,st⟩) (A0 := A0) (n0 := P.length) (c0 := c0) (q := q) (W := W) hr hc tab hW ht)
 have hka : Kp (fun _ => False) w ((w.alloc (.cells #[.int .i64 1,.int .i64 s,.int .i64 lo,.int .i64 hi,.int .i64 st,.slice A0 P.length c0] 24)).alloc (.cells #[.int .u64 0,.slice none 0 0,.slice none 0 0] 31)) := ((Kp.refl _ w).alloc _).alloc _
 have hr0 := Blk.cell (hr.kp hka (fun h => h)) 0
 simp at hr0
 have HE := Lib.hid E
 obtain ⟨W,hW⟩ : ∃ W,(w.alloc (.cells #[.int .i64 1,.int .i64 s,.int .i64 lo,.int .i64 hi,.int .i64 st,.slice A0 P.length c0] 24)).alloc (.cells #[.int .u64 0,.slice none 0 0,.slice none 0 0] 31) = W := ⟨_,rfl⟩
 have HWE := Lib.hid hW
 rw [hW] at hr0 hka
 rcases hT with rfl | ⟨tg,rfl⟩
 ·have HF := Lib.hid (HPRE.out W hW (fun g hg => by cases hg))
  clear hr hc ht tab E hroom hv hW hpos HPRE hka
  go_enter Tryd.func41,Tryd.ntmps41
  go_upto_region 1 with fail
  rw [HWE.out]
  clear HWE
  go_upto_region 4 with fail
  have E2 := HE.out.far (w' := W) (by have := HF.out.hz;omega)
  have F := HF.out
  have t0 := F.hbf.cell 0
  have t1 := F.hbf.cell 1
  have t2 := F.hbf.cell 2
  have t3 := F.hbf.cell 3
  have t4 := F.hbf.cell 4
  have t5 := F.hbf.cell 5
  simp at t0 t1 t2 t3 t4 t5
  have tc := F.tab.c1
  have hSK : ∀ (T : Nat → Prop) (V : World),Kp T W V → ¬ T w.heap.size → ¬ T 0 → (fun w' : World => w'.cell? ⟨w.heap.size,0,none⟩ = some (.int .i64 1) ∧ w'.cell? ⟨w.heap.size,1,none⟩ = some (.int .i64 s) ∧ w'.cell? ⟨w.heap.size,2,none⟩ = some (.int .i64 lo) ∧ w'.cell? ⟨w.heap.size,3,none⟩ = some (.int .i64 hi) ∧ w'.cell? ⟨w.heap.size,4,none⟩ = some (.int .i64 st) ∧ w'.cell? ⟨w.heap.size,5,none⟩ = some (.slice A0 P.length c0) ∧ w'.cell? ⟨0,1,none⟩ = some (.func (.func 105) #[] #[])) V := fun T V hk h1 h2 => ⟨hk.cell t0 h1,hk.cell t1 h1,hk.cell t2 h1,hk.cell t3 h1,hk.cell t4 h1,hk.cell t5 h1,hk.cell tc h2⟩
  have hD : Kp (fun _ => False) W W.drew := (Kp.refl _ W).drew
  have HC := Lib.hid (HCW.out W.drew (E2.far hD.size) (F.hk.then_ hD (fun _ h => h.elim)) (F.hr.kp hD (fun h => h)) (F.hc.kp hD (fun _ _ h => h) (fun h => h)) (F.ht.kp hD (fun _ _ h => h)) (F.tab.kp hD (fun h => h)))
  have hS0 := hSK (fun _ => False) W.drew hD (fun h => h) (fun h => h)
  have HSK := Lib.hid hSK
  have HF2 := Lib.hid (show FormW ok rg cg _ ⟨1,s,lo,hi,st⟩ A0 P.length c0 b a q w W.drew from ⟨F.hk.then_ hD (fun _ h => h.elim),Nat.le_trans F.hz hD.size,F.hbf.kp hD (fun h => h),F.hb1.kp hD (fun h => h),F.hr.kp hD (fun h => h),F.hc.kp hD (fun _ _ h => h) (fun h => h),F.ht.kp hD (fun _ _ h => h),F.tab.kp hD (fun h => h)⟩)
  clear HCW E2 F hD hSK
  go_upto_region 9 with fail
  refine wp_region_noPanic ?_
  refine wp_region_held_drew (S := (fun w' : World => w'.cell? ⟨w.heap.size,0,none⟩ = some (.int .i64 1) ∧ w'.cell? ⟨w.heap.size,1,none⟩ = some (.int .i64 s) ∧ w'.cell? ⟨w.heap.size,2,none⟩ = some (.int .i64 lo) ∧ w'.cell? ⟨w.heap.size,3,none⟩ = some (.int .i64 hi) ∧ w'.cell? ⟨w.heap.size,4,none⟩ = some (.int .i64 st) ∧ w'.cell? ⟨w.heap.size,5,none⟩ = some (.slice A0 P.length c0) ∧ w'.cell? ⟨0,1,none⟩ = some (.func (.func 105) #[] #[]))) (by kernel_rfl) hS0 (fun hHeld => ?_)
  refine wpAnyH_take (i := 0) (v := ?vW_0) (by simp only [List.getElem?_toArray,List.getElem?_cons_zero];rfl) (by kernel_rfl) (by kernel_rfl) (by kernel_rfl) (fun _ _ _ h => h) (Or.inl ⟨by rfl,?hyW_0⟩) (by assumption) ?restW_0
  case hyW_0 => (intro w hSw;(try dsimp only at hSw);go_simp;(try with_reducible rfl))
  try simp only [Act.put,List.setIfInBounds_toArray,List.set_cons_zero,List.set_cons_succ]
  refine wpAnyH_take (i := 1) (v := ?vW_1) (by simp only [List.getElem?_toArray,List.getElem?_cons_succ,List.getElem?_cons_zero];rfl) (by kernel_rfl) (by kernel_rfl) (by kernel_rfl) (fun _ _ _ h => h) (Or.inl ⟨by rfl,?hyW_1⟩) (by assumption) ?restW_1
  case hyW_1 => (intro w hSw;(try dsimp only at hSw);go_simp;(try with_reducible rfl))
  try simp only [Act.put,List.setIfInBounds_toArray,List.set_cons_zero,List.set_cons_succ]
  refine wpAnyH_take (i := 2) (v := ?vW_2) (by simp only [List.getElem?_toArray,List.getElem?_cons_succ,List.getElem?_cons_zero];rfl) (by kernel_rfl) (by kernel_rfl) (by kernel_rfl) (fun _ _ _ h => h) (Or.inl ⟨by rfl,?hyW_2⟩) (by assumption) ?restW_2
  case hyW_2 => (intro w hSw;(try dsimp only at hSw);go_simp;(try with_reducible rfl))
  try simp only [Act.put,List.setIfInBounds_toArray,List.set_cons_zero,List.set_cons_succ]
  refine wpAnyH_take (i := 3) (v := ?vW_3) (by simp only [List.getElem?_toArray,List.getElem?_cons_succ,List.getElem?_cons_zero];rfl) (by kernel_rfl) (by kernel_rfl) (by kernel_rfl) (fun _ _ _ h => h) (Or.inl ⟨by rfl,?hyW_3⟩) (by assumption) ?restW_3
  case hyW_3 => (intro w hSw;(try dsimp only at hSw);go_simp;(try with_reducible rfl))
  try simp only [Act.put,List.setIfInBounds_toArray,List.set_cons_zero,List.set_cons_succ]
  refine wpAnyH_take (i := 4) (v := ?vW_4) (by simp only [List.getElem?_toArray,List.getElem?_cons_succ,List.getElem?_cons_zero];rfl) (by kernel_rfl) (by kernel_rfl) (by kernel_rfl) (fun _ _ _ h => h) (Or.inl ⟨by rfl,?hyW_4⟩) (by assumption) ?restW_4
  case hyW_4 => (intro w hSw;(try dsimp only at hSw);go_simp;(try with_reducible rfl))
  try simp only [Act.put,List.setIfInBounds_toArray,List.set_cons_zero,List.set_cons_succ]
  refine wpAnyH_take (i := 5) (v := ?vW_5) (by simp only [List.getElem?_toArray,List.getElem?_cons_succ,List.getElem?_cons_zero];rfl) (by kernel_rfl) (by kernel_rfl) (by kernel_rfl) (fun _ _ _ h => h) (Or.inl ⟨by rfl,?hyW_5⟩) (by assumption) ?restW_5
  case hyW_5 => (intro w hSw;(try dsimp only at hSw);go_simp;(try with_reducible rfl))
  try simp only [Act.put,List.setIfInBounds_toArray,List.set_cons_zero,List.set_cons_succ]
  refine wpAnyH_take (i := 6) (v := ?vW_6) (by simp only [List.getElem?_toArray,List.getElem?_cons_succ,List.getElem?_cons_zero];rfl) (by kernel_rfl) (by kernel_rfl) (by kernel_rfl) (fun _ _ _ h => h) (Or.inl ⟨by rfl,?hyW_6⟩) (by assumption) ?restW_6
  case hyW_6 => (intro w hSw;(try dsimp only at hSw);go_simp;(try with_reducible rfl))
  try simp only [Act.put,List.setIfInBounds_toArray,List.set_cons_zero,List.set_cons_succ]
  refine wpAnyH_ready (rs := [7]) (by kernel_rfl) (by simp) ?_
  refine (AllReadyH.cons (o := _) rfl (fun K hK => ?_) AllReadyH.nil)
  go_simp
  refine HC.out.mono ?_
  rintro e w3 ⟨hfp,htl⟩
  obtain ⟨v3,x,rfl,hvx,hk3,hen⟩ := hfp.parts
  obtain ⟨A5,c5,A6,c6,rfl,_⟩ := hvx.shape
  have hn1 := HE.out.new_S w.heap.size (Nat.le_refl _)
  have hn2 := HE.out.ok_S _ HE.out.hok0
  have hb3 := HF2.out.hb1.kp hk3 (fun hs => (HE.out.new_S _ (by omega) hs))
  have z0 := hb3.frozen 0
  have z1 := hb3.frozen 1
  have z2 := hb3.frozen 2
  have y0 := hb3.cell 0
  have y1 := hb3.cell 1
  have y2 := hb3.cell 2
  simp at y0 y1 y2
  have HD := Lib.hid (form_done HE.out HF2.out hvx hk3 hen htl)
  have hk4 := ((Kp.refl (fun _ => False) W).drew.mono (fun _ _ h => h.elim)).then_ (S := S3 rg cg _) hk3 (fun j hj => .inl hj)
  have hS2 := HSK.out _ w3 hk4 hn1 hn2
  have hS3 := fun u0 u1 u2 => HSK.out (fun j => S3 rg cg _ j ∨ j = w.heap.size + 1) _ ((hk4.mono (fun _ _ h => .inl h)).put3 (B := w.heap.size + 1) (.inl (.inr rfl)) u0 u1 u2) (fun hh => hh.elim hn1 (fun e => by omega)) (fun hh => hh.elim hn2 (fun e => by have := HE.out.hokl _ HE.out.hok0;omega))
  clear hb3 hvx hk3 hen htl hfp hk4
  generalize hl5 : x.a.b.length = l5 at HD ⊢
  generalize hl6 : x.l.length = l6 at HD ⊢
  generalize hn5 : x.a.n = n5 at HD ⊢
  try dsimp only
  refine hK.out _ _ hS2 (fun hHeld => ?_)
  clear hK K
  refine wpAnyH_ready (rs := [8]) (by kernel_rfl) (by simp) ?_
  refine (AllReadyH.cons (o := _) rfl (fun K hK => ?_) AllReadyH.nil)
  go_simp
  try dsimp only
  refine hK.out _ _ (hS3 _ _ _) (fun hHeld => ?_)
  clear hK K
  refine wpAnyH_done (by kernel_rfl) ?_ _
  refine NoPanic.normal ?_
  go_wp2_with fail
  exact bodyPost_ret (v := .agg #[.int .u64 n5,.slice A5 l5 c5,.slice A6 l6 c6]) (by simp [results,Tryd.results41,go_sem,y0,y1,y2]) rfl HD.out
 ·have hT2 := ht tg rfl
  have HSP := Lib.hid (spend_any tg 1073741824 q W (hT2.kp hka (fun h => h)) (by omega) (by have := hroom.resolve_left (by simp);omega) (by omega))
  have HSW := Lib.hid (fun W2 hk ht => formW_spent (h := ⟨1,s,lo,hi,st⟩) (A0 := A0) (n0 := P.length) (c0 := c0) (q := q) (W := W) (W2 := W2) E hr hc tab hW hk ht)
  clear hr hc ht tab E hroom hv hW hpos HPRE hT2 hka
  go_enter Tryd.func41,Tryd.ntmps41
  go_upto_region 1 with fail
  rw [HWE.out]
  clear HWE
  go_upto_region 4 with (go_at_call 57;refine HSP.out.mono ?_;rintro e W2 ⟨rfl,ht2,hk2⟩)
  have HF := Lib.hid (HSW.out W2 hk2 ht2)
  clear HSP HSW ht2 hk2 hr0
  have E2 := HE.out.far (w' := W2) (by have := HF.out.hz;omega)
  have F := HF.out
  have t0 := F.hbf.cell 0
  have t1 := F.hbf.cell 1
  have t2 := F.hbf.cell 2
  have t3 := F.hbf.cell 3
  have t4 := F.hbf.cell 4
  have t5 := F.hbf.cell 5
  simp at t0 t1 t2 t3 t4 t5
  have tc := F.tab.c1
  have hSK : ∀ (T : Nat → Prop) (V : World),Kp T W2 V → ¬ T w.heap.size → ¬ T 0 → (fun w' : World => w'.cell? ⟨w.heap.size,0,none⟩ = some (.int .i64 1) ∧ w'.cell? ⟨w.heap.size,1,none⟩ = some (.int .i64 s) ∧ w'.cell? ⟨w.heap.size,2,none⟩ = some (.int .i64 lo) ∧ w'.cell? ⟨w.heap.size,3,none⟩ = some (.int .i64 hi) ∧ w'.cell? ⟨w.heap.size,4,none⟩ = some (.int .i64 st) ∧ w'.cell? ⟨w.heap.size,5,none⟩ = some (.slice A0 P.length c0) ∧ w'.cell? ⟨0,1,none⟩ = some (.func (.func 105) #[] #[])) V := fun T V hk h1 h2 => ⟨hk.cell t0 h1,hk.cell t1 h1,hk.cell t2 h1,hk.cell t3 h1,hk.cell t4 h1,hk.cell t5 h1,hk.cell tc h2⟩
  have hD : Kp (fun _ => False) W2 W2.drew := (Kp.refl _ W2).drew
  have HC := Lib.hid (HCW.out W2.drew (E2.far hD.size) (F.hk.then_ hD (fun _ h => h.elim)) (F.hr.kp hD (fun h => h)) (F.hc.kp hD (fun _ _ h => h) (fun h => h)) (F.ht.kp hD (fun _ _ h => h)) (F.tab.kp hD (fun h => h)))
  have hS0 := hSK (fun _ => False) W2.drew hD (fun h => h) (fun h => h)
  have HSK := Lib.hid hSK
  have HF2 := Lib.hid (show FormW ok rg cg _ ⟨1,s,lo,hi,st⟩ A0 P.length c0 b a q w W2.drew from ⟨F.hk.then_ hD (fun _ h => h.elim),Nat.le_trans F.hz hD.size,F.hbf.kp hD (fun h => h),F.hb1.kp hD (fun h => h),F.hr.kp hD (fun h => h),F.hc.kp hD (fun _ _ h => h) (fun h => h),F.ht.kp hD (fun _ _ h => h),F.tab.kp hD (fun h => h)⟩)
  clear HCW E2 F hD hSK
  go_upto_region 9 with fail
  refine wp_region_noPanic ?_
  refine wp_region_held_drew (S := (fun w' : World => w'.cell? ⟨w.heap.size,0,none⟩ = some (.int .i64 1) ∧ w'.cell? ⟨w.heap.size,1,none⟩ = some (.int .i64 s) ∧ w'.cell? ⟨w.heap.size,2,none⟩ = some (.int .i64 lo) ∧ w'.cell? ⟨w.heap.size,3,none⟩ = some (.int .i64 hi) ∧ w'.cell? ⟨w.heap.size,4,none⟩ = some (.int .i64 st) ∧ w'.cell? ⟨w.heap.size,5,none⟩ = some (.slice A0 P.length c0) ∧ w'.cell? ⟨0,1,none⟩ = some (.func (.func 105) #[] #[]))) (by kernel_rfl) hS0 (fun hHeld => ?_)
  refine wpAnyH_take (i := 0) (v := ?vW2_0) (by simp only [List.getElem?_toArray,List.getElem?_cons_zero];rfl) (by kernel_rfl) (by kernel_rfl) (by kernel_rfl) (fun _ _ _ h => h) (Or.inl ⟨by rfl,?hyW2_0⟩) (by assumption) ?restW2_0
  case hyW2_0 => (intro w hSw;(try dsimp only at hSw);go_simp;(try with_reducible rfl))
  try simp only [Act.put,List.setIfInBounds_toArray,List.set_cons_zero,List.set_cons_succ]
  refine wpAnyH_take (i := 1) (v := ?vW2_1) (by simp only [List.getElem?_toArray,List.getElem?_cons_succ,List.getElem?_cons_zero];rfl) (by kernel_rfl) (by kernel_rfl) (by kernel_rfl) (fun _ _ _ h => h) (Or.inl ⟨by rfl,?hyW2_1⟩) (by assumption) ?restW2_1
  case hyW2_1 => (intro w hSw;(try dsimp only at hSw);go_simp;(try with_reducible rfl))
  try simp only [Act.put,List.setIfInBounds_toArray,List.set_cons_zero,List.set_cons_succ]
  refine wpAnyH_take (i := 2) (v := ?vW2_2) (by simp only [List.getElem?_toArray,List.getElem?_cons_succ,List.getElem?_cons_zero];rfl) (by kernel_rfl) (by kernel_rfl) (by kernel_rfl) (fun _ _ _ h => h) (Or.inl ⟨by rfl,?hyW2_2⟩) (by assumption) ?restW2_2
  case hyW2_2 => (intro w hSw;(try dsimp only at hSw);go_simp;(try with_reducible rfl))
  try simp only [Act.put,List.setIfInBounds_toArray,List.set_cons_zero,List.set_cons_succ]
  refine wpAnyH_take (i := 3) (v := ?vW2_3) (by simp only [List.getElem?_toArray,List.getElem?_cons_succ,List.getElem?_cons_zero];rfl) (by kernel_rfl) (by kernel_rfl) (by kernel_rfl) (fun _ _ _ h => h) (Or.inl ⟨by rfl,?hyW2_3⟩) (by assumption) ?restW2_3
  case hyW2_3 => (intro w hSw;(try dsimp only at hSw);go_simp;(try with_reducible rfl))
  try simp only [Act.put,List.setIfInBounds_toArray,List.set_cons_zero,List.set_cons_succ]
  refine wpAnyH_take (i := 4) (v := ?vW2_4) (by simp only [List.getElem?_toArray,List.getElem?_cons_succ,List.getElem?_cons_zero];rfl) (by kernel_rfl) (by kernel_rfl) (by kernel_rfl) (fun _ _ _ h => h) (Or.inl ⟨by rfl,?hyW2_4⟩) (by assumption) ?restW2_4
  case hyW2_4 => (intro w hSw;(try dsimp only at hSw);go_simp;(try with_reducible rfl))
  try simp only [Act.put,List.setIfInBounds_toArray,List.set_cons_zero,List.set_cons_succ]
  refine wpAnyH_take (i := 5) (v := ?vW2_5) (by simp only [List.getElem?_toArray,List.getElem?_cons_succ,List.getElem?_cons_zero];rfl) (by kernel_rfl) (by kernel_rfl) (by kernel_rfl) (fun _ _ _ h => h) (Or.inl ⟨by rfl,?hyW2_5⟩) (by assumption) ?restW2_5
  case hyW2_5 => (intro w hSw;(try dsimp only at hSw);go_simp;(try with_reducible rfl))
  try simp only [Act.put,List.setIfInBounds_toArray,List.set_cons_zero,List.set_cons_succ]
  refine wpAnyH_take (i := 6) (v := ?vW2_6) (by simp only [List.getElem?_toArray,List.getElem?_cons_succ,List.getElem?_cons_zero];rfl) (by kernel_rfl) (by kernel_rfl) (by kernel_rfl) (fun _ _ _ h => h) (Or.inl ⟨by rfl,?hyW2_6⟩) (by assumption) ?restW2_6
  case hyW2_6 => (intro w hSw;(try dsimp only at hSw);go_simp;(try with_reducible rfl))
  try simp only [Act.put,List.setIfInBounds_toArray,List.set_cons_zero,List.set_cons_succ]
  refine wpAnyH_ready (rs := [7]) (by kernel_rfl) (by simp) ?_
  refine (AllReadyH.cons (o := _) rfl (fun K hK => ?_) AllReadyH.nil)
  go_simp
  refine HC.out.mono ?_
  rintro e w3 ⟨hfp,htl⟩
  obtain ⟨v3,x,rfl,hvx,hk3,hen⟩ := hfp.parts
  obtain ⟨A5,c5,A6,c6,rfl,_⟩ := hvx.shape
  have hn1 := HE.out.new_S w.heap.size (Nat.le_refl _)
  have hn2 := HE.out.ok_S _ HE.out.hok0
  have hb3 := HF2.out.hb1.kp hk3 (fun hs => (HE.out.new_S _ (by omega) hs))
  have z0 := hb3.frozen 0
  have z1 := hb3.frozen 1
  have z2 := hb3.frozen 2
  have y0 := hb3.cell 0
  have y1 := hb3.cell 1
  have y2 := hb3.cell 2
  simp at y0 y1 y2
  have HD := Lib.hid (form_done HE.out HF2.out hvx hk3 hen htl)
  have hk4 := ((Kp.refl (fun _ => False) W2).drew.mono (fun _ _ h => h.elim)).then_ (S := S3 rg cg _) hk3 (fun j hj => .inl hj)
  have hS2 := HSK.out _ w3 hk4 hn1 hn2
  have hS3 := fun u0 u1 u2 => HSK.out (fun j => S3 rg cg _ j ∨ j = w.heap.size + 1) _ ((hk4.mono (fun _ _ h => .inl h)).put3 (B := w.heap.size + 1) (.inl (.inr rfl)) u0 u1 u2) (fun hh => hh.elim hn1 (fun e => by omega)) (fun hh => hh.elim hn2 (fun e => by have := HE.out.hokl _ HE.out.hok0;omega))
  clear hb3 hvx hk3 hen htl hfp hk4
  generalize hl5 : x.a.b.length = l5 at HD ⊢
  generalize hl6 : x.l.length = l6 at HD ⊢
  generalize hn5 : x.a.n = n5 at HD ⊢
  try dsimp only
  refine hK.out _ _ hS2 (fun hHeld => ?_)
  clear hK K
  refine wpAnyH_ready (rs := [8]) (by kernel_rfl) (by simp) ?_
  refine (AllReadyH.cons (o := _) rfl (fun K hK => ?_) AllReadyH.nil)
  go_simp
  try dsimp only
  refine hK.out _ _ (hS3 _ _ _) (fun hHeld => ?_)
  clear hK K
  refine wpAnyH_done (by kernel_rfl) ?_ _
  refine NoPanic.normal ?_
  go_wp2_with fail
  exact bodyPost_ret (v := .agg #[.int .u64 n5,.slice A5 l5 c5,.slice A6 l6 c6]) (by simp [results,Tryd.results41,go_sem,y0,y1,y2]) rfl HD.out

set_option maxRecDepth 100000 in
set_option maxHeartbeats 3200000 in
theorem form_list (ok : Nat → Prop) (rg cg : Nat) (t : Value) (h : FH) (P : List Fm) (A0 : Option Addr) (c0 : Nat) (b : List UInt8) (a : Int) (q : Nat) (w : World) (hk : h.k = 2) (hT : IsT t) (hs : 1 ≤ h.s ∧ h.s ≤ 3) (hst : 1 ≤ h.st ∧ h.st ≤ 65536) (g : Fm) (hg : P = [g]) (hz : szF g ≤ 100000) (hck : checkR g = 0) (hl : leastR g ≠ 0) (ih : FormC ok rg t g) (E : RdEnv ok rg cg t b a w)
  (hv : FmR w ok (fv h A0 P.length c0) (.mk h P)) (hr : RdB w rg t 0 0) (hc : Cur w ok cg b a) (ht : Tl w t q) (hroom : t = .pointer none ∨ q + (readR (.mk h P) b).steps ≤ 1073741824) (tab : Tab06 w) :
  Calls Tryd.prog 41 #[.pointer (some ⟨rg,0,none⟩),.pointer (some ⟨cg,0,none⟩),fv h A0 P.length c0] w (FormQ ok rg cg t b a q w (readR (.mk h P) b)) := by
 have hpos := read_pos (.mk h P) b
 have HCW := Lib.hid (fun (W : World) (E2 : RdEnv ok rg cg t b a W) (hk2 : Kp (S3 rg cg t) w W) (hr : RdB W rg t 0 0) (hc : Cur W ok cg b a) (ht : Tl W t (q + 1)) (tab : Tab06 W) => show Calls Tryd.prog 59 #[.pointer (some ⟨rg,0,none⟩),.pointer (some ⟨cg,0,none⟩),fv h A0 P.length c0] W (FormQ ok rg cg t b a q W (readR (.mk h P) b)) from by subst hg;exact list_rd ok rg cg t h g A0 c0 b a q W hk hs hst hz hck hl ih E2 (hv.kp hk2 E.ok_S) hr hc ht hroom tab)
 clear hg
 generalize readR (.mk h P) b = R at hroom hpos HCW ⊢
 obtain ⟨k,s,lo,hi,st⟩ := h
 simp only at hk
 subst hk
 have HPRE := Lib.hid (fun W hW ht => formW_pre (h := ⟨2,s,lo,hi,st⟩) (A0 := A0) (n0 := P.length) (c0 := c0) (q := q) (W := W) hr hc tab hW ht)
 have hka : Kp (fun _ => False) w ((w.alloc (.cells #[.int .i64 2,.int .i64 s,.int .i64 lo,.int .i64 hi,.int .i64 st,.slice A0 P.length c0] 24)).alloc (.cells #[.int .u64 0,.slice none 0 0,.slice none 0 0] 31)) := ((Kp.refl _ w).alloc _).alloc _
 have hr0 := Blk.cell (hr.kp hka (fun h => h)) 0
 simp at hr0
 have HE := Lib.hid E
 obtain ⟨W,hW⟩ : ∃ W,(w.alloc (.cells #[.int .i64 2,.int .i64 s,.int .i64 lo,.int .i64 hi,.int .i64 st,.slice A0 P.length c0] 24)).alloc (.cells #[.int .u64 0,.slice none 0 0,.slice none 0 0] 31) = W := ⟨_,rfl⟩
 have HWE := Lib.hid hW
 rw [hW] at hr0 hka
 rcases hT with rfl | ⟨tg,rfl⟩
 ·have HF := Lib.hid (HPRE.out W hW (fun g hg => by cases hg))
  clear hr hc ht tab E hroom hv hW hpos HPRE hka
  go_enter Tryd.func41,Tryd.ntmps41
  go_upto_region 1 with fail
  rw [HWE.out]
  clear HWE
  go_upto_region 4 with fail
  have E2 := HE.out.far (w' := W) (by have := HF.out.hz;omega)
  have F := HF.out
  have t0 := F.hbf.cell 0
  have t1 := F.hbf.cell 1
  have t2 := F.hbf.cell 2
  have t3 := F.hbf.cell 3
  have t4 := F.hbf.cell 4
  have t5 := F.hbf.cell 5
  simp at t0 t1 t2 t3 t4 t5
  have HC := Lib.hid (HCW.out W E2 F.hk F.hr F.hc F.ht F.tab)
  have F2 := F
  clear HCW E2 F
  go_wp2_with fail
  refine HC.out.mono ?_
  rintro e w3 ⟨hfp,htl⟩
  obtain ⟨v3,x,rfl,hvx,hk3,hen⟩ := hfp.parts
  obtain ⟨A5,c5,A6,c6,rfl,_⟩ := hvx.shape
  have hb3 := HF.out.hb1.kp hk3 (fun hs => (HE.out.new_S _ (by omega) hs))
  have z0 := hb3.frozen 0
  have z1 := hb3.frozen 1
  have z2 := hb3.frozen 2
  have y0 := hb3.cell 0
  have y1 := hb3.cell 1
  have y2 := hb3.cell 2
  simp at y0 y1 y2
  have HD := Lib.hid (form_done HE.out HF.out hvx hk3 hen htl)
  clear hb3 hvx hk3 hen htl hfp F2
  generalize hl5 : x.a.b.length = l5 at HD ⊢
  generalize hl6 : x.l.length = l6 at HD ⊢
  generalize hn5 : x.a.n = n5 at HD ⊢
  go_wp2_with fail
  exact bodyPost_ret (v := .agg #[.int .u64 n5,.slice A5 l5 c5,.slice A6 l6 c6]) (by simp [results,Tryd.results41,go_sem,y0,y1,y2]) rfl HD.out
 ·have hT2 := ht tg rfl
  have HSP := Lib.hid (spend_any tg 1073741824 q W (hT2.kp hka (fun h => h)) (by omega) (by have := hroom.resolve_left (by simp);omega) (by omega))
  have HSW := Lib.hid (fun W2 hk ht => formW_spent (h := ⟨2,s,lo,hi,st⟩) (A0 := A0) (n0 := P.length) (c0 := c0) (q := q) (W := W) (W2 := W2) E hr hc tab hW hk ht)
  clear hr hc ht tab E hroom hv hW hpos HPRE hT2 hka
  go_enter Tryd.func41,Tryd.ntmps41
  go_upto_region 1 with fail
  rw [HWE.out]
  clear HWE
  go_upto_region 4 with (go_at_call 57;refine HSP.out.mono ?_;rintro e W2 ⟨rfl,ht2,hk2⟩)
  have HF := Lib.hid (HSW.out W2 hk2 ht2)
  clear HSP HSW ht2 hk2 hr0
  have E2 := HE.out.far (w' := W2) (by have := HF.out.hz;omega)
  have F := HF.out
  have t0 := F.hbf.cell 0
  have t1 := F.hbf.cell 1
  have t2 := F.hbf.cell 2
  have t3 := F.hbf.cell 3
  have t4 := F.hbf.cell 4
  have t5 := F.hbf.cell 5
  simp at t0 t1 t2 t3 t4 t5
  have HC := Lib.hid (HCW.out W2 E2 F.hk F.hr F.hc F.ht F.tab)
  have F2 := F
  clear HCW E2 F
  go_wp2_with fail
  refine HC.out.mono ?_
  rintro e w3 ⟨hfp,htl⟩
  obtain ⟨v3,x,rfl,hvx,hk3,hen⟩ := hfp.parts
  obtain ⟨A5,c5,A6,c6,rfl,_⟩ := hvx.shape
  have hb3 := HF.out.hb1.kp hk3 (fun hs => (HE.out.new_S _ (by omega) hs))
  have z0 := hb3.frozen 0
  have z1 := hb3.frozen 1
  have z2 := hb3.frozen 2
  have y0 := hb3.cell 0
  have y1 := hb3.cell 1
  have y2 := hb3.cell 2
  simp at y0 y1 y2
  have HD := Lib.hid (form_done HE.out HF.out hvx hk3 hen htl)
  clear hb3 hvx hk3 hen htl hfp F2
  generalize hl5 : x.a.b.length = l5 at HD ⊢
  generalize hl6 : x.l.length = l6 at HD ⊢
  generalize hn5 : x.a.n = n5 at HD ⊢
  go_wp2_with fail
  exact bodyPost_ret (v := .agg #[.int .u64 n5,.slice A5 l5 c5,.slice A6 l6 c6]) (by simp [results,Tryd.results41,go_sem,y0,y1,y2]) rfl HD.out

set_option maxRecDepth 100000 in
set_option maxHeartbeats 3200000 in
theorem form_row (ok : Nat → Prop) (rg cg : Nat) (t : Value) (h : FH) (P : List Fm) (A0 : Option Addr) (c0 : Nat) (b : List UInt8) (a : Int) (q : Nat) (w : World) (hk : h.k = 3) (hT : IsT t) (hP : P.length ≤ 32) (hPz : ∀ y ∈ P,szF y ≤ 100000) (hPc : ∀ y ∈ P,checkR y = 0) (ih : ∀ y ∈ P,FormC ok rg t y) (E : RdEnv ok rg cg t b a w)
  (hv : FmR w ok (fv h A0 P.length c0) (.mk h P)) (hr : RdB w rg t 0 0) (hc : Cur w ok cg b a) (ht : Tl w t q) (hroom : t = .pointer none ∨ q + (readR (.mk h P) b).steps ≤ 1073741824) (tab : Tab06 w) :
  Calls Tryd.prog 41 #[.pointer (some ⟨rg,0,none⟩),.pointer (some ⟨cg,0,none⟩),fv h A0 P.length c0] w (FormQ ok rg cg t b a q w (readR (.mk h P) b)) := by
 have hpos := read_pos (.mk h P) b
 have HCW := Lib.hid (fun (W : World) (E2 : RdEnv ok rg cg t b a W) (hk2 : Kp (S3 rg cg t) w W) (hr : RdB W rg t 0 0) (hc : Cur W ok cg b a) (ht : Tl W t (q + 1)) (tab : Tab06 W) => show Calls Tryd.prog 60 #[.pointer (some ⟨rg,0,none⟩),.pointer (some ⟨cg,0,none⟩),fv h A0 P.length c0] W (FormQ ok rg cg t b a q W (readR (.mk h P) b)) from row_rd ok rg cg t h P A0 c0 b a q W hk hP hPz hPc ih E2 (hv.kp hk2 E.ok_S) hr hc ht hroom tab)
 generalize readR (.mk h P) b = R at hroom hpos HCW ⊢
 obtain ⟨k,s,lo,hi,st⟩ := h
 simp only at hk
 subst hk
 have HPRE := Lib.hid (fun W hW ht => formW_pre (h := ⟨3,s,lo,hi,st⟩) (A0 := A0) (n0 := P.length) (c0 := c0) (q := q) (W := W) hr hc tab hW ht)
 have hka : Kp (fun _ => False) w ((w.alloc (.cells #[.int .i64 3,.int .i64 s,.int .i64 lo,.int .i64 hi,.int .i64 st,.slice A0 P.length c0] 24)).alloc (.cells #[.int .u64 0,.slice none 0 0,.slice none 0 0] 31)) := ((Kp.refl _ w).alloc _).alloc _
 have hr0 := Blk.cell (hr.kp hka (fun h => h)) 0
 simp at hr0
 have HE := Lib.hid E
 obtain ⟨W,hW⟩ : ∃ W,(w.alloc (.cells #[.int .i64 3,.int .i64 s,.int .i64 lo,.int .i64 hi,.int .i64 st,.slice A0 P.length c0] 24)).alloc (.cells #[.int .u64 0,.slice none 0 0,.slice none 0 0] 31) = W := ⟨_,rfl⟩
 have HWE := Lib.hid hW
 rw [hW] at hr0 hka
 rcases hT with rfl | ⟨tg,rfl⟩
 ·have HF := Lib.hid (HPRE.out W hW (fun g hg => by cases hg))
  clear hr hc ht tab E hroom hv hW hpos HPRE hka
  go_enter Tryd.func41,Tryd.ntmps41
  go_upto_region 1 with fail
  rw [HWE.out]
  clear HWE
  go_upto_region 4 with fail
  have E2 := HE.out.far (w' := W) (by have := HF.out.hz;omega)
  have F := HF.out
  have t0 := F.hbf.cell 0
  have t1 := F.hbf.cell 1
  have t2 := F.hbf.cell 2
  have t3 := F.hbf.cell 3
  have t4 := F.hbf.cell 4
  have t5 := F.hbf.cell 5
  simp at t0 t1 t2 t3 t4 t5
  have HC := Lib.hid (HCW.out W E2 F.hk F.hr F.hc F.ht F.tab)
  have F2 := F
  clear HCW E2 F
  go_wp2_with fail
  refine HC.out.mono ?_
  rintro e w3 ⟨hfp,htl⟩
  obtain ⟨v3,x,rfl,hvx,hk3,hen⟩ := hfp.parts
  obtain ⟨A5,c5,A6,c6,rfl,_⟩ := hvx.shape
  have hb3 := HF.out.hb1.kp hk3 (fun hs => (HE.out.new_S _ (by omega) hs))
  have z0 := hb3.frozen 0
  have z1 := hb3.frozen 1
  have z2 := hb3.frozen 2
  have y0 := hb3.cell 0
  have y1 := hb3.cell 1
  have y2 := hb3.cell 2
  simp at y0 y1 y2
  have HD := Lib.hid (form_done HE.out HF.out hvx hk3 hen htl)
  clear hb3 hvx hk3 hen htl hfp F2
  generalize hl5 : x.a.b.length = l5 at HD ⊢
  generalize hl6 : x.l.length = l6 at HD ⊢
  generalize hn5 : x.a.n = n5 at HD ⊢
  go_wp2_with fail
  exact bodyPost_ret (v := .agg #[.int .u64 n5,.slice A5 l5 c5,.slice A6 l6 c6]) (by simp [results,Tryd.results41,go_sem,y0,y1,y2]) rfl HD.out
 ·have hT2 := ht tg rfl
  have HSP := Lib.hid (spend_any tg 1073741824 q W (hT2.kp hka (fun h => h)) (by omega) (by have := hroom.resolve_left (by simp);omega) (by omega))
  have HSW := Lib.hid (fun W2 hk ht => formW_spent (h := ⟨3,s,lo,hi,st⟩) (A0 := A0) (n0 := P.length) (c0 := c0) (q := q) (W := W) (W2 := W2) E hr hc tab hW hk ht)
  clear hr hc ht tab E hroom hv hW hpos HPRE hT2 hka
  go_enter Tryd.func41,Tryd.ntmps41
  go_upto_region 1 with fail
  rw [HWE.out]
  clear HWE
  go_upto_region 4 with (go_at_call 57;refine HSP.out.mono ?_;rintro e W2 ⟨rfl,ht2,hk2⟩)
  have HF := Lib.hid (HSW.out W2 hk2 ht2)
  clear HSP HSW ht2 hk2 hr0
  have E2 := HE.out.far (w' := W2) (by have := HF.out.hz;omega)
  have F := HF.out
  have t0 := F.hbf.cell 0
  have t1 := F.hbf.cell 1
  have t2 := F.hbf.cell 2
  have t3 := F.hbf.cell 3
  have t4 := F.hbf.cell 4
  have t5 := F.hbf.cell 5
  simp at t0 t1 t2 t3 t4 t5
  have HC := Lib.hid (HCW.out W2 E2 F.hk F.hr F.hc F.ht F.tab)
  have F2 := F
  clear HCW E2 F
  go_wp2_with fail
  refine HC.out.mono ?_
  rintro e w3 ⟨hfp,htl⟩
  obtain ⟨v3,x,rfl,hvx,hk3,hen⟩ := hfp.parts
  obtain ⟨A5,c5,A6,c6,rfl,_⟩ := hvx.shape
  have hb3 := HF.out.hb1.kp hk3 (fun hs => (HE.out.new_S _ (by omega) hs))
  have z0 := hb3.frozen 0
  have z1 := hb3.frozen 1
  have z2 := hb3.frozen 2
  have y0 := hb3.cell 0
  have y1 := hb3.cell 1
  have y2 := hb3.cell 2
  simp at y0 y1 y2
  have HD := Lib.hid (form_done HE.out HF.out hvx hk3 hen htl)
  clear hb3 hvx hk3 hen htl hfp F2
  generalize hl5 : x.a.b.length = l5 at HD ⊢
  generalize hl6 : x.l.length = l6 at HD ⊢
  generalize hn5 : x.a.n = n5 at HD ⊢
  go_wp2_with fail
  exact bodyPost_ret (v := .agg #[.int .u64 n5,.slice A5 l5 c5,.slice A6 l6 c6]) (by simp [results,Tryd.results41,go_sem,y0,y1,y2]) rfl HD.out

set_option maxRecDepth 100000 in
set_option maxHeartbeats 3200000 in
theorem form_rest (ok : Nat → Prop) (rg cg : Nat) (t : Value) (h : FH) (P : List Fm) (A0 : Option Addr) (c0 : Nat) (b : List UInt8) (a : Int) (q : Nat) (w : World) (hk : h.k = 4) (hT : IsT t) (h0 : 0 ≤ h.lo ∧ h.lo ≤ h.hi ∧ h.hi ≤ 16777215) (E : RdEnv ok rg cg t b a w)
  (hv : FmR w ok (fv h A0 P.length c0) (.mk h P)) (hr : RdB w rg t 0 0) (hc : Cur w ok cg b a) (ht : Tl w t q) (hroom : t = .pointer none ∨ q + (readR (.mk h P) b).steps ≤ 1073741824) (tab : Tab06 w) :
  Calls Tryd.prog 41 #[.pointer (some ⟨rg,0,none⟩),.pointer (some ⟨cg,0,none⟩),fv h A0 P.length c0] w (FormQ ok rg cg t b a q w (readR (.mk h P) b)) := by
 have hpos := read_pos (.mk h P) b
 have HCW := Lib.hid (fun (W : World) (E2 : RdEnv ok rg cg t b a W) (hk2 : Kp (S3 rg cg t) w W) (hr : RdB W rg t 0 0) (hc : Cur W ok cg b a) (ht : Tl W t (q + 1)) (tab : Tab06 W) => show Calls Tryd.prog 106 #[.pointer (some ⟨rg,0,none⟩),.pointer (some ⟨cg,0,none⟩),fv h A0 P.length c0] W (FormQ ok rg cg t b a q W (readR (.mk h P) b)) from (rest_rd ok rg cg t h P A0 c0 b a W hk h0 hr hc E2.hoc E2.hrc E2.hokl (by have := E2.hl;omega) E2.ha E2.hal).mono fun e w' hq => leaf_up E2 hq (by rw [readR_mk,if_neg (by omega),if_neg (by omega),if_pos hk];split;rfl;split <;> rfl) ht)
 generalize readR (.mk h P) b = R at hroom hpos HCW ⊢
 obtain ⟨k,s,lo,hi,st⟩ := h
 simp only at hk
 subst hk
 have HPRE := Lib.hid (fun W hW ht => formW_pre (h := ⟨4,s,lo,hi,st⟩) (A0 := A0) (n0 := P.length) (c0 := c0) (q := q) (W := W) hr hc tab hW ht)
 have hka : Kp (fun _ => False) w ((w.alloc (.cells #[.int .i64 4,.int .i64 s,.int .i64 lo,.int .i64 hi,.int .i64 st,.slice A0 P.length c0] 24)).alloc (.cells #[.int .u64 0,.slice none 0 0,.slice none 0 0] 31)) := ((Kp.refl _ w).alloc _).alloc _
 have hr0 := Blk.cell (hr.kp hka (fun h => h)) 0
 simp at hr0
 have HE := Lib.hid E
 obtain ⟨W,hW⟩ : ∃ W,(w.alloc (.cells #[.int .i64 4,.int .i64 s,.int .i64 lo,.int .i64 hi,.int .i64 st,.slice A0 P.length c0] 24)).alloc (.cells #[.int .u64 0,.slice none 0 0,.slice none 0 0] 31) = W := ⟨_,rfl⟩
 have HWE := Lib.hid hW
 rw [hW] at hr0 hka
 rcases hT with rfl | ⟨tg,rfl⟩
 ·have HF := Lib.hid (HPRE.out W hW (fun g hg => by cases hg))
  clear hr hc ht tab E hroom hv hW hpos HPRE hka
  go_enter Tryd.func41,Tryd.ntmps41
  go_upto_region 1 with fail
  rw [HWE.out]
  clear HWE
  go_upto_region 4 with fail
  have E2 := HE.out.far (w' := W) (by have := HF.out.hz;omega)
  have F := HF.out
  have t0 := F.hbf.cell 0
  have t1 := F.hbf.cell 1
  have t2 := F.hbf.cell 2
  have t3 := F.hbf.cell 3
  have t4 := F.hbf.cell 4
  have t5 := F.hbf.cell 5
  simp at t0 t1 t2 t3 t4 t5
  have tc := F.tab.c4
  have hSK : ∀ (T : Nat → Prop) (V : World),Kp T W V → ¬ T w.heap.size → ¬ T 0 → (fun w' : World => w'.cell? ⟨w.heap.size,0,none⟩ = some (.int .i64 4) ∧ w'.cell? ⟨w.heap.size,1,none⟩ = some (.int .i64 s) ∧ w'.cell? ⟨w.heap.size,2,none⟩ = some (.int .i64 lo) ∧ w'.cell? ⟨w.heap.size,3,none⟩ = some (.int .i64 hi) ∧ w'.cell? ⟨w.heap.size,4,none⟩ = some (.int .i64 st) ∧ w'.cell? ⟨w.heap.size,5,none⟩ = some (.slice A0 P.length c0) ∧ w'.cell? ⟨0,4,none⟩ = some (.func (.func 106) #[] #[])) V := fun T V hk h1 h2 => ⟨hk.cell t0 h1,hk.cell t1 h1,hk.cell t2 h1,hk.cell t3 h1,hk.cell t4 h1,hk.cell t5 h1,hk.cell tc h2⟩
  have hD : Kp (fun _ => False) W W.drew := (Kp.refl _ W).drew
  have HC := Lib.hid (HCW.out W.drew (E2.far hD.size) (F.hk.then_ hD (fun _ h => h.elim)) (F.hr.kp hD (fun h => h)) (F.hc.kp hD (fun _ _ h => h) (fun h => h)) (F.ht.kp hD (fun _ _ h => h)) (F.tab.kp hD (fun h => h)))
  have hS0 := hSK (fun _ => False) W.drew hD (fun h => h) (fun h => h)
  have HSK := Lib.hid hSK
  have HF2 := Lib.hid (show FormW ok rg cg _ ⟨4,s,lo,hi,st⟩ A0 P.length c0 b a q w W.drew from ⟨F.hk.then_ hD (fun _ h => h.elim),Nat.le_trans F.hz hD.size,F.hbf.kp hD (fun h => h),F.hb1.kp hD (fun h => h),F.hr.kp hD (fun h => h),F.hc.kp hD (fun _ _ h => h) (fun h => h),F.ht.kp hD (fun _ _ h => h),F.tab.kp hD (fun h => h)⟩)
  clear HCW E2 F hD hSK
  go_upto_region 9 with fail
  refine wp_region_noPanic ?_
  refine wp_region_held_drew (S := (fun w' : World => w'.cell? ⟨w.heap.size,0,none⟩ = some (.int .i64 4) ∧ w'.cell? ⟨w.heap.size,1,none⟩ = some (.int .i64 s) ∧ w'.cell? ⟨w.heap.size,2,none⟩ = some (.int .i64 lo) ∧ w'.cell? ⟨w.heap.size,3,none⟩ = some (.int .i64 hi) ∧ w'.cell? ⟨w.heap.size,4,none⟩ = some (.int .i64 st) ∧ w'.cell? ⟨w.heap.size,5,none⟩ = some (.slice A0 P.length c0) ∧ w'.cell? ⟨0,4,none⟩ = some (.func (.func 106) #[] #[]))) (by kernel_rfl) hS0 (fun hHeld => ?_)
  refine wpAnyH_take (i := 0) (v := ?vW_0) (by simp only [List.getElem?_toArray,List.getElem?_cons_zero];rfl) (by kernel_rfl) (by kernel_rfl) (by kernel_rfl) (fun _ _ _ h => h) (Or.inl ⟨by rfl,?hyW_0⟩) (by assumption) ?restW_0
  case hyW_0 => (intro w hSw;(try dsimp only at hSw);go_simp;(try with_reducible rfl))
  try simp only [Act.put,List.setIfInBounds_toArray,List.set_cons_zero,List.set_cons_succ]
  refine wpAnyH_take (i := 1) (v := ?vW_1) (by simp only [List.getElem?_toArray,List.getElem?_cons_succ,List.getElem?_cons_zero];rfl) (by kernel_rfl) (by kernel_rfl) (by kernel_rfl) (fun _ _ _ h => h) (Or.inl ⟨by rfl,?hyW_1⟩) (by assumption) ?restW_1
  case hyW_1 => (intro w hSw;(try dsimp only at hSw);go_simp;(try with_reducible rfl))
  try simp only [Act.put,List.setIfInBounds_toArray,List.set_cons_zero,List.set_cons_succ]
  refine wpAnyH_take (i := 2) (v := ?vW_2) (by simp only [List.getElem?_toArray,List.getElem?_cons_succ,List.getElem?_cons_zero];rfl) (by kernel_rfl) (by kernel_rfl) (by kernel_rfl) (fun _ _ _ h => h) (Or.inl ⟨by rfl,?hyW_2⟩) (by assumption) ?restW_2
  case hyW_2 => (intro w hSw;(try dsimp only at hSw);go_simp;(try with_reducible rfl))
  try simp only [Act.put,List.setIfInBounds_toArray,List.set_cons_zero,List.set_cons_succ]
  refine wpAnyH_take (i := 3) (v := ?vW_3) (by simp only [List.getElem?_toArray,List.getElem?_cons_succ,List.getElem?_cons_zero];rfl) (by kernel_rfl) (by kernel_rfl) (by kernel_rfl) (fun _ _ _ h => h) (Or.inl ⟨by rfl,?hyW_3⟩) (by assumption) ?restW_3
  case hyW_3 => (intro w hSw;(try dsimp only at hSw);go_simp;(try with_reducible rfl))
  try simp only [Act.put,List.setIfInBounds_toArray,List.set_cons_zero,List.set_cons_succ]
  refine wpAnyH_take (i := 4) (v := ?vW_4) (by simp only [List.getElem?_toArray,List.getElem?_cons_succ,List.getElem?_cons_zero];rfl) (by kernel_rfl) (by kernel_rfl) (by kernel_rfl) (fun _ _ _ h => h) (Or.inl ⟨by rfl,?hyW_4⟩) (by assumption) ?restW_4
  case hyW_4 => (intro w hSw;(try dsimp only at hSw);go_simp;(try with_reducible rfl))
  try simp only [Act.put,List.setIfInBounds_toArray,List.set_cons_zero,List.set_cons_succ]
  refine wpAnyH_take (i := 5) (v := ?vW_5) (by simp only [List.getElem?_toArray,List.getElem?_cons_succ,List.getElem?_cons_zero];rfl) (by kernel_rfl) (by kernel_rfl) (by kernel_rfl) (fun _ _ _ h => h) (Or.inl ⟨by rfl,?hyW_5⟩) (by assumption) ?restW_5
  case hyW_5 => (intro w hSw;(try dsimp only at hSw);go_simp;(try with_reducible rfl))
  try simp only [Act.put,List.setIfInBounds_toArray,List.set_cons_zero,List.set_cons_succ]
  refine wpAnyH_take (i := 6) (v := ?vW_6) (by simp only [List.getElem?_toArray,List.getElem?_cons_succ,List.getElem?_cons_zero];rfl) (by kernel_rfl) (by kernel_rfl) (by kernel_rfl) (fun _ _ _ h => h) (Or.inl ⟨by rfl,?hyW_6⟩) (by assumption) ?restW_6
  case hyW_6 => (intro w hSw;(try dsimp only at hSw);go_simp;(try with_reducible rfl))
  try simp only [Act.put,List.setIfInBounds_toArray,List.set_cons_zero,List.set_cons_succ]
  refine wpAnyH_ready (rs := [7]) (by kernel_rfl) (by simp) ?_
  refine (AllReadyH.cons (o := _) rfl (fun K hK => ?_) AllReadyH.nil)
  go_simp
  refine HC.out.mono ?_
  rintro e w3 ⟨hfp,htl⟩
  obtain ⟨v3,x,rfl,hvx,hk3,hen⟩ := hfp.parts
  obtain ⟨A5,c5,A6,c6,rfl,_⟩ := hvx.shape
  have hn1 := HE.out.new_S w.heap.size (Nat.le_refl _)
  have hn2 := HE.out.ok_S _ HE.out.hok0
  have hb3 := HF2.out.hb1.kp hk3 (fun hs => (HE.out.new_S _ (by omega) hs))
  have z0 := hb3.frozen 0
  have z1 := hb3.frozen 1
  have z2 := hb3.frozen 2
  have y0 := hb3.cell 0
  have y1 := hb3.cell 1
  have y2 := hb3.cell 2
  simp at y0 y1 y2
  have HD := Lib.hid (form_done HE.out HF2.out hvx hk3 hen htl)
  have hk4 := ((Kp.refl (fun _ => False) W).drew.mono (fun _ _ h => h.elim)).then_ (S := S3 rg cg _) hk3 (fun j hj => .inl hj)
  have hS2 := HSK.out _ w3 hk4 hn1 hn2
  have hS3 := fun u0 u1 u2 => HSK.out (fun j => S3 rg cg _ j ∨ j = w.heap.size + 1) _ ((hk4.mono (fun _ _ h => .inl h)).put3 (B := w.heap.size + 1) (.inl (.inr rfl)) u0 u1 u2) (fun hh => hh.elim hn1 (fun e => by omega)) (fun hh => hh.elim hn2 (fun e => by have := HE.out.hokl _ HE.out.hok0;omega))
  clear hb3 hvx hk3 hen htl hfp hk4
  generalize hl5 : x.a.b.length = l5 at HD ⊢
  generalize hl6 : x.l.length = l6 at HD ⊢
  generalize hn5 : x.a.n = n5 at HD ⊢
  try dsimp only
  refine hK.out _ _ hS2 (fun hHeld => ?_)
  clear hK K
  refine wpAnyH_ready (rs := [8]) (by kernel_rfl) (by simp) ?_
  refine (AllReadyH.cons (o := _) rfl (fun K hK => ?_) AllReadyH.nil)
  go_simp
  try dsimp only
  refine hK.out _ _ (hS3 _ _ _) (fun hHeld => ?_)
  clear hK K
  refine wpAnyH_done (by kernel_rfl) ?_ _
  refine NoPanic.normal ?_
  go_wp2_with fail
  exact bodyPost_ret (v := .agg #[.int .u64 n5,.slice A5 l5 c5,.slice A6 l6 c6]) (by simp [results,Tryd.results41,go_sem,y0,y1,y2]) rfl HD.out
 ·have hT2 := ht tg rfl
  have HSP := Lib.hid (spend_any tg 1073741824 q W (hT2.kp hka (fun h => h)) (by omega) (by have := hroom.resolve_left (by simp);omega) (by omega))
  have HSW := Lib.hid (fun W2 hk ht => formW_spent (h := ⟨4,s,lo,hi,st⟩) (A0 := A0) (n0 := P.length) (c0 := c0) (q := q) (W := W) (W2 := W2) E hr hc tab hW hk ht)
  clear hr hc ht tab E hroom hv hW hpos HPRE hT2 hka
  go_enter Tryd.func41,Tryd.ntmps41
  go_upto_region 1 with fail
  rw [HWE.out]
  clear HWE
  go_upto_region 4 with (go_at_call 57;refine HSP.out.mono ?_;rintro e W2 ⟨rfl,ht2,hk2⟩)
  have HF := Lib.hid (HSW.out W2 hk2 ht2)
  clear HSP HSW ht2 hk2 hr0
  have E2 := HE.out.far (w' := W2) (by have := HF.out.hz;omega)
  have F := HF.out
  have t0 := F.hbf.cell 0
  have t1 := F.hbf.cell 1
  have t2 := F.hbf.cell 2
  have t3 := F.hbf.cell 3
  have t4 := F.hbf.cell 4
  have t5 := F.hbf.cell 5
  simp at t0 t1 t2 t3 t4 t5
  have tc := F.tab.c4
  have hSK : ∀ (T : Nat → Prop) (V : World),Kp T W2 V → ¬ T w.heap.size → ¬ T 0 → (fun w' : World => w'.cell? ⟨w.heap.size,0,none⟩ = some (.int .i64 4) ∧ w'.cell? ⟨w.heap.size,1,none⟩ = some (.int .i64 s) ∧ w'.cell? ⟨w.heap.size,2,none⟩ = some (.int .i64 lo) ∧ w'.cell? ⟨w.heap.size,3,none⟩ = some (.int .i64 hi) ∧ w'.cell? ⟨w.heap.size,4,none⟩ = some (.int .i64 st) ∧ w'.cell? ⟨w.heap.size,5,none⟩ = some (.slice A0 P.length c0) ∧ w'.cell? ⟨0,4,none⟩ = some (.func (.func 106) #[] #[])) V := fun T V hk h1 h2 => ⟨hk.cell t0 h1,hk.cell t1 h1,hk.cell t2 h1,hk.cell t3 h1,hk.cell t4 h1,hk.cell t5 h1,hk.cell tc h2⟩
  have hD : Kp (fun _ => False) W2 W2.drew := (Kp.refl _ W2).drew
  have HC := Lib.hid (HCW.out W2.drew (E2.far hD.size) (F.hk.then_ hD (fun _ h => h.elim)) (F.hr.kp hD (fun h => h)) (F.hc.kp hD (fun _ _ h => h) (fun h => h)) (F.ht.kp hD (fun _ _ h => h)) (F.tab.kp hD (fun h => h)))
  have hS0 := hSK (fun _ => False) W2.drew hD (fun h => h) (fun h => h)
  have HSK := Lib.hid hSK
  have HF2 := Lib.hid (show FormW ok rg cg _ ⟨4,s,lo,hi,st⟩ A0 P.length c0 b a q w W2.drew from ⟨F.hk.then_ hD (fun _ h => h.elim),Nat.le_trans F.hz hD.size,F.hbf.kp hD (fun h => h),F.hb1.kp hD (fun h => h),F.hr.kp hD (fun h => h),F.hc.kp hD (fun _ _ h => h) (fun h => h),F.ht.kp hD (fun _ _ h => h),F.tab.kp hD (fun h => h)⟩)
  clear HCW E2 F hD hSK
  go_upto_region 9 with fail
  refine wp_region_noPanic ?_
  refine wp_region_held_drew (S := (fun w' : World => w'.cell? ⟨w.heap.size,0,none⟩ = some (.int .i64 4) ∧ w'.cell? ⟨w.heap.size,1,none⟩ = some (.int .i64 s) ∧ w'.cell? ⟨w.heap.size,2,none⟩ = some (.int .i64 lo) ∧ w'.cell? ⟨w.heap.size,3,none⟩ = some (.int .i64 hi) ∧ w'.cell? ⟨w.heap.size,4,none⟩ = some (.int .i64 st) ∧ w'.cell? ⟨w.heap.size,5,none⟩ = some (.slice A0 P.length c0) ∧ w'.cell? ⟨0,4,none⟩ = some (.func (.func 106) #[] #[]))) (by kernel_rfl) hS0 (fun hHeld => ?_)
  refine wpAnyH_take (i := 0) (v := ?vW2_0) (by simp only [List.getElem?_toArray,List.getElem?_cons_zero];rfl) (by kernel_rfl) (by kernel_rfl) (by kernel_rfl) (fun _ _ _ h => h) (Or.inl ⟨by rfl,?hyW2_0⟩) (by assumption) ?restW2_0
  case hyW2_0 => (intro w hSw;(try dsimp only at hSw);go_simp;(try with_reducible rfl))
  try simp only [Act.put,List.setIfInBounds_toArray,List.set_cons_zero,List.set_cons_succ]
  refine wpAnyH_take (i := 1) (v := ?vW2_1) (by simp only [List.getElem?_toArray,List.getElem?_cons_succ,List.getElem?_cons_zero];rfl) (by kernel_rfl) (by kernel_rfl) (by kernel_rfl) (fun _ _ _ h => h) (Or.inl ⟨by rfl,?hyW2_1⟩) (by assumption) ?restW2_1
  case hyW2_1 => (intro w hSw;(try dsimp only at hSw);go_simp;(try with_reducible rfl))
  try simp only [Act.put,List.setIfInBounds_toArray,List.set_cons_zero,List.set_cons_succ]
  refine wpAnyH_take (i := 2) (v := ?vW2_2) (by simp only [List.getElem?_toArray,List.getElem?_cons_succ,List.getElem?_cons_zero];rfl) (by kernel_rfl) (by kernel_rfl) (by kernel_rfl) (fun _ _ _ h => h) (Or.inl ⟨by rfl,?hyW2_2⟩) (by assumption) ?restW2_2
  case hyW2_2 => (intro w hSw;(try dsimp only at hSw);go_simp;(try with_reducible rfl))
  try simp only [Act.put,List.setIfInBounds_toArray,List.set_cons_zero,List.set_cons_succ]
  refine wpAnyH_take (i := 3) (v := ?vW2_3) (by simp only [List.getElem?_toArray,List.getElem?_cons_succ,List.getElem?_cons_zero];rfl) (by kernel_rfl) (by kernel_rfl) (by kernel_rfl) (fun _ _ _ h => h) (Or.inl ⟨by rfl,?hyW2_3⟩) (by assumption) ?restW2_3
  case hyW2_3 => (intro w hSw;(try dsimp only at hSw);go_simp;(try with_reducible rfl))
  try simp only [Act.put,List.setIfInBounds_toArray,List.set_cons_zero,List.set_cons_succ]
  refine wpAnyH_take (i := 4) (v := ?vW2_4) (by simp only [List.getElem?_toArray,List.getElem?_cons_succ,List.getElem?_cons_zero];rfl) (by kernel_rfl) (by kernel_rfl) (by kernel_rfl) (fun _ _ _ h => h) (Or.inl ⟨by rfl,?hyW2_4⟩) (by assumption) ?restW2_4
  case hyW2_4 => (intro w hSw;(try dsimp only at hSw);go_simp;(try with_reducible rfl))
  try simp only [Act.put,List.setIfInBounds_toArray,List.set_cons_zero,List.set_cons_succ]
  refine wpAnyH_take (i := 5) (v := ?vW2_5) (by simp only [List.getElem?_toArray,List.getElem?_cons_succ,List.getElem?_cons_zero];rfl) (by kernel_rfl) (by kernel_rfl) (by kernel_rfl) (fun _ _ _ h => h) (Or.inl ⟨by rfl,?hyW2_5⟩) (by assumption) ?restW2_5
  case hyW2_5 => (intro w hSw;(try dsimp only at hSw);go_simp;(try with_reducible rfl))
  try simp only [Act.put,List.setIfInBounds_toArray,List.set_cons_zero,List.set_cons_succ]
  refine wpAnyH_take (i := 6) (v := ?vW2_6) (by simp only [List.getElem?_toArray,List.getElem?_cons_succ,List.getElem?_cons_zero];rfl) (by kernel_rfl) (by kernel_rfl) (by kernel_rfl) (fun _ _ _ h => h) (Or.inl ⟨by rfl,?hyW2_6⟩) (by assumption) ?restW2_6
  case hyW2_6 => (intro w hSw;(try dsimp only at hSw);go_simp;(try with_reducible rfl))
  try simp only [Act.put,List.setIfInBounds_toArray,List.set_cons_zero,List.set_cons_succ]
  refine wpAnyH_ready (rs := [7]) (by kernel_rfl) (by simp) ?_
  refine (AllReadyH.cons (o := _) rfl (fun K hK => ?_) AllReadyH.nil)
  go_simp
  refine HC.out.mono ?_
  rintro e w3 ⟨hfp,htl⟩
  obtain ⟨v3,x,rfl,hvx,hk3,hen⟩ := hfp.parts
  obtain ⟨A5,c5,A6,c6,rfl,_⟩ := hvx.shape
  have hn1 := HE.out.new_S w.heap.size (Nat.le_refl _)
  have hn2 := HE.out.ok_S _ HE.out.hok0
  have hb3 := HF2.out.hb1.kp hk3 (fun hs => (HE.out.new_S _ (by omega) hs))
  have z0 := hb3.frozen 0
  have z1 := hb3.frozen 1
  have z2 := hb3.frozen 2
  have y0 := hb3.cell 0
  have y1 := hb3.cell 1
  have y2 := hb3.cell 2
  simp at y0 y1 y2
  have HD := Lib.hid (form_done HE.out HF2.out hvx hk3 hen htl)
  have hk4 := ((Kp.refl (fun _ => False) W2).drew.mono (fun _ _ h => h.elim)).then_ (S := S3 rg cg _) hk3 (fun j hj => .inl hj)
  have hS2 := HSK.out _ w3 hk4 hn1 hn2
  have hS3 := fun u0 u1 u2 => HSK.out (fun j => S3 rg cg _ j ∨ j = w.heap.size + 1) _ ((hk4.mono (fun _ _ h => .inl h)).put3 (B := w.heap.size + 1) (.inl (.inr rfl)) u0 u1 u2) (fun hh => hh.elim hn1 (fun e => by omega)) (fun hh => hh.elim hn2 (fun e => by have := HE.out.hokl _ HE.out.hok0;omega))
  clear hb3 hvx hk3 hen htl hfp hk4
  generalize hl5 : x.a.b.length = l5 at HD ⊢
  generalize hl6 : x.l.length = l6 at HD ⊢
  generalize hn5 : x.a.n = n5 at HD ⊢
  try dsimp only
  refine hK.out _ _ hS2 (fun hHeld => ?_)
  clear hK K
  refine wpAnyH_ready (rs := [8]) (by kernel_rfl) (by simp) ?_
  refine (AllReadyH.cons (o := _) rfl (fun K hK => ?_) AllReadyH.nil)
  go_simp
  try dsimp only
  refine hK.out _ _ (hS3 _ _ _) (fun hHeld => ?_)
  clear hK K
  refine wpAnyH_done (by kernel_rfl) ?_ _
  refine NoPanic.normal ?_
  go_wp2_with fail
  exact bodyPost_ret (v := .agg #[.int .u64 n5,.slice A5 l5 c5,.slice A6 l6 c6]) (by simp [results,Tryd.results41,go_sem,y0,y1,y2]) rfl HD.out

set_option maxRecDepth 100000 in
set_option maxHeartbeats 3200000 in
theorem form_fixed (ok : Nat → Prop) (rg cg : Nat) (t : Value) (h : FH) (P : List Fm) (A0 : Option Addr) (c0 : Nat) (b : List UInt8) (a : Int) (q : Nat) (w : World) (hk : h.k = 5) (hT : IsT t) (h0 : 0 ≤ h.lo) (E : RdEnv ok rg cg t b a w)
  (hv : FmR w ok (fv h A0 P.length c0) (.mk h P)) (hr : RdB w rg t 0 0) (hc : Cur w ok cg b a) (ht : Tl w t q) (hroom : t = .pointer none ∨ q + (readR (.mk h P) b).steps ≤ 1073741824) (tab : Tab06 w) :
  Calls Tryd.prog 41 #[.pointer (some ⟨rg,0,none⟩),.pointer (some ⟨cg,0,none⟩),fv h A0 P.length c0] w (FormQ ok rg cg t b a q w (readR (.mk h P) b)) := by
 have hpos := read_pos (.mk h P) b
 have HCW := Lib.hid (fun (W : World) (E2 : RdEnv ok rg cg t b a W) (hk2 : Kp (S3 rg cg t) w W) (hr : RdB W rg t 0 0) (hc : Cur W ok cg b a) (ht : Tl W t (q + 1)) (tab : Tab06 W) => show Calls Tryd.prog 107 #[.pointer (some ⟨rg,0,none⟩),.pointer (some ⟨cg,0,none⟩),fv h A0 P.length c0] W (FormQ ok rg cg t b a q W (readR (.mk h P) b)) from (fixed_rd ok rg cg t h P A0 c0 b a W hk h0 hr hc E2.hoc E2.hrc E2.hokl (by have := E2.hl;omega) E2.ha E2.hal).mono fun e w' hq => leaf_up E2 hq (by rw [readR_mk,if_neg (by omega),if_neg (by omega),if_neg (by omega),if_pos hk];split <;> rfl) ht)
 generalize readR (.mk h P) b = R at hroom hpos HCW ⊢
 obtain ⟨k,s,lo,hi,st⟩ := h
 simp only at hk
 subst hk
 have HPRE := Lib.hid (fun W hW ht => formW_pre (h := ⟨5,s,lo,hi,st⟩) (A0 := A0) (n0 := P.length) (c0 := c0) (q := q) (W := W) hr hc tab hW ht)
 have hka : Kp (fun _ => False) w ((w.alloc (.cells #[.int .i64 5,.int .i64 s,.int .i64 lo,.int .i64 hi,.int .i64 st,.slice A0 P.length c0] 24)).alloc (.cells #[.int .u64 0,.slice none 0 0,.slice none 0 0] 31)) := ((Kp.refl _ w).alloc _).alloc _
 have hr0 := Blk.cell (hr.kp hka (fun h => h)) 0
 simp at hr0
 have HE := Lib.hid E
 obtain ⟨W,hW⟩ : ∃ W,(w.alloc (.cells #[.int .i64 5,.int .i64 s,.int .i64 lo,.int .i64 hi,.int .i64 st,.slice A0 P.length c0] 24)).alloc (.cells #[.int .u64 0,.slice none 0 0,.slice none 0 0] 31) = W := ⟨_,rfl⟩
 have HWE := Lib.hid hW
 rw [hW] at hr0 hka
 rcases hT with rfl | ⟨tg,rfl⟩
 ·have HF := Lib.hid (HPRE.out W hW (fun g hg => by cases hg))
  clear hr hc ht tab E hroom hv hW hpos HPRE hka
  go_enter Tryd.func41,Tryd.ntmps41
  go_upto_region 1 with fail
  rw [HWE.out]
  clear HWE
  go_upto_region 4 with fail
  have E2 := HE.out.far (w' := W) (by have := HF.out.hz;omega)
  have F := HF.out
  have t0 := F.hbf.cell 0
  have t1 := F.hbf.cell 1
  have t2 := F.hbf.cell 2
  have t3 := F.hbf.cell 3
  have t4 := F.hbf.cell 4
  have t5 := F.hbf.cell 5
  simp at t0 t1 t2 t3 t4 t5
  have tc := F.tab.c5
  have hSK : ∀ (T : Nat → Prop) (V : World),Kp T W V → ¬ T w.heap.size → ¬ T 0 → (fun w' : World => w'.cell? ⟨w.heap.size,0,none⟩ = some (.int .i64 5) ∧ w'.cell? ⟨w.heap.size,1,none⟩ = some (.int .i64 s) ∧ w'.cell? ⟨w.heap.size,2,none⟩ = some (.int .i64 lo) ∧ w'.cell? ⟨w.heap.size,3,none⟩ = some (.int .i64 hi) ∧ w'.cell? ⟨w.heap.size,4,none⟩ = some (.int .i64 st) ∧ w'.cell? ⟨w.heap.size,5,none⟩ = some (.slice A0 P.length c0) ∧ w'.cell? ⟨0,5,none⟩ = some (.func (.func 107) #[] #[])) V := fun T V hk h1 h2 => ⟨hk.cell t0 h1,hk.cell t1 h1,hk.cell t2 h1,hk.cell t3 h1,hk.cell t4 h1,hk.cell t5 h1,hk.cell tc h2⟩
  have hD : Kp (fun _ => False) W W.drew := (Kp.refl _ W).drew
  have HC := Lib.hid (HCW.out W.drew (E2.far hD.size) (F.hk.then_ hD (fun _ h => h.elim)) (F.hr.kp hD (fun h => h)) (F.hc.kp hD (fun _ _ h => h) (fun h => h)) (F.ht.kp hD (fun _ _ h => h)) (F.tab.kp hD (fun h => h)))
  have hS0 := hSK (fun _ => False) W.drew hD (fun h => h) (fun h => h)
  have HSK := Lib.hid hSK
  have HF2 := Lib.hid (show FormW ok rg cg _ ⟨5,s,lo,hi,st⟩ A0 P.length c0 b a q w W.drew from ⟨F.hk.then_ hD (fun _ h => h.elim),Nat.le_trans F.hz hD.size,F.hbf.kp hD (fun h => h),F.hb1.kp hD (fun h => h),F.hr.kp hD (fun h => h),F.hc.kp hD (fun _ _ h => h) (fun h => h),F.ht.kp hD (fun _ _ h => h),F.tab.kp hD (fun h => h)⟩)
  clear HCW E2 F hD hSK
  go_upto_region 9 with fail
  refine wp_region_noPanic ?_
  refine wp_region_held_drew (S := (fun w' : World => w'.cell? ⟨w.heap.size,0,none⟩ = some (.int .i64 5) ∧ w'.cell? ⟨w.heap.size,1,none⟩ = some (.int .i64 s) ∧ w'.cell? ⟨w.heap.size,2,none⟩ = some (.int .i64 lo) ∧ w'.cell? ⟨w.heap.size,3,none⟩ = some (.int .i64 hi) ∧ w'.cell? ⟨w.heap.size,4,none⟩ = some (.int .i64 st) ∧ w'.cell? ⟨w.heap.size,5,none⟩ = some (.slice A0 P.length c0) ∧ w'.cell? ⟨0,5,none⟩ = some (.func (.func 107) #[] #[]))) (by kernel_rfl) hS0 (fun hHeld => ?_)
  refine wpAnyH_take (i := 0) (v := ?vW_0) (by simp only [List.getElem?_toArray,List.getElem?_cons_zero];rfl) (by kernel_rfl) (by kernel_rfl) (by kernel_rfl) (fun _ _ _ h => h) (Or.inl ⟨by rfl,?hyW_0⟩) (by assumption) ?restW_0
  case hyW_0 => (intro w hSw;(try dsimp only at hSw);go_simp;(try with_reducible rfl))
  try simp only [Act.put,List.setIfInBounds_toArray,List.set_cons_zero,List.set_cons_succ]
  refine wpAnyH_take (i := 1) (v := ?vW_1) (by simp only [List.getElem?_toArray,List.getElem?_cons_succ,List.getElem?_cons_zero];rfl) (by kernel_rfl) (by kernel_rfl) (by kernel_rfl) (fun _ _ _ h => h) (Or.inl ⟨by rfl,?hyW_1⟩) (by assumption) ?restW_1
  case hyW_1 => (intro w hSw;(try dsimp only at hSw);go_simp;(try with_reducible rfl))
  try simp only [Act.put,List.setIfInBounds_toArray,List.set_cons_zero,List.set_cons_succ]
  refine wpAnyH_take (i := 2) (v := ?vW_2) (by simp only [List.getElem?_toArray,List.getElem?_cons_succ,List.getElem?_cons_zero];rfl) (by kernel_rfl) (by kernel_rfl) (by kernel_rfl) (fun _ _ _ h => h) (Or.inl ⟨by rfl,?hyW_2⟩) (by assumption) ?restW_2
  case hyW_2 => (intro w hSw;(try dsimp only at hSw);go_simp;(try with_reducible rfl))
  try simp only [Act.put,List.setIfInBounds_toArray,List.set_cons_zero,List.set_cons_succ]
  refine wpAnyH_take (i := 3) (v := ?vW_3) (by simp only [List.getElem?_toArray,List.getElem?_cons_succ,List.getElem?_cons_zero];rfl) (by kernel_rfl) (by kernel_rfl) (by kernel_rfl) (fun _ _ _ h => h) (Or.inl ⟨by rfl,?hyW_3⟩) (by assumption) ?restW_3
  case hyW_3 => (intro w hSw;(try dsimp only at hSw);go_simp;(try with_reducible rfl))
  try simp only [Act.put,List.setIfInBounds_toArray,List.set_cons_zero,List.set_cons_succ]
  refine wpAnyH_take (i := 4) (v := ?vW_4) (by simp only [List.getElem?_toArray,List.getElem?_cons_succ,List.getElem?_cons_zero];rfl) (by kernel_rfl) (by kernel_rfl) (by kernel_rfl) (fun _ _ _ h => h) (Or.inl ⟨by rfl,?hyW_4⟩) (by assumption) ?restW_4
  case hyW_4 => (intro w hSw;(try dsimp only at hSw);go_simp;(try with_reducible rfl))
  try simp only [Act.put,List.setIfInBounds_toArray,List.set_cons_zero,List.set_cons_succ]
  refine wpAnyH_take (i := 5) (v := ?vW_5) (by simp only [List.getElem?_toArray,List.getElem?_cons_succ,List.getElem?_cons_zero];rfl) (by kernel_rfl) (by kernel_rfl) (by kernel_rfl) (fun _ _ _ h => h) (Or.inl ⟨by rfl,?hyW_5⟩) (by assumption) ?restW_5
  case hyW_5 => (intro w hSw;(try dsimp only at hSw);go_simp;(try with_reducible rfl))
  try simp only [Act.put,List.setIfInBounds_toArray,List.set_cons_zero,List.set_cons_succ]
  refine wpAnyH_take (i := 6) (v := ?vW_6) (by simp only [List.getElem?_toArray,List.getElem?_cons_succ,List.getElem?_cons_zero];rfl) (by kernel_rfl) (by kernel_rfl) (by kernel_rfl) (fun _ _ _ h => h) (Or.inl ⟨by rfl,?hyW_6⟩) (by assumption) ?restW_6
  case hyW_6 => (intro w hSw;(try dsimp only at hSw);go_simp;(try with_reducible rfl))
  try simp only [Act.put,List.setIfInBounds_toArray,List.set_cons_zero,List.set_cons_succ]
  refine wpAnyH_ready (rs := [7]) (by kernel_rfl) (by simp) ?_
  refine (AllReadyH.cons (o := _) rfl (fun K hK => ?_) AllReadyH.nil)
  go_simp
  refine HC.out.mono ?_
  rintro e w3 ⟨hfp,htl⟩
  obtain ⟨v3,x,rfl,hvx,hk3,hen⟩ := hfp.parts
  obtain ⟨A5,c5,A6,c6,rfl,_⟩ := hvx.shape
  have hn1 := HE.out.new_S w.heap.size (Nat.le_refl _)
  have hn2 := HE.out.ok_S _ HE.out.hok0
  have hb3 := HF2.out.hb1.kp hk3 (fun hs => (HE.out.new_S _ (by omega) hs))
  have z0 := hb3.frozen 0
  have z1 := hb3.frozen 1
  have z2 := hb3.frozen 2
  have y0 := hb3.cell 0
  have y1 := hb3.cell 1
  have y2 := hb3.cell 2
  simp at y0 y1 y2
  have HD := Lib.hid (form_done HE.out HF2.out hvx hk3 hen htl)
  have hk4 := ((Kp.refl (fun _ => False) W).drew.mono (fun _ _ h => h.elim)).then_ (S := S3 rg cg _) hk3 (fun j hj => .inl hj)
  have hS2 := HSK.out _ w3 hk4 hn1 hn2
  have hS3 := fun u0 u1 u2 => HSK.out (fun j => S3 rg cg _ j ∨ j = w.heap.size + 1) _ ((hk4.mono (fun _ _ h => .inl h)).put3 (B := w.heap.size + 1) (.inl (.inr rfl)) u0 u1 u2) (fun hh => hh.elim hn1 (fun e => by omega)) (fun hh => hh.elim hn2 (fun e => by have := HE.out.hokl _ HE.out.hok0;omega))
  clear hb3 hvx hk3 hen htl hfp hk4
  generalize hl5 : x.a.b.length = l5 at HD ⊢
  generalize hl6 : x.l.length = l6 at HD ⊢
  generalize hn5 : x.a.n = n5 at HD ⊢
  try dsimp only
  refine hK.out _ _ hS2 (fun hHeld => ?_)
  clear hK K
  refine wpAnyH_ready (rs := [8]) (by kernel_rfl) (by simp) ?_
  refine (AllReadyH.cons (o := _) rfl (fun K hK => ?_) AllReadyH.nil)
  go_simp
  try dsimp only
  refine hK.out _ _ (hS3 _ _ _) (fun hHeld => ?_)
  clear hK K
  refine wpAnyH_done (by kernel_rfl) ?_ _
  refine NoPanic.normal ?_
  go_wp2_with fail
  exact bodyPost_ret (v := .agg #[.int .u64 n5,.slice A5 l5 c5,.slice A6 l6 c6]) (by simp [results,Tryd.results41,go_sem,y0,y1,y2]) rfl HD.out
 ·have hT2 := ht tg rfl
  have HSP := Lib.hid (spend_any tg 1073741824 q W (hT2.kp hka (fun h => h)) (by omega) (by have := hroom.resolve_left (by simp);omega) (by omega))
  have HSW := Lib.hid (fun W2 hk ht => formW_spent (h := ⟨5,s,lo,hi,st⟩) (A0 := A0) (n0 := P.length) (c0 := c0) (q := q) (W := W) (W2 := W2) E hr hc tab hW hk ht)
  clear hr hc ht tab E hroom hv hW hpos HPRE hT2 hka
  go_enter Tryd.func41,Tryd.ntmps41
  go_upto_region 1 with fail
  rw [HWE.out]
  clear HWE
  go_upto_region 4 with (go_at_call 57;refine HSP.out.mono ?_;rintro e W2 ⟨rfl,ht2,hk2⟩)
  have HF := Lib.hid (HSW.out W2 hk2 ht2)
  clear HSP HSW ht2 hk2 hr0
  have E2 := HE.out.far (w' := W2) (by have := HF.out.hz;omega)
  have F := HF.out
  have t0 := F.hbf.cell 0
  have t1 := F.hbf.cell 1
  have t2 := F.hbf.cell 2
  have t3 := F.hbf.cell 3
  have t4 := F.hbf.cell 4
  have t5 := F.hbf.cell 5
  simp at t0 t1 t2 t3 t4 t5
  have tc := F.tab.c5
  have hSK : ∀ (T : Nat → Prop) (V : World),Kp T W2 V → ¬ T w.heap.size → ¬ T 0 → (fun w' : World => w'.cell? ⟨w.heap.size,0,none⟩ = some (.int .i64 5) ∧ w'.cell? ⟨w.heap.size,1,none⟩ = some (.int .i64 s) ∧ w'.cell? ⟨w.heap.size,2,none⟩ = some (.int .i64 lo) ∧ w'.cell? ⟨w.heap.size,3,none⟩ = some (.int .i64 hi) ∧ w'.cell? ⟨w.heap.size,4,none⟩ = some (.int .i64 st) ∧ w'.cell? ⟨w.heap.size,5,none⟩ = some (.slice A0 P.length c0) ∧ w'.cell? ⟨0,5,none⟩ = some (.func (.func 107) #[] #[])) V := fun T V hk h1 h2 => ⟨hk.cell t0 h1,hk.cell t1 h1,hk.cell t2 h1,hk.cell t3 h1,hk.cell t4 h1,hk.cell t5 h1,hk.cell tc h2⟩
  have hD : Kp (fun _ => False) W2 W2.drew := (Kp.refl _ W2).drew
  have HC := Lib.hid (HCW.out W2.drew (E2.far hD.size) (F.hk.then_ hD (fun _ h => h.elim)) (F.hr.kp hD (fun h => h)) (F.hc.kp hD (fun _ _ h => h) (fun h => h)) (F.ht.kp hD (fun _ _ h => h)) (F.tab.kp hD (fun h => h)))
  have hS0 := hSK (fun _ => False) W2.drew hD (fun h => h) (fun h => h)
  have HSK := Lib.hid hSK
  have HF2 := Lib.hid (show FormW ok rg cg _ ⟨5,s,lo,hi,st⟩ A0 P.length c0 b a q w W2.drew from ⟨F.hk.then_ hD (fun _ h => h.elim),Nat.le_trans F.hz hD.size,F.hbf.kp hD (fun h => h),F.hb1.kp hD (fun h => h),F.hr.kp hD (fun h => h),F.hc.kp hD (fun _ _ h => h) (fun h => h),F.ht.kp hD (fun _ _ h => h),F.tab.kp hD (fun h => h)⟩)
  clear HCW E2 F hD hSK
  go_upto_region 9 with fail
  refine wp_region_noPanic ?_
  refine wp_region_held_drew (S := (fun w' : World => w'.cell? ⟨w.heap.size,0,none⟩ = some (.int .i64 5) ∧ w'.cell? ⟨w.heap.size,1,none⟩ = some (.int .i64 s) ∧ w'.cell? ⟨w.heap.size,2,none⟩ = some (.int .i64 lo) ∧ w'.cell? ⟨w.heap.size,3,none⟩ = some (.int .i64 hi) ∧ w'.cell? ⟨w.heap.size,4,none⟩ = some (.int .i64 st) ∧ w'.cell? ⟨w.heap.size,5,none⟩ = some (.slice A0 P.length c0) ∧ w'.cell? ⟨0,5,none⟩ = some (.func (.func 107) #[] #[]))) (by kernel_rfl) hS0 (fun hHeld => ?_)
  refine wpAnyH_take (i := 0) (v := ?vW2_0) (by simp only [List.getElem?_toArray,List.getElem?_cons_zero];rfl) (by kernel_rfl) (by kernel_rfl) (by kernel_rfl) (fun _ _ _ h => h) (Or.inl ⟨by rfl,?hyW2_0⟩) (by assumption) ?restW2_0
  case hyW2_0 => (intro w hSw;(try dsimp only at hSw);go_simp;(try with_reducible rfl))
  try simp only [Act.put,List.setIfInBounds_toArray,List.set_cons_zero,List.set_cons_succ]
  refine wpAnyH_take (i := 1) (v := ?vW2_1) (by simp only [List.getElem?_toArray,List.getElem?_cons_succ,List.getElem?_cons_zero];rfl) (by kernel_rfl) (by kernel_rfl) (by kernel_rfl) (fun _ _ _ h => h) (Or.inl ⟨by rfl,?hyW2_1⟩) (by assumption) ?restW2_1
  case hyW2_1 => (intro w hSw;(try dsimp only at hSw);go_simp;(try with_reducible rfl))
  try simp only [Act.put,List.setIfInBounds_toArray,List.set_cons_zero,List.set_cons_succ]
  refine wpAnyH_take (i := 2) (v := ?vW2_2) (by simp only [List.getElem?_toArray,List.getElem?_cons_succ,List.getElem?_cons_zero];rfl) (by kernel_rfl) (by kernel_rfl) (by kernel_rfl) (fun _ _ _ h => h) (Or.inl ⟨by rfl,?hyW2_2⟩) (by assumption) ?restW2_2
  case hyW2_2 => (intro w hSw;(try dsimp only at hSw);go_simp;(try with_reducible rfl))
  try simp only [Act.put,List.setIfInBounds_toArray,List.set_cons_zero,List.set_cons_succ]
  refine wpAnyH_take (i := 3) (v := ?vW2_3) (by simp only [List.getElem?_toArray,List.getElem?_cons_succ,List.getElem?_cons_zero];rfl) (by kernel_rfl) (by kernel_rfl) (by kernel_rfl) (fun _ _ _ h => h) (Or.inl ⟨by rfl,?hyW2_3⟩) (by assumption) ?restW2_3
  case hyW2_3 => (intro w hSw;(try dsimp only at hSw);go_simp;(try with_reducible rfl))
  try simp only [Act.put,List.setIfInBounds_toArray,List.set_cons_zero,List.set_cons_succ]
  refine wpAnyH_take (i := 4) (v := ?vW2_4) (by simp only [List.getElem?_toArray,List.getElem?_cons_succ,List.getElem?_cons_zero];rfl) (by kernel_rfl) (by kernel_rfl) (by kernel_rfl) (fun _ _ _ h => h) (Or.inl ⟨by rfl,?hyW2_4⟩) (by assumption) ?restW2_4
  case hyW2_4 => (intro w hSw;(try dsimp only at hSw);go_simp;(try with_reducible rfl))
  try simp only [Act.put,List.setIfInBounds_toArray,List.set_cons_zero,List.set_cons_succ]
  refine wpAnyH_take (i := 5) (v := ?vW2_5) (by simp only [List.getElem?_toArray,List.getElem?_cons_succ,List.getElem?_cons_zero];rfl) (by kernel_rfl) (by kernel_rfl) (by kernel_rfl) (fun _ _ _ h => h) (Or.inl ⟨by rfl,?hyW2_5⟩) (by assumption) ?restW2_5
  case hyW2_5 => (intro w hSw;(try dsimp only at hSw);go_simp;(try with_reducible rfl))
  try simp only [Act.put,List.setIfInBounds_toArray,List.set_cons_zero,List.set_cons_succ]
  refine wpAnyH_take (i := 6) (v := ?vW2_6) (by simp only [List.getElem?_toArray,List.getElem?_cons_succ,List.getElem?_cons_zero];rfl) (by kernel_rfl) (by kernel_rfl) (by kernel_rfl) (fun _ _ _ h => h) (Or.inl ⟨by rfl,?hyW2_6⟩) (by assumption) ?restW2_6
  case hyW2_6 => (intro w hSw;(try dsimp only at hSw);go_simp;(try with_reducible rfl))
  try simp only [Act.put,List.setIfInBounds_toArray,List.set_cons_zero,List.set_cons_succ]
  refine wpAnyH_ready (rs := [7]) (by kernel_rfl) (by simp) ?_
  refine (AllReadyH.cons (o := _) rfl (fun K hK => ?_) AllReadyH.nil)
  go_simp
  refine HC.out.mono ?_
  rintro e w3 ⟨hfp,htl⟩
  obtain ⟨v3,x,rfl,hvx,hk3,hen⟩ := hfp.parts
  obtain ⟨A5,c5,A6,c6,rfl,_⟩ := hvx.shape
  have hn1 := HE.out.new_S w.heap.size (Nat.le_refl _)
  have hn2 := HE.out.ok_S _ HE.out.hok0
  have hb3 := HF2.out.hb1.kp hk3 (fun hs => (HE.out.new_S _ (by omega) hs))
  have z0 := hb3.frozen 0
  have z1 := hb3.frozen 1
  have z2 := hb3.frozen 2
  have y0 := hb3.cell 0
  have y1 := hb3.cell 1
  have y2 := hb3.cell 2
  simp at y0 y1 y2
  have HD := Lib.hid (form_done HE.out HF2.out hvx hk3 hen htl)
  have hk4 := ((Kp.refl (fun _ => False) W2).drew.mono (fun _ _ h => h.elim)).then_ (S := S3 rg cg _) hk3 (fun j hj => .inl hj)
  have hS2 := HSK.out _ w3 hk4 hn1 hn2
  have hS3 := fun u0 u1 u2 => HSK.out (fun j => S3 rg cg _ j ∨ j = w.heap.size + 1) _ ((hk4.mono (fun _ _ h => .inl h)).put3 (B := w.heap.size + 1) (.inl (.inr rfl)) u0 u1 u2) (fun hh => hh.elim hn1 (fun e => by omega)) (fun hh => hh.elim hn2 (fun e => by have := HE.out.hokl _ HE.out.hok0;omega))
  clear hb3 hvx hk3 hen htl hfp hk4
  generalize hl5 : x.a.b.length = l5 at HD ⊢
  generalize hl6 : x.l.length = l6 at HD ⊢
  generalize hn5 : x.a.n = n5 at HD ⊢
  try dsimp only
  refine hK.out _ _ hS2 (fun hHeld => ?_)
  clear hK K
  refine wpAnyH_ready (rs := [8]) (by kernel_rfl) (by simp) ?_
  refine (AllReadyH.cons (o := _) rfl (fun K hK => ?_) AllReadyH.nil)
  go_simp
  try dsimp only
  refine hK.out _ _ (hS3 _ _ _) (fun hHeld => ?_)
  clear hK K
  refine wpAnyH_done (by kernel_rfl) ?_ _
  refine NoPanic.normal ?_
  go_wp2_with fail
  exact bodyPost_ret (v := .agg #[.int .u64 n5,.slice A5 l5 c5,.slice A6 l6 c6]) (by simp [results,Tryd.results41,go_sem,y0,y1,y2]) rfl HD.out
end Go.Proofs.YtdhnfccgojgehaaDoor
