/-
  Texts for the law WriteRows: part 2.
-/
import Derived.Test.YtdhnfccgojgehaaProg
import Derived.Below
import Derived.Deep.Draws
import Derived.Deep.AppendLies
import Derived.Maps.AppendAt
import Derived.OwnWalk
import Derived.Laws.BytesArg
import Derived.Laws.MakeOwn
import Derived.Laws.OwnMore
import Derived.Deep.OwnRows
import Derived.Tactics
import Derived.Lib.ConvBytes
import Derived.Laws.Slices
import Derived.WalkKit
import Derived.KernelRfl
import Derived.RowKit3
import Derived.Deep.LoopGhost
import Derived.Deep.QuietTactic
import Derived.BigQuiet
import Derived.WideLaws
import Derived.Deep.DeepCutAuto
import Derived.Deep.CutBlock
import Derived.Deep.RegionHeld3
import Derived.Laws.Rows
import Derived.Lib.AppendStr
import Derived.ArgAppend
import Derived.Laws.IdiomCopy
import Derived.OrdersHeld
import Derived.Laws.BitsLemmas
import Derived.RowKit
import Derived.Deep.CutRange
import Derived.Test.YtdhnfccgojgehaaMWriteRows1

set_option linter.unusedVariables false
set_option linter.unusedSimpArgs false
namespace Go.Proofs.Ytdhnfccgojgehaa.QP
open Go.RowKit Go.Proofs.YtdhnfccgojgehaaW.PrintWords Go.Proofs.YtdhnfccgojgehaaW.PrintLast Go.Proofs.YtdhnfccgojgehaaW.PrintMore
attribute [local go_sem] max2_int min2_int max_two min_two max_three min_three max_four min_four   -- for this text's walks alone
set_option linter.unusedVariables false
set_option linter.unusedSimpArgs false

def errW : Option Int → Value
 | none => .nilIface
 | some c => .iface 0 (.int .i64 c)
theorem errW_none : errW none = .nilIface := rfl
theorem errW_some (c : Int) : errW (some c) = .iface 0 (.int .i64 c) := rfl

-- the values' own types
/-! #### struct type 24, nested in itself -/
structure S24 where
 f0 : Int
 f1 : Int
 f2 : Int
 f3 : Int
 f4 : Int
 f5 : (List S24)
def z24 : S24 := ⟨(0 : Int),(0 : Int),(0 : Int),(0 : Int),(0 : Int),([] : List S24)⟩
def F24 (d : Kd S24) : Kd S24 := Kd.iso (Kd.pair (Kd.int .i64) (Kd.pair (Kd.int .i64) (Kd.pair (Kd.int .i64) (Kd.pair (Kd.int .i64) (Kd.pair (Kd.int .i64) (Kd.slice 24 d)))))) (fun x : S24 => (x.f0,x.f1,x.f2,x.f3,x.f4,x.f5))
theorem mono24 : Kd.Mono F24 := Kd.mono_iso _ (Kd.mono_pair (Kd.mono_const _) (Kd.mono_pair (Kd.mono_const _) (Kd.mono_pair (Kd.mono_const _) (Kd.mono_pair (Kd.mono_const _) (Kd.mono_pair (Kd.mono_const _) (Kd.mono_slice 24 Kd.mono_id))))))
theorem sub24 : Kd.Sub F24 [24] := Kd.sub_iso _ (Kd.sub_pair (Kd.sub_const _ (by decide)) (Kd.sub_pair (Kd.sub_const _ (by decide)) (Kd.sub_pair (Kd.sub_const _ (by decide)) (Kd.sub_pair (Kd.sub_const _ (by decide)) (Kd.sub_pair (Kd.sub_const _ (by decide)) (Kd.sub_slice 24 (by decide) Kd.sub_id))))))
theorem sz24 : ∀ n,(Kd.upto F24 6 [24] n).sz = 6 := Kd.upto_sz (fun _ => rfl)
def k24 : Kd S24 := Kd.fix F24 6 [24] sz24 (Kd.upto_E sub24)
theorem k24_heap : Kd.Heap k24 := Kd.heap_fix (fun _ h_ => Kd.heap_iso _ (Kd.heap_pair (Kd.heap_int .i64) (Kd.heap_pair (Kd.heap_int .i64) (Kd.heap_pair (Kd.heap_int .i64) (Kd.heap_pair (Kd.heap_int .i64) (Kd.heap_pair (Kd.heap_int .i64) (Kd.heap_slice 24 h_)))))))
theorem k24_open {w : World} {x : S24} {cs : List Value} (h : k24.K w x cs) : ∃ A5 c5,cs = [.int .i64 x.f0,.int .i64 x.f1,.int .i64 x.f2,.int .i64 x.f3,.int .i64 x.f4,.slice A5 x.f5.length c5] ∧ x.f5.length ≤ c5 ∧ k24.C w A5 x.f5.length x.f5 := by
 obtain ⟨n,h⟩ := h
 cases n with
 | zero => exact h.elim
 | succ n =>
  obtain ⟨_,_,rfl,rfl,⟨_,_,rfl,rfl,⟨_,_,rfl,rfl,⟨_,_,rfl,rfl,⟨_,_,rfl,rfl,⟨A5,c5,rfl,l5,g5⟩⟩⟩⟩⟩⟩ := h
  exact ⟨A5,c5,rfl,l5,Kd.fix_C g5⟩
theorem k24_mk (w : World) (x : S24) {A5 : Option Addr} {c5 : Nat} (l5 : x.f5.length ≤ c5) (g5 : k24.C w A5 x.f5.length x.f5) : k24.K w x [.int .i64 x.f0,.int .i64 x.f1,.int .i64 x.f2,.int .i64 x.f3,.int .i64 x.f4,.slice A5 x.f5.length c5] := by
 obtain ⟨n5,q5⟩ := Kd.fix_C_back mono24 g5
 have r5 := Kd.upto_C_le mono24 sz24 (show n5 ≤ n5 by omega) q5
 exact ⟨n5 + 1,⟨[.int .i64 x.f0],[.int .i64 x.f1,.int .i64 x.f2,.int .i64 x.f3,.int .i64 x.f4,.slice A5 x.f5.length c5],rfl,rfl,⟨[.int .i64 x.f1],[.int .i64 x.f2,.int .i64 x.f3,.int .i64 x.f4,.slice A5 x.f5.length c5],rfl,rfl,⟨[.int .i64 x.f2],[.int .i64 x.f3,.int .i64 x.f4,.slice A5 x.f5.length c5],rfl,rfl,⟨[.int .i64 x.f3],[.int .i64 x.f4,.slice A5 x.f5.length c5],rfl,rfl,⟨[.int .i64 x.f4],[.slice A5 x.f5.length c5],rfl,rfl,⟨A5,c5,rfl,l5,r5⟩⟩⟩⟩⟩⟩⟩
theorem k24_openF {W : World} {ok : Nat → Prop} {x : S24} {cs : List Value} (h : Kd.FK k24 W ok x cs) : ∃ A5 c5,cs = [.int .i64 x.f0,.int .i64 x.f1,.int .i64 x.f2,.int .i64 x.f3,.int .i64 x.f4,.slice A5 x.f5.length c5] ∧ x.f5.length ≤ c5 ∧ Kd.F k24 W ok A5 x.f5.length x.f5 := by
 obtain ⟨A5,c5,rfl,l5,_⟩ := k24_open (Kd.FK_now h)
 exact ⟨A5,c5,rfl,l5,(fun W' hW => by obtain ⟨A5_,c5_,he,l5_,g5_⟩ := k24_open (h W' hW);injection (Option.some.inj (show some (Value.slice A5 x.f5.length c5) = some (Value.slice A5_ x.f5.length c5_) from congrArg (fun l => l[5]?) he)) with ha_ _ _;rw [ha_];exact g5_)⟩
def rd_T24 (xs : List S24) (i : Int) : S24 := xs.getD i.toNat z24
theorem at_T24 {w : World} {A : Option Addr} {n : Nat} {xs : List S24} (h : Kd.C k24 w A n xs) (i : Int) (h0 : 0 ≤ i) (h1 : i < n) : ∃ ad A5 c5,A = some ad ∧ w.cell? (ad.add (i.toNat * 6)) = some (.int .i64 (rd_T24 xs i).f0) ∧ w.cell? ⟨(ad.add (i.toNat * 6)).block,(ad.add (i.toNat * 6)).off + 1,none⟩ = some (.int .i64 (rd_T24 xs i).f1) ∧ w.cell? ⟨(ad.add (i.toNat * 6)).block,(ad.add (i.toNat * 6)).off + 2,none⟩ = some (.int .i64 (rd_T24 xs i).f2) ∧ w.cell? ⟨(ad.add (i.toNat * 6)).block,(ad.add (i.toNat * 6)).off + 3,none⟩ = some (.int .i64 (rd_T24 xs i).f3) ∧ w.cell? ⟨(ad.add (i.toNat * 6)).block,(ad.add (i.toNat * 6)).off + 4,none⟩ = some (.int .i64 (rd_T24 xs i).f4) ∧ w.cell? ⟨(ad.add (i.toNat * 6)).block,(ad.add (i.toNat * 6)).off + 5,none⟩ = some (.slice A5 (rd_T24 xs i).f5.length c5) ∧ (rd_T24 xs i).f5.length ≤ c5 ∧ k24.C w A5 (rd_T24 xs i).f5.length (rd_T24 xs i).f5 := by
 obtain ⟨ad,c,e,_,hK,hc0⟩ := Kd.C_get h z24 i h0 h1
 have hc : ∀ j u,c[j]? = some u → w.cell? (ad.add (i.toNat * 6 + j)) = some u := hc0
 obtain ⟨A5,c5,rfl,l5,g5⟩ := k24_open hK
 exact ⟨ad,A5,c5,e,hc 0 _ rfl,by rw [← add_field _ _ 1 (by omega)];exact hc 1 _ rfl,by rw [← add_field _ _ 2 (by omega)];exact hc 2 _ rfl,by rw [← add_field _ _ 3 (by omega)];exact hc 3 _ rfl,by rw [← add_field _ _ 4 (by omega)];exact hc 4 _ rfl,by rw [← add_field _ _ 5 (by omega)];exact hc 5 _ rfl,l5,g5⟩

def rd_L4 (xs : List (List Int)) (i : Int) : (List Int) := xs.getD i.toNat ([] : List Int)
/-! #### struct type 29, nested in itself -/
structure S29 where
 f0 : Int
 f1 : (List Int)
 f2 : (List S29)
def z29 : S29 := ⟨(0 : Int),([] : List Int),([] : List S29)⟩
def F29 (d : Kd S29) : Kd S29 := Kd.iso (Kd.pair (Kd.int .u64) (Kd.pair (Kd.slice 5 (Kd.int .u8)) (Kd.slice 29 d))) (fun x : S29 => (x.f0,x.f1,x.f2))
theorem mono29 : Kd.Mono F29 := Kd.mono_iso _ (Kd.mono_pair (Kd.mono_const _) (Kd.mono_pair (Kd.mono_const _) (Kd.mono_slice 29 Kd.mono_id)))
theorem sub29 : Kd.Sub F29 [5,29] := Kd.sub_iso _ (Kd.sub_pair (Kd.sub_const _ (by decide)) (Kd.sub_pair (Kd.sub_const _ (by decide)) (Kd.sub_slice 29 (by decide) Kd.sub_id)))
theorem sz29 : ∀ n,(Kd.upto F29 3 [5,29] n).sz = 3 := Kd.upto_sz (fun _ => rfl)
def k29 : Kd S29 := Kd.fix F29 3 [5,29] sz29 (Kd.upto_E sub29)
theorem k29_open {w : World} {x : S29} {cs : List Value} (h : k29.K w x cs) : ∃ A1 c1 A2 c2,cs = [.int .u64 x.f0,.slice A1 x.f1.length c1,.slice A2 x.f2.length c2] ∧ x.f1.length ≤ c1 ∧ (Kd.int .u8).C w A1 x.f1.length x.f1 ∧ x.f2.length ≤ c2 ∧ k29.C w A2 x.f2.length x.f2 := by
 obtain ⟨n,h⟩ := h
 cases n with
 | zero => exact h.elim
 | succ n =>
  obtain ⟨_,_,rfl,rfl,⟨_,_,rfl,⟨A1,c1,rfl,l1,g1⟩,⟨A2,c2,rfl,l2,g2⟩⟩⟩ := h
  exact ⟨A1,c1,A2,c2,rfl,l1,g1,l2,Kd.fix_C g2⟩
theorem k29_mk (w : World) (x : S29) {A1 : Option Addr} {c1 : Nat} (l1 : x.f1.length ≤ c1) (g1 : (Kd.int .u8).C w A1 x.f1.length x.f1) {A2 : Option Addr} {c2 : Nat} (l2 : x.f2.length ≤ c2) (g2 : k29.C w A2 x.f2.length x.f2) : k29.K w x [.int .u64 x.f0,.slice A1 x.f1.length c1,.slice A2 x.f2.length c2] := by
 obtain ⟨n2,q2⟩ := Kd.fix_C_back mono29 g2
 have r2 := Kd.upto_C_le mono29 sz29 (show n2 ≤ n2 by omega) q2
 exact ⟨n2 + 1,⟨[.int .u64 x.f0],[.slice A1 x.f1.length c1,.slice A2 x.f2.length c2],rfl,rfl,⟨[.slice A1 x.f1.length c1],[.slice A2 x.f2.length c2],rfl,⟨A1,c1,rfl,l1,g1⟩,⟨A2,c2,rfl,l2,r2⟩⟩⟩⟩
def rd_T29 (xs : List S29) (i : Int) : S29 := xs.getD i.toNat z29
theorem at_T29 {w : World} {A : Option Addr} {n : Nat} {xs : List S29} (h : Kd.C k29 w A n xs) (i : Int) (h0 : 0 ≤ i) (h1 : i < n) : ∃ ad A1 c1 A2 c2,A = some ad ∧ w.cell? (ad.add (i.toNat * 3)) = some (.int .u64 (rd_T29 xs i).f0) ∧ w.cell? ⟨(ad.add (i.toNat * 3)).block,(ad.add (i.toNat * 3)).off + 1,none⟩ = some (.slice A1 (rd_T29 xs i).f1.length c1) ∧ w.cell? ⟨(ad.add (i.toNat * 3)).block,(ad.add (i.toNat * 3)).off + 2,none⟩ = some (.slice A2 (rd_T29 xs i).f2.length c2) ∧ (rd_T29 xs i).f1.length ≤ c1 ∧ (Kd.int .u8).C w A1 (rd_T29 xs i).f1.length (rd_T29 xs i).f1 ∧ (rd_T29 xs i).f2.length ≤ c2 ∧ k29.C w A2 (rd_T29 xs i).f2.length (rd_T29 xs i).f2 := by
 obtain ⟨ad,c,e,_,hK,hc0⟩ := Kd.C_get h z29 i h0 h1
 have hc : ∀ j u,c[j]? = some u → w.cell? (ad.add (i.toNat * 3 + j)) = some u := hc0
 obtain ⟨A1,c1,A2,c2,rfl,l1,g1,l2,g2⟩ := k29_open hK
 exact ⟨ad,A1,c1,A2,c2,e,hc 0 _ rfl,by rw [← add_field _ _ 1 (by omega)];exact hc 1 _ rfl,by rw [← add_field _ _ 2 (by omega)];exact hc 2 _ rfl,l1,g1,l2,g2⟩

end Go.Proofs.Ytdhnfccgojgehaa.QP

namespace Go.Proofs.Ytdhnfccgojgehaa
open Go.RowKit

abbrev SF := QP.S24
abbrev kF : YtdhnfccgojgehaaW.PrintWords.Kd SF := QP.k24
mutual
def toF : SF → Fm
 | ⟨a,b,c,d,e,l⟩ => .mk ⟨a,b,c,d,e⟩ (toFs l)
def toFs : List SF → List Fm
 | [] => []
 | x :: l => toF x :: toFs l
end
mutual
def ofF : Fm → SF
 | .mk a l => ⟨a.k,a.s,a.lo,a.hi,a.st,ofFs l⟩
def ofFs : List Fm → List SF
 | [] => []
 | x :: l => ofF x :: ofFs l
end
theorem toFs_map (l : List SF) : toFs l = l.map toF := by
 induction l with
 | nil => rw [toFs];rfl
 | cons x l ih => rw [toFs,ih];rfl
theorem ofFs_map (l : List Fm) : ofFs l = l.map ofF := by
 induction l with
 | nil => rw [ofFs];rfl
 | cons x l ih => rw [ofFs,ih];rfl
theorem toF_mk (a b c d e : Int) (l : List SF) : toF ⟨a,b,c,d,e,l⟩ = .mk ⟨a,b,c,d,e⟩ (l.map toF) := by rw [toF,toFs_map]
theorem ofF_mk (a : FH) (l : List Fm) : ofF (.mk a l) = ⟨a.k,a.s,a.lo,a.hi,a.st,l.map ofF⟩ := by rw [ofF,ofFs_map]
theorem to_ofF (x : Fm) : toF (ofF x) = x := by
 induction x using RT.induct with
 | h a l ih =>
 rw [ofF_mk,toF_mk]
 congr 1
 rw [List.map_map]
 conv => rhs;rw [← List.map_id l]
 exact List.map_congr_left ih
theorem map_to_ofF (l : List Fm) : (l.map ofF).map toF = l := by
 rw [List.map_map]
 conv => rhs;rw [← List.map_id l]
 exact List.map_congr_left (fun x _ => to_ofF x)
/-- An element, as the printed texts read it. -/
theorem rd_ofF (l : List Fm) (j : Nat) (h : j < l.length) : QP.rd_T24 (l.map ofF) (j : Int) = ofF l[j] := by
 simp [QP.rd_T24,h]
def okI (x : Int) : Bool := decide (-9223372036854775808 ≤ x) && decide (x < 9223372036854775808)
theorem okI_iff (x : Int) : okI x = true ↔ i64B x := by simp [okI,i64B]
def okFH (a : FH) : Bool := okI a.k && (okI a.s && (okI a.lo && (okI a.hi && okI a.st)))
theorem okFH_iff (a : FH) : okFH a = true ↔ a.ok := by
 simp only [okFH,Bool.and_eq_true,okI_iff]
 exact ⟨fun ⟨h1,h2,h3,h4,h5⟩ => ⟨h1,h2,h3,h4,h5⟩,fun h => ⟨h.k,h.s,h.lo,h.hi,h.st⟩⟩
mutual
/-- Numbers of 64 bits, and lengths that there may be. -/
def wfF : Fm → Bool
 | .mk a l => okFH a && (decide (l.length ≤ 140737488355328) && wfFs l)
def wfFs : List Fm → Bool
 | [] => true
 | x :: l => wfF x && wfFs l
end
theorem wfFs_iff (l : List Fm) : wfFs l = true ↔ ∀ x ∈ l,wfF x = true := by
 induction l with
 | nil => rw [wfFs];simp
 | cons x l ih => rw [wfFs];simp [ih]
theorem wfF_mk (a : FH) (l : List Fm) : wfF (.mk a l) = true ↔ a.ok ∧ l.length ≤ 140737488355328 ∧ ∀ x ∈ l,wfF x = true := by
 rw [wfF]
 simp only [Bool.and_eq_true,okFH_iff,decide_eq_true_eq,wfFs_iff]
section
open YtdhnfccgojgehaaW.PrintWords
theorem tr_wfF {w : World} {ok : Nat → Prop} (x : Fm) : ∀ cs,TR FHd 6 w ok x cs → wfF x = true := by
 induction x using RT.induct with
 | h a l ih =>
 intro cs h
 obtain ⟨hd,A,c,_,_,⟨_,ho⟩,_,h2,h3⟩ := (TR_def _ _ _ _ _ _).1 h
 refine (wfF_mk _ _).2 ⟨ho,h2,fun x hx => ?_⟩
 obtain ⟨i,hi,rfl⟩ := List.mem_iff_getElem.1 hx
 obtain ⟨b,off,cs',_,_,ht,_⟩ := h3.at_ hi
 exact ih _ hx cs' ht
theorem tl_c {w : World} {ok : Nat → Prop} {l : List Fm} {A : Option Addr} (hl : l.length ≤ 140737488355328) (h : TL FHd 6 w ok l A) (hk : ∀ x ∈ l,∀ cs,TR FHd 6 w ok x cs → kF.K w (ofF x) cs) : kF.C w A (l.map ofF).length (l.map ofF) := by
 refine ⟨rfl,by rw [List.length_map];omega,fun h0 => ?_⟩
 rw [List.length_map] at h0
 obtain ⟨b,off,e,_,ht⟩ := h h0
 refine ⟨_,e,fun j p hj => ?_⟩
 rw [List.getElem?_map] at hj
 obtain ⟨x,hx,rfl⟩ := Option.map_eq_some_iff.1 hj
 obtain ⟨hjl,rfl⟩ := List.getElem?_eq_some_iff.1 hx
 obtain ⟨cs,h1,h2⟩ := ht.at_ hjl
 refine ⟨cs,?_,hk _ (List.getElem_mem hjl) cs h1,fun i u hu => ?_⟩
 ·obtain ⟨hd,A',c',e',hl',_⟩ := (TR_def _ _ _ _ _ _).1 h1
  rw [e',List.length_append]
  exact hl'
 ·rw [add_spot]
  have := h2 i u hu
  rwa [Nat.add_assoc] at this
theorem tr_k {w : World} {ok : Nat → Prop} (x : Fm) : ∀ cs,TR FHd 6 w ok x cs → kF.K w (ofF x) cs := by
 induction x using RT.induct with
 | h a l ih =>
 intro cs h
 obtain ⟨hd,A,c,e,_,⟨hh,_⟩,h1,h2,h3⟩ := (TR_def _ _ _ _ _ _).1 h
 subst hh
 subst e
 rw [ofF_mk]
 have hc := tl_c h2 h3 ih
 have := QP.k24_mk w ⟨a.k,a.s,a.lo,a.hi,a.st,l.map ofF⟩ (A5 := A) (c5 := c) (by simpa using (show l.length ≤ c from h1)) hc
 rw [List.length_map] at this
 exact this
/-- Forms in a slice, for the printed texts. -/
theorem FsR.c {w : World} {ok : Nat → Prop} {A : Option Addr} {n c : Nat} {l : List Fm} (h : FsR w ok (.slice A n c) l) : n = (l.map ofF).length ∧ (l.map ofF).length ≤ c ∧ kF.C w A (l.map ofF).length (l.map ofF) := by
 obtain ⟨A',c',e,h1,h2,h3⟩ := h
 injection e with e1 e2 e3
 subst e1 e2 e3
 exact ⟨by simp,by simpa using h1,tl_c h2 h3 (fun x _ => tr_k x)⟩
theorem FsR.wf {w : World} {ok : Nat → Prop} {v : Value} {l : List Fm} (h : FsR w ok v l) : l.length ≤ 140737488355328 ∧ ∀ x ∈ l,wfF x = true := by
 obtain ⟨A',c',e,h1,h2,h3⟩ := h
 refine ⟨h2,fun x hx => ?_⟩
 obtain ⟨i,hi,rfl⟩ := List.mem_iff_getElem.1 hx
 obtain ⟨b,off,cs',_,_,ht,_⟩ := h3.at_ hi
 exact tr_wfF _ cs' ht
/-- The other way. -/
theorem c_tl {w : World} {l : List SF} {A : Option Addr} {n : Nat} (h : kF.C w A n l) (hk : ∀ x ∈ l,∀ cs,kF.K w x cs → TR FHd 6 w (· < w.heap.size) (toF x) cs) : TL FHd 6 w (· < w.heap.size) (l.map toF) A := by
 intro h0
 rw [List.length_map] at h0
 obtain ⟨hl,_,hc⟩ := h
 obtain ⟨ad,e,hcell⟩ := hc (by omega)
 have each : ∀ i (hi : i < l.length),∃ cs,TR FHd 6 w (· < w.heap.size) (toF l[i]) cs ∧ ∀ j u,cs[j]? = some u → w.cell? (ad.add (i * 6 + j)) = some u := by
  intro i hi
  obtain ⟨cs,_,h2,h3⟩ := hcell i _ (List.getElem?_eq_getElem hi)
  exact ⟨cs,hk _ (List.getElem_mem hi) cs h2,h3⟩
 obtain ⟨cs0,t0,c0⟩ := each 0 h0
 obtain ⟨hd,A',c',e',hl',_⟩ := (TR_def _ _ _ _ _ _).1 t0
 have hlen : 0 < cs0.length := by rw [e'];simp
 have hc0 := c0 0 _ (List.getElem?_eq_getElem hlen)
 have hsp := World.cell?_spot hc0
 have hbk := cell_lt hc0
 rw [block_add] at hbk
 obtain ⟨b,off,spot⟩ := ad
 obtain rfl : spot = none := by simpa [Addr.add] using hsp
 refine ⟨b,off,e,hbk,TRs.of (fun i hi => ?_)⟩
 rw [List.length_map] at hi
 obtain ⟨cs,h1,h2⟩ := each i hi
 refine ⟨cs,by simpa using h1,fun j u hu => ?_⟩
 have := h2 j u hu
 rw [add_spot] at this
 rwa [Nat.add_assoc]
theorem k_tr {w : World} : ∀ (f : Fm) (x : SF),toF x = f → wfF f = true → ∀ cs,kF.K w x cs → TR FHd 6 w (· < w.heap.size) f cs := by
 intro f
 induction f using RT.induct with
 | h a l ih =>
 intro x hx hw cs hk
 obtain ⟨x0,x1,x2,x3,x4,xl⟩ := x
 rw [toF_mk] at hx
 injection hx with ha hl
 subst ha hl
 obtain ⟨ho,hl,hws⟩ := (wfF_mk _ _).1 hw
 obtain ⟨A,c,rfl,h1,h2⟩ := QP.k24_open hk
 have ht := c_tl h2 (fun y hy cs' hk' => ih _ (List.mem_map_of_mem hy) y rfl (hws _ (List.mem_map_of_mem hy)) cs' hk')
 rw [List.length_map] at hl
 refine (TR_def _ _ _ _ _ _).2 ⟨[.int .i64 x0,.int .i64 x1,.int .i64 x2,.int .i64 x3,.int .i64 x4],A,c,?_,rfl,⟨rfl,ho⟩,?_,?_,ht⟩
 ·simp [RT.l]
 ·simpa [RT.l] using h1
 ·simpa [RT.l] using hl
theorem c_FsR {w : World} {l : List SF} {A : Option Addr} {c : Nat} (h : kF.C w A l.length l) (hc : l.length ≤ c) (hw : ∀ x ∈ l.map toF,wfF x = true) (hl : l.length ≤ 140737488355328) : FsR w (· < w.heap.size) (.slice A l.length c) (l.map toF) :=
 ⟨A,c,by simp,by simpa using hc,by simpa using hl,c_tl h (fun x hx cs hk => k_tr _ x rfl (hw _ (List.mem_map_of_mem hx)) cs hk)⟩
/-- A form that is handed over. -/
theorem c_FmR {w : World} {a0 a1 a2 a3 a4 : Int} {l : List SF} {A : Option Addr} {c : Nat} (h : kF.C w A l.length l) (hc : l.length ≤ c) (hw : wfF (toF ⟨a0,a1,a2,a3,a4,l⟩) = true) :
  FmR w (· < w.heap.size) (.agg #[.int .i64 a0,.int .i64 a1,.int .i64 a2,.int .i64 a3,.int .i64 a4,.slice A l.length c]) (toF ⟨a0,a1,a2,a3,a4,l⟩) := by
 rw [toF_mk] at hw ⊢
 obtain ⟨ho,hl,hws⟩ := (wfF_mk _ _).1 hw
 rw [List.length_map] at hl
 exact ⟨_,rfl,ho,c_FsR h hc hws hl⟩
end
end Go.Proofs.Ytdhnfccgojgehaa

namespace Go.Proofs.Ytdhnfccgojgehaa
open Go.RowKit YtdhnfccgojgehaaW.PrintWords

set_option linter.unusedVariables false
theorem Ev.ip {α : Type} {c : Prop} [Decidable c] {a b : Nat → Option α} {r : α} (h : c) (k : Ev a r) : Ev (fun n => if c then a n else b n) r := Ev.congr (fun n => if_pos h) k
theorem Ev.in_ {α : Type} {c : Prop} [Decidable c] {a b : Nat → Option α} {r : α} (h : ¬ c) (k : Ev b r) : Ev (fun n => if c then a n else b n) r := Ev.congr (fun n => if_neg h) k
theorem Ev.is {α : Type} {x : Option α} {r : α} (h : x = some r) : Ev (fun _ => x) r := ⟨0,fun _ _ => h⟩
theorem Ev.eq_ {α : Type} {g : Nat → Option α} {r r' : α} (k : Ev g r) (h : r = r') : Ev g r' := h ▸ k
/-- A call that counts no rounds. -/
theorem Ev.cb {α β : Type} {x : Option α} {f : Nat → α → Option β} {a : α} {r : β} (h : x = some a) (k : Ev (fun n => f n a) r) : Ev (fun n => x.bind (f n)) r := Ev.bind (Ev.is h) k
/-- The answer's own cases. -/
theorem Ev.rp {α : Type} {c : Prop} [Decidable c] {g : Nat → Option α} {a b : α} (h : c) (k : Ev g a) : Ev g (if c then a else b) := Ev.eq_ k (if_pos h).symm
theorem Ev.rn {α : Type} {c : Prop} [Decidable c] {g : Nat → Option α} {a b : α} (h : ¬ c) (k : Ev g b) : Ev g (if c then a else b) := Ev.eq_ k (if_neg h).symm
/-- Either way. -/
theorem Ev.sp {α : Type} {c : Prop} [Decidable c] {a b : Nat → Option α} {r : α} (h1 : c → Ev a r) (h2 : ¬ c → Ev b r) : Ev (fun n => if c then a n else b n) r := by
 by_cases h : c
 ·exact Ev.ip h (h1 h)
 ·exact Ev.in_ h (h2 h)
theorem w64 {x : Int} (h1 : -9223372036854775808 ≤ x) (h2 : x < 9223372036854775808) : wrap64 x = x := by unfold wrap64;omega
end Go.Proofs.Ytdhnfccgojgehaa

namespace Go.Proofs.Ytdhnfccgojgehaa
open Go.RowKit

/-- A value that reads as a form, of blocks that there are. -/
def FmW (w : World) (v : Value) (f : Fm) : Prop := FmR w (· < w.heap.size) v f
theorem FmW.kp {w w' : World} {v : Value} {f : Fm} (h : FmW w v f) (hk : Kp (fun _ => False) w w') : FmW w' v f :=
 (FmR.kp h hk (fun _ _ h => h)).mono (fun _ hi => Nat.lt_of_lt_of_le hi hk.size)
/-- A form without parts. -/
def flat (k s lo hi st : Int) : Value := .agg #[.int .i64 k,.int .i64 s,.int .i64 lo,.int .i64 hi,.int .i64 st,.slice none 0 0]
theorem FmW.flat (w : World) (k s lo hi st : Int) (hk : i64B k) (hs : i64B s) (hlo : i64B lo) (hhi : i64B hi) (hst : i64B st) : FmW w (.agg #[.int .i64 k,.int .i64 s,.int .i64 lo,.int .i64 hi,.int .i64 st,.slice none 0 0]) (.mk ⟨k,s,lo,hi,st⟩ []) :=
 ⟨_,rfl,⟨hk,hs,hlo,hhi,hst⟩,FsR.nil⟩
theorem b0 : i64B 0 := by unfold i64B;omega
theorem b1 : i64B 1 := by unfold i64B;omega
theorem b2 : i64B 2 := by unfold i64B;omega

/-- One form, laid as a slice. -/
theorem FsR.one {w : World} {f : Fm} {A : Option Addr} {c : Nat} (h : FmW w (.agg #[.int .i64 f.a.k,.int .i64 f.a.s,.int .i64 f.a.lo,.int .i64 f.a.hi,.int .i64 f.a.st,.slice A f.l.length c]) f) {W : World} {B : Nat}
  (hk : Kp (fun _ => False) w W) (hB : Blk W B 24 #[.int .i64 f.a.k,.int .i64 f.a.s,.int .i64 f.a.lo,.int .i64 f.a.hi,.int .i64 f.a.st,.slice A f.l.length c]) :
  FsR W (· < W.heap.size) (.slice (some ⟨B,0,none⟩) 1 1) [f] := by
 refine ⟨_,_,rfl,Nat.le_refl _,by simp,fun _ => ⟨B,0,rfl,hB.lt,?_⟩⟩
 rw [TRs]
 obtain ⟨sv,e,ht⟩ := FmR.tr (h.kp hk)
 simp only [Value.agg.injEq,Array.mk.injEq,List.cons.injEq,and_true,true_and] at e
 subst e
 refine ⟨⟨_,ht,fun j u hu => ?_⟩,by rw [TRs];trivial⟩
 rw [Nat.zero_add,hB.cell]
 simpa using hu

end Go.Proofs.Ytdhnfccgojgehaa

namespace Go.Proofs.Ytdhnfccgojgehaa
open Go.RowKit

mutual
/-- How many forms there are; no more than so many (and one) are told. -/
def cntR : Nat → Fm → Nat
 | m,.mk a l => if a.k = 2 ∨ a.k = 3 then cntL m 1 l else 1
def cntL : Nat → Nat → List Fm → Nat
 | _,n,[] => n
 | m,n,f :: t => if n ≤ m then cntL m (n + cntR (m - n) f) t else n
end
theorem cntR_parts (m : Nat) (f : Fm) : cntR m f = cntL m 1 (partsF f) := by
 obtain ⟨a,l⟩ := f
 rw [cntR]
 show _ = cntL m 1 (if a.k = 2 ∨ a.k = 3 then l else [])
 split
 ·rfl
 ·rw [cntL]
theorem cntL_drop {l : List Fm} {k m n : Nat} (hk : k < l.length) : cntL m n (l.drop k) = if n ≤ m then cntL m (n + cntR (m - n) l[k]) (l.drop (k + 1)) else n := by
 rw [List.drop_eq_getElem_cons hk,cntL]
theorem cntL_end {l : List Fm} {k m n : Nat} (hk : ¬ (k < l.length ∧ n ≤ m)) : cntL m n (l.drop k) = n := by
 by_cases h : k < l.length
 ·rw [cntL_drop h,if_neg (by omega)]
 ·rw [List.drop_of_length_le (by omega),cntL]
theorem cnt_bound (f : Fm) : ∀ m,1 ≤ cntR m f ∧ cntR m f ≤ m + 1 := by
 induction f using RT.induct with
 | h a l ih =>
 intro m
 rw [cntR]
 split
 ·have key : ∀ (t : List Fm),(∀ f ∈ t,∀ m,1 ≤ cntR m f ∧ cntR m f ≤ m + 1) → ∀ n,n ≤ m + 1 → n ≤ cntL m n t ∧ cntL m n t ≤ m + 1 := by
   intro t
   induction t with
   | nil => intro _ n hn;rw [cntL];omega
   | cons f t ih2 =>
    intro hf n hn
    rw [cntL]
    split
    ·have h1 := hf f (by simp) (m - n)
     have h2 := ih2 (fun g hg => hf g (by simp [hg])) (n + cntR (m - n) f) (by omega)
     omega
    ·omega
  exact key l ih 1 (by omega)
 ·omega

end Go.Proofs.Ytdhnfccgojgehaa

namespace Go.Proofs.Ytdhnfccgojgehaa.QP
open Go.RowKit Go.Proofs.YtdhnfccgojgehaaW.PrintWords Go.Proofs.YtdhnfccgojgehaaW.PrintLast Go.Proofs.YtdhnfccgojgehaaW.PrintMore
attribute [local go_sem] max2_int min2_int max_two min_two max_three min_three max_four min_four   -- for this text's walks alone
set_option linter.unusedVariables false
set_option linter.unusedSimpArgs false

/-! ### passepartoutref04_parts: function 32 -/
def passepartoutref04_parts.f (a0_0 : Int) (a0_1 : Int) (a0_2 : Int) (a0_3 : Int) (a0_4 : Int) (l0_5 : List (S24)) : Option ((List (S24))) := if a0_0 = 2 then (some l0_5) else (if a0_0 = 3 then (some l0_5) else (some ([] : List (S24))))
set_option maxHeartbeats 8000000 in
set_option maxRecDepth 100000 in
theorem passepartoutref04_parts.calls (a0_0 : Int) (a0_1 : Int) (a0_2 : Int) (a0_3 : Int) (a0_4 : Int) (P0_5_ : Nat → Prop) (A0_5 : Option Addr) (c0_5 : Nat) (l0_5 : List (S24)) (r : List (S24)) (w : World) (hs0_5 : Kd.V k24 24 w w.heap.size (fun k_ => P0_5_ k_) (.slice A0_5 l0_5.length c0_5) l0_5) (h : passepartoutref04_parts.f a0_0 a0_1 a0_2 a0_3 a0_4 l0_5 = some r) :
  Calls Try.prog 32 #[.agg #[.int .i64 a0_0,.int .i64 a0_1,.int .i64 a0_2,.int .i64 a0_3,.int .i64 a0_4,.slice A0_5 l0_5.length c0_5]] w fun e w' => ∃ v0_ : Value,e = .returned (v0_) ∧ Kd.V k24 24 w' w.heap.size (fun k_ => (P0_5_ k_ ∨ w.heap.size ≤ k_)) v0_ r ∧ Below w.heap.size w w' := by
 have hu24 := Try.underlying24
 have HO0_5 := Aside0.mk (show Kd.V k24 24 w w.heap.size (fun k_ => (P0_5_ k_ ∨ w.heap.size ≤ k_)) (.slice A0_5 l0_5.length c0_5) l0_5 from Kd.V_mono hs0_5 (fun k_ hk => .inl hk))
 have HB := Aside0.mk (Below.refl w.heap.size w)
 have H : (if a0_0 = 2 then (some l0_5) else (if a0_0 = 3 then (some l0_5) else (some ([] : List (S24))))) = some r := h
 clear h
 by_cases c2 : a0_0 = 2
 ·rw [if_pos c2] at H
  have c2b0 : (a0_0 == 2) = true := beq_iff_eq.mpr c2
  have c2b1 : (a0_0 != 2) = false := bne_eq_false_iff_eq.mpr c2
  clear c2
  obtain rfl := Option.some.inj H
  go_enter Try.func32,Try.ntmps32
  go_wp2_with (first | ((with_reducible refine gate_dst (N := 1) rfl ?_);refine box_event ?hg (N := 1) ?hd (cs := #[.int .i64 a0_0,.int .i64 a0_1,.int .i64 a0_2,.int .i64 a0_3,.int .i64 a0_4,.slice A0_5 l0_5.length c0_5]) (t := 24) ?hr ?_;(case hd => rfl);(case hg => rfl);(case hr => first | (go_simp;done) | (go_simp;rfl));intro gb101 hg w3 hbox hb;have n0_ := Aside0.mk (Kd.V_below (Kd.V_elderB (by (with_reducible repeat (first | apply Kd.V_alloc | apply Kd.V_drewN | apply Kd.V_drew));exact HO0_5.out) gb101 (Nat.le_of_eq hg.symm)) hb);have n1_ := Aside0.mk (below_step (by repeat (first | (with_reducible first | exact HB.out | apply below_alloc | apply pw_below_drewN | apply below_drew1) | exact HB.out)) hb);have n2_ := Aside0.mk (hbox);have n3_ := Aside0.mk ((by rw [hg];exact (below_size (by repeat (first | (with_reducible first | exact HB.out | apply below_alloc | apply pw_below_drewN | apply below_drew1) | exact HB.out))) : w.heap.size ≤ gb101));have n4_ := Aside0.mk ((by rw [hg];exact (below_size (by repeat (first | (with_reducible first | exact HB.out | apply below_alloc | apply pw_below_drewN | apply below_drew1) | exact HB.out))) : w.heap.size ≤ gb101));clear HO0_5;clear HB;have HO0_5 := n0_;have HB := n1_;have BK101 := n2_;have GW101 := n3_;have GE101 := n4_;clear n0_ n1_ n2_ n3_ n4_;clear hb hbox hg;have hcz4_0 : w3.cell? ⟨gb101,0,none⟩ = some (.int .i64 a0_0) := (blk_cell BK101.out 0).trans rfl;have hcz4_1 : w3.cell? ⟨gb101,1,none⟩ = some (.int .i64 a0_1) := (blk_cell BK101.out 1).trans rfl;have hcz4_2 : w3.cell? ⟨gb101,2,none⟩ = some (.int .i64 a0_2) := (blk_cell BK101.out 2).trans rfl;have hcz4_3 : w3.cell? ⟨gb101,3,none⟩ = some (.int .i64 a0_3) := (blk_cell BK101.out 3).trans rfl;have hcz4_4 : w3.cell? ⟨gb101,4,none⟩ = some (.int .i64 a0_4) := (blk_cell BK101.out 4).trans rfl;have hcz4_5 : w3.cell? ⟨gb101,5,none⟩ = some (.slice A0_5 l0_5.length c0_5) := (blk_cell BK101.out 5).trans rfl;have hfz4_0 := blk_frozen BK101.out 0;have hfz4_1 := blk_frozen BK101.out 1;have hfz4_2 := blk_frozen BK101.out 2;have hfz4_3 := blk_frozen BK101.out 3;have hfz4_4 := blk_frozen BK101.out 4;have hfz4_5 := blk_frozen BK101.out 5))
  go_ret
  exact ⟨_,by first | rfl | (simp [errW_none,errW_some] <;> rfl) | (simp [*,errW_none,errW_some] <;> rfl),by (with_reducible repeat (first | apply Kd.V_alloc | apply Kd.V_drewN | apply Kd.V_drew));exact Kd.V_mono HO0_5.out (fun _ hk => hk.1),by repeat (first | (with_reducible first | exact HB.out | apply below_alloc | apply pw_below_drewN | apply below_drew1 | refine below_set ?_ GE101.out) | exact HB.out)⟩
 ·rw [if_neg c2] at H
  have c2b0 : (a0_0 == 2) = false := beq_eq_false_iff_ne.mpr c2
  have c2b1 : (a0_0 != 2) = true := bne_iff_ne.mpr c2
  by_cases c5 : a0_0 = 3
  ·rw [if_pos c5] at H
   have c5b0 : (a0_0 == 3) = true := beq_iff_eq.mpr c5
   have c5b1 : (a0_0 != 3) = false := bne_eq_false_iff_eq.mpr c5
   clear c5
   obtain rfl := Option.some.inj H
   go_enter Try.func32,Try.ntmps32
   go_wp2_with (first | ((with_reducible refine gate_dst (N := 1) rfl ?_);refine box_event ?hg (N := 1) ?hd (cs := #[.int .i64 a0_0,.int .i64 a0_1,.int .i64 a0_2,.int .i64 a0_3,.int .i64 a0_4,.slice A0_5 l0_5.length c0_5]) (t := 24) ?hr ?_;(case hd => rfl);(case hg => rfl);(case hr => first | (go_simp;done) | (go_simp;rfl));intro gb101 hg w6 hbox hb;have n0_ := Aside0.mk (Kd.V_below (Kd.V_elderB (by (with_reducible repeat (first | apply Kd.V_alloc | apply Kd.V_drewN | apply Kd.V_drew));exact HO0_5.out) gb101 (Nat.le_of_eq hg.symm)) hb);have n1_ := Aside0.mk (below_step (by repeat (first | (with_reducible first | exact HB.out | apply below_alloc | apply pw_below_drewN | apply below_drew1) | exact HB.out)) hb);have n2_ := Aside0.mk (hbox);have n3_ := Aside0.mk ((by rw [hg];exact (below_size (by repeat (first | (with_reducible first | exact HB.out | apply below_alloc | apply pw_below_drewN | apply below_drew1) | exact HB.out))) : w.heap.size ≤ gb101));have n4_ := Aside0.mk ((by rw [hg];exact (below_size (by repeat (first | (with_reducible first | exact HB.out | apply below_alloc | apply pw_below_drewN | apply below_drew1) | exact HB.out))) : w.heap.size ≤ gb101));clear HO0_5;clear HB;have HO0_5 := n0_;have HB := n1_;have BK101 := n2_;have GW101 := n3_;have GE101 := n4_;clear n0_ n1_ n2_ n3_ n4_;clear hb hbox hg;have hcz7_0 : w6.cell? ⟨gb101,0,none⟩ = some (.int .i64 a0_0) := (blk_cell BK101.out 0).trans rfl;have hcz7_1 : w6.cell? ⟨gb101,1,none⟩ = some (.int .i64 a0_1) := (blk_cell BK101.out 1).trans rfl;have hcz7_2 : w6.cell? ⟨gb101,2,none⟩ = some (.int .i64 a0_2) := (blk_cell BK101.out 2).trans rfl;have hcz7_3 : w6.cell? ⟨gb101,3,none⟩ = some (.int .i64 a0_3) := (blk_cell BK101.out 3).trans rfl;have hcz7_4 : w6.cell? ⟨gb101,4,none⟩ = some (.int .i64 a0_4) := (blk_cell BK101.out 4).trans rfl;have hcz7_5 : w6.cell? ⟨gb101,5,none⟩ = some (.slice A0_5 l0_5.length c0_5) := (blk_cell BK101.out 5).trans rfl;have hfz7_0 := blk_frozen BK101.out 0;have hfz7_1 := blk_frozen BK101.out 1;have hfz7_2 := blk_frozen BK101.out 2;have hfz7_3 := blk_frozen BK101.out 3;have hfz7_4 := blk_frozen BK101.out 4;have hfz7_5 := blk_frozen BK101.out 5))
   go_ret
   exact ⟨_,by first | rfl | (simp [errW_none,errW_some] <;> rfl) | (simp [*,errW_none,errW_some] <;> rfl),by (with_reducible repeat (first | apply Kd.V_alloc | apply Kd.V_drewN | apply Kd.V_drew));exact Kd.V_mono HO0_5.out (fun _ hk => hk.1),by repeat (first | (with_reducible first | exact HB.out | apply below_alloc | apply pw_below_drewN | apply below_drew1 | refine below_set ?_ GE101.out) | exact HB.out)⟩
  ·rw [if_neg c5] at H
   have c5b0 : (a0_0 == 3) = false := beq_eq_false_iff_ne.mpr c5
   have c5b1 : (a0_0 != 3) = true := bne_iff_ne.mpr c5
   obtain rfl := Option.some.inj H
   go_enter Try.func32,Try.ntmps32
   go_wp2_with (first | ((with_reducible refine gate_dst (N := 1) rfl ?_);refine box_event ?hg (N := 1) ?hd (cs := #[.int .i64 a0_0,.int .i64 a0_1,.int .i64 a0_2,.int .i64 a0_3,.int .i64 a0_4,.slice A0_5 l0_5.length c0_5]) (t := 24) ?hr ?_;(case hd => rfl);(case hg => rfl);(case hr => first | (go_simp;done) | (go_simp;rfl));intro gb101 hg w8 hbox hb;have n0_ := Aside0.mk (Kd.V_below (Kd.V_elderB (by (with_reducible repeat (first | apply Kd.V_alloc | apply Kd.V_drewN | apply Kd.V_drew));exact HO0_5.out) gb101 (Nat.le_of_eq hg.symm)) hb);have n1_ := Aside0.mk (below_step (by repeat (first | (with_reducible first | exact HB.out | apply below_alloc | apply pw_below_drewN | apply below_drew1) | exact HB.out)) hb);have n2_ := Aside0.mk (hbox);have n3_ := Aside0.mk ((by rw [hg];exact (below_size (by repeat (first | (with_reducible first | exact HB.out | apply below_alloc | apply pw_below_drewN | apply below_drew1) | exact HB.out))) : w.heap.size ≤ gb101));have n4_ := Aside0.mk ((by rw [hg];exact (below_size (by repeat (first | (with_reducible first | exact HB.out | apply below_alloc | apply pw_below_drewN | apply below_drew1) | exact HB.out))) : w.heap.size ≤ gb101));clear HO0_5;clear HB;have HO0_5 := n0_;have HB := n1_;have BK101 := n2_;have GW101 := n3_;have GE101 := n4_;clear n0_ n1_ n2_ n3_ n4_;clear hb hbox hg;have hcz9_0 : w8.cell? ⟨gb101,0,none⟩ = some (.int .i64 a0_0) := (blk_cell BK101.out 0).trans rfl;have hcz9_1 : w8.cell? ⟨gb101,1,none⟩ = some (.int .i64 a0_1) := (blk_cell BK101.out 1).trans rfl;have hcz9_2 : w8.cell? ⟨gb101,2,none⟩ = some (.int .i64 a0_2) := (blk_cell BK101.out 2).trans rfl;have hcz9_3 : w8.cell? ⟨gb101,3,none⟩ = some (.int .i64 a0_3) := (blk_cell BK101.out 3).trans rfl;have hcz9_4 : w8.cell? ⟨gb101,4,none⟩ = some (.int .i64 a0_4) := (blk_cell BK101.out 4).trans rfl;have hcz9_5 : w8.cell? ⟨gb101,5,none⟩ = some (.slice A0_5 l0_5.length c0_5) := (blk_cell BK101.out 5).trans rfl;have hfz9_0 := blk_frozen BK101.out 0;have hfz9_1 := blk_frozen BK101.out 1;have hfz9_2 := blk_frozen BK101.out 2;have hfz9_3 := blk_frozen BK101.out 3;have hfz9_4 := blk_frozen BK101.out 4;have hfz9_5 := blk_frozen BK101.out 5))
   go_ret
   exact ⟨_,by first | rfl | (simp [errW_none,errW_some] <;> rfl) | (simp [*,errW_none,errW_some] <;> rfl),Kd.V_mono (Kd.V_nil _ _ _ _ (fun _ => False)) (fun k_ hk => by first | exact ⟨(.inr (hk.1)),hk.2⟩ | exact (.inr (hk)) | exact (show False from hk).elim),by repeat (first | (with_reducible first | exact HB.out | apply below_alloc | apply pw_below_drewN | apply below_drew1 | refine below_set ?_ GE101.out) | exact HB.out)⟩

end Go.Proofs.Ytdhnfccgojgehaa.QP

namespace Go.Proofs.Ytdhnfccgojgehaa.QP
open Go.RowKit Go.Proofs.YtdhnfccgojgehaaW.PrintWords Go.Proofs.YtdhnfccgojgehaaW.PrintLast Go.Proofs.YtdhnfccgojgehaaW.PrintMore
attribute [local go_sem] max2_int min2_int max_two min_two max_three min_three max_four min_four   -- for this text's walks alone
set_option linter.unusedVariables false
set_option linter.unusedSimpArgs false

/-! ### passepartoutref04_Count: function 17 -/
mutual
def passepartoutref04_Count.l0 : Nat → Int → Int → List (S24) → Int → Option (Int)
 | 0,_,_,_,_ => none
 | k + 1,x1,x5,x6,x7 => if x7 < (x6.length : Int) then (if x5 ≤ x1 then (if 0 ≤ x7 then ((passepartoutref04_Count.f k ((rd_T24 x6 x7).f0) ((rd_T24 x6 x7).f1) ((rd_T24 x6 x7).f2) ((rd_T24 x6 x7).f3) ((rd_T24 x6 x7).f4) ((rd_T24 x6 x7).f5) (wrap64 (x1 - x5))).bind fun t133 => (passepartoutref04_Count.l0 k x1 (wrap64 (x5 + t133)) x6 (wrap64 (x7 + 1)))) else (none)) else (some x5)) else (some x5)
def passepartoutref04_Count.f : Nat → Int → Int → Int → Int → Int → List (S24) → Int → Option (Int)
 | 0,_,_,_,_,_,_,_ => none
 | k + 1,a0_0,a0_1,a0_2,a0_3,a0_4,l0_5,a1 => (passepartoutref04_parts.f a0_0 a0_1 a0_2 a0_3 a0_4 l0_5).bind fun t129 => (passepartoutref04_Count.l0 k a1 1 t129 0)
end
theorem passepartoutref04_Count.mono_l : ∀ k,(∀ y0 y1 y2 y3 y4 y5 y6,LeO (passepartoutref04_Count.f k y0 y1 y2 y3 y4 y5 y6) (passepartoutref04_Count.f (k + 1) y0 y1 y2 y3 y4 y5 y6)) ∧ (∀ y0 y1 y2 y3,LeO (passepartoutref04_Count.l0 k y0 y1 y2 y3) (passepartoutref04_Count.l0 (k + 1) y0 y1 y2 y3))
 | 0 => ⟨fun _ _ _ _ _ _ _ r h => by simp [passepartoutref04_Count.f] at h,fun _ _ _ _ r h => by simp [passepartoutref04_Count.l0] at h⟩
 | k + 1 => by
  obtain ⟨ih0,ih1⟩ := passepartoutref04_Count.mono_l k
  refine ⟨?_,?_⟩
  ·intro y0 y1 y2 y3 y4 y5 y6
   unfold passepartoutref04_Count.f
   repeat' first
   | (with_reducible exact ih0 _ _ _ _ _ _ _)
   | (with_reducible exact ih1 _ _ _ _)
   | (with_reducible exact LeO.refl _)
   | (with_reducible exact LeO.none _)
   | (with_reducible refine LeO.ite ?_ ?_)
   | (with_reducible refine LeO.bind ?_ (fun _ => ?_))
   | exact ih0 _ _ _ _ _ _ _
   | exact ih1 _ _ _ _
   | exact LeO.none _
   | refine LeO.ite ?_ ?_
   | refine LeO.bind ?_ (fun _ => ?_)
  ·intro y0 y1 y2 y3
   unfold passepartoutref04_Count.l0
   repeat' first
   | (with_reducible exact ih0 _ _ _ _ _ _ _)
   | (with_reducible exact ih1 _ _ _ _)
   | (with_reducible exact LeO.refl _)
   | (with_reducible exact LeO.none _)
   | (with_reducible refine LeO.ite ?_ ?_)
   | (with_reducible refine LeO.bind ?_ (fun _ => ?_))
   | exact ih0 _ _ _ _ _ _ _
   | exact ih1 _ _ _ _
   | exact LeO.none _
   | refine LeO.ite ?_ ?_
   | refine LeO.bind ?_ (fun _ => ?_)
theorem passepartoutref04_Count.mono : ∀ a0 a1 a2 a3 a4 a5 a6 k,LeO (passepartoutref04_Count.f k a0 a1 a2 a3 a4 a5 a6) (passepartoutref04_Count.f (k + 1) a0 a1 a2 a3 a4 a5 a6) := by
 intro a0 a1 a2 a3 a4 a5 a6 k
 obtain ⟨ih0,ih1⟩ := passepartoutref04_Count.mono_l k
 exact ih0 a0 a1 a2 a3 a4 a5 a6
set_option maxHeartbeats 8000000 in
set_option maxRecDepth 100000 in
theorem passepartoutref04_Count.calls (k : Nat) : ∀ (a0_0 : Int) (a0_1 : Int) (a0_2 : Int) (a0_3 : Int) (a0_4 : Int) (A0_5 : Option Addr) (c0_5 : Nat) (l0_5 : List (S24)) (a1 : Int) (r : Int) (w : World) (hr0_5 : Kd.C k24 w A0_5 l0_5.length l0_5) (hc0_5 : l0_5.length ≤ c0_5) (h : passepartoutref04_Count.f k a0_0 a0_1 a0_2 a0_3 a0_4 l0_5 a1 = some r),
  Calls Try.prog 17 #[.agg #[.int .i64 a0_0,.int .i64 a0_1,.int .i64 a0_2,.int .i64 a0_3,.int .i64 a0_4,.slice A0_5 l0_5.length c0_5],.int .i64 a1] w fun e w' => e = .returned (.int .i64 r) ∧ Below w.heap.size w w' := by
 induction k using Nat.strongRecOn with
 | _ k ih =>
 intro a0_0 a0_1 a0_2 a0_3 a0_4 A0_5 c0_5 l0_5 a1 r w hr0_5 hc0_5 h
 cases k with
 | zero => exact absurd h (by simp [passepartoutref04_Count.f])
 | succ k =>
 simp only [passepartoutref04_Count.f] at h
 have hu24 := Try.underlying24
 have HR0_5 := Aside0.mk hr0_5
 have HC0_5 := Aside0.mk hc0_5
 clear hr0_5 hc0_5
 have HB := Aside0.mk (Below.refl w.heap.size w)
 have H : ((passepartoutref04_parts.f a0_0 a0_1 a0_2 a0_3 a0_4 l0_5).bind fun t129 => (passepartoutref04_Count.l0 k a1 1 t129 0)) = some r := h
 clear h
 replace H := Option.bind_eq_some_iff.mp H
 obtain ⟨t129,A30,H⟩ := H
 replace H : (passepartoutref04_Count.l0 k a1 1 t129 0) = some r := H
 have A3 := Aside0.mk A30
 clear A30
 have H' := Aside0.mk H
 clear H
 go_enter Try.func17,Try.ntmps17
 go_wp2_with (first | ((with_reducible refine gate_dst (N := 2) rfl ?_);refine box_event ?hg (N := 2) ?hd (cs := #[.int .i64 a0_0,.int .i64 a0_1,.int .i64 a0_2,.int .i64 a0_3,.int .i64 a0_4,.slice A0_5 l0_5.length c0_5]) (t := 24) ?hr ?_;(case hd => rfl);(case hg => rfl);(case hr => first | (go_simp;done) | (go_simp;rfl));intro gb128 hg w4 hbox hb;have n0_ := Aside0.mk (below_step (by repeat (first | (with_reducible first | exact HB.out | apply below_alloc | apply pw_below_drewN | apply below_drew1) | exact HB.out)) hb);have n1_ := Aside0.mk (hbox);have n2_ := Aside0.mk ((by rw [hg];exact (below_size (by repeat (first | (with_reducible first | exact HB.out | apply below_alloc | apply pw_below_drewN | apply below_drew1) | exact HB.out))) : w.heap.size ≤ gb128));have n3_ := Aside0.mk ((by rw [hg];exact (below_size (by repeat (first | (with_reducible first | exact HB.out | apply below_alloc | apply pw_below_drewN | apply below_drew1) | exact HB.out))) : w.heap.size ≤ gb128));clear HB;have HB := n0_;have BK128 := n1_;have GW128 := n2_;have GE128 := n3_;clear n0_ n1_ n2_ n3_;clear hb hbox hg;have hcz5_0 : w4.cell? ⟨gb128,0,none⟩ = some (.int .i64 a0_0) := (blk_cell BK128.out 0).trans rfl;have hcz5_1 : w4.cell? ⟨gb128,1,none⟩ = some (.int .i64 a0_1) := (blk_cell BK128.out 1).trans rfl;have hcz5_2 : w4.cell? ⟨gb128,2,none⟩ = some (.int .i64 a0_2) := (blk_cell BK128.out 2).trans rfl;have hcz5_3 : w4.cell? ⟨gb128,3,none⟩ = some (.int .i64 a0_3) := (blk_cell BK128.out 3).trans rfl;have hcz5_4 : w4.cell? ⟨gb128,4,none⟩ = some (.int .i64 a0_4) := (blk_cell BK128.out 4).trans rfl;have hcz5_5 : w4.cell? ⟨gb128,5,none⟩ = some (.slice A0_5 l0_5.length c0_5) := (blk_cell BK128.out 5).trans rfl;have hfz5_0 := blk_frozen BK128.out 0;have hfz5_1 := blk_frozen BK128.out 1;have hfz5_2 := blk_frozen BK128.out 2;have hfz5_3 := blk_frozen BK128.out 3;have hfz5_4 := blk_frozen BK128.out 4;have hfz5_5 := blk_frozen BK128.out 5) | ((with_reducible refine gate_callee (f := 32) rfl ?_);refine goesL_ (some 9) rfl rfl Try.func32 (by kernel_rfl) rfl #[.agg #[.int .i64 a0_0,.int .i64 a0_1,.int .i64 a0_2,.int .i64 a0_3,.int .i64 a0_4,.slice A0_5 l0_5.length c0_5]] rfl (by (try simp only [List.map_toArray,List.map_cons,List.map_nil]);first | done | rfl | (simp only [List.length_drop,List.length_take];rfl)) ?_;(with_reducible refine (passepartoutref04_parts.calls a0_0 a0_1 a0_2 a0_3 a0_4 (fun k_ => k_ < w.heap.size) _ _ l0_5 t129 _ ?side1 A3.out).mono ?_);(case side1 => exact Kd.V_mk HC0_5.out (Kd.F_below (Kd.C_F k24_heap HR0_5.out) (by repeat (first | (with_reducible first | exact HB.out | apply below_alloc | apply pw_below_drewN | apply below_drew1 | refine below_set ?_ GE128.out) | exact HB.out))));rintro e w6 ⟨v130,rfl,ho0,hb⟩;refine ⟨_,rfl,?_⟩;have n0_ := Aside0.mk (Kd.V_lower (Kd.V_mono (ok' := fun k_ => k_ ≠ gb128) ho0 (fun k_ hk_ => Or.elim hk_ (fun hs_ => fun e_ => Nat.not_le.2 hs_ (by rw [e_];exact GW128.out)) (fun hn_ => (Kd.freshB (g := gb128) (o := .cells #[.int .i64 a0_0,.int .i64 a0_1,.int .i64 a0_2,.int .i64 a0_3,.int .i64 a0_4,.slice A0_5 l0_5.length c0_5] 24 (0,0)) (by (with_reducible repeat (first | refine blk_drewN ?_ _ | refine blk_drew ?_ | refine blk_alloc ?_ _));exact BK128.out) k_ hn_)))) (below_size (by repeat (first | (with_reducible first | exact HB.out | apply below_alloc | apply pw_below_drewN | apply below_drew1 | refine below_set ?_ GE128.out) | exact HB.out))));have n1_ := Aside0.mk (blk_below (g := gb128) (o := .cells #[.int .i64 a0_0,.int .i64 a0_1,.int .i64 a0_2,.int .i64 a0_3,.int .i64 a0_4,.slice A0_5 l0_5.length c0_5] 24 (0,0)) (by (with_reducible repeat (first | refine blk_drewN ?_ _ | refine blk_drew ?_ | refine blk_alloc ?_ _));exact BK128.out) hb);have n2_ := Aside0.mk (below_step (by repeat (first | (with_reducible first | exact HB.out | apply below_alloc | apply pw_below_drewN | apply below_drew1 | refine below_set ?_ GE128.out) | exact HB.out)) hb);clear BK128;clear HB;have HO131 := n0_;have BK128 := n1_;have HB := n2_;clear n0_ n1_ n2_;(try clear hb);(try clear hb2);(try clear hk);(try clear hi);(try clear ho0)))
 go_loopg [5,7] k (fun kq v5 v7 w' => ∃ (x5_1 : Int) (x7_1 : Int),v5 = .int .i64 x5_1 ∧ v7 = .int .i64 x7_1 ∧ Aside0 (passepartoutref04_Count.l0 kq a1 x5_1 t129 x7_1 = some r) ∧ Aside0 (kq ≤ k) ∧ Aside0 (Kd.V k24 24 w' w.heap.size (fun k_ => k_ ≠ gb128) v130 t129) ∧ Aside0 (w'.heap[gb128]? = some (.cells #[.int .i64 a0_0,.int .i64 a0_1,.int .i64 a0_2,.int .i64 a0_3,.int .i64 a0_4,(.slice A0_5 l0_5.length c0_5)] 24 (0,0))) ∧ Aside0 (Below w.heap.size w w'))
 case atStart => exact ⟨(1),(0),(by first | rfl | (simp;done) | (simp [*];done)),(by first | rfl | (simp;done) | (simp [*];done)),H',⟨Nat.le_refl _⟩,⟨by (with_reducible repeat (first | apply Kd.V_alloc | apply Kd.V_drewN | apply Kd.V_drew));exact HO131.out⟩,⟨by (with_reducible repeat (first | refine blk_drewN ?_ _ | refine blk_drew ?_ | refine blk_alloc ?_ _));exact BK128.out⟩,⟨by repeat (first | (with_reducible first | exact HB.out | apply below_alloc | apply pw_below_drewN | apply below_drew1 | refine below_set ?_ GE128.out) | exact HB.out)⟩⟩
 case round =>
  clear H'
  try clear c1
  try clear p2
  try clear c3
  try clear hcz5_0
  try clear hcz5_1
  try clear hcz5_2
  try clear hcz5_3
  try clear hcz5_4
  try clear hcz5_5
  try clear hfz5_0
  try clear hfz5_1
  try clear hfz5_2
  try clear hfz5_3
  try clear hfz5_4
  try clear hfz5_5
  obtain ⟨x5_1,x7_1,rfl,rfl,HA,HK1,HO_6,BK128,HB⟩ := hrel
  cases gk with
  | zero => exact absurd HA.out (by simp [passepartoutref04_Count.l0])
  | succ k1 =>
   have H := HA.out
   clear HA
   simp only [passepartoutref04_Count.l0] at H
   by_cases c7 : x7_1 < (t129.length : Int)
   ·rw [if_pos c7] at H
    have c7b0 : decide (x7_1 < (t129.length : Int)) = true := decide_eq_true c7
    clear c7
    by_cases c8 : x5_1 ≤ a1
    ·rw [if_pos c8] at H
     have c8b0 : decide (x5_1 ≤ a1) = true := decide_eq_true c8
     clear c8
     by_cases c9 : 0 ≤ x7_1
     ·rw [if_pos c9] at H
      have c9b0 : decide (0 ≤ x7_1) = true := decide_eq_true c9
      clear c9
      replace H := Option.bind_eq_some_iff.mp H
      obtain ⟨t133,A100,H⟩ := H
      replace H : (passepartoutref04_Count.l0 k1 a1 (wrap64 (x5_1 + t133)) t129 (wrap64 (x7_1 + 1))) = some r := H
      have A10 := Aside0.mk A100
      clear A100
      have H' := Aside0.mk H
      clear H
      obtain ⟨Ao11,co11,eo11⟩ := Kd.V_slice HO_6.out
      subst eo11
      have p132 : 0 ≤ (x7_1 : Int) := of_decide_eq_true (by first | (with_reducible assumption) | assumption)
      have q132 : x7_1 < (t129.length : Int) := of_decide_eq_true (by first | (with_reducible assumption) | assumption)
      obtain ⟨ad132,A132_5,c132_5,e132,hx132_0,hx132_1,hx132_2,hx132_3,hx132_4,hx132_5,hl132_5,hi132_5⟩ := at_T24 (Kd.V_reads' HO_6.out).2.2 x7_1 p132 q132
      cases e132
      obtain ⟨ce132,hce132,hMe132,hcc132⟩ := Kd.V_get HO_6.out z24 x7_1 p132 (by first | exact q132 | exact of_decide_eq_true (by first | (with_reducible assumption) | assumption) | (have e_ := (Kd.V_reads' HO_6.out).1;omega))
      obtain ⟨ua132_5,uc132_5,rfl,ul132_5,ge132_5⟩ := k24_openF hMe132
      have hv132_5 := hcc132 5 _ rfl
      rw [add_field _ _ 5 (by omega)] at hv132_5
      replace hv132_5 := Option.some.inj (hv132_5.symm.trans hx132_5)
      injection hv132_5 with hva_ hvn_ hvc_
      rw [hva_] at ge132_5
      rw [hvc_] at ul132_5
      have HL132_5 := Aside0.mk (show Kd.V k24 24 _ w.heap.size _ _ ((rd_T24 t129 x7_1).f5) from Kd.V_mk ul132_5 ge132_5)
      clear hva_ hvn_ hvc_ ge132_5 ul132_5
      clear hcc132 hce132
      have HR132_5 := Aside0.mk hi132_5
      have HC132_5 := Aside0.mk hl132_5
      clear hi132_5 hl132_5
      replace p132 := eq_true p132
      replace q132 := eq_true q132
      go_wp2_with (first | ((with_reducible refine gate_callee (f := 17) rfl ?_);refine goesL_ (some 29) rfl rfl Try.func17 (by kernel_rfl) rfl #[.agg #[.int .i64 ((rd_T24 t129 x7_1).f0),.int .i64 ((rd_T24 t129 x7_1).f1),.int .i64 ((rd_T24 t129 x7_1).f2),.int .i64 ((rd_T24 t129 x7_1).f3),.int .i64 ((rd_T24 t129 x7_1).f4),.slice A132_5 ((rd_T24 t129 x7_1).f5).length c132_5],.int .i64 (wrap64 (a1 - x5_1))] rfl (by (try simp only [List.map_toArray,List.map_cons,List.map_nil]);first | done | rfl | (simp only [List.length_drop,List.length_take];rfl)) ?_;(with_reducible refine (ih k1 (by have := HK1.out;omega) ((rd_T24 t129 x7_1).f0) ((rd_T24 t129 x7_1).f1) ((rd_T24 t129 x7_1).f2) ((rd_T24 t129 x7_1).f3) ((rd_T24 t129 x7_1).f4) _ _ ((rd_T24 t129 x7_1).f5) (wrap64 (a1 - x5_1)) t133 _ ?side1 ?side2 A10.out).mono ?_);(case side1 => repeat (first | exact (by repeat (first | (with_reducible exact HR132_5.out) | (with_reducible refine Kd.C_alloc ?_ _) | (with_reducible refine Kd.C_drewN ?_ _) | (with_reducible refine Kd.C_drew ?_) | exact HR132_5.out)) | (with_reducible refine Kd.C_alloc ?_ _) | (with_reducible refine Kd.C_drewN ?_ _) | (with_reducible refine Kd.C_drew ?_)));(case side2 => exact HC132_5.out);rintro e w12 ⟨rfl,hb⟩;refine ⟨_,rfl,?_⟩;have n0_ := Aside0.mk (Kd.V_below (by (with_reducible repeat (first | apply Kd.V_alloc | apply Kd.V_drewN | apply Kd.V_drew));exact HO_6.out) hb);have n1_ := Aside0.mk (Kd.V_below (by (with_reducible repeat (first | apply Kd.V_alloc | apply Kd.V_drewN | apply Kd.V_drew));exact HL132_5.out) hb);have n2_ := Aside0.mk (blk_below (g := gb128) (o := .cells #[.int .i64 a0_0,.int .i64 a0_1,.int .i64 a0_2,.int .i64 a0_3,.int .i64 a0_4,.slice A0_5 l0_5.length c0_5] 24 (0,0)) (by (with_reducible repeat (first | refine blk_drewN ?_ _ | refine blk_drew ?_ | refine blk_alloc ?_ _));exact BK128.out) hb);have n3_ := Aside0.mk (Kd.C_below (by repeat (first | (with_reducible exact HR132_5.out) | (with_reducible refine Kd.C_alloc ?_ _) | (with_reducible refine Kd.C_drewN ?_ _) | (with_reducible refine Kd.C_drew ?_) | exact HR132_5.out)) hb);have n4_ := Aside0.mk (below_step (by repeat (first | (with_reducible first | exact HB.out | apply below_alloc | apply pw_below_drewN | apply below_drew1 | refine below_set ?_ GE128.out) | exact HB.out)) hb);clear HO_6;clear HL132_5;clear BK128;clear HR132_5;clear HB;have HO_6 := n0_;have HL132_5 := n1_;have BK128 := n2_;have HR132_5 := n3_;have HB := n4_;clear n0_ n1_ n2_ n3_ n4_;(try clear hb);(try clear hb2);(try clear hk);(try clear hi)))
      go_roundg k1
      case measure => have := HK1.out;omega
      case rel => exact ⟨(wrap64 (x5_1 + t133)),(wrap64 (x7_1 + 1)),(by first | rfl | (simp;done) | (simp [*];done)),(by first | rfl | (simp;done) | (simp [*];done)),H',⟨by have := HK1.out;omega⟩,⟨by (with_reducible repeat (first | apply Kd.V_alloc | apply Kd.V_drewN | apply Kd.V_drew));exact HO_6.out⟩,⟨by (with_reducible repeat (first | refine blk_drewN ?_ _ | refine blk_drew ?_ | refine blk_alloc ?_ _));exact BK128.out⟩,⟨by repeat (first | (with_reducible first | exact HB.out | apply below_alloc | apply pw_below_drewN | apply below_drew1 | refine below_set ?_ GE128.out) | exact HB.out)⟩⟩
     ·rw [if_neg c9] at H
      exact absurd H (by simp)
    ·rw [if_neg c8] at H
     have c8b0 : decide (x5_1 ≤ a1) = false := decide_eq_false c8
     clear c8
     obtain rfl := Option.some.inj H
     obtain ⟨Ao13,co13,eo13⟩ := Kd.V_slice HO_6.out
     subst eo13
     go_wp2
     go_ret
     exact ⟨by first | rfl | (simp [errW_none,errW_some] <;> rfl) | (simp [*,errW_none,errW_some] <;> rfl),by repeat (first | (with_reducible first | exact HB.out | apply below_alloc | apply pw_below_drewN | apply below_drew1 | refine below_set ?_ GE128.out) | exact HB.out)⟩
   ·rw [if_neg c7] at H
    have c7b0 : decide (x7_1 < (t129.length : Int)) = false := decide_eq_false c7
    clear c7
    obtain rfl := Option.some.inj H
    obtain ⟨Ao14,co14,eo14⟩ := Kd.V_slice HO_6.out
    subst eo14
    go_wp2
    go_ret
    exact ⟨by first | rfl | (simp [errW_none,errW_some] <;> rfl) | (simp [*,errW_none,errW_some] <;> rfl),by repeat (first | (with_reducible first | exact HB.out | apply below_alloc | apply pw_below_drewN | apply below_drew1 | refine below_set ?_ GE128.out) | exact HB.out)⟩

end Go.Proofs.Ytdhnfccgojgehaa.QP

namespace Go.Proofs.Ytdhnfccgojgehaa.QP
open Go.RowKit Go.Proofs.YtdhnfccgojgehaaW.PrintWords Go.Proofs.YtdhnfccgojgehaaW.PrintLast Go.Proofs.YtdhnfccgojgehaaW.PrintMore
attribute [local go_sem] max2_int min2_int max_two min_two max_three min_three max_four min_four   -- for this text's walks alone
set_option linter.unusedVariables false
set_option linter.unusedSimpArgs false

/-! ### passepartoutref04_Depth: function 20 -/
mutual
def passepartoutref04_Depth.l0 : Nat → Int → Int → List (S24) → Int → Option (Int)
 | 0,_,_,_,_ => none
 | k + 1,x1,x5,x6,x7 => if x7 < (x6.length : Int) then (passepartoutref04_Depth.j1 k x1 x5 x6 x7 (decide (x1 > 0))) else (passepartoutref04_Depth.j1 k x1 x5 x6 x7 false)
def passepartoutref04_Depth.j1 : Nat → Int → Int → List (S24) → Int → Bool → Option (Int)
 | 0,_,_,_,_,_ => none
 | k + 1,x1,x5,x6,x7,x18 => if x18 = true then (if 0 ≤ x7 then (if x7 < (x6.length : Int) then ((passepartoutref04_Depth.f k ((rd_T24 x6 x7).f0) ((rd_T24 x6 x7).f1) ((rd_T24 x6 x7).f2) ((rd_T24 x6 x7).f3) ((rd_T24 x6 x7).f4) ((rd_T24 x6 x7).f5) (wrap64 (x1 - 1))).bind fun t107 => (if t107 > x5 then (passepartoutref04_Depth.l0 k x1 t107 x6 (wrap64 (x7 + 1))) else (passepartoutref04_Depth.l0 k x1 x5 x6 (wrap64 (x7 + 1))))) else (none)) else (none)) else (some (wrap64 (x5 + 1)))
def passepartoutref04_Depth.f : Nat → Int → Int → Int → Int → Int → List (S24) → Int → Option (Int)
 | 0,_,_,_,_,_,_,_ => none
 | k + 1,a0_0,a0_1,a0_2,a0_3,a0_4,l0_5,a1 => (passepartoutref04_parts.f a0_0 a0_1 a0_2 a0_3 a0_4 l0_5).bind fun t103 => (passepartoutref04_Depth.l0 k a1 0 t103 0)
end
theorem passepartoutref04_Depth.mono_l : ∀ k,(∀ y0 y1 y2 y3 y4 y5 y6,LeO (passepartoutref04_Depth.f k y0 y1 y2 y3 y4 y5 y6) (passepartoutref04_Depth.f (k + 1) y0 y1 y2 y3 y4 y5 y6)) ∧ (∀ y0 y1 y2 y3,LeO (passepartoutref04_Depth.l0 k y0 y1 y2 y3) (passepartoutref04_Depth.l0 (k + 1) y0 y1 y2 y3)) ∧ (∀ y0 y1 y2 y3 y4,LeO (passepartoutref04_Depth.j1 k y0 y1 y2 y3 y4) (passepartoutref04_Depth.j1 (k + 1) y0 y1 y2 y3 y4))
 | 0 => ⟨fun _ _ _ _ _ _ _ r h => by simp [passepartoutref04_Depth.f] at h,fun _ _ _ _ r h => by simp [passepartoutref04_Depth.l0] at h,fun _ _ _ _ _ r h => by simp [passepartoutref04_Depth.j1] at h⟩
 | k + 1 => by
  obtain ⟨ih0,ih1,ih2⟩ := passepartoutref04_Depth.mono_l k
  refine ⟨?_,?_,?_⟩
  ·intro y0 y1 y2 y3 y4 y5 y6
   unfold passepartoutref04_Depth.f
   repeat' first
   | (with_reducible exact ih0 _ _ _ _ _ _ _)
   | (with_reducible exact ih1 _ _ _ _)
   | (with_reducible exact ih2 _ _ _ _ _)
   | (with_reducible exact LeO.refl _)
   | (with_reducible exact LeO.none _)
   | (with_reducible refine LeO.ite ?_ ?_)
   | (with_reducible refine LeO.bind ?_ (fun _ => ?_))
   | exact ih0 _ _ _ _ _ _ _
   | exact ih1 _ _ _ _
   | exact ih2 _ _ _ _ _
   | exact LeO.none _
   | refine LeO.ite ?_ ?_
   | refine LeO.bind ?_ (fun _ => ?_)
  ·intro y0 y1 y2 y3
   unfold passepartoutref04_Depth.l0
   repeat' first
   | (with_reducible exact ih0 _ _ _ _ _ _ _)
   | (with_reducible exact ih1 _ _ _ _)
   | (with_reducible exact ih2 _ _ _ _ _)
   | (with_reducible exact LeO.refl _)
   | (with_reducible exact LeO.none _)
   | (with_reducible refine LeO.ite ?_ ?_)
   | (with_reducible refine LeO.bind ?_ (fun _ => ?_))
   | exact ih0 _ _ _ _ _ _ _
   | exact ih1 _ _ _ _
   | exact ih2 _ _ _ _ _
   | exact LeO.none _
   | refine LeO.ite ?_ ?_
   | refine LeO.bind ?_ (fun _ => ?_)
  ·intro y0 y1 y2 y3 y4
   unfold passepartoutref04_Depth.j1
   repeat' first
   | (with_reducible exact ih0 _ _ _ _ _ _ _)
   | (with_reducible exact ih1 _ _ _ _)
   | (with_reducible exact ih2 _ _ _ _ _)
   | (with_reducible exact LeO.refl _)
   | (with_reducible exact LeO.none _)
   | (with_reducible refine LeO.ite ?_ ?_)
   | (with_reducible refine LeO.bind ?_ (fun _ => ?_))
   | exact ih0 _ _ _ _ _ _ _
   | exact ih1 _ _ _ _
   | exact ih2 _ _ _ _ _
   | exact LeO.none _
   | refine LeO.ite ?_ ?_
   | refine LeO.bind ?_ (fun _ => ?_)
theorem passepartoutref04_Depth.mono : ∀ a0 a1 a2 a3 a4 a5 a6 k,LeO (passepartoutref04_Depth.f k a0 a1 a2 a3 a4 a5 a6) (passepartoutref04_Depth.f (k + 1) a0 a1 a2 a3 a4 a5 a6) := by
 intro a0 a1 a2 a3 a4 a5 a6 k
 obtain ⟨ih0,ih1,ih2⟩ := passepartoutref04_Depth.mono_l k
 exact ih0 a0 a1 a2 a3 a4 a5 a6
set_option maxHeartbeats 8000000 in
set_option maxRecDepth 100000 in
theorem passepartoutref04_Depth.calls (k : Nat) : ∀ (a0_0 : Int) (a0_1 : Int) (a0_2 : Int) (a0_3 : Int) (a0_4 : Int) (A0_5 : Option Addr) (c0_5 : Nat) (l0_5 : List (S24)) (a1 : Int) (r : Int) (w : World) (hr0_5 : Kd.C k24 w A0_5 l0_5.length l0_5) (hc0_5 : l0_5.length ≤ c0_5) (h : passepartoutref04_Depth.f k a0_0 a0_1 a0_2 a0_3 a0_4 l0_5 a1 = some r),
  Calls Try.prog 20 #[.agg #[.int .i64 a0_0,.int .i64 a0_1,.int .i64 a0_2,.int .i64 a0_3,.int .i64 a0_4,.slice A0_5 l0_5.length c0_5],.int .i64 a1] w fun e w' => e = .returned (.int .i64 r) ∧ Below w.heap.size w w' := by
 induction k using Nat.strongRecOn with
 | _ k ih =>
 intro a0_0 a0_1 a0_2 a0_3 a0_4 A0_5 c0_5 l0_5 a1 r w hr0_5 hc0_5 h
 cases k with
 | zero => exact absurd h (by simp [passepartoutref04_Depth.f])
 | succ k =>
 simp only [passepartoutref04_Depth.f] at h
 have hu24 := Try.underlying24
 have HR0_5 := Aside0.mk hr0_5
 have HC0_5 := Aside0.mk hc0_5
 clear hr0_5 hc0_5
 have HB := Aside0.mk (Below.refl w.heap.size w)
 have H : ((passepartoutref04_parts.f a0_0 a0_1 a0_2 a0_3 a0_4 l0_5).bind fun t103 => (passepartoutref04_Depth.l0 k a1 0 t103 0)) = some r := h
 clear h
 replace H := Option.bind_eq_some_iff.mp H
 obtain ⟨t103,A30,H⟩ := H
 replace H : (passepartoutref04_Depth.l0 k a1 0 t103 0) = some r := H
 have A3 := Aside0.mk A30
 clear A30
 have H' := Aside0.mk H
 clear H
 go_enter Try.func20,Try.ntmps20
 go_wp2_with (first | ((with_reducible refine gate_dst (N := 2) rfl ?_);refine box_event ?hg (N := 2) ?hd (cs := #[.int .i64 a0_0,.int .i64 a0_1,.int .i64 a0_2,.int .i64 a0_3,.int .i64 a0_4,.slice A0_5 l0_5.length c0_5]) (t := 24) ?hr ?_;(case hd => rfl);(case hg => rfl);(case hr => first | (go_simp;done) | (go_simp;rfl));intro gb102 hg w4 hbox hb;have n0_ := Aside0.mk (below_step (by repeat (first | (with_reducible first | exact HB.out | apply below_alloc | apply pw_below_drewN | apply below_drew1) | exact HB.out)) hb);have n1_ := Aside0.mk (hbox);have n2_ := Aside0.mk ((by rw [hg];exact (below_size (by repeat (first | (with_reducible first | exact HB.out | apply below_alloc | apply pw_below_drewN | apply below_drew1) | exact HB.out))) : w.heap.size ≤ gb102));have n3_ := Aside0.mk ((by rw [hg];exact (below_size (by repeat (first | (with_reducible first | exact HB.out | apply below_alloc | apply pw_below_drewN | apply below_drew1) | exact HB.out))) : w.heap.size ≤ gb102));clear HB;have HB := n0_;have BK102 := n1_;have GW102 := n2_;have GE102 := n3_;clear n0_ n1_ n2_ n3_;clear hb hbox hg;have hcz5_0 : w4.cell? ⟨gb102,0,none⟩ = some (.int .i64 a0_0) := (blk_cell BK102.out 0).trans rfl;have hcz5_1 : w4.cell? ⟨gb102,1,none⟩ = some (.int .i64 a0_1) := (blk_cell BK102.out 1).trans rfl;have hcz5_2 : w4.cell? ⟨gb102,2,none⟩ = some (.int .i64 a0_2) := (blk_cell BK102.out 2).trans rfl;have hcz5_3 : w4.cell? ⟨gb102,3,none⟩ = some (.int .i64 a0_3) := (blk_cell BK102.out 3).trans rfl;have hcz5_4 : w4.cell? ⟨gb102,4,none⟩ = some (.int .i64 a0_4) := (blk_cell BK102.out 4).trans rfl;have hcz5_5 : w4.cell? ⟨gb102,5,none⟩ = some (.slice A0_5 l0_5.length c0_5) := (blk_cell BK102.out 5).trans rfl;have hfz5_0 := blk_frozen BK102.out 0;have hfz5_1 := blk_frozen BK102.out 1;have hfz5_2 := blk_frozen BK102.out 2;have hfz5_3 := blk_frozen BK102.out 3;have hfz5_4 := blk_frozen BK102.out 4;have hfz5_5 := blk_frozen BK102.out 5) | ((with_reducible refine gate_callee (f := 32) rfl ?_);refine goesL_ (some 10) rfl rfl Try.func32 (by kernel_rfl) rfl #[.agg #[.int .i64 a0_0,.int .i64 a0_1,.int .i64 a0_2,.int .i64 a0_3,.int .i64 a0_4,.slice A0_5 l0_5.length c0_5]] rfl (by (try simp only [List.map_toArray,List.map_cons,List.map_nil]);first | done | rfl | (simp only [List.length_drop,List.length_take];rfl)) ?_;(with_reducible refine (passepartoutref04_parts.calls a0_0 a0_1 a0_2 a0_3 a0_4 (fun k_ => k_ < w.heap.size) _ _ l0_5 t103 _ ?side1 A3.out).mono ?_);(case side1 => exact Kd.V_mk HC0_5.out (Kd.F_below (Kd.C_F k24_heap HR0_5.out) (by repeat (first | (with_reducible first | exact HB.out | apply below_alloc | apply pw_below_drewN | apply below_drew1 | refine below_set ?_ GE102.out) | exact HB.out))));rintro e w6 ⟨v104,rfl,ho0,hb⟩;refine ⟨_,rfl,?_⟩;have n0_ := Aside0.mk (Kd.V_lower (Kd.V_mono (ok' := fun k_ => k_ ≠ gb102) ho0 (fun k_ hk_ => Or.elim hk_ (fun hs_ => fun e_ => Nat.not_le.2 hs_ (by rw [e_];exact GW102.out)) (fun hn_ => (Kd.freshB (g := gb102) (o := .cells #[.int .i64 a0_0,.int .i64 a0_1,.int .i64 a0_2,.int .i64 a0_3,.int .i64 a0_4,.slice A0_5 l0_5.length c0_5] 24 (0,0)) (by (with_reducible repeat (first | refine blk_drewN ?_ _ | refine blk_drew ?_ | refine blk_alloc ?_ _));exact BK102.out) k_ hn_)))) (below_size (by repeat (first | (with_reducible first | exact HB.out | apply below_alloc | apply pw_below_drewN | apply below_drew1 | refine below_set ?_ GE102.out) | exact HB.out))));have n1_ := Aside0.mk (blk_below (g := gb102) (o := .cells #[.int .i64 a0_0,.int .i64 a0_1,.int .i64 a0_2,.int .i64 a0_3,.int .i64 a0_4,.slice A0_5 l0_5.length c0_5] 24 (0,0)) (by (with_reducible repeat (first | refine blk_drewN ?_ _ | refine blk_drew ?_ | refine blk_alloc ?_ _));exact BK102.out) hb);have n2_ := Aside0.mk (below_step (by repeat (first | (with_reducible first | exact HB.out | apply below_alloc | apply pw_below_drewN | apply below_drew1 | refine below_set ?_ GE102.out) | exact HB.out)) hb);clear BK102;clear HB;have HO105 := n0_;have BK102 := n1_;have HB := n2_;clear n0_ n1_ n2_;(try clear hb);(try clear hb2);(try clear hk);(try clear hi);(try clear ho0)))
 go_loopg [5,7] k (fun kq v5 v7 w' => ∃ (x5_1 : Int) (x7_1 : Int),v5 = .int .i64 x5_1 ∧ v7 = .int .i64 x7_1 ∧ Aside0 (passepartoutref04_Depth.l0 kq a1 x5_1 t103 x7_1 = some r) ∧ Aside0 (kq ≤ k) ∧ Aside0 (Kd.V k24 24 w' w.heap.size (fun k_ => k_ ≠ gb102) v104 t103) ∧ Aside0 (w'.heap[gb102]? = some (.cells #[.int .i64 a0_0,.int .i64 a0_1,.int .i64 a0_2,.int .i64 a0_3,.int .i64 a0_4,(.slice A0_5 l0_5.length c0_5)] 24 (0,0))) ∧ Aside0 (Below w.heap.size w w'))
 case atStart => exact ⟨(0),(0),(by first | rfl | (simp;done) | (simp [*];done)),(by first | rfl | (simp;done) | (simp [*];done)),H',⟨Nat.le_refl _⟩,⟨by (with_reducible repeat (first | apply Kd.V_alloc | apply Kd.V_drewN | apply Kd.V_drew));exact HO105.out⟩,⟨by (with_reducible repeat (first | refine blk_drewN ?_ _ | refine blk_drew ?_ | refine blk_alloc ?_ _));exact BK102.out⟩,⟨by repeat (first | (with_reducible first | exact HB.out | apply below_alloc | apply pw_below_drewN | apply below_drew1 | refine below_set ?_ GE102.out) | exact HB.out)⟩⟩
 case round =>
  clear H'
  try clear c2
  try clear p2
  try clear c3
  try clear hcz5_0
  try clear hcz5_1
  try clear hcz5_2
  try clear hcz5_3
  try clear hcz5_4
  try clear hcz5_5
  try clear hfz5_0
  try clear hfz5_1
  try clear hfz5_2
  try clear hfz5_3
  try clear hfz5_4
  try clear hfz5_5
  obtain ⟨x5_1,x7_1,rfl,rfl,HA,HK1,HO_6,BK102,HB⟩ := hrel
  cases gk with
  | zero => exact absurd HA.out (by simp [passepartoutref04_Depth.l0])
  | succ k1 =>
   have H := HA.out
   clear HA
   simp only [passepartoutref04_Depth.l0] at H
   have HC7 := Aside0.mk H
   clear H
   go_upto_region 4 with (fail)
   go_cut [18] (fun v18 wc => ∃ (kq : Nat) (x18_6 : Bool),v18 = .bool x18_6 ∧ Aside0 (passepartoutref04_Depth.j1 kq a1 x5_1 t103 x7_1 x18_6 = some r) ∧ Aside0 (kq ≤ k1) ∧ Aside0 (Kd.V k24 24 wc w.heap.size (fun k_ => k_ ≠ gb102) v104 t103) ∧ Aside0 (wc.heap[gb102]? = some (.cells #[.int .i64 a0_0,.int .i64 a0_1,.int .i64 a0_2,.int .i64 a0_3,.int .i64 a0_4,(.slice A0_5 l0_5.length c0_5)] 24 (0,0))) ∧ Aside0 (Below w.heap.size w wc))
   case first =>
    have H := HC7.out
    clear HC7
    by_cases c8 : x7_1 < (t103.length : Int)
    ·rw [if_pos c8] at H
     have c8b0 : decide (x7_1 < (t103.length : Int)) = true := decide_eq_true c8
     clear c8
     (first | rw [c8b0] | (simp only [i64_w,i32_w];rw [c8b0]) | skip)
     have H' := Aside0.mk H
     clear H
     obtain ⟨Ao9,co9,eo9⟩ := Kd.V_slice HO_6.out
     subst eo9
     go_wp2
     go_meet
     case rel => exact ⟨_,(decide (a1 > 0)),(by first | rfl | (simp;done) | (simp [*];done)),H',⟨by have := HK1.out;first | omega | exact Nat.le_refl _⟩,⟨by (with_reducible repeat (first | apply Kd.V_alloc | apply Kd.V_drewN | apply Kd.V_drew));exact HO_6.out⟩,⟨by (with_reducible repeat (first | refine blk_drewN ?_ _ | refine blk_drew ?_ | refine blk_alloc ?_ _));exact BK102.out⟩,⟨by repeat (first | (with_reducible first | exact HB.out | apply below_alloc | apply pw_below_drewN | apply below_drew1 | refine below_set ?_ GE102.out) | exact HB.out)⟩⟩
    ·rw [if_neg c8] at H
     have c8b0 : decide (x7_1 < (t103.length : Int)) = false := decide_eq_false c8
     clear c8
     (first | rw [c8b0] | (simp only [i64_w,i32_w];rw [c8b0]) | skip)
     have H' := Aside0.mk H
     clear H
     obtain ⟨Ao10,co10,eo10⟩ := Kd.V_slice HO_6.out
     subst eo10
     go_wp2
     go_meet
     case rel => exact ⟨_,(false),(by first | rfl | (simp;done) | (simp [*];done)),H',⟨by have := HK1.out;first | omega | exact Nat.le_refl _⟩,⟨by (with_reducible repeat (first | apply Kd.V_alloc | apply Kd.V_drewN | apply Kd.V_drew));exact HO_6.out⟩,⟨by (with_reducible repeat (first | refine blk_drewN ?_ _ | refine blk_drew ?_ | refine blk_alloc ?_ _));exact BK102.out⟩,⟨by repeat (first | (with_reducible first | exact HB.out | apply below_alloc | apply pw_below_drewN | apply below_drew1 | refine below_set ?_ GE102.out) | exact HB.out)⟩⟩
   case rest =>
    clear HC7
    try clear c2
    try clear p2
    try clear c3
    try clear c8
    try clear c8b0
    try clear hcz5_0
    try clear hcz5_1
    try clear hcz5_2
    try clear hcz5_3
    try clear hcz5_4
    try clear hcz5_5
    try clear hfz5_0
    try clear hfz5_1
    try clear hfz5_2
    try clear hfz5_3
    try clear hfz5_4
    try clear hfz5_5
    try clear p2
    obtain ⟨kq,x18_6,rfl,HA,HJ6,HO_6,BK102,HB⟩ := hcut
    cases kq with
    | zero => exact absurd HA.out (by simp [passepartoutref04_Depth.j1])
    | succ kj6 =>
     have H := HA.out
     clear HA
     simp only [passepartoutref04_Depth.j1] at H
     by_cases c11 : x18_6 = true
     ·subst c11
      have H1 : (if 0 ≤ x7_1 then (if x7_1 < (t103.length : Int) then ((passepartoutref04_Depth.f kj6 ((rd_T24 t103 x7_1).f0) ((rd_T24 t103 x7_1).f1) ((rd_T24 t103 x7_1).f2) ((rd_T24 t103 x7_1).f3) ((rd_T24 t103 x7_1).f4) ((rd_T24 t103 x7_1).f5) (wrap64 (a1 - 1))).bind fun t107 => (if t107 > x5_1 then (passepartoutref04_Depth.l0 kj6 a1 t107 t103 (wrap64 (x7_1 + 1))) else (passepartoutref04_Depth.l0 kj6 a1 x5_1 t103 (wrap64 (x7_1 + 1))))) else (none)) else (none)) = some r := by rw [if_pos rfl] at H;exact H
      clear H
      have H := H1
      clear H1
      by_cases c12 : 0 ≤ x7_1
      ·rw [if_pos c12] at H
       have c12b0 : decide (0 ≤ x7_1) = true := decide_eq_true c12
       clear c12
       by_cases c13 : x7_1 < (t103.length : Int)
       ·rw [if_pos c13] at H
        have c13b0 : decide (x7_1 < (t103.length : Int)) = true := decide_eq_true c13
        clear c13
        replace H := Option.bind_eq_some_iff.mp H
        obtain ⟨t107,A140,H⟩ := H
        replace H : (if t107 > x5_1 then (passepartoutref04_Depth.l0 kj6 a1 t107 t103 (wrap64 (x7_1 + 1))) else (passepartoutref04_Depth.l0 kj6 a1 x5_1 t103 (wrap64 (x7_1 + 1)))) = some r := H
        have A14 := Aside0.mk A140
        clear A140
        by_cases c15 : t107 > x5_1
        ·rw [if_pos c15] at H
         have c15b0 : decide (x5_1 < t107) = true := decide_eq_true c15
         clear c15
         have H' := Aside0.mk H
         clear H
         obtain ⟨Ao16,co16,eo16⟩ := Kd.V_slice HO_6.out
         subst eo16
         have p106 : 0 ≤ (x7_1 : Int) := of_decide_eq_true (by first | (with_reducible assumption) | assumption)
         have q106 : x7_1 < (t103.length : Int) := of_decide_eq_true (by first | (with_reducible assumption) | assumption)
         obtain ⟨ad106,A106_5,c106_5,e106,hx106_0,hx106_1,hx106_2,hx106_3,hx106_4,hx106_5,hl106_5,hi106_5⟩ := at_T24 (Kd.V_reads' HO_6.out).2.2 x7_1 p106 q106
         cases e106
         obtain ⟨ce106,hce106,hMe106,hcc106⟩ := Kd.V_get HO_6.out z24 x7_1 p106 (by first | exact q106 | exact of_decide_eq_true (by first | (with_reducible assumption) | assumption) | (have e_ := (Kd.V_reads' HO_6.out).1;omega))
         obtain ⟨ua106_5,uc106_5,rfl,ul106_5,ge106_5⟩ := k24_openF hMe106
         have hv106_5 := hcc106 5 _ rfl
         rw [add_field _ _ 5 (by omega)] at hv106_5
         replace hv106_5 := Option.some.inj (hv106_5.symm.trans hx106_5)
         injection hv106_5 with hva_ hvn_ hvc_
         rw [hva_] at ge106_5
         rw [hvc_] at ul106_5
         have HL106_5 := Aside0.mk (show Kd.V k24 24 _ w.heap.size _ _ ((rd_T24 t103 x7_1).f5) from Kd.V_mk ul106_5 ge106_5)
         clear hva_ hvn_ hvc_ ge106_5 ul106_5
         clear hcc106 hce106
         have HR106_5 := Aside0.mk hi106_5
         have HC106_5 := Aside0.mk hl106_5
         clear hi106_5 hl106_5
         replace p106 := eq_true p106
         replace q106 := eq_true q106
         go_wp2_with (first | ((with_reducible refine gate_callee (f := 20) rfl ?_);refine goesL_ (some 27) rfl rfl Try.func20 (by kernel_rfl) rfl #[.agg #[.int .i64 ((rd_T24 t103 x7_1).f0),.int .i64 ((rd_T24 t103 x7_1).f1),.int .i64 ((rd_T24 t103 x7_1).f2),.int .i64 ((rd_T24 t103 x7_1).f3),.int .i64 ((rd_T24 t103 x7_1).f4),.slice A106_5 ((rd_T24 t103 x7_1).f5).length c106_5],.int .i64 (wrap64 (a1 - 1))] rfl (by (try simp only [List.map_toArray,List.map_cons,List.map_nil]);first | done | rfl | (simp only [List.length_drop,List.length_take];rfl)) ?_;(with_reducible refine (ih kj6 (by have := HK1.out;have := HJ6.out;omega) ((rd_T24 t103 x7_1).f0) ((rd_T24 t103 x7_1).f1) ((rd_T24 t103 x7_1).f2) ((rd_T24 t103 x7_1).f3) ((rd_T24 t103 x7_1).f4) _ _ ((rd_T24 t103 x7_1).f5) (wrap64 (a1 - 1)) t107 _ ?side1 ?side2 A14.out).mono ?_);(case side1 => repeat (first | exact (by repeat (first | (with_reducible exact HR106_5.out) | (with_reducible refine Kd.C_alloc ?_ _) | (with_reducible refine Kd.C_drewN ?_ _) | (with_reducible refine Kd.C_drew ?_) | exact HR106_5.out)) | (with_reducible refine Kd.C_alloc ?_ _) | (with_reducible refine Kd.C_drewN ?_ _) | (with_reducible refine Kd.C_drew ?_)));(case side2 => exact HC106_5.out);rintro e w17 ⟨rfl,hb⟩;refine ⟨_,rfl,?_⟩;have n0_ := Aside0.mk (Kd.V_below (by (with_reducible repeat (first | apply Kd.V_alloc | apply Kd.V_drewN | apply Kd.V_drew));exact HO_6.out) hb);have n1_ := Aside0.mk (Kd.V_below (by (with_reducible repeat (first | apply Kd.V_alloc | apply Kd.V_drewN | apply Kd.V_drew));exact HL106_5.out) hb);have n2_ := Aside0.mk (blk_below (g := gb102) (o := .cells #[.int .i64 a0_0,.int .i64 a0_1,.int .i64 a0_2,.int .i64 a0_3,.int .i64 a0_4,.slice A0_5 l0_5.length c0_5] 24 (0,0)) (by (with_reducible repeat (first | refine blk_drewN ?_ _ | refine blk_drew ?_ | refine blk_alloc ?_ _));exact BK102.out) hb);have n3_ := Aside0.mk (Kd.C_below (by repeat (first | (with_reducible exact HR106_5.out) | (with_reducible refine Kd.C_alloc ?_ _) | (with_reducible refine Kd.C_drewN ?_ _) | (with_reducible refine Kd.C_drew ?_) | exact HR106_5.out)) hb);have n4_ := Aside0.mk (below_step (by repeat (first | (with_reducible first | exact HB.out | apply below_alloc | apply pw_below_drewN | apply below_drew1 | refine below_set ?_ GE102.out) | exact HB.out)) hb);clear HO_6;clear HL106_5;clear BK102;clear HR106_5;clear HB;have HO_6 := n0_;have HL106_5 := n1_;have BK102 := n2_;have HR106_5 := n3_;have HB := n4_;clear n0_ n1_ n2_ n3_ n4_;(try clear hb);(try clear hb2);(try clear hk);(try clear hi)))
         go_roundg kj6
         case measure => have := HK1.out;have := HJ6.out;omega
         case rel => exact ⟨(t107),(wrap64 (x7_1 + 1)),(by first | rfl | (simp;done) | (simp [*];done)),(by first | rfl | (simp;done) | (simp [*];done)),H',⟨by have := HK1.out;have := HJ6.out;omega⟩,⟨by (with_reducible repeat (first | apply Kd.V_alloc | apply Kd.V_drewN | apply Kd.V_drew));exact HO_6.out⟩,⟨by (with_reducible repeat (first | refine blk_drewN ?_ _ | refine blk_drew ?_ | refine blk_alloc ?_ _));exact BK102.out⟩,⟨by repeat (first | (with_reducible first | exact HB.out | apply below_alloc | apply pw_below_drewN | apply below_drew1 | refine below_set ?_ GE102.out) | exact HB.out)⟩⟩
        ·rw [if_neg c15] at H
         have c15b0 : decide (x5_1 < t107) = false := decide_eq_false c15
         clear c15
         have H' := Aside0.mk H
         clear H
         obtain ⟨Ao18,co18,eo18⟩ := Kd.V_slice HO_6.out
         subst eo18
         have p106 : 0 ≤ (x7_1 : Int) := of_decide_eq_true (by first | (with_reducible assumption) | assumption)
         have q106 : x7_1 < (t103.length : Int) := of_decide_eq_true (by first | (with_reducible assumption) | assumption)
         obtain ⟨ad106,A106_5,c106_5,e106,hx106_0,hx106_1,hx106_2,hx106_3,hx106_4,hx106_5,hl106_5,hi106_5⟩ := at_T24 (Kd.V_reads' HO_6.out).2.2 x7_1 p106 q106
         cases e106
         obtain ⟨ce106,hce106,hMe106,hcc106⟩ := Kd.V_get HO_6.out z24 x7_1 p106 (by first | exact q106 | exact of_decide_eq_true (by first | (with_reducible assumption) | assumption) | (have e_ := (Kd.V_reads' HO_6.out).1;omega))
         obtain ⟨ua106_5,uc106_5,rfl,ul106_5,ge106_5⟩ := k24_openF hMe106
         have hv106_5 := hcc106 5 _ rfl
         rw [add_field _ _ 5 (by omega)] at hv106_5
         replace hv106_5 := Option.some.inj (hv106_5.symm.trans hx106_5)
         injection hv106_5 with hva_ hvn_ hvc_
         rw [hva_] at ge106_5
         rw [hvc_] at ul106_5
         have HL106_5 := Aside0.mk (show Kd.V k24 24 _ w.heap.size _ _ ((rd_T24 t103 x7_1).f5) from Kd.V_mk ul106_5 ge106_5)
         clear hva_ hvn_ hvc_ ge106_5 ul106_5
         clear hcc106 hce106
         have HR106_5 := Aside0.mk hi106_5
         have HC106_5 := Aside0.mk hl106_5
         clear hi106_5 hl106_5
         replace p106 := eq_true p106
         replace q106 := eq_true q106
         go_wp2_with (first | ((with_reducible refine gate_callee (f := 20) rfl ?_);refine goesL_ (some 27) rfl rfl Try.func20 (by kernel_rfl) rfl #[.agg #[.int .i64 ((rd_T24 t103 x7_1).f0),.int .i64 ((rd_T24 t103 x7_1).f1),.int .i64 ((rd_T24 t103 x7_1).f2),.int .i64 ((rd_T24 t103 x7_1).f3),.int .i64 ((rd_T24 t103 x7_1).f4),.slice A106_5 ((rd_T24 t103 x7_1).f5).length c106_5],.int .i64 (wrap64 (a1 - 1))] rfl (by (try simp only [List.map_toArray,List.map_cons,List.map_nil]);first | done | rfl | (simp only [List.length_drop,List.length_take];rfl)) ?_;(with_reducible refine (ih kj6 (by have := HK1.out;have := HJ6.out;omega) ((rd_T24 t103 x7_1).f0) ((rd_T24 t103 x7_1).f1) ((rd_T24 t103 x7_1).f2) ((rd_T24 t103 x7_1).f3) ((rd_T24 t103 x7_1).f4) _ _ ((rd_T24 t103 x7_1).f5) (wrap64 (a1 - 1)) t107 _ ?side1 ?side2 A14.out).mono ?_);(case side1 => repeat (first | exact (by repeat (first | (with_reducible exact HR106_5.out) | (with_reducible refine Kd.C_alloc ?_ _) | (with_reducible refine Kd.C_drewN ?_ _) | (with_reducible refine Kd.C_drew ?_) | exact HR106_5.out)) | (with_reducible refine Kd.C_alloc ?_ _) | (with_reducible refine Kd.C_drewN ?_ _) | (with_reducible refine Kd.C_drew ?_)));(case side2 => exact HC106_5.out);rintro e w19 ⟨rfl,hb⟩;refine ⟨_,rfl,?_⟩;have n0_ := Aside0.mk (Kd.V_below (by (with_reducible repeat (first | apply Kd.V_alloc | apply Kd.V_drewN | apply Kd.V_drew));exact HO_6.out) hb);have n1_ := Aside0.mk (Kd.V_below (by (with_reducible repeat (first | apply Kd.V_alloc | apply Kd.V_drewN | apply Kd.V_drew));exact HL106_5.out) hb);have n2_ := Aside0.mk (blk_below (g := gb102) (o := .cells #[.int .i64 a0_0,.int .i64 a0_1,.int .i64 a0_2,.int .i64 a0_3,.int .i64 a0_4,.slice A0_5 l0_5.length c0_5] 24 (0,0)) (by (with_reducible repeat (first | refine blk_drewN ?_ _ | refine blk_drew ?_ | refine blk_alloc ?_ _));exact BK102.out) hb);have n3_ := Aside0.mk (Kd.C_below (by repeat (first | (with_reducible exact HR106_5.out) | (with_reducible refine Kd.C_alloc ?_ _) | (with_reducible refine Kd.C_drewN ?_ _) | (with_reducible refine Kd.C_drew ?_) | exact HR106_5.out)) hb);have n4_ := Aside0.mk (below_step (by repeat (first | (with_reducible first | exact HB.out | apply below_alloc | apply pw_below_drewN | apply below_drew1 | refine below_set ?_ GE102.out) | exact HB.out)) hb);clear HO_6;clear HL106_5;clear BK102;clear HR106_5;clear HB;have HO_6 := n0_;have HL106_5 := n1_;have BK102 := n2_;have HR106_5 := n3_;have HB := n4_;clear n0_ n1_ n2_ n3_ n4_;(try clear hb);(try clear hb2);(try clear hk);(try clear hi)))
         go_roundg kj6
         case measure => have := HK1.out;have := HJ6.out;omega
         case rel => exact ⟨(x5_1),(wrap64 (x7_1 + 1)),(by first | rfl | (simp;done) | (simp [*];done)),(by first | rfl | (simp;done) | (simp [*];done)),H',⟨by have := HK1.out;have := HJ6.out;omega⟩,⟨by (with_reducible repeat (first | apply Kd.V_alloc | apply Kd.V_drewN | apply Kd.V_drew));exact HO_6.out⟩,⟨by (with_reducible repeat (first | refine blk_drewN ?_ _ | refine blk_drew ?_ | refine blk_alloc ?_ _));exact BK102.out⟩,⟨by repeat (first | (with_reducible first | exact HB.out | apply below_alloc | apply pw_below_drewN | apply below_drew1 | refine below_set ?_ GE102.out) | exact HB.out)⟩⟩
       ·rw [if_neg c13] at H
        exact absurd H (by simp)
      ·rw [if_neg c12] at H
       exact absurd H (by simp)
     ·replace c11 := Bool.eq_false_iff.mpr c11
      subst c11
      have H1 : (some (wrap64 (x5_1 + 1))) = some r := by rw [if_neg (show ¬ (false = true) by decide)] at H;exact H
      clear H
      have H := H1
      clear H1
      obtain rfl := Option.some.inj H
      go_wp2
      go_ret
      exact ⟨by first | rfl | (simp [errW_none,errW_some] <;> rfl) | (simp [*,errW_none,errW_some] <;> rfl),by repeat (first | (with_reducible first | exact HB.out | apply below_alloc | apply pw_below_drewN | apply below_drew1 | refine below_set ?_ GE102.out) | exact HB.out)⟩

end Go.Proofs.Ytdhnfccgojgehaa.QP

namespace Go.Proofs.Ytdhnfccgojgehaa
open Go.RowKit

set_option maxRecDepth 100000 in
theorem rtop_any (s : Int) (hs : s = 1 ∨ s = 2 ∨ s = 3) (w : World) : Calls Try.prog 48 #[.int .i64 s] w fun e w' => e = .returned (.int .i64 (256 ^ s.toNat - 1)) ∧ w' = w := by
 rcases hs with rfl | rfl | rfl
 all_goals
  go_enter Try.func48,Try.ntmps48
  go_wp2_with fail
  refine wp_loop_rounds 5 ?_
  iterate 5 (first | (rw [rounds_succ];go_wp2_with fail) | skip)
  go_ret
  exact ⟨by first | rfl | (congr 2),rfl⟩
set_option maxRecDepth 100000 in
set_option maxHeartbeats 6400000 in
theorem rown_any (ok : Nat → Prop) (v : Value) (f : Fm) (w : World) (hv : FmR w ok v f) :
  Calls Try.prog 33 #[v] w fun e w' => e = .returned (.int .i64 (ownR f)) ∧ Kp (fun _ => False) w w' := by
 obtain ⟨⟨k,s,lo,hi,st⟩,ps⟩ := f
 obtain ⟨r,hr⟩ : ∃ r,ownR (.mk ⟨k,s,lo,hi,st⟩ ps) = r := ⟨_,rfl⟩
 rw [hr]
 have hr' : ownN k s lo hi st ps.length = r := hr
 clear hr
 obtain ⟨A,c,rfl,h1,h2,_,_,_,_,_,_⟩ := hv.parts
 clear hv
 have hk1 := (Kp.refl (fun _ => False) w).alloc (.cells #[.int .i64 k,.int .i64 s,.int .i64 lo,.int .i64 hi,.int .i64 st,.slice A ps.length c] 24)
 have HK := Lib.hid (fun n => hk1.drewN n)
 have HK0 := Lib.hid hk1
 clear hk1
 unfold ownN at hr'
 by_cases kl : k < 0
 ·rw [if_neg (by omega),if_neg (by omega),if_neg (by omega),if_neg (by omega),if_neg (by omega)] at hr'
  subst hr'
  have t : decide (k < 0) = true := decide_eq_true kl
  clear kl
  go_enter Try.func33,Try.ntmps33
  go_wp2_with fail
  go_ret
  exact ⟨rfl,HK0.out⟩
 by_cases kg : 5 < k
 ·rw [if_neg (by omega),if_neg (by omega),if_neg (by omega),if_neg (by omega),if_neg (by omega)] at hr'
  subst hr'
  have t : decide (k < 0) = false := decide_eq_false kl
  have t2 : decide (5 < k) = true := decide_eq_true kg
  clear kl kg
  go_enter Try.func33,Try.ntmps33
  go_wp2_with fail
  go_ret
  exact ⟨rfl,HK0.out⟩
 by_cases k0 : k = 0
 ·subst k0
  rw [if_pos rfl] at hr'
  clear kl kg
  by_cases s1 : s = 1
  ·subst s1
   obtain rfl : (0 : Int) = r := by simpa using hr'
   go_enter Try.func33,Try.ntmps33
   go_wp2_with fail
   go_ret
   exact ⟨rfl,HK0.out⟩
  by_cases s2 : s = 2
  ·subst s2
   obtain rfl : (0 : Int) = r := by simpa using hr'
   go_enter Try.func33,Try.ntmps33
   go_wp2_with fail
   go_ret
   exact ⟨rfl,HK0.out⟩
  by_cases s3 : s = 3
  ·subst s3
   obtain rfl : (0 : Int) = r := by simpa using hr'
   go_enter Try.func33,Try.ntmps33
   go_wp2_with fail
   go_ret
   exact ⟨rfl,HK0.out⟩
  by_cases s4 : s = 4
  ·subst s4
   obtain rfl : (0 : Int) = r := by simpa using hr'
   go_enter Try.func33,Try.ntmps33
   go_wp2_with fail
   go_ret
   exact ⟨rfl,HK0.out⟩
  by_cases s8 : s = 8
  ·subst s8
   obtain rfl : (0 : Int) = r := by simpa using hr'
   go_enter Try.func33,Try.ntmps33
   go_wp2_with fail
   go_ret
   exact ⟨rfl,HK0.out⟩
  rw [if_pos (by omega)] at hr'
  subst hr'
  have t1 : (s != 1) = true := by simpa using s1
  have t2 : (s != 2) = true := by simpa using s2
  have t3 : (s != 3) = true := by simpa using s3
  have t4 : (s != 4) = true := by simpa using s4
  have t8 : (s != 8) = true := by simpa using s8
  clear s1 s2 s3 s4 s8
  go_enter Try.func33,Try.ntmps33
  go_wp2_with fail
  go_ret
  exact ⟨rfl,HK0.out⟩
 rw [if_neg k0] at hr'
 by_cases k12 : k = 2 ∨ k = 1
 ·rw [if_pos k12] at hr'
  have tl : decide (k < 0) = false := decide_eq_false kl
  have tg : decide (5 < k) = false := decide_eq_false kg
  have t0 : (k == 0) = false := by simpa using k0
  have t4 : (k == 4) = false := by simp;omega
  have t5 : (k == 5) = false := by simp;omega
  have t3 : (k == 3) = false := by simp;omega
  have hlen : ((ps.length : Int) != 1) = decide (ps.length ≠ 1) := by rw [Bool.eq_iff_iff];simp;omega
  have htk : ((k == 1) = true ∧ (k == 2) = false ∧ k ≠ 2) ∨ ((k == 1) = false ∧ (k == 2) = true ∧ k = 2) := by
   rcases k12 with rfl | rfl
   ·exact .inr ⟨by simp,by simp,rfl⟩
   ·exact .inl ⟨by simp,by simp,by omega⟩
  clear kl kg k0 k12
  by_cases s1 : s < 1
  ·have u1 : decide (s < 1) = true := decide_eq_true s1
   rw [if_pos (.inl s1)] at hr'
   subst hr'
   clear s1
   rcases htk with ⟨t1,t2,_⟩ | ⟨t1,t2,rfl⟩
   all_goals
    go_enter Try.func33,Try.ntmps33
    go_wp2_with fail
    go_ret
    exact ⟨rfl,HK0.out⟩
  have u1 : decide (s < 1) = false := decide_eq_false s1
  by_cases s3 : 3 < s
  ·have u3 : decide (3 < s) = true := decide_eq_true s3
   rw [if_pos (.inr s3)] at hr'
   subst hr'
   clear s1 s3
   rcases htk with ⟨t1,t2,_⟩ | ⟨t1,t2,rfl⟩
   all_goals
    go_enter Try.func33,Try.ntmps33
    go_wp2_with fail
    go_ret
    exact ⟨rfl,HK0.out⟩
  have u3 : decide (3 < s) = false := decide_eq_false s3
  rw [if_neg (by omega)] at hr'
  have HT := Lib.hid (fun W => rtop_any s (by omega) W)
  clear s1 s3
  generalize (256 : Int) ^ s.toNat - 1 = M at HT hr'
  have hb : boundsR lo hi M = if lo < 0 ∨ hi < lo ∨ M < hi then 5 else 0 := rfl
  by_cases a1 : lo < 0
  ·have e5 : boundsR lo hi M = 5 := by rw [hb,if_pos (.inl a1)]
   rw [if_pos (.inl (by omega))] at hr'
   subst hr'
   have v1 : decide (lo < 0) = true := decide_eq_true a1
   clear a1 hb e5
   rcases htk with ⟨t1,t2,_⟩ | ⟨t1,t2,rfl⟩
   all_goals
    go_enter Try.func33,Try.ntmps33
    go_wp2_with fail
    go_quiet ((go_at_call 48;exact Calls.quiet_of_same (HT.out _)))
    go_wp2_with fail
    go_ret
    exact ⟨rfl,HK.out _⟩
  have v1 : decide (lo < 0) = false := decide_eq_false a1
  by_cases a2 : hi < lo
  ·have e5 : boundsR lo hi M = 5 := by rw [hb,if_pos (.inr (.inl a2))]
   rw [if_pos (.inl (by omega))] at hr'
   subst hr'
   have v2 : decide (hi < lo) = true := decide_eq_true a2
   clear a1 a2 hb e5
   rcases htk with ⟨t1,t2,_⟩ | ⟨t1,t2,rfl⟩
   all_goals
    go_enter Try.func33,Try.ntmps33
    go_wp2_with fail
    go_quiet ((go_at_call 48;exact Calls.quiet_of_same (HT.out _)))
    go_wp2_with fail
    go_ret
    exact ⟨rfl,HK.out _⟩
  have v2 : decide (hi < lo) = false := decide_eq_false a2
  by_cases a3 : M < hi
  ·have e5 : boundsR lo hi M = 5 := by rw [hb,if_pos (.inr (.inr a3))]
   rw [if_pos (.inl (by omega))] at hr'
   subst hr'
   have v3 : decide (M < hi) = true := decide_eq_true a3
   clear a1 a2 a3 hb e5
   rcases htk with ⟨t1,t2,_⟩ | ⟨t1,t2,rfl⟩
   all_goals
    go_enter Try.func33,Try.ntmps33
    go_wp2_with fail
    go_quiet ((go_at_call 48;exact Calls.quiet_of_same (HT.out _)))
    go_wp2_with fail
    go_ret
    exact ⟨rfl,HK.out _⟩
  have v3 : decide (M < hi) = false := decide_eq_false a3
  have e0 : boundsR lo hi M = 0 := by rw [hb,if_neg (by omega)]
  by_cases a4 : st < 1
  ·rw [if_pos (.inr (.inl a4))] at hr'
   subst hr'
   have v4 : decide (st < 1) = true := decide_eq_true a4
   clear a1 a2 a3 a4 hb e0
   rcases htk with ⟨t1,t2,_⟩ | ⟨t1,t2,rfl⟩
   all_goals
    go_enter Try.func33,Try.ntmps33
    go_wp2_with fail
    go_quiet ((go_at_call 48;exact Calls.quiet_of_same (HT.out _)))
    go_wp2_with fail
    go_ret
    exact ⟨rfl,HK.out _⟩
  have v4 : decide (st < 1) = false := decide_eq_false a4
  by_cases a5 : 65536 < st
  ·rw [if_pos (.inr (.inr a5))] at hr'
   subst hr'
   have v5 : decide (65536 < st) = true := decide_eq_true a5
   clear a1 a2 a3 a4 a5 hb e0
   rcases htk with ⟨t1,t2,_⟩ | ⟨t1,t2,rfl⟩
   all_goals
    go_enter Try.func33,Try.ntmps33
    go_wp2_with fail
    go_quiet ((go_at_call 48;exact Calls.quiet_of_same (HT.out _)))
    go_wp2_with fail
    go_ret
    exact ⟨rfl,HK.out _⟩
  have v5 : decide (65536 < st) = false := decide_eq_false a5
  rw [if_neg (by omega)] at hr'
  clear a1 a2 a3 a4 a5 hb e0
  rcases htk with ⟨t1,t2,k2⟩ | ⟨t1,t2,rfl⟩
  ·rw [if_neg (fun h => k2 h.1)] at hr'
   subst hr'
   clear k2 hlen
   go_enter Try.func33,Try.ntmps33
   go_wp2_with fail
   go_quiet ((go_at_call 48;exact Calls.quiet_of_same (HT.out _)))
   go_wp2_with fail
   go_ret
   exact ⟨rfl,HK.out _⟩
  ·by_cases hl : ps.length = 1
   ·rw [if_neg (fun h => h.2 hl)] at hr'
    subst hr'
    rw [decide_eq_false (by simpa using hl)] at hlen
    clear hl
    go_enter Try.func33,Try.ntmps33
    go_wp2_with fail
    go_quiet ((go_at_call 48;exact Calls.quiet_of_same (HT.out _)))
    go_wp2_with fail
    go_ret
    exact ⟨rfl,HK.out _⟩
   ·rw [if_pos ⟨rfl,hl⟩] at hr'
    subst hr'
    rw [decide_eq_true hl] at hlen
    clear hl
    go_enter Try.func33,Try.ntmps33
    go_wp2_with fail
    go_quiet ((go_at_call 48;exact Calls.quiet_of_same (HT.out _)))
    go_wp2_with fail
    go_ret
    exact ⟨rfl,HK.out _⟩
 rw [if_neg k12] at hr'
 by_cases k3 : k = 3
 ·subst k3
  rw [if_pos rfl] at hr'
  clear kl kg k0 k12
  have hlen : decide (32 < (ps.length : Int)) = decide (32 < ps.length) := by rw [Bool.eq_iff_iff];simp;omega
  by_cases hl : 32 < ps.length
  ·rw [if_pos hl] at hr'
   subst hr'
   rw [decide_eq_true hl] at hlen
   have hl2 : decide (32 < ps.length) = true := decide_eq_true hl
   clear hl
   go_enter Try.func33,Try.ntmps33
   go_wp2_with fail
   go_ret
   exact ⟨rfl,HK0.out⟩
  ·rw [if_neg hl] at hr'
   subst hr'
   rw [decide_eq_false hl] at hlen
   have hl2 : decide (32 < ps.length) = false := decide_eq_false hl
   clear hl
   go_enter Try.func33,Try.ntmps33
   go_wp2_with fail
   go_ret
   exact ⟨rfl,HK0.out⟩
 rw [if_neg k3] at hr'
 have hb : ∀ x y M : Int,boundsR x y M = if x < 0 ∨ y < x ∨ M < y then 5 else 0 := fun _ _ _ => rfl
 by_cases k4 : k = 4
 ·subst k4
  rw [if_pos rfl,hb] at hr'
  clear kl kg k0 k12 k3 hb
  by_cases a1 : lo < 0
  ·rw [if_pos (.inl a1)] at hr'
   subst hr'
   have v1 : decide (lo < 0) = true := decide_eq_true a1
   clear a1
   go_enter Try.func33,Try.ntmps33
   go_wp2_with fail
   go_ret
   exact ⟨rfl,HK0.out⟩
  have v1 : decide (lo < 0) = false := decide_eq_false a1
  by_cases a2 : hi < lo
  ·rw [if_pos (.inr (.inl a2))] at hr'
   subst hr'
   have v2 : decide (hi < lo) = true := decide_eq_true a2
   clear a1 a2
   go_enter Try.func33,Try.ntmps33
   go_wp2_with fail
   go_ret
   exact ⟨rfl,HK0.out⟩
  have v2 : decide (hi < lo) = false := decide_eq_false a2
  by_cases a3 : 16777215 < hi
  ·rw [if_pos (.inr (.inr a3))] at hr'
   subst hr'
   have v3 : decide (16777215 < hi) = true := decide_eq_true a3
   clear a1 a2 a3
   go_enter Try.func33,Try.ntmps33
   go_wp2_with fail
   go_ret
   exact ⟨rfl,HK0.out⟩
  have v3 : decide (16777215 < hi) = false := decide_eq_false a3
  rw [if_neg (by omega)] at hr'
  subst hr'
  clear a1 a2 a3
  go_enter Try.func33,Try.ntmps33
  go_wp2_with fail
  go_ret
  exact ⟨rfl,HK0.out⟩
 rw [if_neg k4] at hr'
 obtain rfl : k = 5 := by omega
 rw [if_pos rfl,hb] at hr'
 clear kl kg k0 k12 k3 k4 hb
 by_cases a1 : lo < 0
 ·rw [if_pos (.inl a1)] at hr'
  subst hr'
  have v1 : decide (lo < 0) = true := decide_eq_true a1
  clear a1
  go_enter Try.func33,Try.ntmps33
  go_wp2_with fail
  go_ret
  exact ⟨rfl,HK0.out⟩
 have v1 : decide (lo < 0) = false := decide_eq_false a1
 by_cases a3 : 16777215 < lo
 ·rw [if_pos (.inr (.inr a3))] at hr'
  subst hr'
  have v3 : decide (16777215 < lo) = true := decide_eq_true a3
  clear a1 a3
  go_enter Try.func33,Try.ntmps33
  go_wp2_with fail
  go_ret
  exact ⟨rfl,HK0.out⟩
 have v3 : decide (16777215 < lo) = false := decide_eq_false a3
 rw [if_neg (by omega)] at hr'
 subst hr'
 clear a1 a3
 go_enter Try.func33,Try.ntmps33
 go_wp2_with fail
 go_ret
 exact ⟨rfl,HK0.out⟩
end Go.Proofs.Ytdhnfccgojgehaa

namespace Go.Proofs.Ytdhnfccgojgehaa.QP
open Go.RowKit Go.Proofs.YtdhnfccgojgehaaW.PrintWords Go.Proofs.YtdhnfccgojgehaaW.PrintLast Go.Proofs.YtdhnfccgojgehaaW.PrintMore
attribute [local go_sem] max2_int min2_int max_two min_two max_three min_three max_four min_four   -- for this text's walks alone
set_option linter.unusedVariables false
set_option linter.unusedSimpArgs false

/-! ### passepartoutref04_own: function 33 -/
def passepartoutref04_own.f (a0_0 : Int) (a0_1 : Int) (a0_2 : Int) (a0_3 : Int) (a0_4 : Int) (l0_5 : List (S24)) : Option (Int) := if wfF (toF ⟨a0_0,a0_1,a0_2,a0_3,a0_4,l0_5⟩) = true then some (ownR (toF ⟨a0_0,a0_1,a0_2,a0_3,a0_4,l0_5⟩)) else none
set_option maxHeartbeats 8000000 in
set_option maxRecDepth 100000 in
theorem passepartoutref04_own.calls (a0_0 : Int) (a0_1 : Int) (a0_2 : Int) (a0_3 : Int) (a0_4 : Int) (A0_5 : Option Addr) (c0_5 : Nat) (l0_5 : List (S24)) (r : Int) (w : World) (hr0_5 : Kd.C k24 w A0_5 l0_5.length l0_5) (hc0_5 : l0_5.length ≤ c0_5) (h : passepartoutref04_own.f a0_0 a0_1 a0_2 a0_3 a0_4 l0_5 = some r) :
  Calls Try.prog 33 #[.agg #[.int .i64 a0_0,.int .i64 a0_1,.int .i64 a0_2,.int .i64 a0_3,.int .i64 a0_4,.slice A0_5 l0_5.length c0_5]] w fun e w' => e = .returned (.int .i64 r) ∧ Below w.heap.size w w' := by
 unfold passepartoutref04_own.f at h
 split at h
 ·rename_i hw
  injection h with h
  subst h
  exact (rown_any (fun x => x < w.heap.size) _ (toF ⟨a0_0,a0_1,a0_2,a0_3,a0_4,l0_5⟩) w (c_FmR hr0_5 hc0_5 hw)).mono fun e w' h => ⟨h.1,h.2.below⟩
 ·cases h

end Go.Proofs.Ytdhnfccgojgehaa.QP

namespace Go.Proofs.Ytdhnfccgojgehaa.QP
open Go.RowKit Go.Proofs.YtdhnfccgojgehaaW.PrintWords Go.Proofs.YtdhnfccgojgehaaW.PrintLast Go.Proofs.YtdhnfccgojgehaaW.PrintMore
attribute [local go_sem] max2_int min2_int max_two min_two max_three min_three max_four min_four   -- for this text's walks alone
set_option linter.unusedVariables false
set_option linter.unusedSimpArgs false

/-! ### passepartoutref04_Open: function 34 -/
def passepartoutref04_Open.f : Nat → Int → Int → Int → Int → Int → List (S24) → Option (Bool)
 | 0,_,_,_,_,_,_ => none
 | k + 1,a0_0,a0_1,a0_2,a0_3,a0_4,l0_5 => if a0_0 = 4 then (some true) else (if a0_0 = 3 then (if (l0_5.length : Int) = 0 then (some false) else (if 0 ≤ (wrap64 ((l0_5.length : Int) - 1)) then (if (wrap64 ((l0_5.length : Int) - 1)) < (l0_5.length : Int) then ((passepartoutref04_Open.f k ((rd_T24 l0_5 (wrap64 ((l0_5.length : Int) - 1))).f0) ((rd_T24 l0_5 (wrap64 ((l0_5.length : Int) - 1))).f1) ((rd_T24 l0_5 (wrap64 ((l0_5.length : Int) - 1))).f2) ((rd_T24 l0_5 (wrap64 ((l0_5.length : Int) - 1))).f3) ((rd_T24 l0_5 (wrap64 ((l0_5.length : Int) - 1))).f4) ((rd_T24 l0_5 (wrap64 ((l0_5.length : Int) - 1))).f5)).bind fun t110 => (some t110)) else (none)) else (none))) else (some false))
theorem passepartoutref04_Open.mono_l : ∀ k,(∀ y0 y1 y2 y3 y4 y5,LeO (passepartoutref04_Open.f k y0 y1 y2 y3 y4 y5) (passepartoutref04_Open.f (k + 1) y0 y1 y2 y3 y4 y5))
 | 0 => fun _ _ _ _ _ _ r h => by simp [passepartoutref04_Open.f] at h
 | k + 1 => by
  have ih0 := passepartoutref04_Open.mono_l k
  ·intro y0 y1 y2 y3 y4 y5
   unfold passepartoutref04_Open.f
   repeat' first
   | (with_reducible exact ih0 _ _ _ _ _ _)
   | (with_reducible exact LeO.refl _)
   | (with_reducible exact LeO.none _)
   | (with_reducible refine LeO.ite ?_ ?_)
   | (with_reducible refine LeO.bind ?_ (fun _ => ?_))
   | exact ih0 _ _ _ _ _ _
   | exact LeO.none _
   | refine LeO.ite ?_ ?_
   | refine LeO.bind ?_ (fun _ => ?_)
theorem passepartoutref04_Open.mono : ∀ a0 a1 a2 a3 a4 a5 k,LeO (passepartoutref04_Open.f k a0 a1 a2 a3 a4 a5) (passepartoutref04_Open.f (k + 1) a0 a1 a2 a3 a4 a5) := by
 intro a0 a1 a2 a3 a4 a5 k
 have ih0 := passepartoutref04_Open.mono_l k
 exact ih0 a0 a1 a2 a3 a4 a5
set_option maxHeartbeats 8000000 in
set_option maxRecDepth 100000 in
theorem passepartoutref04_Open.calls (k : Nat) : ∀ (a0_0 : Int) (a0_1 : Int) (a0_2 : Int) (a0_3 : Int) (a0_4 : Int) (A0_5 : Option Addr) (c0_5 : Nat) (l0_5 : List (S24)) (r : Bool) (w : World) (hr0_5 : Kd.C k24 w A0_5 l0_5.length l0_5) (hc0_5 : l0_5.length ≤ c0_5) (h : passepartoutref04_Open.f k a0_0 a0_1 a0_2 a0_3 a0_4 l0_5 = some r),
  Calls Try.prog 34 #[.agg #[.int .i64 a0_0,.int .i64 a0_1,.int .i64 a0_2,.int .i64 a0_3,.int .i64 a0_4,.slice A0_5 l0_5.length c0_5]] w fun e w' => e = .returned (.bool r) ∧ Below w.heap.size w w' := by
 induction k using Nat.strongRecOn with
 | _ k ih =>
 intro a0_0 a0_1 a0_2 a0_3 a0_4 A0_5 c0_5 l0_5 r w hr0_5 hc0_5 h
 cases k with
 | zero => exact absurd h (by simp [passepartoutref04_Open.f])
 | succ k =>
 simp only [passepartoutref04_Open.f] at h
 have hu24 := Try.underlying24
 have HR0_5 := Aside0.mk hr0_5
 have HC0_5 := Aside0.mk hc0_5
 clear hr0_5 hc0_5
 have HB := Aside0.mk (Below.refl w.heap.size w)
 have H : (if a0_0 = 4 then (some true) else (if a0_0 = 3 then (if (l0_5.length : Int) = 0 then (some false) else (if 0 ≤ (wrap64 ((l0_5.length : Int) - 1)) then (if (wrap64 ((l0_5.length : Int) - 1)) < (l0_5.length : Int) then ((passepartoutref04_Open.f k ((rd_T24 l0_5 (wrap64 ((l0_5.length : Int) - 1))).f0) ((rd_T24 l0_5 (wrap64 ((l0_5.length : Int) - 1))).f1) ((rd_T24 l0_5 (wrap64 ((l0_5.length : Int) - 1))).f2) ((rd_T24 l0_5 (wrap64 ((l0_5.length : Int) - 1))).f3) ((rd_T24 l0_5 (wrap64 ((l0_5.length : Int) - 1))).f4) ((rd_T24 l0_5 (wrap64 ((l0_5.length : Int) - 1))).f5)).bind fun t110 => (some t110)) else (none)) else (none))) else (some false))) = some r := h
 clear h
 by_cases c2 : a0_0 = 4
 ·rw [if_pos c2] at H
  have c2b0 : (a0_0 == 4) = true := beq_iff_eq.mpr c2
  have c2b1 : (a0_0 != 4) = false := bne_eq_false_iff_eq.mpr c2
  clear c2
  obtain rfl := Option.some.inj H
  go_enter Try.func34,Try.ntmps34
  go_wp2_with (first | ((with_reducible refine gate_dst (N := 1) rfl ?_);(try (refine gate_guard (by rfl) ?_;dsimp only));refine box_event ?hg (N := 1) ?hd (cs := #[.int .i64 a0_0,.int .i64 a0_1,.int .i64 a0_2,.int .i64 a0_3,.int .i64 a0_4,.slice A0_5 l0_5.length c0_5]) (t := 24) ?hr ?_;(case hd => rfl);(case hg => rfl);(case hr => first | (go_simp;done) | (go_simp;rfl));intro gb108 hg w3 hbox hb;have n0_ := Aside0.mk (below_step (by repeat (first | (with_reducible first | exact HB.out | apply below_alloc | apply pw_below_drewN | apply below_drew1) | exact HB.out)) hb);have n1_ := Aside0.mk (hbox);have n2_ := Aside0.mk ((by rw [hg];exact (below_size (by repeat (first | (with_reducible first | exact HB.out | apply below_alloc | apply pw_below_drewN | apply below_drew1) | exact HB.out))) : w.heap.size ≤ gb108));have n3_ := Aside0.mk ((by rw [hg];exact (below_size (by repeat (first | (with_reducible first | exact HB.out | apply below_alloc | apply pw_below_drewN | apply below_drew1) | exact HB.out))) : w.heap.size ≤ gb108));clear HB;have HB := n0_;have BK108 := n1_;have GW108 := n2_;have GE108 := n3_;clear n0_ n1_ n2_ n3_;clear hb hbox hg;have hcz4_0 : w3.cell? ⟨gb108,0,none⟩ = some (.int .i64 a0_0) := (blk_cell BK108.out 0).trans rfl;have hcz4_1 : w3.cell? ⟨gb108,1,none⟩ = some (.int .i64 a0_1) := (blk_cell BK108.out 1).trans rfl;have hcz4_2 : w3.cell? ⟨gb108,2,none⟩ = some (.int .i64 a0_2) := (blk_cell BK108.out 2).trans rfl;have hcz4_3 : w3.cell? ⟨gb108,3,none⟩ = some (.int .i64 a0_3) := (blk_cell BK108.out 3).trans rfl;have hcz4_4 : w3.cell? ⟨gb108,4,none⟩ = some (.int .i64 a0_4) := (blk_cell BK108.out 4).trans rfl;have hcz4_5 : w3.cell? ⟨gb108,5,none⟩ = some (.slice A0_5 l0_5.length c0_5) := (blk_cell BK108.out 5).trans rfl;have hfz4_0 := blk_frozen BK108.out 0;have hfz4_1 := blk_frozen BK108.out 1;have hfz4_2 := blk_frozen BK108.out 2;have hfz4_3 := blk_frozen BK108.out 3;have hfz4_4 := blk_frozen BK108.out 4;have hfz4_5 := blk_frozen BK108.out 5))
  go_ret
  exact ⟨by first | rfl | (simp [errW_none,errW_some] <;> rfl) | (simp [*,errW_none,errW_some] <;> rfl),by repeat (first | (with_reducible first | exact HB.out | apply below_alloc | apply pw_below_drewN | apply below_drew1 | refine below_set ?_ GE108.out) | exact HB.out)⟩
 ·rw [if_neg c2] at H
  have c2b0 : (a0_0 == 4) = false := beq_eq_false_iff_ne.mpr c2
  have c2b1 : (a0_0 != 4) = true := bne_iff_ne.mpr c2
  by_cases c5 : a0_0 = 3
  ·rw [if_pos c5] at H
   have c5b0 : (a0_0 == 3) = true := beq_iff_eq.mpr c5
   have c5b1 : (a0_0 != 3) = false := bne_eq_false_iff_eq.mpr c5
   clear c5
   by_cases c6 : (l0_5.length : Int) = 0
   ·rw [if_pos c6] at H
    have c6b0 : ((l0_5.length : Int) == 0) = true := beq_iff_eq.mpr c6
    have c6b1 : ((l0_5.length : Int) != 0) = false := bne_eq_false_iff_eq.mpr c6
    clear c6
    obtain rfl := Option.some.inj H
    go_enter Try.func34,Try.ntmps34
    go_wp2_with (first | ((with_reducible refine gate_dst (N := 1) rfl ?_);(try (refine gate_guard (by rfl) ?_;dsimp only));refine box_event ?hg (N := 1) ?hd (cs := #[.int .i64 a0_0,.int .i64 a0_1,.int .i64 a0_2,.int .i64 a0_3,.int .i64 a0_4,.slice A0_5 l0_5.length c0_5]) (t := 24) ?hr ?_;(case hd => rfl);(case hg => rfl);(case hr => first | (go_simp;done) | (go_simp;rfl));intro gb108 hg w7 hbox hb;have n0_ := Aside0.mk (below_step (by repeat (first | (with_reducible first | exact HB.out | apply below_alloc | apply pw_below_drewN | apply below_drew1) | exact HB.out)) hb);have n1_ := Aside0.mk (hbox);have n2_ := Aside0.mk ((by rw [hg];exact (below_size (by repeat (first | (with_reducible first | exact HB.out | apply below_alloc | apply pw_below_drewN | apply below_drew1) | exact HB.out))) : w.heap.size ≤ gb108));have n3_ := Aside0.mk ((by rw [hg];exact (below_size (by repeat (first | (with_reducible first | exact HB.out | apply below_alloc | apply pw_below_drewN | apply below_drew1) | exact HB.out))) : w.heap.size ≤ gb108));clear HB;have HB := n0_;have BK108 := n1_;have GW108 := n2_;have GE108 := n3_;clear n0_ n1_ n2_ n3_;clear hb hbox hg;have hcz8_0 : w7.cell? ⟨gb108,0,none⟩ = some (.int .i64 a0_0) := (blk_cell BK108.out 0).trans rfl;have hcz8_1 : w7.cell? ⟨gb108,1,none⟩ = some (.int .i64 a0_1) := (blk_cell BK108.out 1).trans rfl;have hcz8_2 : w7.cell? ⟨gb108,2,none⟩ = some (.int .i64 a0_2) := (blk_cell BK108.out 2).trans rfl;have hcz8_3 : w7.cell? ⟨gb108,3,none⟩ = some (.int .i64 a0_3) := (blk_cell BK108.out 3).trans rfl;have hcz8_4 : w7.cell? ⟨gb108,4,none⟩ = some (.int .i64 a0_4) := (blk_cell BK108.out 4).trans rfl;have hcz8_5 : w7.cell? ⟨gb108,5,none⟩ = some (.slice A0_5 l0_5.length c0_5) := (blk_cell BK108.out 5).trans rfl;have hfz8_0 := blk_frozen BK108.out 0;have hfz8_1 := blk_frozen BK108.out 1;have hfz8_2 := blk_frozen BK108.out 2;have hfz8_3 := blk_frozen BK108.out 3;have hfz8_4 := blk_frozen BK108.out 4;have hfz8_5 := blk_frozen BK108.out 5))
    go_ret
    exact ⟨by first | rfl | (simp [errW_none,errW_some] <;> rfl) | (simp [*,errW_none,errW_some] <;> rfl),by repeat (first | (with_reducible first | exact HB.out | apply below_alloc | apply pw_below_drewN | apply below_drew1 | refine below_set ?_ GE108.out) | exact HB.out)⟩
   ·rw [if_neg c6] at H
    have c6b0 : ((l0_5.length : Int) == 0) = false := beq_eq_false_iff_ne.mpr c6
    have c6b1 : ((l0_5.length : Int) != 0) = true := bne_iff_ne.mpr c6
    have c6b2 : ¬ (l0_5 = []) := fun h_ => c6 (by rw [h_];rfl)
    obtain ⟨ji9,hji9⟩ : ∃ j_ : Int,(wrap64 ((l0_5.length : Int) - 1)) = j_ := ⟨_,rfl⟩
    replace H : (if 0 ≤ (ji9) then (if (ji9) < (l0_5.length : Int) then ((passepartoutref04_Open.f k ((rd_T24 l0_5 (ji9)).f0) ((rd_T24 l0_5 (ji9)).f1) ((rd_T24 l0_5 (ji9)).f2) ((rd_T24 l0_5 (ji9)).f3) ((rd_T24 l0_5 (ji9)).f4) ((rd_T24 l0_5 (ji9)).f5)).bind fun t110 => (some t110)) else (none)) else (none)) = some r := by first | (rw [hji9] at H;exact H) | (simp only [hji9] at H ⊢;exact H)
    have hji9w : (IntKind.i64.wrap ((l0_5.length : Int) - 1)) = ji9 := (i64_w _).trans hji9
    by_cases c10 : 0 ≤ (ji9)
    ·rw [if_pos c10] at H
     have c10b0 : decide (0 ≤ (ji9)) = true := decide_eq_true c10
     clear c10
     by_cases c11 : (ji9) < (l0_5.length : Int)
     ·rw [if_pos c11] at H
      have c11b0 : decide ((ji9) < (l0_5.length : Int)) = true := decide_eq_true c11
      clear c11
      replace H := Option.bind_eq_some_iff.mp H
      obtain ⟨t110,A120,H⟩ := H
      replace H : (some t110) = some r := H
      have A12 := Aside0.mk A120
      clear A120
      obtain rfl := Option.some.inj H
      go_enter Try.func34,Try.ntmps34
      go_wp2_with (first | ((with_reducible refine gate_dst (N := 1) rfl ?_);(try (refine gate_guard (by rfl) ?_;dsimp only));refine box_event ?hg (N := 1) ?hd (cs := #[.int .i64 a0_0,.int .i64 a0_1,.int .i64 a0_2,.int .i64 a0_3,.int .i64 a0_4,.slice A0_5 l0_5.length c0_5]) (t := 24) ?hr ?_;(case hd => rfl);(case hg => rfl);(case hr => first | (go_simp;done) | (go_simp;rfl));intro gb108 hg w13 hbox hb;have n0_ := Aside0.mk (below_step (by repeat (first | (with_reducible first | exact HB.out | apply below_alloc | apply pw_below_drewN | apply below_drew1) | exact HB.out)) hb);have n1_ := Aside0.mk (hbox);have n2_ := Aside0.mk ((by rw [hg];exact (below_size (by repeat (first | (with_reducible first | exact HB.out | apply below_alloc | apply pw_below_drewN | apply below_drew1) | exact HB.out))) : w.heap.size ≤ gb108));have n3_ := Aside0.mk ((by rw [hg];exact (below_size (by repeat (first | (with_reducible first | exact HB.out | apply below_alloc | apply pw_below_drewN | apply below_drew1) | exact HB.out))) : w.heap.size ≤ gb108));clear HB;have HB := n0_;have BK108 := n1_;have GW108 := n2_;have GE108 := n3_;clear n0_ n1_ n2_ n3_;clear hb hbox hg;have hcz14_0 : w13.cell? ⟨gb108,0,none⟩ = some (.int .i64 a0_0) := (blk_cell BK108.out 0).trans rfl;have hcz14_1 : w13.cell? ⟨gb108,1,none⟩ = some (.int .i64 a0_1) := (blk_cell BK108.out 1).trans rfl;have hcz14_2 : w13.cell? ⟨gb108,2,none⟩ = some (.int .i64 a0_2) := (blk_cell BK108.out 2).trans rfl;have hcz14_3 : w13.cell? ⟨gb108,3,none⟩ = some (.int .i64 a0_3) := (blk_cell BK108.out 3).trans rfl;have hcz14_4 : w13.cell? ⟨gb108,4,none⟩ = some (.int .i64 a0_4) := (blk_cell BK108.out 4).trans rfl;have hcz14_5 : w13.cell? ⟨gb108,5,none⟩ = some (.slice A0_5 l0_5.length c0_5) := (blk_cell BK108.out 5).trans rfl;have hfz14_0 := blk_frozen BK108.out 0;have hfz14_1 := blk_frozen BK108.out 1;have hfz14_2 := blk_frozen BK108.out 2;have hfz14_3 := blk_frozen BK108.out 3;have hfz14_4 := blk_frozen BK108.out 4;have hfz14_5 := blk_frozen BK108.out 5;have p109 : 0 ≤ ((ji9) : Int) := of_decide_eq_true (by first | (with_reducible assumption) | assumption);have q109 : (ji9) < (l0_5.length : Int) := of_decide_eq_true (by first | (with_reducible assumption) | assumption);obtain ⟨ad109,A109_5,c109_5,e109,hx109_0,hx109_1,hx109_2,hx109_3,hx109_4,hx109_5,hl109_5,hi109_5⟩ := at_T24 HR0_5.out (ji9) p109 q109;cases e109;replace hx109_0 := (HB.out.cell (World.block_lt_of_cell? w _ hx109_0)).trans hx109_0;replace hx109_1 := (HB.out.cell (World.block_lt_of_cell? w _ hx109_1)).trans hx109_1;replace hx109_2 := (HB.out.cell (World.block_lt_of_cell? w _ hx109_2)).trans hx109_2;replace hx109_3 := (HB.out.cell (World.block_lt_of_cell? w _ hx109_3)).trans hx109_3;replace hx109_4 := (HB.out.cell (World.block_lt_of_cell? w _ hx109_4)).trans hx109_4;replace hx109_5 := (HB.out.cell (World.block_lt_of_cell? w _ hx109_5)).trans hx109_5;have HR109_5 := Aside0.mk hi109_5;have HC109_5 := Aside0.mk hl109_5;clear hi109_5 hl109_5;replace p109 := eq_true p109;replace q109 := eq_true q109) | ((with_reducible refine gate_callee (f := 34) rfl ?_);refine goesL_ (some 23) rfl rfl Try.func34 (by kernel_rfl) rfl #[.agg #[.int .i64 ((rd_T24 l0_5 (ji9)).f0),.int .i64 ((rd_T24 l0_5 (ji9)).f1),.int .i64 ((rd_T24 l0_5 (ji9)).f2),.int .i64 ((rd_T24 l0_5 (ji9)).f3),.int .i64 ((rd_T24 l0_5 (ji9)).f4),.slice A109_5 ((rd_T24 l0_5 (ji9)).f5).length c109_5]] rfl (by (try simp only [List.map_toArray,List.map_cons,List.map_nil]);first | done | (simp only [hji9];rfl) | rfl | (simp only [List.length_drop,List.length_take];rfl)) ?_;(with_reducible refine (ih k (by omega) ((rd_T24 l0_5 (ji9)).f0) ((rd_T24 l0_5 (ji9)).f1) ((rd_T24 l0_5 (ji9)).f2) ((rd_T24 l0_5 (ji9)).f3) ((rd_T24 l0_5 (ji9)).f4) _ _ ((rd_T24 l0_5 (ji9)).f5) t110 _ ?side1 ?side2 A12.out).mono ?_);(case side1 => repeat (first | exact (Kd.C_below HR109_5.out HB.out) | (with_reducible refine Kd.C_alloc ?_ _) | (with_reducible refine Kd.C_drewN ?_ _) | (with_reducible refine Kd.C_drew ?_)));(case side2 => exact HC109_5.out);rintro e w15 ⟨rfl,hb⟩;refine ⟨_,rfl,?_⟩;have n0_ := Aside0.mk (blk_below (g := gb108) (o := .cells #[.int .i64 a0_0,.int .i64 a0_1,.int .i64 a0_2,.int .i64 a0_3,.int .i64 a0_4,.slice (some ad109) l0_5.length c0_5] 24 (0,0)) (by (with_reducible repeat (first | refine blk_drewN ?_ _ | refine blk_drew ?_ | refine blk_alloc ?_ _));exact BK108.out) hb);have n1_ := Aside0.mk (below_step (by repeat (first | (with_reducible first | exact HB.out | apply below_alloc | apply pw_below_drewN | apply below_drew1 | refine below_set ?_ GE108.out) | exact HB.out)) hb);clear BK108;clear HB;have BK108 := n0_;have HB := n1_;clear n0_ n1_;(try clear hb);(try clear hb2);(try clear hk);(try clear hi)))
      go_ret
      exact ⟨by first | rfl | (simp [errW_none,errW_some] <;> rfl) | (simp only [← hji9];first | rfl | (simp [errW_none,errW_some] <;> rfl)) | (simp [*,errW_none,errW_some] <;> rfl),by repeat (first | (with_reducible first | exact HB.out | apply below_alloc | apply pw_below_drewN | apply below_drew1 | refine below_set ?_ GE108.out) | exact HB.out)⟩
     ·rw [if_neg c11] at H
      exact absurd H (by simp)
    ·rw [if_neg c10] at H
     exact absurd H (by simp)
  ·rw [if_neg c5] at H
   have c5b0 : (a0_0 == 3) = false := beq_eq_false_iff_ne.mpr c5
   have c5b1 : (a0_0 != 3) = true := bne_iff_ne.mpr c5
   obtain rfl := Option.some.inj H
   go_enter Try.func34,Try.ntmps34
   go_wp2_with (first | ((with_reducible refine gate_dst (N := 1) rfl ?_);(try (refine gate_guard (by rfl) ?_;dsimp only));refine box_event ?hg (N := 1) ?hd (cs := #[.int .i64 a0_0,.int .i64 a0_1,.int .i64 a0_2,.int .i64 a0_3,.int .i64 a0_4,.slice A0_5 l0_5.length c0_5]) (t := 24) ?hr ?_;(case hd => rfl);(case hg => rfl);(case hr => first | (go_simp;done) | (go_simp;rfl));intro gb108 hg w16 hbox hb;have n0_ := Aside0.mk (below_step (by repeat (first | (with_reducible first | exact HB.out | apply below_alloc | apply pw_below_drewN | apply below_drew1) | exact HB.out)) hb);have n1_ := Aside0.mk (hbox);have n2_ := Aside0.mk ((by rw [hg];exact (below_size (by repeat (first | (with_reducible first | exact HB.out | apply below_alloc | apply pw_below_drewN | apply below_drew1) | exact HB.out))) : w.heap.size ≤ gb108));have n3_ := Aside0.mk ((by rw [hg];exact (below_size (by repeat (first | (with_reducible first | exact HB.out | apply below_alloc | apply pw_below_drewN | apply below_drew1) | exact HB.out))) : w.heap.size ≤ gb108));clear HB;have HB := n0_;have BK108 := n1_;have GW108 := n2_;have GE108 := n3_;clear n0_ n1_ n2_ n3_;clear hb hbox hg;have hcz17_0 : w16.cell? ⟨gb108,0,none⟩ = some (.int .i64 a0_0) := (blk_cell BK108.out 0).trans rfl;have hcz17_1 : w16.cell? ⟨gb108,1,none⟩ = some (.int .i64 a0_1) := (blk_cell BK108.out 1).trans rfl;have hcz17_2 : w16.cell? ⟨gb108,2,none⟩ = some (.int .i64 a0_2) := (blk_cell BK108.out 2).trans rfl;have hcz17_3 : w16.cell? ⟨gb108,3,none⟩ = some (.int .i64 a0_3) := (blk_cell BK108.out 3).trans rfl;have hcz17_4 : w16.cell? ⟨gb108,4,none⟩ = some (.int .i64 a0_4) := (blk_cell BK108.out 4).trans rfl;have hcz17_5 : w16.cell? ⟨gb108,5,none⟩ = some (.slice A0_5 l0_5.length c0_5) := (blk_cell BK108.out 5).trans rfl;have hfz17_0 := blk_frozen BK108.out 0;have hfz17_1 := blk_frozen BK108.out 1;have hfz17_2 := blk_frozen BK108.out 2;have hfz17_3 := blk_frozen BK108.out 3;have hfz17_4 := blk_frozen BK108.out 4;have hfz17_5 := blk_frozen BK108.out 5))
   go_ret
   exact ⟨by first | rfl | (simp [errW_none,errW_some] <;> rfl) | (simp [*,errW_none,errW_some] <;> rfl),by repeat (first | (with_reducible first | exact HB.out | apply below_alloc | apply pw_below_drewN | apply below_drew1 | refine below_set ?_ GE108.out) | exact HB.out)⟩

end Go.Proofs.Ytdhnfccgojgehaa.QP

namespace Go.Proofs.Ytdhnfccgojgehaa.QP
open Go.RowKit Go.Proofs.YtdhnfccgojgehaaW.PrintWords Go.Proofs.YtdhnfccgojgehaaW.PrintLast Go.Proofs.YtdhnfccgojgehaaW.PrintMore
attribute [local go_sem] max2_int min2_int max_two min_two max_three min_three max_four min_four   -- for this text's walks alone
set_option linter.unusedVariables false
set_option linter.unusedSimpArgs false

/-! ### passepartoutref04_Least: function 35 -/
mutual
def passepartoutref04_Least.j0 : Nat → Int → Bool → Int → Int → Int → Int → Int → List (S24) → Option (Int)
 | 0,_,_,_,_,_,_,_,_ => none
 | k + 1,x6,x11,x112000,x112001,x112002,x112003,x112004,x112005 => if x11 = true then (some (wrap64 (x112001 + x112002))) else (if x6 = 4 then (some x112002) else (if x6 = 5 then (some x112002) else (passepartoutref04_Least.l0 k 0 0 x112000 x112001 x112002 x112003 x112004 x112005)))
def passepartoutref04_Least.l0 : Nat → Int → Int → Int → Int → Int → Int → Int → List (S24) → Option (Int)
 | 0,_,_,_,_,_,_,_,_ => none
 | k + 1,x3,x4,x112000,x112001,x112002,x112003,x112004,x112005 => if x4 < (x112005.length : Int) then (if 0 ≤ x4 then ((passepartoutref04_Least.f k ((rd_T24 x112005 x4).f0) ((rd_T24 x112005 x4).f1) ((rd_T24 x112005 x4).f2) ((rd_T24 x112005 x4).f3) ((rd_T24 x112005 x4).f4) ((rd_T24 x112005 x4).f5)).bind fun t113 => (passepartoutref04_Least.l0 k (wrap64 (x3 + t113)) (wrap64 (x4 + 1)) x112000 x112001 x112002 x112003 x112004 x112005)) else (none)) else (some x3)
def passepartoutref04_Least.f : Nat → Int → Int → Int → Int → Int → List (S24) → Option (Int)
 | 0,_,_,_,_,_,_ => none
 | k + 1,a0_0,a0_1,a0_2,a0_3,a0_4,l0_5 => if a0_0 = 0 then (some a0_1) else (if a0_0 = 1 then (passepartoutref04_Least.j0 k a0_0 (a0_0 == 1) a0_0 a0_1 a0_2 a0_3 a0_4 l0_5) else (passepartoutref04_Least.j0 k a0_0 (a0_0 == 2) a0_0 a0_1 a0_2 a0_3 a0_4 l0_5))
end
theorem passepartoutref04_Least.mono_l : ∀ k,(∀ y0 y1 y2 y3 y4 y5,LeO (passepartoutref04_Least.f k y0 y1 y2 y3 y4 y5) (passepartoutref04_Least.f (k + 1) y0 y1 y2 y3 y4 y5)) ∧ (∀ y0 y1 y2 y3 y4 y5 y6 y7,LeO (passepartoutref04_Least.j0 k y0 y1 y2 y3 y4 y5 y6 y7) (passepartoutref04_Least.j0 (k + 1) y0 y1 y2 y3 y4 y5 y6 y7)) ∧ (∀ y0 y1 y2 y3 y4 y5 y6 y7,LeO (passepartoutref04_Least.l0 k y0 y1 y2 y3 y4 y5 y6 y7) (passepartoutref04_Least.l0 (k + 1) y0 y1 y2 y3 y4 y5 y6 y7))
 | 0 => ⟨fun _ _ _ _ _ _ r h => by simp [passepartoutref04_Least.f] at h,fun _ _ _ _ _ _ _ _ r h => by simp [passepartoutref04_Least.j0] at h,fun _ _ _ _ _ _ _ _ r h => by simp [passepartoutref04_Least.l0] at h⟩
 | k + 1 => by
  obtain ⟨ih0,ih1,ih2⟩ := passepartoutref04_Least.mono_l k
  refine ⟨?_,?_,?_⟩
  ·intro y0 y1 y2 y3 y4 y5
   unfold passepartoutref04_Least.f
   repeat' first
   | (with_reducible exact ih0 _ _ _ _ _ _)
   | (with_reducible exact ih1 _ _ _ _ _ _ _ _)
   | (with_reducible exact ih2 _ _ _ _ _ _ _ _)
   | (with_reducible exact LeO.refl _)
   | (with_reducible exact LeO.none _)
   | (with_reducible refine LeO.ite ?_ ?_)
   | (with_reducible refine LeO.bind ?_ (fun _ => ?_))
   | exact ih0 _ _ _ _ _ _
   | exact ih1 _ _ _ _ _ _ _ _
   | exact ih2 _ _ _ _ _ _ _ _
   | exact LeO.none _
   | refine LeO.ite ?_ ?_
   | refine LeO.bind ?_ (fun _ => ?_)
  ·intro y0 y1 y2 y3 y4 y5 y6 y7
   unfold passepartoutref04_Least.j0
   repeat' first
   | (with_reducible exact ih0 _ _ _ _ _ _)
   | (with_reducible exact ih1 _ _ _ _ _ _ _ _)
   | (with_reducible exact ih2 _ _ _ _ _ _ _ _)
   | (with_reducible exact LeO.refl _)
   | (with_reducible exact LeO.none _)
   | (with_reducible refine LeO.ite ?_ ?_)
   | (with_reducible refine LeO.bind ?_ (fun _ => ?_))
   | exact ih0 _ _ _ _ _ _
   | exact ih1 _ _ _ _ _ _ _ _
   | exact ih2 _ _ _ _ _ _ _ _
   | exact LeO.none _
   | refine LeO.ite ?_ ?_
   | refine LeO.bind ?_ (fun _ => ?_)
  ·intro y0 y1 y2 y3 y4 y5 y6 y7
   unfold passepartoutref04_Least.l0
   repeat' first
   | (with_reducible exact ih0 _ _ _ _ _ _)
   | (with_reducible exact ih1 _ _ _ _ _ _ _ _)
   | (with_reducible exact ih2 _ _ _ _ _ _ _ _)
   | (with_reducible exact LeO.refl _)
   | (with_reducible exact LeO.none _)
   | (with_reducible refine LeO.ite ?_ ?_)
   | (with_reducible refine LeO.bind ?_ (fun _ => ?_))
   | exact ih0 _ _ _ _ _ _
   | exact ih1 _ _ _ _ _ _ _ _
   | exact ih2 _ _ _ _ _ _ _ _
   | exact LeO.none _
   | refine LeO.ite ?_ ?_
   | refine LeO.bind ?_ (fun _ => ?_)
theorem passepartoutref04_Least.mono : ∀ a0 a1 a2 a3 a4 a5 k,LeO (passepartoutref04_Least.f k a0 a1 a2 a3 a4 a5) (passepartoutref04_Least.f (k + 1) a0 a1 a2 a3 a4 a5) := by
 intro a0 a1 a2 a3 a4 a5 k
 obtain ⟨ih0,ih1,ih2⟩ := passepartoutref04_Least.mono_l k
 exact ih0 a0 a1 a2 a3 a4 a5
set_option maxHeartbeats 8000000 in
set_option maxRecDepth 100000 in
theorem passepartoutref04_Least.calls (k : Nat) : ∀ (a0_0 : Int) (a0_1 : Int) (a0_2 : Int) (a0_3 : Int) (a0_4 : Int) (A0_5 : Option Addr) (c0_5 : Nat) (l0_5 : List (S24)) (r : Int) (w : World) (hr0_5 : Kd.C k24 w A0_5 l0_5.length l0_5) (hc0_5 : l0_5.length ≤ c0_5) (h : passepartoutref04_Least.f k a0_0 a0_1 a0_2 a0_3 a0_4 l0_5 = some r),
  Calls Try.prog 35 #[.agg #[.int .i64 a0_0,.int .i64 a0_1,.int .i64 a0_2,.int .i64 a0_3,.int .i64 a0_4,.slice A0_5 l0_5.length c0_5]] w fun e w' => e = .returned (.int .i64 r) ∧ Below w.heap.size w w' := by
 induction k using Nat.strongRecOn with
 | _ k ih =>
 intro a0_0 a0_1 a0_2 a0_3 a0_4 A0_5 c0_5 l0_5 r w hr0_5 hc0_5 h
 cases k with
 | zero => exact absurd h (by simp [passepartoutref04_Least.f])
 | succ k =>
 simp only [passepartoutref04_Least.f] at h
 have hu24 := Try.underlying24
 have HR0_5 := Aside0.mk hr0_5
 have HC0_5 := Aside0.mk hc0_5
 clear hr0_5 hc0_5
 have HB := Aside0.mk (Below.refl w.heap.size w)
 have H : (if a0_0 = 0 then (some a0_1) else (if a0_0 = 1 then (passepartoutref04_Least.j0 k a0_0 (a0_0 == 1) a0_0 a0_1 a0_2 a0_3 a0_4 l0_5) else (passepartoutref04_Least.j0 k a0_0 (a0_0 == 2) a0_0 a0_1 a0_2 a0_3 a0_4 l0_5))) = some r := h
 clear h
 by_cases c2 : a0_0 = 0
 ·rw [if_pos c2] at H
  have c2b0 : (a0_0 == 0) = true := beq_iff_eq.mpr c2
  have c2b1 : (a0_0 != 0) = false := bne_eq_false_iff_eq.mpr c2
  clear c2
  obtain rfl := Option.some.inj H
  go_enter Try.func35,Try.ntmps35
  go_wp2_with (first | ((with_reducible refine gate_dst (N := 1) rfl ?_);refine box_event ?hg (N := 1) ?hd (cs := #[.int .i64 a0_0,.int .i64 a0_1,.int .i64 a0_2,.int .i64 a0_3,.int .i64 a0_4,.slice A0_5 l0_5.length c0_5]) (t := 24) ?hr ?_;(case hd => rfl);(case hg => rfl);(case hr => first | (go_simp;done) | (go_simp;rfl));intro gb111 hg w3 hbox hb;have n0_ := Aside0.mk (below_step (by repeat (first | (with_reducible first | exact HB.out | apply below_alloc | apply pw_below_drewN | apply below_drew1) | exact HB.out)) hb);have n1_ := Aside0.mk (hbox);have n2_ := Aside0.mk ((by rw [hg];exact (below_size (by repeat (first | (with_reducible first | exact HB.out | apply below_alloc | apply pw_below_drewN | apply below_drew1) | exact HB.out))) : w.heap.size ≤ gb111));have n3_ := Aside0.mk ((by rw [hg];exact (below_size (by repeat (first | (with_reducible first | exact HB.out | apply below_alloc | apply pw_below_drewN | apply below_drew1) | exact HB.out))) : w.heap.size ≤ gb111));clear HB;have HB := n0_;have BK111 := n1_;have GW111 := n2_;have GE111 := n3_;clear n0_ n1_ n2_ n3_;clear hb hbox hg;have hcz4_0 : w3.cell? ⟨gb111,0,none⟩ = some (.int .i64 a0_0) := (blk_cell BK111.out 0).trans rfl;have hcz4_1 : w3.cell? ⟨gb111,1,none⟩ = some (.int .i64 a0_1) := (blk_cell BK111.out 1).trans rfl;have hcz4_2 : w3.cell? ⟨gb111,2,none⟩ = some (.int .i64 a0_2) := (blk_cell BK111.out 2).trans rfl;have hcz4_3 : w3.cell? ⟨gb111,3,none⟩ = some (.int .i64 a0_3) := (blk_cell BK111.out 3).trans rfl;have hcz4_4 : w3.cell? ⟨gb111,4,none⟩ = some (.int .i64 a0_4) := (blk_cell BK111.out 4).trans rfl;have hcz4_5 : w3.cell? ⟨gb111,5,none⟩ = some (.slice A0_5 l0_5.length c0_5) := (blk_cell BK111.out 5).trans rfl;have hfz4_0 := blk_frozen BK111.out 0;have hfz4_1 := blk_frozen BK111.out 1;have hfz4_2 := blk_frozen BK111.out 2;have hfz4_3 := blk_frozen BK111.out 3;have hfz4_4 := blk_frozen BK111.out 4;have hfz4_5 := blk_frozen BK111.out 5))
  go_ret
  exact ⟨by first | rfl | (simp [errW_none,errW_some] <;> rfl) | (simp [*,errW_none,errW_some] <;> rfl),by repeat (first | (with_reducible first | exact HB.out | apply below_alloc | apply pw_below_drewN | apply below_drew1 | refine below_set ?_ GE111.out) | exact HB.out)⟩
 ·rw [if_neg c2] at H
  have c2b0 : (a0_0 == 0) = false := beq_eq_false_iff_ne.mpr c2
  have c2b1 : (a0_0 != 0) = true := bne_iff_ne.mpr c2
  have HC5 := Aside0.mk H
  clear H
  go_enter Try.func35,Try.ntmps35
  go_upto_if 11 with (first | ((with_reducible refine gate_dst (N := 1) rfl ?_);refine box_event ?hg (N := 1) ?hd (cs := #[.int .i64 a0_0,.int .i64 a0_1,.int .i64 a0_2,.int .i64 a0_3,.int .i64 a0_4,.slice A0_5 l0_5.length c0_5]) (t := 24) ?hr ?_;(case hd => rfl);(case hg => rfl);(case hr => first | (go_simp;done) | (go_simp;rfl));intro gb111 hg w6 hbox hb;have n0_ := Aside0.mk (below_step (by repeat (first | (with_reducible first | exact HB.out | apply below_alloc | apply pw_below_drewN | apply below_drew1) | exact HB.out)) hb);have n1_ := Aside0.mk (hbox);have n2_ := Aside0.mk ((by rw [hg];exact (below_size (by repeat (first | (with_reducible first | exact HB.out | apply below_alloc | apply pw_below_drewN | apply below_drew1) | exact HB.out))) : w.heap.size ≤ gb111));have n3_ := Aside0.mk ((by rw [hg];exact (below_size (by repeat (first | (with_reducible first | exact HB.out | apply below_alloc | apply pw_below_drewN | apply below_drew1) | exact HB.out))) : w.heap.size ≤ gb111));clear HB;have HB := n0_;have BK111 := n1_;have GW111 := n2_;have GE111 := n3_;clear n0_ n1_ n2_ n3_;clear hb hbox hg;have hcz7_0 : w6.cell? ⟨gb111,0,none⟩ = some (.int .i64 a0_0) := (blk_cell BK111.out 0).trans rfl;have hcz7_1 : w6.cell? ⟨gb111,1,none⟩ = some (.int .i64 a0_1) := (blk_cell BK111.out 1).trans rfl;have hcz7_2 : w6.cell? ⟨gb111,2,none⟩ = some (.int .i64 a0_2) := (blk_cell BK111.out 2).trans rfl;have hcz7_3 : w6.cell? ⟨gb111,3,none⟩ = some (.int .i64 a0_3) := (blk_cell BK111.out 3).trans rfl;have hcz7_4 : w6.cell? ⟨gb111,4,none⟩ = some (.int .i64 a0_4) := (blk_cell BK111.out 4).trans rfl;have hcz7_5 : w6.cell? ⟨gb111,5,none⟩ = some (.slice A0_5 l0_5.length c0_5) := (blk_cell BK111.out 5).trans rfl;have hfz7_0 := blk_frozen BK111.out 0;have hfz7_1 := blk_frozen BK111.out 1;have hfz7_2 := blk_frozen BK111.out 2;have hfz7_3 := blk_frozen BK111.out 3;have hfz7_4 := blk_frozen BK111.out 4;have hfz7_5 := blk_frozen BK111.out 5))
  (try simp only [Act.put,List.setIfInBounds_toArray,List.set_cons_zero,List.set_cons_succ])
  go_cut [11] (fun v11 wc => ∃ (kq : Nat) (x11_4 : Bool),v11 = .bool x11_4 ∧ Aside0 (passepartoutref04_Least.j0 kq a0_0 x11_4 a0_0 a0_1 a0_2 a0_3 a0_4 l0_5 = some r) ∧ Aside0 (kq ≤ k) ∧ Aside0 (wc.heap[gb111]? = some (.cells #[.int .i64 a0_0,.int .i64 a0_1,.int .i64 a0_2,.int .i64 a0_3,.int .i64 a0_4,(.slice A0_5 l0_5.length c0_5)] 24 (0,0))) ∧ Aside0 (Below w.heap.size w wc))
  case first =>
   have H := HC5.out
   clear HC5
   by_cases c8 : a0_0 = 1
   ·rw [if_pos c8] at H
    have c8b0 : (a0_0 == 1) = true := beq_iff_eq.mpr c8
    have c8b1 : (a0_0 != 1) = false := bne_eq_false_iff_eq.mpr c8
    clear c8
    (first | rw [c8b0] | (simp only [i64_w,i32_w];rw [c8b0]) | skip)
    have H' := Aside0.mk H
    clear H
    go_wp2
    go_meet
    case rel => exact ⟨_,((a0_0 == 1)),(by first | rfl | (simp;done) | (simp [*];done)),H',⟨by first | omega | exact Nat.le_refl _⟩,⟨by (with_reducible repeat (first | refine blk_drewN ?_ _ | refine blk_drew ?_ | refine blk_alloc ?_ _));exact BK111.out⟩,⟨by repeat (first | (with_reducible first | exact HB.out | apply below_alloc | apply pw_below_drewN | apply below_drew1 | refine below_set ?_ GE111.out) | exact HB.out)⟩⟩
   ·rw [if_neg c8] at H
    have c8b0 : (a0_0 == 1) = false := beq_eq_false_iff_ne.mpr c8
    have c8b1 : (a0_0 != 1) = true := bne_iff_ne.mpr c8
    (first | rw [c8b0] | (simp only [i64_w,i32_w];rw [c8b0]) | skip)
    have H' := Aside0.mk H
    clear H
    go_wp2
    go_meet
    case rel => exact ⟨_,((a0_0 == 2)),(by first | rfl | (simp;done) | (simp [*];done)),H',⟨by first | omega | exact Nat.le_refl _⟩,⟨by (with_reducible repeat (first | refine blk_drewN ?_ _ | refine blk_drew ?_ | refine blk_alloc ?_ _));exact BK111.out⟩,⟨by repeat (first | (with_reducible first | exact HB.out | apply below_alloc | apply pw_below_drewN | apply below_drew1 | refine below_set ?_ GE111.out) | exact HB.out)⟩⟩
  case rest =>
   clear HC5
   try clear c2
   try clear c2b0
   try clear c2b1
   try clear p2
   try clear c3
   try clear c8
   try clear c8b0
   try clear c8b1
   try clear hcz4_0
   try clear hcz4_1
   try clear hcz4_2
   try clear hcz4_3
   try clear hcz4_4
   try clear hcz4_5
   try clear hcz7_0
   try clear hcz7_1
   try clear hcz7_2
   try clear hcz7_3
   try clear hcz7_4
   try clear hcz7_5
   try clear hfz4_0
   try clear hfz4_1
   try clear hfz4_2
   try clear hfz4_3
   try clear hfz4_4
   try clear hfz4_5
   try clear hfz7_0
   try clear hfz7_1
   try clear hfz7_2
   try clear hfz7_3
   try clear hfz7_4
   try clear hfz7_5
   obtain ⟨kq,x11_4,rfl,HA,HJ4,BK111,HB⟩ := hcut
   cases kq with
   | zero => exact absurd HA.out (by simp [passepartoutref04_Least.j0])
   | succ kj4 =>
    have H := HA.out
    clear HA
    simp only [passepartoutref04_Least.j0] at H
    by_cases c9 : x11_4 = true
    ·subst c9
     have H1 : (some (wrap64 (a0_1 + a0_2))) = some r := by rw [if_pos rfl] at H;exact H
     clear H
     have H := H1
     clear H1
     obtain rfl := Option.some.inj H
     have hcz10_0 : wc.cell? ⟨gb111,0,none⟩ = some (.int .i64 a0_0) := (blk_cell BK111.out 0).trans rfl
     have hcz10_1 : wc.cell? ⟨gb111,1,none⟩ = some (.int .i64 a0_1) := (blk_cell BK111.out 1).trans rfl
     have hcz10_2 : wc.cell? ⟨gb111,2,none⟩ = some (.int .i64 a0_2) := (blk_cell BK111.out 2).trans rfl
     have hcz10_3 : wc.cell? ⟨gb111,3,none⟩ = some (.int .i64 a0_3) := (blk_cell BK111.out 3).trans rfl
     have hcz10_4 : wc.cell? ⟨gb111,4,none⟩ = some (.int .i64 a0_4) := (blk_cell BK111.out 4).trans rfl
     have hcz10_5 : wc.cell? ⟨gb111,5,none⟩ = some (.slice A0_5 l0_5.length c0_5) := (blk_cell BK111.out 5).trans rfl
     have hfz10_0 := blk_frozen BK111.out 0
     have hfz10_1 := blk_frozen BK111.out 1
     have hfz10_2 := blk_frozen BK111.out 2
     have hfz10_3 := blk_frozen BK111.out 3
     have hfz10_4 := blk_frozen BK111.out 4
     have hfz10_5 := blk_frozen BK111.out 5
     go_wp2
     go_ret
     exact ⟨by first | rfl | (simp [errW_none,errW_some] <;> rfl) | (simp [*,errW_none,errW_some] <;> rfl),by repeat (first | (with_reducible first | exact HB.out | apply below_alloc | apply pw_below_drewN | apply below_drew1 | refine below_set ?_ GE111.out) | exact HB.out)⟩
    ·replace c9 := Bool.eq_false_iff.mpr c9
     subst c9
     have H1 : (if a0_0 = 4 then (some a0_2) else (if a0_0 = 5 then (some a0_2) else (passepartoutref04_Least.l0 kj4 0 0 a0_0 a0_1 a0_2 a0_3 a0_4 l0_5))) = some r := by rw [if_neg (show ¬ (false = true) by decide)] at H;exact H
     clear H
     have H := H1
     clear H1
     by_cases c11 : a0_0 = 4
     ·rw [if_pos c11] at H
      have c11b0 : (a0_0 == 4) = true := beq_iff_eq.mpr c11
      have c11b1 : (a0_0 != 4) = false := bne_eq_false_iff_eq.mpr c11
      clear c11
      obtain rfl := Option.some.inj H
      have hcz12_0 : wc.cell? ⟨gb111,0,none⟩ = some (.int .i64 a0_0) := (blk_cell BK111.out 0).trans rfl
      have hcz12_1 : wc.cell? ⟨gb111,1,none⟩ = some (.int .i64 a0_1) := (blk_cell BK111.out 1).trans rfl
      have hcz12_2 : wc.cell? ⟨gb111,2,none⟩ = some (.int .i64 a0_2) := (blk_cell BK111.out 2).trans rfl
      have hcz12_3 : wc.cell? ⟨gb111,3,none⟩ = some (.int .i64 a0_3) := (blk_cell BK111.out 3).trans rfl
      have hcz12_4 : wc.cell? ⟨gb111,4,none⟩ = some (.int .i64 a0_4) := (blk_cell BK111.out 4).trans rfl
      have hcz12_5 : wc.cell? ⟨gb111,5,none⟩ = some (.slice A0_5 l0_5.length c0_5) := (blk_cell BK111.out 5).trans rfl
      have hfz12_0 := blk_frozen BK111.out 0
      have hfz12_1 := blk_frozen BK111.out 1
      have hfz12_2 := blk_frozen BK111.out 2
      have hfz12_3 := blk_frozen BK111.out 3
      have hfz12_4 := blk_frozen BK111.out 4
      have hfz12_5 := blk_frozen BK111.out 5
      go_wp2
      go_ret
      exact ⟨by first | rfl | (simp [errW_none,errW_some] <;> rfl) | (simp [*,errW_none,errW_some] <;> rfl),by repeat (first | (with_reducible first | exact HB.out | apply below_alloc | apply pw_below_drewN | apply below_drew1 | refine below_set ?_ GE111.out) | exact HB.out)⟩
     ·rw [if_neg c11] at H
      have c11b0 : (a0_0 == 4) = false := beq_eq_false_iff_ne.mpr c11
      have c11b1 : (a0_0 != 4) = true := bne_iff_ne.mpr c11
      by_cases c13 : a0_0 = 5
      ·rw [if_pos c13] at H
       have c13b0 : (a0_0 == 5) = true := beq_iff_eq.mpr c13
       have c13b1 : (a0_0 != 5) = false := bne_eq_false_iff_eq.mpr c13
       clear c13
       obtain rfl := Option.some.inj H
       have hcz14_0 : wc.cell? ⟨gb111,0,none⟩ = some (.int .i64 a0_0) := (blk_cell BK111.out 0).trans rfl
       have hcz14_1 : wc.cell? ⟨gb111,1,none⟩ = some (.int .i64 a0_1) := (blk_cell BK111.out 1).trans rfl
       have hcz14_2 : wc.cell? ⟨gb111,2,none⟩ = some (.int .i64 a0_2) := (blk_cell BK111.out 2).trans rfl
       have hcz14_3 : wc.cell? ⟨gb111,3,none⟩ = some (.int .i64 a0_3) := (blk_cell BK111.out 3).trans rfl
       have hcz14_4 : wc.cell? ⟨gb111,4,none⟩ = some (.int .i64 a0_4) := (blk_cell BK111.out 4).trans rfl
       have hcz14_5 : wc.cell? ⟨gb111,5,none⟩ = some (.slice A0_5 l0_5.length c0_5) := (blk_cell BK111.out 5).trans rfl
       have hfz14_0 := blk_frozen BK111.out 0
       have hfz14_1 := blk_frozen BK111.out 1
       have hfz14_2 := blk_frozen BK111.out 2
       have hfz14_3 := blk_frozen BK111.out 3
       have hfz14_4 := blk_frozen BK111.out 4
       have hfz14_5 := blk_frozen BK111.out 5
       go_wp2
       go_ret
       exact ⟨by first | rfl | (simp [errW_none,errW_some] <;> rfl) | (simp [*,errW_none,errW_some] <;> rfl),by repeat (first | (with_reducible first | exact HB.out | apply below_alloc | apply pw_below_drewN | apply below_drew1 | refine below_set ?_ GE111.out) | exact HB.out)⟩
      ·rw [if_neg c13] at H
       have c13b0 : (a0_0 == 5) = false := beq_eq_false_iff_ne.mpr c13
       have c13b1 : (a0_0 != 5) = true := bne_iff_ne.mpr c13
       have H' := Aside0.mk H
       clear H
       go_wp2
       go_loopg [3,4] kj4 (fun kq v3 v4 w' => ∃ (x3_2 : Int) (x4_2 : Int),v3 = .int .i64 x3_2 ∧ v4 = .int .i64 x4_2 ∧ Aside0 (passepartoutref04_Least.l0 kq x3_2 x4_2 a0_0 a0_1 a0_2 a0_3 a0_4 l0_5 = some r) ∧ Aside0 (kq ≤ kj4) ∧ Aside0 (w'.heap[gb111]? = some (.cells #[.int .i64 a0_0,.int .i64 a0_1,.int .i64 a0_2,.int .i64 a0_3,.int .i64 a0_4,(.slice A0_5 l0_5.length c0_5)] 24 (0,0))) ∧ Aside0 (Below w.heap.size w w'))
       case atStart => exact ⟨(0),(0),(by first | rfl | (simp;done) | (simp [*];done)),(by first | rfl | (simp;done) | (simp [*];done)),H',⟨Nat.le_refl _⟩,⟨by (with_reducible repeat (first | refine blk_drewN ?_ _ | refine blk_drew ?_ | refine blk_alloc ?_ _));exact BK111.out⟩,⟨by repeat (first | (with_reducible first | exact HB.out | apply below_alloc | apply pw_below_drewN | apply below_drew1 | refine below_set ?_ GE111.out) | exact HB.out)⟩⟩
       case round =>
        clear H'
        try clear c1
        try clear c2
        try clear c2b0
        try clear c2b1
        try clear p2
        try clear c3
        try clear p6
        try clear c8
        try clear c8b0
        try clear c8b1
        try clear c9
        try clear c11
        try clear c11b0
        try clear c11b1
        try clear c13
        try clear c13b0
        try clear c13b1
        try clear hcz10_0
        try clear hcz10_1
        try clear hcz10_2
        try clear hcz10_3
        try clear hcz10_4
        try clear hcz10_5
        try clear hcz12_0
        try clear hcz12_1
        try clear hcz12_2
        try clear hcz12_3
        try clear hcz12_4
        try clear hcz12_5
        try clear hcz14_0
        try clear hcz14_1
        try clear hcz14_2
        try clear hcz14_3
        try clear hcz14_4
        try clear hcz14_5
        try clear hcz4_0
        try clear hcz4_1
        try clear hcz4_2
        try clear hcz4_3
        try clear hcz4_4
        try clear hcz4_5
        try clear hcz7_0
        try clear hcz7_1
        try clear hcz7_2
        try clear hcz7_3
        try clear hcz7_4
        try clear hcz7_5
        try clear hfz10_0
        try clear hfz10_1
        try clear hfz10_2
        try clear hfz10_3
        try clear hfz10_4
        try clear hfz10_5
        try clear hfz12_0
        try clear hfz12_1
        try clear hfz12_2
        try clear hfz12_3
        try clear hfz12_4
        try clear hfz12_5
        try clear hfz14_0
        try clear hfz14_1
        try clear hfz14_2
        try clear hfz14_3
        try clear hfz14_4
        try clear hfz14_5
        try clear hfz4_0
        try clear hfz4_1
        try clear hfz4_2
        try clear hfz4_3
        try clear hfz4_4
        try clear hfz4_5
        try clear hfz7_0
        try clear hfz7_1
        try clear hfz7_2
        try clear hfz7_3
        try clear hfz7_4
        try clear hfz7_5
        try clear p2
        obtain ⟨x3_2,x4_2,rfl,rfl,HA,HK2,BK111,HB⟩ := hrel
        cases gk with
        | zero => exact absurd HA.out (by simp [passepartoutref04_Least.l0])
        | succ k2 =>
         have H := HA.out
         clear HA
         simp only [passepartoutref04_Least.l0] at H
         by_cases c15 : x4_2 < (l0_5.length : Int)
         ·rw [if_pos c15] at H
          have c15b0 : decide (x4_2 < (l0_5.length : Int)) = true := decide_eq_true c15
          clear c15
          by_cases c16 : 0 ≤ x4_2
          ·rw [if_pos c16] at H
           have c16b0 : decide (0 ≤ x4_2) = true := decide_eq_true c16
           clear c16
           replace H := Option.bind_eq_some_iff.mp H
           obtain ⟨t113,A170,H⟩ := H
           replace H : (passepartoutref04_Least.l0 k2 (wrap64 (x3_2 + t113)) (wrap64 (x4_2 + 1)) a0_0 a0_1 a0_2 a0_3 a0_4 l0_5) = some r := H
           have A17 := Aside0.mk A170
           clear A170
           have H' := Aside0.mk H
           clear H
           have hcz18_0 : wr.cell? ⟨gb111,0,none⟩ = some (.int .i64 a0_0) := (blk_cell BK111.out 0).trans rfl
           have hcz18_1 : wr.cell? ⟨gb111,1,none⟩ = some (.int .i64 a0_1) := (blk_cell BK111.out 1).trans rfl
           have hcz18_2 : wr.cell? ⟨gb111,2,none⟩ = some (.int .i64 a0_2) := (blk_cell BK111.out 2).trans rfl
           have hcz18_3 : wr.cell? ⟨gb111,3,none⟩ = some (.int .i64 a0_3) := (blk_cell BK111.out 3).trans rfl
           have hcz18_4 : wr.cell? ⟨gb111,4,none⟩ = some (.int .i64 a0_4) := (blk_cell BK111.out 4).trans rfl
           have hcz18_5 : wr.cell? ⟨gb111,5,none⟩ = some (.slice A0_5 l0_5.length c0_5) := (blk_cell BK111.out 5).trans rfl
           have hfz18_0 := blk_frozen BK111.out 0
           have hfz18_1 := blk_frozen BK111.out 1
           have hfz18_2 := blk_frozen BK111.out 2
           have hfz18_3 := blk_frozen BK111.out 3
           have hfz18_4 := blk_frozen BK111.out 4
           have hfz18_5 := blk_frozen BK111.out 5
           have p112 : 0 ≤ (x4_2 : Int) := of_decide_eq_true (by first | (with_reducible assumption) | assumption)
           have q112 : x4_2 < (l0_5.length : Int) := of_decide_eq_true (by first | (with_reducible assumption) | assumption)
           obtain ⟨ad112,A112_5,c112_5,e112,hx112_0,hx112_1,hx112_2,hx112_3,hx112_4,hx112_5,hl112_5,hi112_5⟩ := at_T24 HR0_5.out x4_2 p112 q112
           cases e112
           replace hx112_0 := (HB.out.cell (World.block_lt_of_cell? w _ hx112_0)).trans hx112_0
           replace hx112_1 := (HB.out.cell (World.block_lt_of_cell? w _ hx112_1)).trans hx112_1
           replace hx112_2 := (HB.out.cell (World.block_lt_of_cell? w _ hx112_2)).trans hx112_2
           replace hx112_3 := (HB.out.cell (World.block_lt_of_cell? w _ hx112_3)).trans hx112_3
           replace hx112_4 := (HB.out.cell (World.block_lt_of_cell? w _ hx112_4)).trans hx112_4
           replace hx112_5 := (HB.out.cell (World.block_lt_of_cell? w _ hx112_5)).trans hx112_5
           have HR112_5 := Aside0.mk hi112_5
           have HC112_5 := Aside0.mk hl112_5
           clear hi112_5 hl112_5
           replace p112 := eq_true p112
           replace q112 := eq_true q112
           go_wp2_with (first | ((with_reducible refine gate_callee (f := 35) rfl ?_);refine goesL_ (some 37) rfl rfl Try.func35 (by kernel_rfl) rfl #[.agg #[.int .i64 ((rd_T24 l0_5 x4_2).f0),.int .i64 ((rd_T24 l0_5 x4_2).f1),.int .i64 ((rd_T24 l0_5 x4_2).f2),.int .i64 ((rd_T24 l0_5 x4_2).f3),.int .i64 ((rd_T24 l0_5 x4_2).f4),.slice A112_5 ((rd_T24 l0_5 x4_2).f5).length c112_5]] rfl (by (try simp only [List.map_toArray,List.map_cons,List.map_nil]);first | done | rfl | (simp only [List.length_drop,List.length_take];rfl)) ?_;(with_reducible refine (ih k2 (by have := HJ4.out;have := HK2.out;omega) ((rd_T24 l0_5 x4_2).f0) ((rd_T24 l0_5 x4_2).f1) ((rd_T24 l0_5 x4_2).f2) ((rd_T24 l0_5 x4_2).f3) ((rd_T24 l0_5 x4_2).f4) _ _ ((rd_T24 l0_5 x4_2).f5) t113 _ ?side1 ?side2 A17.out).mono ?_);(case side1 => repeat (first | exact (Kd.C_below HR112_5.out HB.out) | (with_reducible refine Kd.C_alloc ?_ _) | (with_reducible refine Kd.C_drewN ?_ _) | (with_reducible refine Kd.C_drew ?_)));(case side2 => exact HC112_5.out);rintro e w19 ⟨rfl,hb⟩;refine ⟨_,rfl,?_⟩;have n0_ := Aside0.mk (blk_below (g := gb111) (o := .cells #[.int .i64 a0_0,.int .i64 a0_1,.int .i64 a0_2,.int .i64 a0_3,.int .i64 a0_4,.slice (some ad112) l0_5.length c0_5] 24 (0,0)) (by (with_reducible repeat (first | refine blk_drewN ?_ _ | refine blk_drew ?_ | refine blk_alloc ?_ _));exact BK111.out) hb);have n1_ := Aside0.mk (below_step (by repeat (first | (with_reducible first | exact HB.out | apply below_alloc | apply pw_below_drewN | apply below_drew1 | refine below_set ?_ GE111.out) | exact HB.out)) hb);clear BK111;clear HB;have BK111 := n0_;have HB := n1_;clear n0_ n1_;(try clear hb);(try clear hb2);(try clear hk);(try clear hi)))
           go_roundg k2
           case measure => have := HJ4.out;have := HK2.out;omega
           case rel => exact ⟨(wrap64 (x3_2 + t113)),(wrap64 (x4_2 + 1)),(by first | rfl | (simp;done) | (simp [*];done)),(by first | rfl | (simp;done) | (simp [*];done)),H',⟨by have := HJ4.out;have := HK2.out;omega⟩,⟨by (with_reducible repeat (first | refine blk_drewN ?_ _ | refine blk_drew ?_ | refine blk_alloc ?_ _));exact BK111.out⟩,⟨by repeat (first | (with_reducible first | exact HB.out | apply below_alloc | apply pw_below_drewN | apply below_drew1 | refine below_set ?_ GE111.out) | exact HB.out)⟩⟩
          ·rw [if_neg c16] at H
           exact absurd H (by simp)
         ·rw [if_neg c15] at H
          have c15b0 : decide (x4_2 < (l0_5.length : Int)) = false := decide_eq_false c15
          clear c15
          obtain rfl := Option.some.inj H
          have hcz20_0 : wr.cell? ⟨gb111,0,none⟩ = some (.int .i64 a0_0) := (blk_cell BK111.out 0).trans rfl
          have hcz20_1 : wr.cell? ⟨gb111,1,none⟩ = some (.int .i64 a0_1) := (blk_cell BK111.out 1).trans rfl
          have hcz20_2 : wr.cell? ⟨gb111,2,none⟩ = some (.int .i64 a0_2) := (blk_cell BK111.out 2).trans rfl
          have hcz20_3 : wr.cell? ⟨gb111,3,none⟩ = some (.int .i64 a0_3) := (blk_cell BK111.out 3).trans rfl
          have hcz20_4 : wr.cell? ⟨gb111,4,none⟩ = some (.int .i64 a0_4) := (blk_cell BK111.out 4).trans rfl
          have hcz20_5 : wr.cell? ⟨gb111,5,none⟩ = some (.slice A0_5 l0_5.length c0_5) := (blk_cell BK111.out 5).trans rfl
          have hfz20_0 := blk_frozen BK111.out 0
          have hfz20_1 := blk_frozen BK111.out 1
          have hfz20_2 := blk_frozen BK111.out 2
          have hfz20_3 := blk_frozen BK111.out 3
          have hfz20_4 := blk_frozen BK111.out 4
          have hfz20_5 := blk_frozen BK111.out 5
          go_wp2
          go_ret
          exact ⟨by first | rfl | (simp [errW_none,errW_some] <;> rfl) | (simp [*,errW_none,errW_some] <;> rfl),by repeat (first | (with_reducible first | exact HB.out | apply below_alloc | apply pw_below_drewN | apply below_drew1 | refine below_set ?_ GE111.out) | exact HB.out)⟩

end Go.Proofs.Ytdhnfccgojgehaa.QP

namespace Go.Proofs.Ytdhnfccgojgehaa.QP
open Go.RowKit Go.Proofs.YtdhnfccgojgehaaW.PrintWords Go.Proofs.YtdhnfccgojgehaaW.PrintLast Go.Proofs.YtdhnfccgojgehaaW.PrintMore
attribute [local go_sem] max2_int min2_int max_two min_two max_three min_three max_four min_four   -- for this text's walks alone
set_option linter.unusedVariables false
set_option linter.unusedSimpArgs false

/-! ### passepartoutref04_check: function 21 -/
mutual
def passepartoutref04_check.l0 : Nat → List (S24) → Int → Int → Int → Int → Int → Int → List (S24) → Option (Int)
 | 0,_,_,_,_,_,_,_,_ => none
 | k + 1,x4,x5,x115000,x115001,x115002,x115003,x115004,x115005 => if x5 < (x4.length : Int) then (if 0 ≤ x5 then ((passepartoutref04_check.f k ((rd_T24 x4 x5).f0) ((rd_T24 x4 x5).f1) ((rd_T24 x4 x5).f2) ((rd_T24 x4 x5).f3) ((rd_T24 x4 x5).f4) ((rd_T24 x4 x5).f5)).bind fun t120 => (if t120 = 0 then (passepartoutref04_check.l0 k x4 (wrap64 (x5 + 1)) x115000 x115001 x115002 x115003 x115004 x115005) else (some t120))) else (none)) else (passepartoutref04_check.l1 k x4 0 x115000 x115001 x115002 x115003 x115004 x115005)
def passepartoutref04_check.l1 : Nat → List (S24) → Int → Int → Int → Int → Int → Int → List (S24) → Option (Int)
 | 0,_,_,_,_,_,_,_,_ => none
 | k + 1,x4,x6,x115000,x115001,x115002,x115003,x115004,x115005 => if x6 < (x4.length : Int) then (if 0 ≤ x6 then ((passepartoutref04_Open.f k ((rd_T24 x4 x6).f0) ((rd_T24 x4 x6).f1) ((rd_T24 x4 x6).f2) ((rd_T24 x4 x6).f3) ((rd_T24 x4 x6).f4) ((rd_T24 x4 x6).f5)).bind fun t122 => (if t122 = true then (if x115000 = 2 then (some 15) else (if (wrap64 (x6 + 1)) < (x4.length : Int) then (some 15) else (passepartoutref04_check.l1 k x4 (wrap64 (x6 + 1)) x115000 x115001 x115002 x115003 x115004 x115005))) else (passepartoutref04_check.l1 k x4 (wrap64 (x6 + 1)) x115000 x115001 x115002 x115003 x115004 x115005))) else (none)) else (if x115000 = 2 then (if 0 < (x4.length : Int) then ((passepartoutref04_Least.f k ((rd_T24 x4 0).f0) ((rd_T24 x4 0).f1) ((rd_T24 x4 0).f2) ((rd_T24 x4 0).f3) ((rd_T24 x4 0).f4) ((rd_T24 x4 0).f5)).bind fun t124 => (if t124 = 0 then (some 15) else (some 0))) else (none)) else (some 0))
def passepartoutref04_check.f : Nat → Int → Int → Int → Int → Int → List (S24) → Option (Int)
 | 0,_,_,_,_,_,_ => none
 | k + 1,a0_0,a0_1,a0_2,a0_3,a0_4,l0_5 => (passepartoutref04_own.f a0_0 a0_1 a0_2 a0_3 a0_4 l0_5).bind fun t115 => (if t115 = 0 then ((passepartoutref04_parts.f a0_0 a0_1 a0_2 a0_3 a0_4 l0_5).bind fun t116 => (passepartoutref04_check.l0 k t116 0 a0_0 a0_1 a0_2 a0_3 a0_4 l0_5)) else (some t115))
end
theorem passepartoutref04_check.mono_l : ∀ k,(∀ y0 y1 y2 y3 y4 y5,LeO (passepartoutref04_check.f k y0 y1 y2 y3 y4 y5) (passepartoutref04_check.f (k + 1) y0 y1 y2 y3 y4 y5)) ∧ (∀ y0 y1 y2 y3 y4 y5 y6 y7,LeO (passepartoutref04_check.l0 k y0 y1 y2 y3 y4 y5 y6 y7) (passepartoutref04_check.l0 (k + 1) y0 y1 y2 y3 y4 y5 y6 y7)) ∧ (∀ y0 y1 y2 y3 y4 y5 y6 y7,LeO (passepartoutref04_check.l1 k y0 y1 y2 y3 y4 y5 y6 y7) (passepartoutref04_check.l1 (k + 1) y0 y1 y2 y3 y4 y5 y6 y7))
 | 0 => ⟨fun _ _ _ _ _ _ r h => by simp [passepartoutref04_check.f] at h,fun _ _ _ _ _ _ _ _ r h => by simp [passepartoutref04_check.l0] at h,fun _ _ _ _ _ _ _ _ r h => by simp [passepartoutref04_check.l1] at h⟩
 | k + 1 => by
  obtain ⟨ih0,ih1,ih2⟩ := passepartoutref04_check.mono_l k
  refine ⟨?_,?_,?_⟩
  ·intro y0 y1 y2 y3 y4 y5
   unfold passepartoutref04_check.f
   repeat' first
   | (with_reducible exact ih0 _ _ _ _ _ _)
   | (with_reducible exact ih1 _ _ _ _ _ _ _ _)
   | (with_reducible exact ih2 _ _ _ _ _ _ _ _)
   | (with_reducible exact passepartoutref04_Least.mono _ _ _ _ _ _ _)
   | (with_reducible exact passepartoutref04_Open.mono _ _ _ _ _ _ _)
   | (with_reducible exact LeO.refl _)
   | (with_reducible exact LeO.none _)
   | (with_reducible refine LeO.ite ?_ ?_)
   | (with_reducible refine LeO.bind ?_ (fun _ => ?_))
   | exact ih0 _ _ _ _ _ _
   | exact ih1 _ _ _ _ _ _ _ _
   | exact ih2 _ _ _ _ _ _ _ _
   | exact passepartoutref04_Least.mono _ _ _ _ _ _ _
   | exact passepartoutref04_Open.mono _ _ _ _ _ _ _
   | exact LeO.none _
   | refine LeO.ite ?_ ?_
   | refine LeO.bind ?_ (fun _ => ?_)
  ·intro y0 y1 y2 y3 y4 y5 y6 y7
   unfold passepartoutref04_check.l0
   repeat' first
   | (with_reducible exact ih0 _ _ _ _ _ _)
   | (with_reducible exact ih1 _ _ _ _ _ _ _ _)
   | (with_reducible exact ih2 _ _ _ _ _ _ _ _)
   | (with_reducible exact passepartoutref04_Least.mono _ _ _ _ _ _ _)
   | (with_reducible exact passepartoutref04_Open.mono _ _ _ _ _ _ _)
   | (with_reducible exact LeO.refl _)
   | (with_reducible exact LeO.none _)
   | (with_reducible refine LeO.ite ?_ ?_)
   | (with_reducible refine LeO.bind ?_ (fun _ => ?_))
   | exact ih0 _ _ _ _ _ _
   | exact ih1 _ _ _ _ _ _ _ _
   | exact ih2 _ _ _ _ _ _ _ _
   | exact passepartoutref04_Least.mono _ _ _ _ _ _ _
   | exact passepartoutref04_Open.mono _ _ _ _ _ _ _
   | exact LeO.none _
   | refine LeO.ite ?_ ?_
   | refine LeO.bind ?_ (fun _ => ?_)
  ·intro y0 y1 y2 y3 y4 y5 y6 y7
   unfold passepartoutref04_check.l1
   repeat' first
   | (with_reducible exact ih0 _ _ _ _ _ _)
   | (with_reducible exact ih1 _ _ _ _ _ _ _ _)
   | (with_reducible exact ih2 _ _ _ _ _ _ _ _)
   | (with_reducible exact passepartoutref04_Least.mono _ _ _ _ _ _ _)
   | (with_reducible exact passepartoutref04_Open.mono _ _ _ _ _ _ _)
   | (with_reducible exact LeO.refl _)
   | (with_reducible exact LeO.none _)
   | (with_reducible refine LeO.ite ?_ ?_)
   | (with_reducible refine LeO.bind ?_ (fun _ => ?_))
   | exact ih0 _ _ _ _ _ _
   | exact ih1 _ _ _ _ _ _ _ _
   | exact ih2 _ _ _ _ _ _ _ _
   | exact passepartoutref04_Least.mono _ _ _ _ _ _ _
   | exact passepartoutref04_Open.mono _ _ _ _ _ _ _
   | exact LeO.none _
   | refine LeO.ite ?_ ?_
   | refine LeO.bind ?_ (fun _ => ?_)
theorem passepartoutref04_check.mono : ∀ a0 a1 a2 a3 a4 a5 k,LeO (passepartoutref04_check.f k a0 a1 a2 a3 a4 a5) (passepartoutref04_check.f (k + 1) a0 a1 a2 a3 a4 a5) := by
 intro a0 a1 a2 a3 a4 a5 k
 obtain ⟨ih0,ih1,ih2⟩ := passepartoutref04_check.mono_l k
 exact ih0 a0 a1 a2 a3 a4 a5
set_option maxHeartbeats 8000000 in
set_option maxRecDepth 100000 in
theorem passepartoutref04_check.calls (k : Nat) : ∀ (a0_0 : Int) (a0_1 : Int) (a0_2 : Int) (a0_3 : Int) (a0_4 : Int) (A0_5 : Option Addr) (c0_5 : Nat) (l0_5 : List (S24)) (r : Int) (w : World) (hr0_5 : Kd.C k24 w A0_5 l0_5.length l0_5) (hc0_5 : l0_5.length ≤ c0_5) (h : passepartoutref04_check.f k a0_0 a0_1 a0_2 a0_3 a0_4 l0_5 = some r),
  Calls Try.prog 21 #[.agg #[.int .i64 a0_0,.int .i64 a0_1,.int .i64 a0_2,.int .i64 a0_3,.int .i64 a0_4,.slice A0_5 l0_5.length c0_5]] w fun e w' => e = .returned (.int .i64 r) ∧ Below w.heap.size w w' := by
 induction k using Nat.strongRecOn with
 | _ k ih =>
 intro a0_0 a0_1 a0_2 a0_3 a0_4 A0_5 c0_5 l0_5 r w hr0_5 hc0_5 h
 cases k with
 | zero => exact absurd h (by simp [passepartoutref04_check.f])
 | succ k =>
 simp only [passepartoutref04_check.f] at h
 have hu24 := Try.underlying24
 have HR0_5 := Aside0.mk hr0_5
 have HC0_5 := Aside0.mk hc0_5
 clear hr0_5 hc0_5
 have HB := Aside0.mk (Below.refl w.heap.size w)
 have H : ((passepartoutref04_own.f a0_0 a0_1 a0_2 a0_3 a0_4 l0_5).bind fun t115 => (if t115 = 0 then ((passepartoutref04_parts.f a0_0 a0_1 a0_2 a0_3 a0_4 l0_5).bind fun t116 => (passepartoutref04_check.l0 k t116 0 a0_0 a0_1 a0_2 a0_3 a0_4 l0_5)) else (some t115))) = some r := h
 clear h
 replace H := Option.bind_eq_some_iff.mp H
 obtain ⟨t115,A20,H⟩ := H
 replace H : (if t115 = 0 then ((passepartoutref04_parts.f a0_0 a0_1 a0_2 a0_3 a0_4 l0_5).bind fun t116 => (passepartoutref04_check.l0 k t116 0 a0_0 a0_1 a0_2 a0_3 a0_4 l0_5)) else (some t115)) = some r := H
 have A2 := Aside0.mk A20
 clear A20
 by_cases c3 : t115 = 0
 ·rw [if_pos c3] at H
  have c3b0 : (t115 == 0) = true := beq_iff_eq.mpr c3
  have c3b1 : (t115 != 0) = false := bne_eq_false_iff_eq.mpr c3
  clear c3
  replace H := Option.bind_eq_some_iff.mp H
  obtain ⟨t116,A40,H⟩ := H
  replace H : (passepartoutref04_check.l0 k t116 0 a0_0 a0_1 a0_2 a0_3 a0_4 l0_5) = some r := H
  have A4 := Aside0.mk A40
  clear A40
  have H' := Aside0.mk H
  clear H
  go_enter Try.func21,Try.ntmps21
  go_wp2_with (first | ((with_reducible refine gate_dst (N := 1) rfl ?_);(try (refine gate_guard (by rfl) ?_;dsimp only));refine box_event ?hg (N := 1) ?hd (cs := #[.int .i64 a0_0,.int .i64 a0_1,.int .i64 a0_2,.int .i64 a0_3,.int .i64 a0_4,.slice A0_5 l0_5.length c0_5]) (t := 24) ?hr ?_;(case hd => rfl);(case hg => rfl);(case hr => first | (go_simp;done) | (go_simp;rfl));intro gb114 hg w5 hbox hb;have n0_ := Aside0.mk (below_step (by repeat (first | (with_reducible first | exact HB.out | apply below_alloc | apply pw_below_drewN | apply below_drew1) | exact HB.out)) hb);have n1_ := Aside0.mk (hbox);have n2_ := Aside0.mk ((by rw [hg];exact (below_size (by repeat (first | (with_reducible first | exact HB.out | apply below_alloc | apply pw_below_drewN | apply below_drew1) | exact HB.out))) : w.heap.size ≤ gb114));have n3_ := Aside0.mk ((by rw [hg];exact (below_size (by repeat (first | (with_reducible first | exact HB.out | apply below_alloc | apply pw_below_drewN | apply below_drew1) | exact HB.out))) : w.heap.size ≤ gb114));clear HB;have HB := n0_;have BK114 := n1_;have GW114 := n2_;have GE114 := n3_;clear n0_ n1_ n2_ n3_;clear hb hbox hg;have hcz6_0 : w5.cell? ⟨gb114,0,none⟩ = some (.int .i64 a0_0) := (blk_cell BK114.out 0).trans rfl;have hcz6_1 : w5.cell? ⟨gb114,1,none⟩ = some (.int .i64 a0_1) := (blk_cell BK114.out 1).trans rfl;have hcz6_2 : w5.cell? ⟨gb114,2,none⟩ = some (.int .i64 a0_2) := (blk_cell BK114.out 2).trans rfl;have hcz6_3 : w5.cell? ⟨gb114,3,none⟩ = some (.int .i64 a0_3) := (blk_cell BK114.out 3).trans rfl;have hcz6_4 : w5.cell? ⟨gb114,4,none⟩ = some (.int .i64 a0_4) := (blk_cell BK114.out 4).trans rfl;have hcz6_5 : w5.cell? ⟨gb114,5,none⟩ = some (.slice A0_5 l0_5.length c0_5) := (blk_cell BK114.out 5).trans rfl;have hfz6_0 := blk_frozen BK114.out 0;have hfz6_1 := blk_frozen BK114.out 1;have hfz6_2 := blk_frozen BK114.out 2;have hfz6_3 := blk_frozen BK114.out 3;have hfz6_4 := blk_frozen BK114.out 4;have hfz6_5 := blk_frozen BK114.out 5) | ((with_reducible refine gate_callee (f := 33) rfl ?_);refine goesL_ (some 9) rfl rfl Try.func33 (by kernel_rfl) rfl #[.agg #[.int .i64 a0_0,.int .i64 a0_1,.int .i64 a0_2,.int .i64 a0_3,.int .i64 a0_4,.slice A0_5 l0_5.length c0_5]] rfl (by (try simp only [List.map_toArray,List.map_cons,List.map_nil]);first | done | rfl | (simp only [List.length_drop,List.length_take];rfl)) ?_;(with_reducible refine (passepartoutref04_own.calls a0_0 a0_1 a0_2 a0_3 a0_4 _ _ l0_5 t115 _ ?side1 ?side2 A2.out).mono ?_);(case side1 => repeat (first | exact (Kd.C_below HR0_5.out HB.out) | (with_reducible refine Kd.C_alloc ?_ _) | (with_reducible refine Kd.C_drewN ?_ _) | (with_reducible refine Kd.C_drew ?_)));(case side2 => exact HC0_5.out);rintro e w7 ⟨rfl,hb⟩;refine ⟨_,rfl,?_⟩;have n0_ := Aside0.mk (blk_below (g := gb114) (o := .cells #[.int .i64 a0_0,.int .i64 a0_1,.int .i64 a0_2,.int .i64 a0_3,.int .i64 a0_4,.slice A0_5 l0_5.length c0_5] 24 (0,0)) (by (with_reducible repeat (first | refine blk_drewN ?_ _ | refine blk_drew ?_ | refine blk_alloc ?_ _));exact BK114.out) hb);have n1_ := Aside0.mk (below_step (by repeat (first | (with_reducible first | exact HB.out | apply below_alloc | apply pw_below_drewN | apply below_drew1 | refine below_set ?_ GE114.out) | exact HB.out)) hb);clear BK114;clear HB;have BK114 := n0_;have HB := n1_;clear n0_ n1_;(try clear hb);(try clear hb2);(try clear hk);(try clear hi);have hcz8_0 : w7.cell? ⟨gb114,0,none⟩ = some (.int .i64 a0_0) := (blk_cell BK114.out 0).trans rfl;have hcz8_1 : w7.cell? ⟨gb114,1,none⟩ = some (.int .i64 a0_1) := (blk_cell BK114.out 1).trans rfl;have hcz8_2 : w7.cell? ⟨gb114,2,none⟩ = some (.int .i64 a0_2) := (blk_cell BK114.out 2).trans rfl;have hcz8_3 : w7.cell? ⟨gb114,3,none⟩ = some (.int .i64 a0_3) := (blk_cell BK114.out 3).trans rfl;have hcz8_4 : w7.cell? ⟨gb114,4,none⟩ = some (.int .i64 a0_4) := (blk_cell BK114.out 4).trans rfl;have hcz8_5 : w7.cell? ⟨gb114,5,none⟩ = some (.slice A0_5 l0_5.length c0_5) := (blk_cell BK114.out 5).trans rfl;have hfz8_0 := blk_frozen BK114.out 0;have hfz8_1 := blk_frozen BK114.out 1;have hfz8_2 := blk_frozen BK114.out 2;have hfz8_3 := blk_frozen BK114.out 3;have hfz8_4 := blk_frozen BK114.out 4;have hfz8_5 := blk_frozen BK114.out 5) | ((with_reducible refine gate_callee (f := 32) rfl ?_);refine goesL_ (some 14) rfl rfl Try.func32 (by kernel_rfl) rfl #[.agg #[.int .i64 a0_0,.int .i64 a0_1,.int .i64 a0_2,.int .i64 a0_3,.int .i64 a0_4,.slice A0_5 l0_5.length c0_5]] rfl (by (try simp only [List.map_toArray,List.map_cons,List.map_nil]);first | done | rfl | (simp only [List.length_drop,List.length_take];rfl)) ?_;(with_reducible refine (passepartoutref04_parts.calls a0_0 a0_1 a0_2 a0_3 a0_4 (fun k_ => k_ < w.heap.size) _ _ l0_5 t116 _ ?side1 A4.out).mono ?_);(case side1 => exact Kd.V_mk HC0_5.out (Kd.F_below (Kd.C_F k24_heap HR0_5.out) (by repeat (first | (with_reducible first | exact HB.out | apply below_alloc | apply pw_below_drewN | apply below_drew1 | refine below_set ?_ GE114.out) | exact HB.out))));rintro e w9 ⟨v117,rfl,ho0,hb⟩;refine ⟨_,rfl,?_⟩;have n0_ := Aside0.mk (Kd.V_lower (Kd.V_mono (ok' := fun k_ => k_ ≠ gb114) ho0 (fun k_ hk_ => Or.elim hk_ (fun hs_ => fun e_ => Nat.not_le.2 hs_ (by rw [e_];exact GW114.out)) (fun hn_ => (Kd.freshB (g := gb114) (o := .cells #[.int .i64 a0_0,.int .i64 a0_1,.int .i64 a0_2,.int .i64 a0_3,.int .i64 a0_4,.slice A0_5 l0_5.length c0_5] 24 (0,0)) (by (with_reducible repeat (first | refine blk_drewN ?_ _ | refine blk_drew ?_ | refine blk_alloc ?_ _));exact BK114.out) k_ hn_)))) (below_size (by repeat (first | (with_reducible first | exact HB.out | apply below_alloc | apply pw_below_drewN | apply below_drew1 | refine below_set ?_ GE114.out) | exact HB.out))));have n1_ := Aside0.mk (blk_below (g := gb114) (o := .cells #[.int .i64 a0_0,.int .i64 a0_1,.int .i64 a0_2,.int .i64 a0_3,.int .i64 a0_4,.slice A0_5 l0_5.length c0_5] 24 (0,0)) (by (with_reducible repeat (first | refine blk_drewN ?_ _ | refine blk_drew ?_ | refine blk_alloc ?_ _));exact BK114.out) hb);have n2_ := Aside0.mk (below_step (by repeat (first | (with_reducible first | exact HB.out | apply below_alloc | apply pw_below_drewN | apply below_drew1 | refine below_set ?_ GE114.out) | exact HB.out)) hb);clear BK114;clear HB;have HO118 := n0_;have BK114 := n1_;have HB := n2_;clear n0_ n1_ n2_;(try clear hb);(try clear hb2);(try clear hk);(try clear hi);(try clear ho0)))
  go_loopg [5] k (fun kq v5 w' => ∃ (x5_1 : Int),v5 = .int .i64 x5_1 ∧ Aside0 (passepartoutref04_check.l0 kq t116 x5_1 a0_0 a0_1 a0_2 a0_3 a0_4 l0_5 = some r) ∧ Aside0 (kq ≤ k) ∧ Aside0 (Kd.V k24 24 w' w.heap.size (fun k_ => k_ ≠ gb114) v117 t116) ∧ Aside0 (w'.heap[gb114]? = some (.cells #[.int .i64 a0_0,.int .i64 a0_1,.int .i64 a0_2,.int .i64 a0_3,.int .i64 a0_4,(.slice A0_5 l0_5.length c0_5)] 24 (0,0))) ∧ Aside0 (Below w.heap.size w w'))
  case atStart => exact ⟨(0),(by first | rfl | (simp;done) | (simp [*];done)),H',⟨Nat.le_refl _⟩,⟨by (with_reducible repeat (first | apply Kd.V_alloc | apply Kd.V_drewN | apply Kd.V_drew));exact HO118.out⟩,⟨by (with_reducible repeat (first | refine blk_drewN ?_ _ | refine blk_drew ?_ | refine blk_alloc ?_ _));exact BK114.out⟩,⟨by repeat (first | (with_reducible first | exact HB.out | apply below_alloc | apply pw_below_drewN | apply below_drew1 | refine below_set ?_ GE114.out) | exact HB.out)⟩⟩
  case round =>
   clear H'
   try clear c2
   try clear p2
   try clear c3
   try clear c3b0
   try clear c3b1
   try clear hcz6_0
   try clear hcz6_1
   try clear hcz6_2
   try clear hcz6_3
   try clear hcz6_4
   try clear hcz6_5
   try clear hcz8_0
   try clear hcz8_1
   try clear hcz8_2
   try clear hcz8_3
   try clear hcz8_4
   try clear hcz8_5
   try clear hfz6_0
   try clear hfz6_1
   try clear hfz6_2
   try clear hfz6_3
   try clear hfz6_4
   try clear hfz6_5
   try clear hfz8_0
   try clear hfz8_1
   try clear hfz8_2
   try clear hfz8_3
   try clear hfz8_4
   try clear hfz8_5
   obtain ⟨x5_1,rfl,HA,HK1,HO_4,BK114,HB⟩ := hrel
   cases gk with
   | zero => exact absurd HA.out (by simp [passepartoutref04_check.l0])
   | succ k1 =>
    have H := HA.out
    clear HA
    simp only [passepartoutref04_check.l0] at H
    by_cases c10 : x5_1 < (t116.length : Int)
    ·rw [if_pos c10] at H
     have c10b0 : decide (x5_1 < (t116.length : Int)) = true := decide_eq_true c10
     clear c10
     by_cases c11 : 0 ≤ x5_1
     ·rw [if_pos c11] at H
      have c11b0 : decide (0 ≤ x5_1) = true := decide_eq_true c11
      clear c11
      replace H := Option.bind_eq_some_iff.mp H
      obtain ⟨t120,A120,H⟩ := H
      replace H : (if t120 = 0 then (passepartoutref04_check.l0 k1 t116 (wrap64 (x5_1 + 1)) a0_0 a0_1 a0_2 a0_3 a0_4 l0_5) else (some t120)) = some r := H
      have A12 := Aside0.mk A120
      clear A120
      by_cases c13 : t120 = 0
      ·rw [if_pos c13] at H
       have c13b0 : (t120 == 0) = true := beq_iff_eq.mpr c13
       have c13b1 : (t120 != 0) = false := bne_eq_false_iff_eq.mpr c13
       clear c13
       have H' := Aside0.mk H
       clear H
       obtain ⟨Ao14,co14,eo14⟩ := Kd.V_slice HO_4.out
       subst eo14
       have p119 : 0 ≤ (x5_1 : Int) := of_decide_eq_true (by first | (with_reducible assumption) | assumption)
       have q119 : x5_1 < (t116.length : Int) := of_decide_eq_true (by first | (with_reducible assumption) | assumption)
       obtain ⟨ad119,A119_5,c119_5,e119,hx119_0,hx119_1,hx119_2,hx119_3,hx119_4,hx119_5,hl119_5,hi119_5⟩ := at_T24 (Kd.V_reads' HO_4.out).2.2 x5_1 p119 q119
       cases e119
       obtain ⟨ce119,hce119,hMe119,hcc119⟩ := Kd.V_get HO_4.out z24 x5_1 p119 (by first | exact q119 | exact of_decide_eq_true (by first | (with_reducible assumption) | assumption) | (have e_ := (Kd.V_reads' HO_4.out).1;omega))
       obtain ⟨ua119_5,uc119_5,rfl,ul119_5,ge119_5⟩ := k24_openF hMe119
       have hv119_5 := hcc119 5 _ rfl
       rw [add_field _ _ 5 (by omega)] at hv119_5
       replace hv119_5 := Option.some.inj (hv119_5.symm.trans hx119_5)
       injection hv119_5 with hva_ hvn_ hvc_
       rw [hva_] at ge119_5
       rw [hvc_] at ul119_5
       have HL119_5 := Aside0.mk (show Kd.V k24 24 _ w.heap.size _ _ ((rd_T24 t116 x5_1).f5) from Kd.V_mk ul119_5 ge119_5)
       clear hva_ hvn_ hvc_ ge119_5 ul119_5
       clear hcc119 hce119
       have HR119_5 := Aside0.mk hi119_5
       have HC119_5 := Aside0.mk hl119_5
       clear hi119_5 hl119_5
       replace p119 := eq_true p119
       replace q119 := eq_true q119
       go_wp2_with (first | ((with_reducible refine gate_callee (f := 21) rfl ?_);refine goesL_ (some 25) rfl rfl Try.func21 (by kernel_rfl) rfl #[.agg #[.int .i64 ((rd_T24 t116 x5_1).f0),.int .i64 ((rd_T24 t116 x5_1).f1),.int .i64 ((rd_T24 t116 x5_1).f2),.int .i64 ((rd_T24 t116 x5_1).f3),.int .i64 ((rd_T24 t116 x5_1).f4),.slice A119_5 ((rd_T24 t116 x5_1).f5).length c119_5]] rfl (by (try simp only [List.map_toArray,List.map_cons,List.map_nil]);first | done | rfl | (simp only [List.length_drop,List.length_take];rfl)) ?_;(with_reducible refine (ih k1 (by have := HK1.out;omega) ((rd_T24 t116 x5_1).f0) ((rd_T24 t116 x5_1).f1) ((rd_T24 t116 x5_1).f2) ((rd_T24 t116 x5_1).f3) ((rd_T24 t116 x5_1).f4) _ _ ((rd_T24 t116 x5_1).f5) t120 _ ?side1 ?side2 A12.out).mono ?_);(case side1 => repeat (first | exact (by repeat (first | (with_reducible exact HR119_5.out) | (with_reducible refine Kd.C_alloc ?_ _) | (with_reducible refine Kd.C_drewN ?_ _) | (with_reducible refine Kd.C_drew ?_) | exact HR119_5.out)) | (with_reducible refine Kd.C_alloc ?_ _) | (with_reducible refine Kd.C_drewN ?_ _) | (with_reducible refine Kd.C_drew ?_)));(case side2 => exact HC119_5.out);rintro e w15 ⟨rfl,hb⟩;refine ⟨_,rfl,?_⟩;have n0_ := Aside0.mk (Kd.V_below (by (with_reducible repeat (first | apply Kd.V_alloc | apply Kd.V_drewN | apply Kd.V_drew));exact HO_4.out) hb);have n1_ := Aside0.mk (Kd.V_below (by (with_reducible repeat (first | apply Kd.V_alloc | apply Kd.V_drewN | apply Kd.V_drew));exact HL119_5.out) hb);have n2_ := Aside0.mk (blk_below (g := gb114) (o := .cells #[.int .i64 a0_0,.int .i64 a0_1,.int .i64 a0_2,.int .i64 a0_3,.int .i64 a0_4,.slice A0_5 l0_5.length c0_5] 24 (0,0)) (by (with_reducible repeat (first | refine blk_drewN ?_ _ | refine blk_drew ?_ | refine blk_alloc ?_ _));exact BK114.out) hb);have n3_ := Aside0.mk (Kd.C_below (by repeat (first | (with_reducible exact HR119_5.out) | (with_reducible refine Kd.C_alloc ?_ _) | (with_reducible refine Kd.C_drewN ?_ _) | (with_reducible refine Kd.C_drew ?_) | exact HR119_5.out)) hb);have n4_ := Aside0.mk (below_step (by repeat (first | (with_reducible first | exact HB.out | apply below_alloc | apply pw_below_drewN | apply below_drew1 | refine below_set ?_ GE114.out) | exact HB.out)) hb);clear HO_4;clear HL119_5;clear BK114;clear HR119_5;clear HB;have HO_4 := n0_;have HL119_5 := n1_;have BK114 := n2_;have HR119_5 := n3_;have HB := n4_;clear n0_ n1_ n2_ n3_ n4_;(try clear hb);(try clear hb2);(try clear hk);(try clear hi)))
       go_roundg k1
       case measure => have := HK1.out;omega
       case rel => exact ⟨(wrap64 (x5_1 + 1)),(by first | rfl | (simp;done) | (simp [*];done)),H',⟨by have := HK1.out;omega⟩,⟨by (with_reducible repeat (first | apply Kd.V_alloc | apply Kd.V_drewN | apply Kd.V_drew));exact HO_4.out⟩,⟨by (with_reducible repeat (first | refine blk_drewN ?_ _ | refine blk_drew ?_ | refine blk_alloc ?_ _));exact BK114.out⟩,⟨by repeat (first | (with_reducible first | exact HB.out | apply below_alloc | apply pw_below_drewN | apply below_drew1 | refine below_set ?_ GE114.out) | exact HB.out)⟩⟩
      ·rw [if_neg c13] at H
       have c13b0 : (t120 == 0) = false := beq_eq_false_iff_ne.mpr c13
       have c13b1 : (t120 != 0) = true := bne_iff_ne.mpr c13
       obtain rfl := Option.some.inj H
       obtain ⟨Ao16,co16,eo16⟩ := Kd.V_slice HO_4.out
       subst eo16
       have p119 : 0 ≤ (x5_1 : Int) := of_decide_eq_true (by first | (with_reducible assumption) | assumption)
       have q119 : x5_1 < (t116.length : Int) := of_decide_eq_true (by first | (with_reducible assumption) | assumption)
       obtain ⟨ad119,A119_5,c119_5,e119,hx119_0,hx119_1,hx119_2,hx119_3,hx119_4,hx119_5,hl119_5,hi119_5⟩ := at_T24 (Kd.V_reads' HO_4.out).2.2 x5_1 p119 q119
       cases e119
       obtain ⟨ce119,hce119,hMe119,hcc119⟩ := Kd.V_get HO_4.out z24 x5_1 p119 (by first | exact q119 | exact of_decide_eq_true (by first | (with_reducible assumption) | assumption) | (have e_ := (Kd.V_reads' HO_4.out).1;omega))
       obtain ⟨ua119_5,uc119_5,rfl,ul119_5,ge119_5⟩ := k24_openF hMe119
       have hv119_5 := hcc119 5 _ rfl
       rw [add_field _ _ 5 (by omega)] at hv119_5
       replace hv119_5 := Option.some.inj (hv119_5.symm.trans hx119_5)
       injection hv119_5 with hva_ hvn_ hvc_
       rw [hva_] at ge119_5
       rw [hvc_] at ul119_5
       have HL119_5 := Aside0.mk (show Kd.V k24 24 _ w.heap.size _ _ ((rd_T24 t116 x5_1).f5) from Kd.V_mk ul119_5 ge119_5)
       clear hva_ hvn_ hvc_ ge119_5 ul119_5
       clear hcc119 hce119
       have HR119_5 := Aside0.mk hi119_5
       have HC119_5 := Aside0.mk hl119_5
       clear hi119_5 hl119_5
       replace p119 := eq_true p119
       replace q119 := eq_true q119
       go_wp2_with (first | ((with_reducible refine gate_callee (f := 21) rfl ?_);refine goesL_ (some 25) rfl rfl Try.func21 (by kernel_rfl) rfl #[.agg #[.int .i64 ((rd_T24 t116 x5_1).f0),.int .i64 ((rd_T24 t116 x5_1).f1),.int .i64 ((rd_T24 t116 x5_1).f2),.int .i64 ((rd_T24 t116 x5_1).f3),.int .i64 ((rd_T24 t116 x5_1).f4),.slice A119_5 ((rd_T24 t116 x5_1).f5).length c119_5]] rfl (by (try simp only [List.map_toArray,List.map_cons,List.map_nil]);first | done | rfl | (simp only [List.length_drop,List.length_take];rfl)) ?_;(with_reducible refine (ih k1 (by have := HK1.out;omega) ((rd_T24 t116 x5_1).f0) ((rd_T24 t116 x5_1).f1) ((rd_T24 t116 x5_1).f2) ((rd_T24 t116 x5_1).f3) ((rd_T24 t116 x5_1).f4) _ _ ((rd_T24 t116 x5_1).f5) t120 _ ?side1 ?side2 A12.out).mono ?_);(case side1 => repeat (first | exact (by repeat (first | (with_reducible exact HR119_5.out) | (with_reducible refine Kd.C_alloc ?_ _) | (with_reducible refine Kd.C_drewN ?_ _) | (with_reducible refine Kd.C_drew ?_) | exact HR119_5.out)) | (with_reducible refine Kd.C_alloc ?_ _) | (with_reducible refine Kd.C_drewN ?_ _) | (with_reducible refine Kd.C_drew ?_)));(case side2 => exact HC119_5.out);rintro e w17 ⟨rfl,hb⟩;refine ⟨_,rfl,?_⟩;have n0_ := Aside0.mk (Kd.V_below (by (with_reducible repeat (first | apply Kd.V_alloc | apply Kd.V_drewN | apply Kd.V_drew));exact HO_4.out) hb);have n1_ := Aside0.mk (Kd.V_below (by (with_reducible repeat (first | apply Kd.V_alloc | apply Kd.V_drewN | apply Kd.V_drew));exact HL119_5.out) hb);have n2_ := Aside0.mk (blk_below (g := gb114) (o := .cells #[.int .i64 a0_0,.int .i64 a0_1,.int .i64 a0_2,.int .i64 a0_3,.int .i64 a0_4,.slice A0_5 l0_5.length c0_5] 24 (0,0)) (by (with_reducible repeat (first | refine blk_drewN ?_ _ | refine blk_drew ?_ | refine blk_alloc ?_ _));exact BK114.out) hb);have n3_ := Aside0.mk (Kd.C_below (by repeat (first | (with_reducible exact HR119_5.out) | (with_reducible refine Kd.C_alloc ?_ _) | (with_reducible refine Kd.C_drewN ?_ _) | (with_reducible refine Kd.C_drew ?_) | exact HR119_5.out)) hb);have n4_ := Aside0.mk (below_step (by repeat (first | (with_reducible first | exact HB.out | apply below_alloc | apply pw_below_drewN | apply below_drew1 | refine below_set ?_ GE114.out) | exact HB.out)) hb);clear HO_4;clear HL119_5;clear BK114;clear HR119_5;clear HB;have HO_4 := n0_;have HL119_5 := n1_;have BK114 := n2_;have HR119_5 := n3_;have HB := n4_;clear n0_ n1_ n2_ n3_ n4_;(try clear hb);(try clear hb2);(try clear hk);(try clear hi)))
       go_ret
       exact ⟨by first | rfl | (simp [errW_none,errW_some] <;> rfl) | (simp [*,errW_none,errW_some] <;> rfl),by repeat (first | (with_reducible first | exact HB.out | apply below_alloc | apply pw_below_drewN | apply below_drew1 | refine below_set ?_ GE114.out) | exact HB.out)⟩
     ·rw [if_neg c11] at H
      exact absurd H (by simp)
    ·rw [if_neg c10] at H
     have c10b0 : decide (x5_1 < (t116.length : Int)) = false := decide_eq_false c10
     clear c10
     have H' := Aside0.mk H
     clear H
     obtain ⟨Ao18,co18,eo18⟩ := Kd.V_slice HO_4.out
     subst eo18
     go_wp2
     go_loopg [6] k1 (fun kq v6 w' => ∃ (x6_2 : Int),v6 = .int .i64 x6_2 ∧ Aside0 (passepartoutref04_check.l1 kq t116 x6_2 a0_0 a0_1 a0_2 a0_3 a0_4 l0_5 = some r) ∧ Aside0 (kq ≤ k1) ∧ Aside0 (Kd.V k24 24 w' w.heap.size (fun k_ => k_ ≠ gb114) (.slice Ao18 t116.length co18) t116) ∧ Aside0 (w'.heap[gb114]? = some (.cells #[.int .i64 a0_0,.int .i64 a0_1,.int .i64 a0_2,.int .i64 a0_3,.int .i64 a0_4,(.slice A0_5 l0_5.length c0_5)] 24 (0,0))) ∧ Aside0 (Below w.heap.size w w'))
     case atStart => exact ⟨(0),(by first | rfl | (simp;done) | (simp [*];done)),H',⟨Nat.le_refl _⟩,⟨by (with_reducible repeat (first | apply Kd.V_alloc | apply Kd.V_drewN | apply Kd.V_drew));exact HO_4.out⟩,⟨by (with_reducible repeat (first | refine blk_drewN ?_ _ | refine blk_drew ?_ | refine blk_alloc ?_ _));exact BK114.out⟩,⟨by repeat (first | (with_reducible first | exact HB.out | apply below_alloc | apply pw_below_drewN | apply below_drew1 | refine below_set ?_ GE114.out) | exact HB.out)⟩⟩
     case round =>
      clear H'
      try clear c1
      try clear p1
      try clear q1
      try clear hx1
      try clear c2
      try clear p2
      try clear c3
      try clear c3b0
      try clear c3b1
      try clear p6
      try clear c10
      try clear c10b0
      try clear c11
      try clear c11b0
      try clear p11
      try clear q11
      try clear hx11
      try clear c13
      try clear c13b0
      try clear c13b1
      try clear hcz6_0
      try clear hcz6_1
      try clear hcz6_2
      try clear hcz6_3
      try clear hcz6_4
      try clear hcz6_5
      try clear hcz8_0
      try clear hcz8_1
      try clear hcz8_2
      try clear hcz8_3
      try clear hcz8_4
      try clear hcz8_5
      try clear hfz6_0
      try clear hfz6_1
      try clear hfz6_2
      try clear hfz6_3
      try clear hfz6_4
      try clear hfz6_5
      try clear hfz8_0
      try clear hfz8_1
      try clear hfz8_2
      try clear hfz8_3
      try clear hfz8_4
      try clear hfz8_5
      try clear hx119_0
      try clear hx119_1
      try clear hx119_2
      try clear hx119_3
      try clear hx119_4
      try clear hx119_5
      try clear p119
      try clear p2
      try clear q119
      obtain ⟨x6_2,rfl,HA,HK2,HO_4,BK114,HB⟩ := hrel
      cases gk with
      | zero => exact absurd HA.out (by simp [passepartoutref04_check.l1])
      | succ k2 =>
       have H := HA.out
       clear HA
       simp only [passepartoutref04_check.l1] at H
       by_cases c19 : x6_2 < (t116.length : Int)
       ·rw [if_pos c19] at H
        have c19b0 : decide (x6_2 < (t116.length : Int)) = true := decide_eq_true c19
        clear c19
        by_cases c20 : 0 ≤ x6_2
        ·rw [if_pos c20] at H
         have c20b0 : decide (0 ≤ x6_2) = true := decide_eq_true c20
         clear c20
         replace H := Option.bind_eq_some_iff.mp H
         obtain ⟨t122,A210,H⟩ := H
         replace H : (if t122 = true then (if a0_0 = 2 then (some 15) else (if (wrap64 (x6_2 + 1)) < (t116.length : Int) then (some 15) else (passepartoutref04_check.l1 k2 t116 (wrap64 (x6_2 + 1)) a0_0 a0_1 a0_2 a0_3 a0_4 l0_5))) else (passepartoutref04_check.l1 k2 t116 (wrap64 (x6_2 + 1)) a0_0 a0_1 a0_2 a0_3 a0_4 l0_5)) = some r := H
         have A21 := Aside0.mk A210
         clear A210
         by_cases c22 : t122 = true
         ·subst c22
          have H1 : (if a0_0 = 2 then (some 15) else (if (wrap64 (x6_2 + 1)) < (t116.length : Int) then (some 15) else (passepartoutref04_check.l1 k2 t116 (wrap64 (x6_2 + 1)) a0_0 a0_1 a0_2 a0_3 a0_4 l0_5))) = some r := by rw [if_pos rfl] at H;exact H
          clear H
          have H := H1
          clear H1
          by_cases c23 : a0_0 = 2
          ·rw [if_pos c23] at H
           have c23b0 : (a0_0 == 2) = true := beq_iff_eq.mpr c23
           have c23b1 : (a0_0 != 2) = false := bne_eq_false_iff_eq.mpr c23
           clear c23
           obtain rfl := Option.some.inj H
           have p121 : 0 ≤ (x6_2 : Int) := of_decide_eq_true (by first | (with_reducible assumption) | assumption)
           have q121 : x6_2 < (t116.length : Int) := of_decide_eq_true (by first | (with_reducible assumption) | assumption)
           obtain ⟨ad121,A121_5,c121_5,e121,hx121_0,hx121_1,hx121_2,hx121_3,hx121_4,hx121_5,hl121_5,hi121_5⟩ := at_T24 (Kd.V_reads' HO_4.out).2.2 x6_2 p121 q121
           cases e121
           obtain ⟨ce121,hce121,hMe121,hcc121⟩ := Kd.V_get HO_4.out z24 x6_2 p121 (by first | exact q121 | exact of_decide_eq_true (by first | (with_reducible assumption) | assumption) | (have e_ := (Kd.V_reads' HO_4.out).1;omega))
           obtain ⟨ua121_5,uc121_5,rfl,ul121_5,ge121_5⟩ := k24_openF hMe121
           have hv121_5 := hcc121 5 _ rfl
           rw [add_field _ _ 5 (by omega)] at hv121_5
           replace hv121_5 := Option.some.inj (hv121_5.symm.trans hx121_5)
           injection hv121_5 with hva_ hvn_ hvc_
           rw [hva_] at ge121_5
           rw [hvc_] at ul121_5
           have HL121_5 := Aside0.mk (show Kd.V k24 24 _ w.heap.size _ _ ((rd_T24 t116 x6_2).f5) from Kd.V_mk ul121_5 ge121_5)
           clear hva_ hvn_ hvc_ ge121_5 ul121_5
           clear hcc121 hce121
           have HR121_5 := Aside0.mk hi121_5
           have HC121_5 := Aside0.mk hl121_5
           clear hi121_5 hl121_5
           replace p121 := eq_true p121
           replace q121 := eq_true q121
           go_wp2_with (first | ((with_reducible refine gate_callee (f := 34) rfl ?_);refine goesL_ (some 39) rfl rfl Try.func34 (by kernel_rfl) rfl #[.agg #[.int .i64 ((rd_T24 t116 x6_2).f0),.int .i64 ((rd_T24 t116 x6_2).f1),.int .i64 ((rd_T24 t116 x6_2).f2),.int .i64 ((rd_T24 t116 x6_2).f3),.int .i64 ((rd_T24 t116 x6_2).f4),.slice A121_5 ((rd_T24 t116 x6_2).f5).length c121_5]] rfl (by (try simp only [List.map_toArray,List.map_cons,List.map_nil]);first | done | rfl | (simp only [List.length_drop,List.length_take];rfl)) ?_;(with_reducible refine (passepartoutref04_Open.calls k2 ((rd_T24 t116 x6_2).f0) ((rd_T24 t116 x6_2).f1) ((rd_T24 t116 x6_2).f2) ((rd_T24 t116 x6_2).f3) ((rd_T24 t116 x6_2).f4) _ _ ((rd_T24 t116 x6_2).f5) true _ ?side1 ?side2 A21.out).mono ?_);(case side1 => repeat (first | exact (by repeat (first | (with_reducible exact HR121_5.out) | (with_reducible refine Kd.C_alloc ?_ _) | (with_reducible refine Kd.C_drewN ?_ _) | (with_reducible refine Kd.C_drew ?_) | exact HR121_5.out)) | (with_reducible refine Kd.C_alloc ?_ _) | (with_reducible refine Kd.C_drewN ?_ _) | (with_reducible refine Kd.C_drew ?_)));(case side2 => exact HC121_5.out);rintro e w24 ⟨rfl,hb⟩;refine ⟨_,rfl,?_⟩;have n0_ := Aside0.mk (Kd.V_below (by (with_reducible repeat (first | apply Kd.V_alloc | apply Kd.V_drewN | apply Kd.V_drew));exact HO_4.out) hb);have n1_ := Aside0.mk (Kd.V_below (by (with_reducible repeat (first | apply Kd.V_alloc | apply Kd.V_drewN | apply Kd.V_drew));exact HL121_5.out) hb);have n2_ := Aside0.mk (blk_below (g := gb114) (o := .cells #[.int .i64 a0_0,.int .i64 a0_1,.int .i64 a0_2,.int .i64 a0_3,.int .i64 a0_4,.slice A0_5 l0_5.length c0_5] 24 (0,0)) (by (with_reducible repeat (first | refine blk_drewN ?_ _ | refine blk_drew ?_ | refine blk_alloc ?_ _));exact BK114.out) hb);have n3_ := Aside0.mk (Kd.C_below (by repeat (first | (with_reducible exact HR121_5.out) | (with_reducible refine Kd.C_alloc ?_ _) | (with_reducible refine Kd.C_drewN ?_ _) | (with_reducible refine Kd.C_drew ?_) | exact HR121_5.out)) hb);have n4_ := Aside0.mk (below_step (by repeat (first | (with_reducible first | exact HB.out | apply below_alloc | apply pw_below_drewN | apply below_drew1 | refine below_set ?_ GE114.out) | exact HB.out)) hb);clear HO_4;clear HL121_5;clear BK114;clear HR121_5;clear HB;have HO_4 := n0_;have HL121_5 := n1_;have BK114 := n2_;have HR121_5 := n3_;have HB := n4_;clear n0_ n1_ n2_ n3_ n4_;(try clear hb);(try clear hb2);(try clear hk);(try clear hi);have hcz25_0 : w24.cell? ⟨gb114,0,none⟩ = some (.int .i64 a0_0) := (blk_cell BK114.out 0).trans rfl;have hcz25_1 : w24.cell? ⟨gb114,1,none⟩ = some (.int .i64 a0_1) := (blk_cell BK114.out 1).trans rfl;have hcz25_2 : w24.cell? ⟨gb114,2,none⟩ = some (.int .i64 a0_2) := (blk_cell BK114.out 2).trans rfl;have hcz25_3 : w24.cell? ⟨gb114,3,none⟩ = some (.int .i64 a0_3) := (blk_cell BK114.out 3).trans rfl;have hcz25_4 : w24.cell? ⟨gb114,4,none⟩ = some (.int .i64 a0_4) := (blk_cell BK114.out 4).trans rfl;have hcz25_5 : w24.cell? ⟨gb114,5,none⟩ = some (.slice A0_5 l0_5.length c0_5) := (blk_cell BK114.out 5).trans rfl;have hfz25_0 := blk_frozen BK114.out 0;have hfz25_1 := blk_frozen BK114.out 1;have hfz25_2 := blk_frozen BK114.out 2;have hfz25_3 := blk_frozen BK114.out 3;have hfz25_4 := blk_frozen BK114.out 4;have hfz25_5 := blk_frozen BK114.out 5))
           go_ret
           exact ⟨by first | rfl | (simp [errW_none,errW_some] <;> rfl) | (simp [*,errW_none,errW_some] <;> rfl),by repeat (first | (with_reducible first | exact HB.out | apply below_alloc | apply pw_below_drewN | apply below_drew1 | refine below_set ?_ GE114.out) | exact HB.out)⟩
          ·rw [if_neg c23] at H
           have c23b0 : (a0_0 == 2) = false := beq_eq_false_iff_ne.mpr c23
           have c23b1 : (a0_0 != 2) = true := bne_iff_ne.mpr c23
           by_cases c26 : (wrap64 (x6_2 + 1)) < (t116.length : Int)
           ·rw [if_pos c26] at H
            have c26b0 : decide ((wrap64 (x6_2 + 1)) < (t116.length : Int)) = true := decide_eq_true c26
            clear c26
            obtain rfl := Option.some.inj H
            have p121 : 0 ≤ (x6_2 : Int) := of_decide_eq_true (by first | (with_reducible assumption) | assumption)
            have q121 : x6_2 < (t116.length : Int) := of_decide_eq_true (by first | (with_reducible assumption) | assumption)
            obtain ⟨ad121,A121_5,c121_5,e121,hx121_0,hx121_1,hx121_2,hx121_3,hx121_4,hx121_5,hl121_5,hi121_5⟩ := at_T24 (Kd.V_reads' HO_4.out).2.2 x6_2 p121 q121
            cases e121
            obtain ⟨ce121,hce121,hMe121,hcc121⟩ := Kd.V_get HO_4.out z24 x6_2 p121 (by first | exact q121 | exact of_decide_eq_true (by first | (with_reducible assumption) | assumption) | (have e_ := (Kd.V_reads' HO_4.out).1;omega))
            obtain ⟨ua121_5,uc121_5,rfl,ul121_5,ge121_5⟩ := k24_openF hMe121
            have hv121_5 := hcc121 5 _ rfl
            rw [add_field _ _ 5 (by omega)] at hv121_5
            replace hv121_5 := Option.some.inj (hv121_5.symm.trans hx121_5)
            injection hv121_5 with hva_ hvn_ hvc_
            rw [hva_] at ge121_5
            rw [hvc_] at ul121_5
            have HL121_5 := Aside0.mk (show Kd.V k24 24 _ w.heap.size _ _ ((rd_T24 t116 x6_2).f5) from Kd.V_mk ul121_5 ge121_5)
            clear hva_ hvn_ hvc_ ge121_5 ul121_5
            clear hcc121 hce121
            have HR121_5 := Aside0.mk hi121_5
            have HC121_5 := Aside0.mk hl121_5
            clear hi121_5 hl121_5
            replace p121 := eq_true p121
            replace q121 := eq_true q121
            go_wp2_with (first | ((with_reducible refine gate_callee (f := 34) rfl ?_);refine goesL_ (some 39) rfl rfl Try.func34 (by kernel_rfl) rfl #[.agg #[.int .i64 ((rd_T24 t116 x6_2).f0),.int .i64 ((rd_T24 t116 x6_2).f1),.int .i64 ((rd_T24 t116 x6_2).f2),.int .i64 ((rd_T24 t116 x6_2).f3),.int .i64 ((rd_T24 t116 x6_2).f4),.slice A121_5 ((rd_T24 t116 x6_2).f5).length c121_5]] rfl (by (try simp only [List.map_toArray,List.map_cons,List.map_nil]);first | done | rfl | (simp only [List.length_drop,List.length_take];rfl)) ?_;(with_reducible refine (passepartoutref04_Open.calls k2 ((rd_T24 t116 x6_2).f0) ((rd_T24 t116 x6_2).f1) ((rd_T24 t116 x6_2).f2) ((rd_T24 t116 x6_2).f3) ((rd_T24 t116 x6_2).f4) _ _ ((rd_T24 t116 x6_2).f5) true _ ?side1 ?side2 A21.out).mono ?_);(case side1 => repeat (first | exact (by repeat (first | (with_reducible exact HR121_5.out) | (with_reducible refine Kd.C_alloc ?_ _) | (with_reducible refine Kd.C_drewN ?_ _) | (with_reducible refine Kd.C_drew ?_) | exact HR121_5.out)) | (with_reducible refine Kd.C_alloc ?_ _) | (with_reducible refine Kd.C_drewN ?_ _) | (with_reducible refine Kd.C_drew ?_)));(case side2 => exact HC121_5.out);rintro e w27 ⟨rfl,hb⟩;refine ⟨_,rfl,?_⟩;have n0_ := Aside0.mk (Kd.V_below (by (with_reducible repeat (first | apply Kd.V_alloc | apply Kd.V_drewN | apply Kd.V_drew));exact HO_4.out) hb);have n1_ := Aside0.mk (Kd.V_below (by (with_reducible repeat (first | apply Kd.V_alloc | apply Kd.V_drewN | apply Kd.V_drew));exact HL121_5.out) hb);have n2_ := Aside0.mk (blk_below (g := gb114) (o := .cells #[.int .i64 a0_0,.int .i64 a0_1,.int .i64 a0_2,.int .i64 a0_3,.int .i64 a0_4,.slice A0_5 l0_5.length c0_5] 24 (0,0)) (by (with_reducible repeat (first | refine blk_drewN ?_ _ | refine blk_drew ?_ | refine blk_alloc ?_ _));exact BK114.out) hb);have n3_ := Aside0.mk (Kd.C_below (by repeat (first | (with_reducible exact HR121_5.out) | (with_reducible refine Kd.C_alloc ?_ _) | (with_reducible refine Kd.C_drewN ?_ _) | (with_reducible refine Kd.C_drew ?_) | exact HR121_5.out)) hb);have n4_ := Aside0.mk (below_step (by repeat (first | (with_reducible first | exact HB.out | apply below_alloc | apply pw_below_drewN | apply below_drew1 | refine below_set ?_ GE114.out) | exact HB.out)) hb);clear HO_4;clear HL121_5;clear BK114;clear HR121_5;clear HB;have HO_4 := n0_;have HL121_5 := n1_;have BK114 := n2_;have HR121_5 := n3_;have HB := n4_;clear n0_ n1_ n2_ n3_ n4_;(try clear hb);(try clear hb2);(try clear hk);(try clear hi);have hcz28_0 : w27.cell? ⟨gb114,0,none⟩ = some (.int .i64 a0_0) := (blk_cell BK114.out 0).trans rfl;have hcz28_1 : w27.cell? ⟨gb114,1,none⟩ = some (.int .i64 a0_1) := (blk_cell BK114.out 1).trans rfl;have hcz28_2 : w27.cell? ⟨gb114,2,none⟩ = some (.int .i64 a0_2) := (blk_cell BK114.out 2).trans rfl;have hcz28_3 : w27.cell? ⟨gb114,3,none⟩ = some (.int .i64 a0_3) := (blk_cell BK114.out 3).trans rfl;have hcz28_4 : w27.cell? ⟨gb114,4,none⟩ = some (.int .i64 a0_4) := (blk_cell BK114.out 4).trans rfl;have hcz28_5 : w27.cell? ⟨gb114,5,none⟩ = some (.slice A0_5 l0_5.length c0_5) := (blk_cell BK114.out 5).trans rfl;have hfz28_0 := blk_frozen BK114.out 0;have hfz28_1 := blk_frozen BK114.out 1;have hfz28_2 := blk_frozen BK114.out 2;have hfz28_3 := blk_frozen BK114.out 3;have hfz28_4 := blk_frozen BK114.out 4;have hfz28_5 := blk_frozen BK114.out 5))
            go_ret
            exact ⟨by first | rfl | (simp [errW_none,errW_some] <;> rfl) | (simp [*,errW_none,errW_some] <;> rfl),by repeat (first | (with_reducible first | exact HB.out | apply below_alloc | apply pw_below_drewN | apply below_drew1 | refine below_set ?_ GE114.out) | exact HB.out)⟩
           ·rw [if_neg c26] at H
            have c26b0 : decide ((wrap64 (x6_2 + 1)) < (t116.length : Int)) = false := decide_eq_false c26
            clear c26
            have H' := Aside0.mk H
            clear H
            have p121 : 0 ≤ (x6_2 : Int) := of_decide_eq_true (by first | (with_reducible assumption) | assumption)
            have q121 : x6_2 < (t116.length : Int) := of_decide_eq_true (by first | (with_reducible assumption) | assumption)
            obtain ⟨ad121,A121_5,c121_5,e121,hx121_0,hx121_1,hx121_2,hx121_3,hx121_4,hx121_5,hl121_5,hi121_5⟩ := at_T24 (Kd.V_reads' HO_4.out).2.2 x6_2 p121 q121
            cases e121
            obtain ⟨ce121,hce121,hMe121,hcc121⟩ := Kd.V_get HO_4.out z24 x6_2 p121 (by first | exact q121 | exact of_decide_eq_true (by first | (with_reducible assumption) | assumption) | (have e_ := (Kd.V_reads' HO_4.out).1;omega))
            obtain ⟨ua121_5,uc121_5,rfl,ul121_5,ge121_5⟩ := k24_openF hMe121
            have hv121_5 := hcc121 5 _ rfl
            rw [add_field _ _ 5 (by omega)] at hv121_5
            replace hv121_5 := Option.some.inj (hv121_5.symm.trans hx121_5)
            injection hv121_5 with hva_ hvn_ hvc_
            rw [hva_] at ge121_5
            rw [hvc_] at ul121_5
            have HL121_5 := Aside0.mk (show Kd.V k24 24 _ w.heap.size _ _ ((rd_T24 t116 x6_2).f5) from Kd.V_mk ul121_5 ge121_5)
            clear hva_ hvn_ hvc_ ge121_5 ul121_5
            clear hcc121 hce121
            have HR121_5 := Aside0.mk hi121_5
            have HC121_5 := Aside0.mk hl121_5
            clear hi121_5 hl121_5
            replace p121 := eq_true p121
            replace q121 := eq_true q121
            go_wp2_with (first | ((with_reducible refine gate_callee (f := 34) rfl ?_);refine goesL_ (some 39) rfl rfl Try.func34 (by kernel_rfl) rfl #[.agg #[.int .i64 ((rd_T24 t116 x6_2).f0),.int .i64 ((rd_T24 t116 x6_2).f1),.int .i64 ((rd_T24 t116 x6_2).f2),.int .i64 ((rd_T24 t116 x6_2).f3),.int .i64 ((rd_T24 t116 x6_2).f4),.slice A121_5 ((rd_T24 t116 x6_2).f5).length c121_5]] rfl (by (try simp only [List.map_toArray,List.map_cons,List.map_nil]);first | done | rfl | (simp only [List.length_drop,List.length_take];rfl)) ?_;(with_reducible refine (passepartoutref04_Open.calls k2 ((rd_T24 t116 x6_2).f0) ((rd_T24 t116 x6_2).f1) ((rd_T24 t116 x6_2).f2) ((rd_T24 t116 x6_2).f3) ((rd_T24 t116 x6_2).f4) _ _ ((rd_T24 t116 x6_2).f5) true _ ?side1 ?side2 A21.out).mono ?_);(case side1 => repeat (first | exact (by repeat (first | (with_reducible exact HR121_5.out) | (with_reducible refine Kd.C_alloc ?_ _) | (with_reducible refine Kd.C_drewN ?_ _) | (with_reducible refine Kd.C_drew ?_) | exact HR121_5.out)) | (with_reducible refine Kd.C_alloc ?_ _) | (with_reducible refine Kd.C_drewN ?_ _) | (with_reducible refine Kd.C_drew ?_)));(case side2 => exact HC121_5.out);rintro e w29 ⟨rfl,hb⟩;refine ⟨_,rfl,?_⟩;have n0_ := Aside0.mk (Kd.V_below (by (with_reducible repeat (first | apply Kd.V_alloc | apply Kd.V_drewN | apply Kd.V_drew));exact HO_4.out) hb);have n1_ := Aside0.mk (Kd.V_below (by (with_reducible repeat (first | apply Kd.V_alloc | apply Kd.V_drewN | apply Kd.V_drew));exact HL121_5.out) hb);have n2_ := Aside0.mk (blk_below (g := gb114) (o := .cells #[.int .i64 a0_0,.int .i64 a0_1,.int .i64 a0_2,.int .i64 a0_3,.int .i64 a0_4,.slice A0_5 l0_5.length c0_5] 24 (0,0)) (by (with_reducible repeat (first | refine blk_drewN ?_ _ | refine blk_drew ?_ | refine blk_alloc ?_ _));exact BK114.out) hb);have n3_ := Aside0.mk (Kd.C_below (by repeat (first | (with_reducible exact HR121_5.out) | (with_reducible refine Kd.C_alloc ?_ _) | (with_reducible refine Kd.C_drewN ?_ _) | (with_reducible refine Kd.C_drew ?_) | exact HR121_5.out)) hb);have n4_ := Aside0.mk (below_step (by repeat (first | (with_reducible first | exact HB.out | apply below_alloc | apply pw_below_drewN | apply below_drew1 | refine below_set ?_ GE114.out) | exact HB.out)) hb);clear HO_4;clear HL121_5;clear BK114;clear HR121_5;clear HB;have HO_4 := n0_;have HL121_5 := n1_;have BK114 := n2_;have HR121_5 := n3_;have HB := n4_;clear n0_ n1_ n2_ n3_ n4_;(try clear hb);(try clear hb2);(try clear hk);(try clear hi);have hcz30_0 : w29.cell? ⟨gb114,0,none⟩ = some (.int .i64 a0_0) := (blk_cell BK114.out 0).trans rfl;have hcz30_1 : w29.cell? ⟨gb114,1,none⟩ = some (.int .i64 a0_1) := (blk_cell BK114.out 1).trans rfl;have hcz30_2 : w29.cell? ⟨gb114,2,none⟩ = some (.int .i64 a0_2) := (blk_cell BK114.out 2).trans rfl;have hcz30_3 : w29.cell? ⟨gb114,3,none⟩ = some (.int .i64 a0_3) := (blk_cell BK114.out 3).trans rfl;have hcz30_4 : w29.cell? ⟨gb114,4,none⟩ = some (.int .i64 a0_4) := (blk_cell BK114.out 4).trans rfl;have hcz30_5 : w29.cell? ⟨gb114,5,none⟩ = some (.slice A0_5 l0_5.length c0_5) := (blk_cell BK114.out 5).trans rfl;have hfz30_0 := blk_frozen BK114.out 0;have hfz30_1 := blk_frozen BK114.out 1;have hfz30_2 := blk_frozen BK114.out 2;have hfz30_3 := blk_frozen BK114.out 3;have hfz30_4 := blk_frozen BK114.out 4;have hfz30_5 := blk_frozen BK114.out 5))
            go_roundg k2
            case measure => have := HK1.out;have := HK2.out;omega
            case rel => exact ⟨(wrap64 (x6_2 + 1)),(by first | rfl | (simp;done) | (simp [*];done)),H',⟨by have := HK1.out;have := HK2.out;omega⟩,⟨by (with_reducible repeat (first | apply Kd.V_alloc | apply Kd.V_drewN | apply Kd.V_drew));exact HO_4.out⟩,⟨by (with_reducible repeat (first | refine blk_drewN ?_ _ | refine blk_drew ?_ | refine blk_alloc ?_ _));exact BK114.out⟩,⟨by repeat (first | (with_reducible first | exact HB.out | apply below_alloc | apply pw_below_drewN | apply below_drew1 | refine below_set ?_ GE114.out) | exact HB.out)⟩⟩
         ·replace c22 := Bool.eq_false_iff.mpr c22
          subst c22
          have H1 : (passepartoutref04_check.l1 k2 t116 (wrap64 (x6_2 + 1)) a0_0 a0_1 a0_2 a0_3 a0_4 l0_5) = some r := by rw [if_neg (show ¬ (false = true) by decide)] at H;exact H
          clear H
          have H := H1
          clear H1
          have H' := Aside0.mk H
          clear H
          have p121 : 0 ≤ (x6_2 : Int) := of_decide_eq_true (by first | (with_reducible assumption) | assumption)
          have q121 : x6_2 < (t116.length : Int) := of_decide_eq_true (by first | (with_reducible assumption) | assumption)
          obtain ⟨ad121,A121_5,c121_5,e121,hx121_0,hx121_1,hx121_2,hx121_3,hx121_4,hx121_5,hl121_5,hi121_5⟩ := at_T24 (Kd.V_reads' HO_4.out).2.2 x6_2 p121 q121
          cases e121
          obtain ⟨ce121,hce121,hMe121,hcc121⟩ := Kd.V_get HO_4.out z24 x6_2 p121 (by first | exact q121 | exact of_decide_eq_true (by first | (with_reducible assumption) | assumption) | (have e_ := (Kd.V_reads' HO_4.out).1;omega))
          obtain ⟨ua121_5,uc121_5,rfl,ul121_5,ge121_5⟩ := k24_openF hMe121
          have hv121_5 := hcc121 5 _ rfl
          rw [add_field _ _ 5 (by omega)] at hv121_5
          replace hv121_5 := Option.some.inj (hv121_5.symm.trans hx121_5)
          injection hv121_5 with hva_ hvn_ hvc_
          rw [hva_] at ge121_5
          rw [hvc_] at ul121_5
          have HL121_5 := Aside0.mk (show Kd.V k24 24 _ w.heap.size _ _ ((rd_T24 t116 x6_2).f5) from Kd.V_mk ul121_5 ge121_5)
          clear hva_ hvn_ hvc_ ge121_5 ul121_5
          clear hcc121 hce121
          have HR121_5 := Aside0.mk hi121_5
          have HC121_5 := Aside0.mk hl121_5
          clear hi121_5 hl121_5
          replace p121 := eq_true p121
          replace q121 := eq_true q121
          go_wp2_with (first | ((with_reducible refine gate_callee (f := 34) rfl ?_);refine goesL_ (some 39) rfl rfl Try.func34 (by kernel_rfl) rfl #[.agg #[.int .i64 ((rd_T24 t116 x6_2).f0),.int .i64 ((rd_T24 t116 x6_2).f1),.int .i64 ((rd_T24 t116 x6_2).f2),.int .i64 ((rd_T24 t116 x6_2).f3),.int .i64 ((rd_T24 t116 x6_2).f4),.slice A121_5 ((rd_T24 t116 x6_2).f5).length c121_5]] rfl (by (try simp only [List.map_toArray,List.map_cons,List.map_nil]);first | done | rfl | (simp only [List.length_drop,List.length_take];rfl)) ?_;(with_reducible refine (passepartoutref04_Open.calls k2 ((rd_T24 t116 x6_2).f0) ((rd_T24 t116 x6_2).f1) ((rd_T24 t116 x6_2).f2) ((rd_T24 t116 x6_2).f3) ((rd_T24 t116 x6_2).f4) _ _ ((rd_T24 t116 x6_2).f5) false _ ?side1 ?side2 A21.out).mono ?_);(case side1 => repeat (first | exact (by repeat (first | (with_reducible exact HR121_5.out) | (with_reducible refine Kd.C_alloc ?_ _) | (with_reducible refine Kd.C_drewN ?_ _) | (with_reducible refine Kd.C_drew ?_) | exact HR121_5.out)) | (with_reducible refine Kd.C_alloc ?_ _) | (with_reducible refine Kd.C_drewN ?_ _) | (with_reducible refine Kd.C_drew ?_)));(case side2 => exact HC121_5.out);rintro e w31 ⟨rfl,hb⟩;refine ⟨_,rfl,?_⟩;have n0_ := Aside0.mk (Kd.V_below (by (with_reducible repeat (first | apply Kd.V_alloc | apply Kd.V_drewN | apply Kd.V_drew));exact HO_4.out) hb);have n1_ := Aside0.mk (Kd.V_below (by (with_reducible repeat (first | apply Kd.V_alloc | apply Kd.V_drewN | apply Kd.V_drew));exact HL121_5.out) hb);have n2_ := Aside0.mk (blk_below (g := gb114) (o := .cells #[.int .i64 a0_0,.int .i64 a0_1,.int .i64 a0_2,.int .i64 a0_3,.int .i64 a0_4,.slice A0_5 l0_5.length c0_5] 24 (0,0)) (by (with_reducible repeat (first | refine blk_drewN ?_ _ | refine blk_drew ?_ | refine blk_alloc ?_ _));exact BK114.out) hb);have n3_ := Aside0.mk (Kd.C_below (by repeat (first | (with_reducible exact HR121_5.out) | (with_reducible refine Kd.C_alloc ?_ _) | (with_reducible refine Kd.C_drewN ?_ _) | (with_reducible refine Kd.C_drew ?_) | exact HR121_5.out)) hb);have n4_ := Aside0.mk (below_step (by repeat (first | (with_reducible first | exact HB.out | apply below_alloc | apply pw_below_drewN | apply below_drew1 | refine below_set ?_ GE114.out) | exact HB.out)) hb);clear HO_4;clear HL121_5;clear BK114;clear HR121_5;clear HB;have HO_4 := n0_;have HL121_5 := n1_;have BK114 := n2_;have HR121_5 := n3_;have HB := n4_;clear n0_ n1_ n2_ n3_ n4_;(try clear hb);(try clear hb2);(try clear hk);(try clear hi)))
          go_roundg k2
          case measure => have := HK1.out;have := HK2.out;omega
          case rel => exact ⟨(wrap64 (x6_2 + 1)),(by first | rfl | (simp;done) | (simp [*];done)),H',⟨by have := HK1.out;have := HK2.out;omega⟩,⟨by (with_reducible repeat (first | apply Kd.V_alloc | apply Kd.V_drewN | apply Kd.V_drew));exact HO_4.out⟩,⟨by (with_reducible repeat (first | refine blk_drewN ?_ _ | refine blk_drew ?_ | refine blk_alloc ?_ _));exact BK114.out⟩,⟨by repeat (first | (with_reducible first | exact HB.out | apply below_alloc | apply pw_below_drewN | apply below_drew1 | refine below_set ?_ GE114.out) | exact HB.out)⟩⟩
        ·rw [if_neg c20] at H
         exact absurd H (by simp)
       ·rw [if_neg c19] at H
        have c19b0 : decide (x6_2 < (t116.length : Int)) = false := decide_eq_false c19
        clear c19
        by_cases c32 : a0_0 = 2
        ·rw [if_pos c32] at H
         have c32b0 : (a0_0 == 2) = true := beq_iff_eq.mpr c32
         have c32b1 : (a0_0 != 2) = false := bne_eq_false_iff_eq.mpr c32
         clear c32
         by_cases c33 : 0 < (t116.length : Int)
         ·rw [if_pos c33] at H
          have c33b0 : decide (0 < (t116.length : Int)) = true := decide_eq_true c33
          have c33b1 : decide (0 < t116.length) = true := decide_eq_true (by omega)
          clear c33
          replace H := Option.bind_eq_some_iff.mp H
          obtain ⟨t124,A340,H⟩ := H
          replace H : (if t124 = 0 then (some 15) else (some 0)) = some r := H
          have A34 := Aside0.mk A340
          clear A340
          by_cases c35 : t124 = 0
          ·rw [if_pos c35] at H
           have c35b0 : (t124 == 0) = true := beq_iff_eq.mpr c35
           have c35b1 : (t124 != 0) = false := bne_eq_false_iff_eq.mpr c35
           clear c35
           obtain rfl := Option.some.inj H
           have hcz36_0 : wr.cell? ⟨gb114,0,none⟩ = some (.int .i64 a0_0) := (blk_cell BK114.out 0).trans rfl
           have hcz36_1 : wr.cell? ⟨gb114,1,none⟩ = some (.int .i64 a0_1) := (blk_cell BK114.out 1).trans rfl
           have hcz36_2 : wr.cell? ⟨gb114,2,none⟩ = some (.int .i64 a0_2) := (blk_cell BK114.out 2).trans rfl
           have hcz36_3 : wr.cell? ⟨gb114,3,none⟩ = some (.int .i64 a0_3) := (blk_cell BK114.out 3).trans rfl
           have hcz36_4 : wr.cell? ⟨gb114,4,none⟩ = some (.int .i64 a0_4) := (blk_cell BK114.out 4).trans rfl
           have hcz36_5 : wr.cell? ⟨gb114,5,none⟩ = some (.slice A0_5 l0_5.length c0_5) := (blk_cell BK114.out 5).trans rfl
           have hfz36_0 := blk_frozen BK114.out 0
           have hfz36_1 := blk_frozen BK114.out 1
           have hfz36_2 := blk_frozen BK114.out 2
           have hfz36_3 := blk_frozen BK114.out 3
           have hfz36_4 := blk_frozen BK114.out 4
           have hfz36_5 := blk_frozen BK114.out 5
           have p123 : 0 ≤ (0 : Int) := (by omega)
           have q123 : 0 < (t116.length : Int) := of_decide_eq_true (by first | (with_reducible assumption) | assumption)
           obtain ⟨ad123,A123_5,c123_5,e123,hx123_0,hx123_1,hx123_2,hx123_3,hx123_4,hx123_5,hl123_5,hi123_5⟩ := at_T24 (Kd.V_reads' HO_4.out).2.2 0 p123 q123
           cases e123
           obtain ⟨ce123,hce123,hMe123,hcc123⟩ := Kd.V_get HO_4.out z24 0 p123 (by first | exact q123 | exact of_decide_eq_true (by first | (with_reducible assumption) | assumption) | (have e_ := (Kd.V_reads' HO_4.out).1;omega))
           obtain ⟨ua123_5,uc123_5,rfl,ul123_5,ge123_5⟩ := k24_openF hMe123
           have hv123_5 := hcc123 5 _ rfl
           rw [add_field _ _ 5 (by omega)] at hv123_5
           replace hv123_5 := Option.some.inj (hv123_5.symm.trans hx123_5)
           injection hv123_5 with hva_ hvn_ hvc_
           rw [hva_] at ge123_5
           rw [hvc_] at ul123_5
           have HL123_5 := Aside0.mk (show Kd.V k24 24 _ w.heap.size _ _ ((rd_T24 t116 0).f5) from Kd.V_mk ul123_5 ge123_5)
           clear hva_ hvn_ hvc_ ge123_5 ul123_5
           clear hcc123 hce123
           have qi123 : (0 < t116.length) = True := eq_true (by omega)
           (try rw [show ((0 : Int)).toNat = 0 from rfl] at hx123_0)
           (try rw [show 0 * 6 = 0 from rfl] at hx123_0)
           (try rw [Addr.add_zero'] at hx123_0)
           (try rw [show ((0 : Int)).toNat = 0 from rfl] at hx123_1)
           (try rw [show 0 * 6 = 0 from rfl] at hx123_1)
           (try rw [Addr.add_zero'] at hx123_1)
           (try rw [show ((0 : Int)).toNat = 0 from rfl] at hx123_2)
           (try rw [show 0 * 6 = 0 from rfl] at hx123_2)
           (try rw [Addr.add_zero'] at hx123_2)
           (try rw [show ((0 : Int)).toNat = 0 from rfl] at hx123_3)
           (try rw [show 0 * 6 = 0 from rfl] at hx123_3)
           (try rw [Addr.add_zero'] at hx123_3)
           (try rw [show ((0 : Int)).toNat = 0 from rfl] at hx123_4)
           (try rw [show 0 * 6 = 0 from rfl] at hx123_4)
           (try rw [Addr.add_zero'] at hx123_4)
           (try rw [show ((0 : Int)).toNat = 0 from rfl] at hx123_5)
           (try rw [show 0 * 6 = 0 from rfl] at hx123_5)
           (try rw [Addr.add_zero'] at hx123_5)
           have HR123_5 := Aside0.mk hi123_5
           have HC123_5 := Aside0.mk hl123_5
           clear hi123_5 hl123_5
           replace p123 := eq_true p123
           replace q123 := eq_true q123
           go_wp2_with (first | (go_at_call 35;(with_reducible refine (passepartoutref04_Least.calls k2 ((rd_T24 t116 0).f0) ((rd_T24 t116 0).f1) ((rd_T24 t116 0).f2) ((rd_T24 t116 0).f3) ((rd_T24 t116 0).f4) _ _ ((rd_T24 t116 0).f5) t124 _ ?side1 ?side2 A34.out).mono ?_);(case side1 => repeat (first | exact (by repeat (first | (with_reducible exact HR123_5.out) | (with_reducible refine Kd.C_alloc ?_ _) | (with_reducible refine Kd.C_drewN ?_ _) | (with_reducible refine Kd.C_drew ?_) | exact HR123_5.out)) | (with_reducible refine Kd.C_alloc ?_ _) | (with_reducible refine Kd.C_drewN ?_ _) | (with_reducible refine Kd.C_drew ?_)));(case side2 => exact HC123_5.out);rintro e w37 ⟨rfl,hb⟩;have n0_ := Aside0.mk (Kd.V_below (by (with_reducible repeat (first | apply Kd.V_alloc | apply Kd.V_drewN | apply Kd.V_drew));exact HO_4.out) hb);have n1_ := Aside0.mk (Kd.V_below (by (with_reducible repeat (first | apply Kd.V_alloc | apply Kd.V_drewN | apply Kd.V_drew));exact HL123_5.out) hb);have n2_ := Aside0.mk (blk_below (g := gb114) (o := .cells #[.int .i64 a0_0,.int .i64 a0_1,.int .i64 a0_2,.int .i64 a0_3,.int .i64 a0_4,.slice A0_5 l0_5.length c0_5] 24 (0,0)) (by (with_reducible repeat (first | refine blk_drewN ?_ _ | refine blk_drew ?_ | refine blk_alloc ?_ _));exact BK114.out) hb);have n3_ := Aside0.mk (Kd.C_below (by repeat (first | (with_reducible exact HR123_5.out) | (with_reducible refine Kd.C_alloc ?_ _) | (with_reducible refine Kd.C_drewN ?_ _) | (with_reducible refine Kd.C_drew ?_) | exact HR123_5.out)) hb);have n4_ := Aside0.mk (below_step (by repeat (first | (with_reducible first | exact HB.out | apply below_alloc | apply pw_below_drewN | apply below_drew1 | refine below_set ?_ GE114.out) | exact HB.out)) hb);clear HO_4;clear HL123_5;clear BK114;clear HR123_5;clear HB;have HO_4 := n0_;have HL123_5 := n1_;have BK114 := n2_;have HR123_5 := n3_;have HB := n4_;clear n0_ n1_ n2_ n3_ n4_;(try clear hb);(try clear hb2);(try clear hk);(try clear hi)))
           go_ret
           exact ⟨by first | rfl | (simp [errW_none,errW_some] <;> rfl) | (simp [*,errW_none,errW_some] <;> rfl),by repeat (first | (with_reducible first | exact HB.out | apply below_alloc | apply pw_below_drewN | apply below_drew1 | refine below_set ?_ GE114.out) | exact HB.out)⟩
          ·rw [if_neg c35] at H
           have c35b0 : (t124 == 0) = false := beq_eq_false_iff_ne.mpr c35
           have c35b1 : (t124 != 0) = true := bne_iff_ne.mpr c35
           obtain rfl := Option.some.inj H
           have hcz38_0 : wr.cell? ⟨gb114,0,none⟩ = some (.int .i64 a0_0) := (blk_cell BK114.out 0).trans rfl
           have hcz38_1 : wr.cell? ⟨gb114,1,none⟩ = some (.int .i64 a0_1) := (blk_cell BK114.out 1).trans rfl
           have hcz38_2 : wr.cell? ⟨gb114,2,none⟩ = some (.int .i64 a0_2) := (blk_cell BK114.out 2).trans rfl
           have hcz38_3 : wr.cell? ⟨gb114,3,none⟩ = some (.int .i64 a0_3) := (blk_cell BK114.out 3).trans rfl
           have hcz38_4 : wr.cell? ⟨gb114,4,none⟩ = some (.int .i64 a0_4) := (blk_cell BK114.out 4).trans rfl
           have hcz38_5 : wr.cell? ⟨gb114,5,none⟩ = some (.slice A0_5 l0_5.length c0_5) := (blk_cell BK114.out 5).trans rfl
           have hfz38_0 := blk_frozen BK114.out 0
           have hfz38_1 := blk_frozen BK114.out 1
           have hfz38_2 := blk_frozen BK114.out 2
           have hfz38_3 := blk_frozen BK114.out 3
           have hfz38_4 := blk_frozen BK114.out 4
           have hfz38_5 := blk_frozen BK114.out 5
           have p123 : 0 ≤ (0 : Int) := (by omega)
           have q123 : 0 < (t116.length : Int) := of_decide_eq_true (by first | (with_reducible assumption) | assumption)
           obtain ⟨ad123,A123_5,c123_5,e123,hx123_0,hx123_1,hx123_2,hx123_3,hx123_4,hx123_5,hl123_5,hi123_5⟩ := at_T24 (Kd.V_reads' HO_4.out).2.2 0 p123 q123
           cases e123
           obtain ⟨ce123,hce123,hMe123,hcc123⟩ := Kd.V_get HO_4.out z24 0 p123 (by first | exact q123 | exact of_decide_eq_true (by first | (with_reducible assumption) | assumption) | (have e_ := (Kd.V_reads' HO_4.out).1;omega))
           obtain ⟨ua123_5,uc123_5,rfl,ul123_5,ge123_5⟩ := k24_openF hMe123
           have hv123_5 := hcc123 5 _ rfl
           rw [add_field _ _ 5 (by omega)] at hv123_5
           replace hv123_5 := Option.some.inj (hv123_5.symm.trans hx123_5)
           injection hv123_5 with hva_ hvn_ hvc_
           rw [hva_] at ge123_5
           rw [hvc_] at ul123_5
           have HL123_5 := Aside0.mk (show Kd.V k24 24 _ w.heap.size _ _ ((rd_T24 t116 0).f5) from Kd.V_mk ul123_5 ge123_5)
           clear hva_ hvn_ hvc_ ge123_5 ul123_5
           clear hcc123 hce123
           have qi123 : (0 < t116.length) = True := eq_true (by omega)
           (try rw [show ((0 : Int)).toNat = 0 from rfl] at hx123_0)
           (try rw [show 0 * 6 = 0 from rfl] at hx123_0)
           (try rw [Addr.add_zero'] at hx123_0)
           (try rw [show ((0 : Int)).toNat = 0 from rfl] at hx123_1)
           (try rw [show 0 * 6 = 0 from rfl] at hx123_1)
           (try rw [Addr.add_zero'] at hx123_1)
           (try rw [show ((0 : Int)).toNat = 0 from rfl] at hx123_2)
           (try rw [show 0 * 6 = 0 from rfl] at hx123_2)
           (try rw [Addr.add_zero'] at hx123_2)
           (try rw [show ((0 : Int)).toNat = 0 from rfl] at hx123_3)
           (try rw [show 0 * 6 = 0 from rfl] at hx123_3)
           (try rw [Addr.add_zero'] at hx123_3)
           (try rw [show ((0 : Int)).toNat = 0 from rfl] at hx123_4)
           (try rw [show 0 * 6 = 0 from rfl] at hx123_4)
           (try rw [Addr.add_zero'] at hx123_4)
           (try rw [show ((0 : Int)).toNat = 0 from rfl] at hx123_5)
           (try rw [show 0 * 6 = 0 from rfl] at hx123_5)
           (try rw [Addr.add_zero'] at hx123_5)
           have HR123_5 := Aside0.mk hi123_5
           have HC123_5 := Aside0.mk hl123_5
           clear hi123_5 hl123_5
           replace p123 := eq_true p123
           replace q123 := eq_true q123
           go_wp2_with (first | (go_at_call 35;(with_reducible refine (passepartoutref04_Least.calls k2 ((rd_T24 t116 0).f0) ((rd_T24 t116 0).f1) ((rd_T24 t116 0).f2) ((rd_T24 t116 0).f3) ((rd_T24 t116 0).f4) _ _ ((rd_T24 t116 0).f5) t124 _ ?side1 ?side2 A34.out).mono ?_);(case side1 => repeat (first | exact (by repeat (first | (with_reducible exact HR123_5.out) | (with_reducible refine Kd.C_alloc ?_ _) | (with_reducible refine Kd.C_drewN ?_ _) | (with_reducible refine Kd.C_drew ?_) | exact HR123_5.out)) | (with_reducible refine Kd.C_alloc ?_ _) | (with_reducible refine Kd.C_drewN ?_ _) | (with_reducible refine Kd.C_drew ?_)));(case side2 => exact HC123_5.out);rintro e w39 ⟨rfl,hb⟩;have n0_ := Aside0.mk (Kd.V_below (by (with_reducible repeat (first | apply Kd.V_alloc | apply Kd.V_drewN | apply Kd.V_drew));exact HO_4.out) hb);have n1_ := Aside0.mk (Kd.V_below (by (with_reducible repeat (first | apply Kd.V_alloc | apply Kd.V_drewN | apply Kd.V_drew));exact HL123_5.out) hb);have n2_ := Aside0.mk (blk_below (g := gb114) (o := .cells #[.int .i64 a0_0,.int .i64 a0_1,.int .i64 a0_2,.int .i64 a0_3,.int .i64 a0_4,.slice A0_5 l0_5.length c0_5] 24 (0,0)) (by (with_reducible repeat (first | refine blk_drewN ?_ _ | refine blk_drew ?_ | refine blk_alloc ?_ _));exact BK114.out) hb);have n3_ := Aside0.mk (Kd.C_below (by repeat (first | (with_reducible exact HR123_5.out) | (with_reducible refine Kd.C_alloc ?_ _) | (with_reducible refine Kd.C_drewN ?_ _) | (with_reducible refine Kd.C_drew ?_) | exact HR123_5.out)) hb);have n4_ := Aside0.mk (below_step (by repeat (first | (with_reducible first | exact HB.out | apply below_alloc | apply pw_below_drewN | apply below_drew1 | refine below_set ?_ GE114.out) | exact HB.out)) hb);clear HO_4;clear HL123_5;clear BK114;clear HR123_5;clear HB;have HO_4 := n0_;have HL123_5 := n1_;have BK114 := n2_;have HR123_5 := n3_;have HB := n4_;clear n0_ n1_ n2_ n3_ n4_;(try clear hb);(try clear hb2);(try clear hk);(try clear hi)))
           go_ret
           exact ⟨by first | rfl | (simp [errW_none,errW_some] <;> rfl) | (simp [*,errW_none,errW_some] <;> rfl),by repeat (first | (with_reducible first | exact HB.out | apply below_alloc | apply pw_below_drewN | apply below_drew1 | refine below_set ?_ GE114.out) | exact HB.out)⟩
         ·rw [if_neg c33] at H
          exact absurd H (by simp)
        ·rw [if_neg c32] at H
         have c32b0 : (a0_0 == 2) = false := beq_eq_false_iff_ne.mpr c32
         have c32b1 : (a0_0 != 2) = true := bne_iff_ne.mpr c32
         obtain rfl := Option.some.inj H
         have hcz40_0 : wr.cell? ⟨gb114,0,none⟩ = some (.int .i64 a0_0) := (blk_cell BK114.out 0).trans rfl
         have hcz40_1 : wr.cell? ⟨gb114,1,none⟩ = some (.int .i64 a0_1) := (blk_cell BK114.out 1).trans rfl
         have hcz40_2 : wr.cell? ⟨gb114,2,none⟩ = some (.int .i64 a0_2) := (blk_cell BK114.out 2).trans rfl
         have hcz40_3 : wr.cell? ⟨gb114,3,none⟩ = some (.int .i64 a0_3) := (blk_cell BK114.out 3).trans rfl
         have hcz40_4 : wr.cell? ⟨gb114,4,none⟩ = some (.int .i64 a0_4) := (blk_cell BK114.out 4).trans rfl
         have hcz40_5 : wr.cell? ⟨gb114,5,none⟩ = some (.slice A0_5 l0_5.length c0_5) := (blk_cell BK114.out 5).trans rfl
         have hfz40_0 := blk_frozen BK114.out 0
         have hfz40_1 := blk_frozen BK114.out 1
         have hfz40_2 := blk_frozen BK114.out 2
         have hfz40_3 := blk_frozen BK114.out 3
         have hfz40_4 := blk_frozen BK114.out 4
         have hfz40_5 := blk_frozen BK114.out 5
         go_wp2
         go_ret
         exact ⟨by first | rfl | (simp [errW_none,errW_some] <;> rfl) | (simp [*,errW_none,errW_some] <;> rfl),by repeat (first | (with_reducible first | exact HB.out | apply below_alloc | apply pw_below_drewN | apply below_drew1 | refine below_set ?_ GE114.out) | exact HB.out)⟩
 ·rw [if_neg c3] at H
  have c3b0 : (t115 == 0) = false := beq_eq_false_iff_ne.mpr c3
  have c3b1 : (t115 != 0) = true := bne_iff_ne.mpr c3
  obtain rfl := Option.some.inj H
  go_enter Try.func21,Try.ntmps21
  go_wp2_with (first | ((with_reducible refine gate_dst (N := 1) rfl ?_);(try (refine gate_guard (by rfl) ?_;dsimp only));refine box_event ?hg (N := 1) ?hd (cs := #[.int .i64 a0_0,.int .i64 a0_1,.int .i64 a0_2,.int .i64 a0_3,.int .i64 a0_4,.slice A0_5 l0_5.length c0_5]) (t := 24) ?hr ?_;(case hd => rfl);(case hg => rfl);(case hr => first | (go_simp;done) | (go_simp;rfl));intro gb114 hg w41 hbox hb;have n0_ := Aside0.mk (below_step (by repeat (first | (with_reducible first | exact HB.out | apply below_alloc | apply pw_below_drewN | apply below_drew1) | exact HB.out)) hb);have n1_ := Aside0.mk (hbox);have n2_ := Aside0.mk ((by rw [hg];exact (below_size (by repeat (first | (with_reducible first | exact HB.out | apply below_alloc | apply pw_below_drewN | apply below_drew1) | exact HB.out))) : w.heap.size ≤ gb114));have n3_ := Aside0.mk ((by rw [hg];exact (below_size (by repeat (first | (with_reducible first | exact HB.out | apply below_alloc | apply pw_below_drewN | apply below_drew1) | exact HB.out))) : w.heap.size ≤ gb114));clear HB;have HB := n0_;have BK114 := n1_;have GW114 := n2_;have GE114 := n3_;clear n0_ n1_ n2_ n3_;clear hb hbox hg;have hcz42_0 : w41.cell? ⟨gb114,0,none⟩ = some (.int .i64 a0_0) := (blk_cell BK114.out 0).trans rfl;have hcz42_1 : w41.cell? ⟨gb114,1,none⟩ = some (.int .i64 a0_1) := (blk_cell BK114.out 1).trans rfl;have hcz42_2 : w41.cell? ⟨gb114,2,none⟩ = some (.int .i64 a0_2) := (blk_cell BK114.out 2).trans rfl;have hcz42_3 : w41.cell? ⟨gb114,3,none⟩ = some (.int .i64 a0_3) := (blk_cell BK114.out 3).trans rfl;have hcz42_4 : w41.cell? ⟨gb114,4,none⟩ = some (.int .i64 a0_4) := (blk_cell BK114.out 4).trans rfl;have hcz42_5 : w41.cell? ⟨gb114,5,none⟩ = some (.slice A0_5 l0_5.length c0_5) := (blk_cell BK114.out 5).trans rfl;have hfz42_0 := blk_frozen BK114.out 0;have hfz42_1 := blk_frozen BK114.out 1;have hfz42_2 := blk_frozen BK114.out 2;have hfz42_3 := blk_frozen BK114.out 3;have hfz42_4 := blk_frozen BK114.out 4;have hfz42_5 := blk_frozen BK114.out 5) | ((with_reducible refine gate_callee (f := 33) rfl ?_);refine goesL_ (some 9) rfl rfl Try.func33 (by kernel_rfl) rfl #[.agg #[.int .i64 a0_0,.int .i64 a0_1,.int .i64 a0_2,.int .i64 a0_3,.int .i64 a0_4,.slice A0_5 l0_5.length c0_5]] rfl (by (try simp only [List.map_toArray,List.map_cons,List.map_nil]);first | done | rfl | (simp only [List.length_drop,List.length_take];rfl)) ?_;(with_reducible refine (passepartoutref04_own.calls a0_0 a0_1 a0_2 a0_3 a0_4 _ _ l0_5 t115 _ ?side1 ?side2 A2.out).mono ?_);(case side1 => repeat (first | exact (Kd.C_below HR0_5.out HB.out) | (with_reducible refine Kd.C_alloc ?_ _) | (with_reducible refine Kd.C_drewN ?_ _) | (with_reducible refine Kd.C_drew ?_)));(case side2 => exact HC0_5.out);rintro e w43 ⟨rfl,hb⟩;refine ⟨_,rfl,?_⟩;have n0_ := Aside0.mk (blk_below (g := gb114) (o := .cells #[.int .i64 a0_0,.int .i64 a0_1,.int .i64 a0_2,.int .i64 a0_3,.int .i64 a0_4,.slice A0_5 l0_5.length c0_5] 24 (0,0)) (by (with_reducible repeat (first | refine blk_drewN ?_ _ | refine blk_drew ?_ | refine blk_alloc ?_ _));exact BK114.out) hb);have n1_ := Aside0.mk (below_step (by repeat (first | (with_reducible first | exact HB.out | apply below_alloc | apply pw_below_drewN | apply below_drew1 | refine below_set ?_ GE114.out) | exact HB.out)) hb);clear BK114;clear HB;have BK114 := n0_;have HB := n1_;clear n0_ n1_;(try clear hb);(try clear hb2);(try clear hk);(try clear hi)))
  go_ret
  exact ⟨by first | rfl | (simp [errW_none,errW_some] <;> rfl) | (simp [*,errW_none,errW_some] <;> rfl),by repeat (first | (with_reducible first | exact HB.out | apply below_alloc | apply pw_below_drewN | apply below_drew1 | refine below_set ?_ GE114.out) | exact HB.out)⟩

end Go.Proofs.Ytdhnfccgojgehaa.QP

namespace Go.Proofs.Ytdhnfccgojgehaa.QP
open Go.RowKit Go.Proofs.YtdhnfccgojgehaaW.PrintWords Go.Proofs.YtdhnfccgojgehaaW.PrintLast Go.Proofs.YtdhnfccgojgehaaW.PrintMore
attribute [local go_sem] max2_int min2_int max_two min_two max_three min_three max_four min_four   -- for this text's walks alone
set_option linter.unusedVariables false
set_option linter.unusedSimpArgs false

/-! ### passepartoutref04_Check: function 8 -/
def passepartoutref04_Check.f (k : Nat) (a0_0 : Int) (a0_1 : Int) (a0_2 : Int) (a0_3 : Int) (a0_4 : Int) (l0_5 : List (S24)) : Option (Int) := (passepartoutref04_Depth.f k a0_0 a0_1 a0_2 a0_3 a0_4 l0_5 9).bind fun t126 => (if t126 > 8 then (some 14) else ((passepartoutref04_check.f k a0_0 a0_1 a0_2 a0_3 a0_4 l0_5).bind fun t127 => (some t127)))
theorem passepartoutref04_Check.mono : ∀ a0 a1 a2 a3 a4 a5 k,LeO (passepartoutref04_Check.f k a0 a1 a2 a3 a4 a5) (passepartoutref04_Check.f (k + 1) a0 a1 a2 a3 a4 a5) := by
 intro a0 a1 a2 a3 a4 a5 k
 unfold passepartoutref04_Check.f
 repeat' first
   | (with_reducible exact passepartoutref04_Depth.mono _ _ _ _ _ _ _ _)
   | (with_reducible exact passepartoutref04_check.mono _ _ _ _ _ _ _)
   | (with_reducible exact LeO.refl _)
   | (with_reducible exact LeO.none _)
   | (with_reducible refine LeO.ite ?_ ?_)
   | (with_reducible refine LeO.bind ?_ (fun _ => ?_))
   | exact passepartoutref04_Depth.mono _ _ _ _ _ _ _ _
   | exact passepartoutref04_check.mono _ _ _ _ _ _ _
   | exact LeO.none _
   | refine LeO.ite ?_ ?_
   | refine LeO.bind ?_ (fun _ => ?_)
set_option maxHeartbeats 8000000 in
set_option maxRecDepth 100000 in
theorem passepartoutref04_Check.calls (k : Nat) (a0_0 : Int) (a0_1 : Int) (a0_2 : Int) (a0_3 : Int) (a0_4 : Int) (A0_5 : Option Addr) (c0_5 : Nat) (l0_5 : List (S24)) (r : Int) (w : World) (hr0_5 : Kd.C k24 w A0_5 l0_5.length l0_5) (hc0_5 : l0_5.length ≤ c0_5) (h : passepartoutref04_Check.f k a0_0 a0_1 a0_2 a0_3 a0_4 l0_5 = some r) :
  Calls Try.prog 8 #[.agg #[.int .i64 a0_0,.int .i64 a0_1,.int .i64 a0_2,.int .i64 a0_3,.int .i64 a0_4,.slice A0_5 l0_5.length c0_5]] w fun e w' => e = .returned (.int .i64 r) ∧ Below w.heap.size w w' := by
 have hu24 := Try.underlying24
 have HR0_5 := Aside0.mk hr0_5
 have HC0_5 := Aside0.mk hc0_5
 clear hr0_5 hc0_5
 have HB := Aside0.mk (Below.refl w.heap.size w)
 have H : ((passepartoutref04_Depth.f k a0_0 a0_1 a0_2 a0_3 a0_4 l0_5 9).bind fun t126 => (if t126 > 8 then (some 14) else ((passepartoutref04_check.f k a0_0 a0_1 a0_2 a0_3 a0_4 l0_5).bind fun t127 => (some t127)))) = some r := h
 clear h
 replace H := Option.bind_eq_some_iff.mp H
 obtain ⟨t126,A20,H⟩ := H
 replace H : (if t126 > 8 then (some 14) else ((passepartoutref04_check.f k a0_0 a0_1 a0_2 a0_3 a0_4 l0_5).bind fun t127 => (some t127))) = some r := H
 have A2 := Aside0.mk A20
 clear A20
 by_cases c3 : t126 > 8
 ·rw [if_pos c3] at H
  have c3b0 : decide (8 < t126) = true := decide_eq_true c3
  clear c3
  obtain rfl := Option.some.inj H
  go_enter Try.func8,Try.ntmps8
  go_wp2_with (first | ((with_reducible refine gate_dst (N := 1) rfl ?_);refine box_event ?hg (N := 1) ?hd (cs := #[.int .i64 a0_0,.int .i64 a0_1,.int .i64 a0_2,.int .i64 a0_3,.int .i64 a0_4,.slice A0_5 l0_5.length c0_5]) (t := 24) ?hr ?_;(case hd => rfl);(case hg => rfl);(case hr => first | (go_simp;done) | (go_simp;rfl));intro gb125 hg w4 hbox hb;have n0_ := Aside0.mk (below_step (by repeat (first | (with_reducible first | exact HB.out | apply below_alloc | apply pw_below_drewN | apply below_drew1) | exact HB.out)) hb);have n1_ := Aside0.mk (hbox);have n2_ := Aside0.mk ((by rw [hg];exact (below_size (by repeat (first | (with_reducible first | exact HB.out | apply below_alloc | apply pw_below_drewN | apply below_drew1) | exact HB.out))) : w.heap.size ≤ gb125));have n3_ := Aside0.mk ((by rw [hg];exact (below_size (by repeat (first | (with_reducible first | exact HB.out | apply below_alloc | apply pw_below_drewN | apply below_drew1) | exact HB.out))) : w.heap.size ≤ gb125));clear HB;have HB := n0_;have BK125 := n1_;have GW125 := n2_;have GE125 := n3_;clear n0_ n1_ n2_ n3_;clear hb hbox hg;have hcz5_0 : w4.cell? ⟨gb125,0,none⟩ = some (.int .i64 a0_0) := (blk_cell BK125.out 0).trans rfl;have hcz5_1 : w4.cell? ⟨gb125,1,none⟩ = some (.int .i64 a0_1) := (blk_cell BK125.out 1).trans rfl;have hcz5_2 : w4.cell? ⟨gb125,2,none⟩ = some (.int .i64 a0_2) := (blk_cell BK125.out 2).trans rfl;have hcz5_3 : w4.cell? ⟨gb125,3,none⟩ = some (.int .i64 a0_3) := (blk_cell BK125.out 3).trans rfl;have hcz5_4 : w4.cell? ⟨gb125,4,none⟩ = some (.int .i64 a0_4) := (blk_cell BK125.out 4).trans rfl;have hcz5_5 : w4.cell? ⟨gb125,5,none⟩ = some (.slice A0_5 l0_5.length c0_5) := (blk_cell BK125.out 5).trans rfl;have hfz5_0 := blk_frozen BK125.out 0;have hfz5_1 := blk_frozen BK125.out 1;have hfz5_2 := blk_frozen BK125.out 2;have hfz5_3 := blk_frozen BK125.out 3;have hfz5_4 := blk_frozen BK125.out 4;have hfz5_5 := blk_frozen BK125.out 5) | ((with_reducible refine gate_callee (f := 20) rfl ?_);refine goesL_ (some 4) rfl rfl Try.func20 (by kernel_rfl) rfl #[.agg #[.int .i64 a0_0,.int .i64 a0_1,.int .i64 a0_2,.int .i64 a0_3,.int .i64 a0_4,.slice A0_5 l0_5.length c0_5],.int .i64 9] rfl (by (try simp only [List.map_toArray,List.map_cons,List.map_nil]);first | done | rfl | (simp only [List.length_drop,List.length_take];rfl)) ?_;(with_reducible refine (passepartoutref04_Depth.calls k a0_0 a0_1 a0_2 a0_3 a0_4 _ _ l0_5 9 t126 _ ?side1 ?side2 A2.out).mono ?_);(case side1 => repeat (first | exact (Kd.C_below HR0_5.out HB.out) | (with_reducible refine Kd.C_alloc ?_ _) | (with_reducible refine Kd.C_drewN ?_ _) | (with_reducible refine Kd.C_drew ?_)));(case side2 => exact HC0_5.out);rintro e w6 ⟨rfl,hb⟩;refine ⟨_,rfl,?_⟩;have n0_ := Aside0.mk (blk_below (g := gb125) (o := .cells #[.int .i64 a0_0,.int .i64 a0_1,.int .i64 a0_2,.int .i64 a0_3,.int .i64 a0_4,.slice A0_5 l0_5.length c0_5] 24 (0,0)) (by (with_reducible repeat (first | refine blk_drewN ?_ _ | refine blk_drew ?_ | refine blk_alloc ?_ _));exact BK125.out) hb);have n1_ := Aside0.mk (below_step (by repeat (first | (with_reducible first | exact HB.out | apply below_alloc | apply pw_below_drewN | apply below_drew1 | refine below_set ?_ GE125.out) | exact HB.out)) hb);clear BK125;clear HB;have BK125 := n0_;have HB := n1_;clear n0_ n1_;(try clear hb);(try clear hb2);(try clear hk);(try clear hi)))
  go_ret
  exact ⟨by first | rfl | (simp [errW_none,errW_some] <;> rfl) | (simp [*,errW_none,errW_some] <;> rfl),by repeat (first | (with_reducible first | exact HB.out | apply below_alloc | apply pw_below_drewN | apply below_drew1 | refine below_set ?_ GE125.out) | exact HB.out)⟩
 ·rw [if_neg c3] at H
  have c3b0 : decide (8 < t126) = false := decide_eq_false c3
  clear c3
  replace H := Option.bind_eq_some_iff.mp H
  obtain ⟨t127,A70,H⟩ := H
  replace H : (some t127) = some r := H
  have A7 := Aside0.mk A70
  clear A70
  obtain rfl := Option.some.inj H
  go_enter Try.func8,Try.ntmps8
  go_wp2_with (first | ((with_reducible refine gate_dst (N := 1) rfl ?_);refine box_event ?hg (N := 1) ?hd (cs := #[.int .i64 a0_0,.int .i64 a0_1,.int .i64 a0_2,.int .i64 a0_3,.int .i64 a0_4,.slice A0_5 l0_5.length c0_5]) (t := 24) ?hr ?_;(case hd => rfl);(case hg => rfl);(case hr => first | (go_simp;done) | (go_simp;rfl));intro gb125 hg w8 hbox hb;have n0_ := Aside0.mk (below_step (by repeat (first | (with_reducible first | exact HB.out | apply below_alloc | apply pw_below_drewN | apply below_drew1) | exact HB.out)) hb);have n1_ := Aside0.mk (hbox);have n2_ := Aside0.mk ((by rw [hg];exact (below_size (by repeat (first | (with_reducible first | exact HB.out | apply below_alloc | apply pw_below_drewN | apply below_drew1) | exact HB.out))) : w.heap.size ≤ gb125));have n3_ := Aside0.mk ((by rw [hg];exact (below_size (by repeat (first | (with_reducible first | exact HB.out | apply below_alloc | apply pw_below_drewN | apply below_drew1) | exact HB.out))) : w.heap.size ≤ gb125));clear HB;have HB := n0_;have BK125 := n1_;have GW125 := n2_;have GE125 := n3_;clear n0_ n1_ n2_ n3_;clear hb hbox hg;have hcz9_0 : w8.cell? ⟨gb125,0,none⟩ = some (.int .i64 a0_0) := (blk_cell BK125.out 0).trans rfl;have hcz9_1 : w8.cell? ⟨gb125,1,none⟩ = some (.int .i64 a0_1) := (blk_cell BK125.out 1).trans rfl;have hcz9_2 : w8.cell? ⟨gb125,2,none⟩ = some (.int .i64 a0_2) := (blk_cell BK125.out 2).trans rfl;have hcz9_3 : w8.cell? ⟨gb125,3,none⟩ = some (.int .i64 a0_3) := (blk_cell BK125.out 3).trans rfl;have hcz9_4 : w8.cell? ⟨gb125,4,none⟩ = some (.int .i64 a0_4) := (blk_cell BK125.out 4).trans rfl;have hcz9_5 : w8.cell? ⟨gb125,5,none⟩ = some (.slice A0_5 l0_5.length c0_5) := (blk_cell BK125.out 5).trans rfl;have hfz9_0 := blk_frozen BK125.out 0;have hfz9_1 := blk_frozen BK125.out 1;have hfz9_2 := blk_frozen BK125.out 2;have hfz9_3 := blk_frozen BK125.out 3;have hfz9_4 := blk_frozen BK125.out 4;have hfz9_5 := blk_frozen BK125.out 5) | ((with_reducible refine gate_callee (f := 20) rfl ?_);refine goesL_ (some 4) rfl rfl Try.func20 (by kernel_rfl) rfl #[.agg #[.int .i64 a0_0,.int .i64 a0_1,.int .i64 a0_2,.int .i64 a0_3,.int .i64 a0_4,.slice A0_5 l0_5.length c0_5],.int .i64 9] rfl (by (try simp only [List.map_toArray,List.map_cons,List.map_nil]);first | done | rfl | (simp only [List.length_drop,List.length_take];rfl)) ?_;(with_reducible refine (passepartoutref04_Depth.calls k a0_0 a0_1 a0_2 a0_3 a0_4 _ _ l0_5 9 t126 _ ?side1 ?side2 A2.out).mono ?_);(case side1 => repeat (first | exact (Kd.C_below HR0_5.out HB.out) | (with_reducible refine Kd.C_alloc ?_ _) | (with_reducible refine Kd.C_drewN ?_ _) | (with_reducible refine Kd.C_drew ?_)));(case side2 => exact HC0_5.out);rintro e w10 ⟨rfl,hb⟩;refine ⟨_,rfl,?_⟩;have n0_ := Aside0.mk (blk_below (g := gb125) (o := .cells #[.int .i64 a0_0,.int .i64 a0_1,.int .i64 a0_2,.int .i64 a0_3,.int .i64 a0_4,.slice A0_5 l0_5.length c0_5] 24 (0,0)) (by (with_reducible repeat (first | refine blk_drewN ?_ _ | refine blk_drew ?_ | refine blk_alloc ?_ _));exact BK125.out) hb);have n1_ := Aside0.mk (below_step (by repeat (first | (with_reducible first | exact HB.out | apply below_alloc | apply pw_below_drewN | apply below_drew1 | refine below_set ?_ GE125.out) | exact HB.out)) hb);clear BK125;clear HB;have BK125 := n0_;have HB := n1_;clear n0_ n1_;(try clear hb);(try clear hb2);(try clear hk);(try clear hi);have hcz11_0 : w10.cell? ⟨gb125,0,none⟩ = some (.int .i64 a0_0) := (blk_cell BK125.out 0).trans rfl;have hcz11_1 : w10.cell? ⟨gb125,1,none⟩ = some (.int .i64 a0_1) := (blk_cell BK125.out 1).trans rfl;have hcz11_2 : w10.cell? ⟨gb125,2,none⟩ = some (.int .i64 a0_2) := (blk_cell BK125.out 2).trans rfl;have hcz11_3 : w10.cell? ⟨gb125,3,none⟩ = some (.int .i64 a0_3) := (blk_cell BK125.out 3).trans rfl;have hcz11_4 : w10.cell? ⟨gb125,4,none⟩ = some (.int .i64 a0_4) := (blk_cell BK125.out 4).trans rfl;have hcz11_5 : w10.cell? ⟨gb125,5,none⟩ = some (.slice A0_5 l0_5.length c0_5) := (blk_cell BK125.out 5).trans rfl;have hfz11_0 := blk_frozen BK125.out 0;have hfz11_1 := blk_frozen BK125.out 1;have hfz11_2 := blk_frozen BK125.out 2;have hfz11_3 := blk_frozen BK125.out 3;have hfz11_4 := blk_frozen BK125.out 4;have hfz11_5 := blk_frozen BK125.out 5) | ((with_reducible refine gate_callee (f := 21) rfl ?_);refine goesL_ (some 7) rfl rfl Try.func21 (by kernel_rfl) rfl #[.agg #[.int .i64 a0_0,.int .i64 a0_1,.int .i64 a0_2,.int .i64 a0_3,.int .i64 a0_4,.slice A0_5 l0_5.length c0_5]] rfl (by (try simp only [List.map_toArray,List.map_cons,List.map_nil]);first | done | rfl | (simp only [List.length_drop,List.length_take];rfl)) ?_;(with_reducible refine (passepartoutref04_check.calls k a0_0 a0_1 a0_2 a0_3 a0_4 _ _ l0_5 t127 _ ?side1 ?side2 A7.out).mono ?_);(case side1 => repeat (first | exact (Kd.C_below HR0_5.out HB.out) | (with_reducible refine Kd.C_alloc ?_ _) | (with_reducible refine Kd.C_drewN ?_ _) | (with_reducible refine Kd.C_drew ?_)));(case side2 => exact HC0_5.out);rintro e w12 ⟨rfl,hb⟩;refine ⟨_,rfl,?_⟩;have n0_ := Aside0.mk (blk_below (g := gb125) (o := .cells #[.int .i64 a0_0,.int .i64 a0_1,.int .i64 a0_2,.int .i64 a0_3,.int .i64 a0_4,.slice A0_5 l0_5.length c0_5] 24 (0,0)) (by (with_reducible repeat (first | refine blk_drewN ?_ _ | refine blk_drew ?_ | refine blk_alloc ?_ _));exact BK125.out) hb);have n1_ := Aside0.mk (below_step (by repeat (first | (with_reducible first | exact HB.out | apply below_alloc | apply pw_below_drewN | apply below_drew1 | refine below_set ?_ GE125.out) | exact HB.out)) hb);clear BK125;clear HB;have BK125 := n0_;have HB := n1_;clear n0_ n1_;(try clear hb);(try clear hb2);(try clear hk);(try clear hi)))
  go_ret
  exact ⟨by first | rfl | (simp [errW_none,errW_some] <;> rfl) | (simp [*,errW_none,errW_some] <;> rfl),by repeat (first | (with_reducible first | exact HB.out | apply below_alloc | apply pw_below_drewN | apply below_drew1 | refine below_set ?_ GE125.out) | exact HB.out)⟩

end Go.Proofs.Ytdhnfccgojgehaa.QP

namespace Go.Proofs.Ytdhnfccgojgehaa
open Go.RowKit YtdhnfccgojgehaaW.PrintWords

theorem of_f0 (x : Fm) : (ofF x).f0 = x.a.k := by cases x;rw [ofF_mk];rfl
theorem of_f1 (x : Fm) : (ofF x).f1 = x.a.s := by cases x;rw [ofF_mk];rfl
theorem of_f2 (x : Fm) : (ofF x).f2 = x.a.lo := by cases x;rw [ofF_mk];rfl
theorem of_f3 (x : Fm) : (ofF x).f3 = x.a.hi := by cases x;rw [ofF_mk];rfl
theorem of_f4 (x : Fm) : (ofF x).f4 = x.a.st := by cases x;rw [ofF_mk];rfl
theorem of_f5 (x : Fm) : (ofF x).f5 = x.l.map ofF := by cases x;rw [ofF_mk];rfl
theorem rparts_f (a : FH) (l : List Fm) : QP.passepartoutref04_parts.f a.k a.s a.lo a.hi a.st (l.map ofF) = some ((partsF (.mk a l)).map ofF) := by
 rw [QP.passepartoutref04_parts.f]
 show _ = some ((if a.k = 2 ∨ a.k = 3 then l else []).map ofF)
 by_cases h2 : a.k = 2
 ·rw [if_pos h2,if_pos (.inl h2)]
 ·rw [if_neg h2]
  by_cases h3 : a.k = 3
  ·rw [if_pos h3,if_pos (.inr h3)]
  ·rw [if_neg h3,if_neg (by omega)]
   rfl
theorem partsF_len (a : FH) (l : List Fm) : (partsF (.mk a l)).length ≤ l.length := by
 show (if a.k = 2 ∨ a.k = 3 then l else []).length ≤ _
 split <;> simp

/-- A number of forms, no more than so many told. -/
theorem cnt_ev (f : Fm) : ∀ m : Nat,m ≤ 100000 → wfF f = true → Ev (fun k => QP.passepartoutref04_Count.f k f.a.k f.a.s f.a.lo f.a.hi f.a.st (f.l.map ofF) (m : Int)) ((cntR m f : Nat) : Int) := by
 induction f using RT.induct with
 | h a l ih =>
 intro m hm hw
 obtain ⟨_,hl,hws⟩ := (wfF_mk _ _).1 hw
 apply Ev.step
 ·intro k
  simp only [QP.passepartoutref04_Count.f]
  rfl
 refine Ev.cb (rparts_f a l) ?_
 rw [cntR_parts]
 have hpl := partsF_len a l
 have hmem : ∀ x ∈ partsF (.mk a l),x ∈ l := fun x hx => partsF_mem hx
 generalize partsF (.mk a l) = P at hpl hmem
 have key : ∀ (d j q : Nat),P.length - j = d → j ≤ P.length → 1 ≤ q → q ≤ m + 1 → Ev (fun k => QP.passepartoutref04_Count.l0 k (m : Int) (q : Int) (P.map ofF) (j : Int)) ((cntL m q (P.drop j) : Nat) : Int) := by
  intro d
  induction d with
  | zero =>
   intro j q hd hj hq1 hq2
   apply Ev.step
   ·intro k
    simp only [QP.passepartoutref04_Count.l0]
    rfl
   refine Ev.in_ (by simp;omega) ?_
   rw [cntL_end (by omega)]
   exact Ev.now _
  | succ d ihd =>
   intro j q hd hj hq1 hq2
   have hlt : j < P.length := by omega
   apply Ev.step
   ·intro k
    simp only [QP.passepartoutref04_Count.l0,rd_ofF P j hlt,of_f0,of_f1,of_f2,of_f3,of_f4,of_f5]
    rfl
   refine Ev.ip (by simp;omega) ?_
   refine Ev.sp (fun hqm => ?_) (fun hqm => ?_)
   ·have hqm' : q ≤ m := by omega
    have hb := cnt_bound P[j] (m - q)
    refine Ev.ip (by omega) ?_
    have h1 := ih P[j] (hmem _ (List.getElem_mem hlt)) (m - q) (by omega) (hws _ (hmem _ (List.getElem_mem hlt)))
    rw [w64 (by omega) (by omega),show (m : Int) - (q : Int) = ((m - q : Nat) : Int) by omega]
    refine Ev.bind h1 ?_
    rw [w64 (by omega) (by omega),w64 (by omega) (by omega),show (q : Int) + ((cntR (m - q) P[j] : Nat) : Int) = ((q + cntR (m - q) P[j] : Nat) : Int) by omega,show (j : Int) + 1 = ((j + 1 : Nat) : Int) by omega]
    refine Ev.eq_ (ihd (j + 1) (q + cntR (m - q) P[j]) (by omega) (by omega) (by omega) (by omega)) ?_
    rw [cntL_drop (k := j) hlt,if_pos hqm']
   ·rw [cntL_end (by omega)]
    exact Ev.now _
 have h0 := key P.length 0 1 (by omega) (by omega) (by omega) (by omega)
 rw [List.drop_zero] at h0
 exact h0

mutual
/-- How deep; no more than so much (and one) is told. -/
def depR : Nat → Fm → Nat
 | m,.mk a l => (if a.k = 2 ∨ a.k = 3 then depL m 0 l else 0) + 1
def depL : Nat → Nat → List Fm → Nat
 | _,b,[] => b
 | 0,b,_ :: _ => b
 | m + 1,b,f :: t => depL (m + 1) (max b (depR m f)) t
end
theorem depR_parts (m : Nat) (f : Fm) : depR m f = depL m 0 (partsF f) + 1 := by
 obtain ⟨a,l⟩ := f
 rw [depR]
 show _ = depL m 0 (if a.k = 2 ∨ a.k = 3 then l else []) + 1
 split
 ·rfl
 ·cases m <;> rw [depL]
theorem depL_end {l : List Fm} {k m b : Nat} (hk : l.length ≤ k ∨ m = 0) : depL m b (l.drop k) = b := by
 rcases hk with hk | rfl
 ·rw [List.drop_of_length_le hk]
  cases m <;> rw [depL]
 ·cases l.drop k <;> rw [depL]
theorem depL_drop {l : List Fm} {k m b : Nat} (hk : k < l.length) : depL (m + 1) b (l.drop k) = depL (m + 1) (max b (depR m l[k])) (l.drop (k + 1)) := by
 rw [List.drop_eq_getElem_cons hk,depL]
theorem dep_bound (f : Fm) : ∀ m,depR m f ≤ m + 1 := by
 induction f using RT.induct with
 | h a l ih =>
 intro m
 rw [depR]
 split
 ·have key : ∀ (t : List Fm),(∀ f ∈ t,∀ m,depR m f ≤ m + 1) → ∀ b,b ≤ m → depL m b t ≤ m := by
   intro t
   induction t with
   | nil => intro _ b hb;cases m <;> rw [depL] <;> omega
   | cons f t ih2 =>
    intro hf b hb
    cases m with
    | zero => rw [depL];omega
    | succ m =>
     rw [depL]
     have h1 := hf f (by simp) m
     exact ih2 (fun g hg => hf g (by simp [hg])) _ (by omega)
  have := key l ih 0 (by omega)
  omega
 ·omega
theorem dep_deep (f : Fm) : ∀ n m,n ≤ m → deepB n f = decide (n < depR m f) := by
 induction f using RT.induct with
 | h a l ih =>
 intro n m hnm
 cases n with
 | zero => rw [depR];simp [deepB]
 | succ n =>
  obtain ⟨m,rfl⟩ : ∃ q,m = q + 1 := ⟨m - 1,by omega⟩
  rw [depR_parts,deepB]
  have key : ∀ (t : List Fm),(∀ f ∈ t,f ∈ l) → ∀ b,(decide (n < b) || t.any (deepB n)) = decide (n < depL (m + 1) b t) := by
   intro t
   induction t with
   | nil => intro _ b;rw [depL];simp
   | cons f t ih2 =>
    intro hf b
    rw [depL,List.any_cons,← ih2 (fun g hg => hf g (by simp [hg])),ih f (hf f (by simp)) n m (by omega),Bool.eq_iff_iff]
    simp only [Bool.or_eq_true,decide_eq_true_eq]
    constructor
    ·rintro (h | h | h)
     ·exact .inl (by omega)
     ·exact .inl (by omega)
     ·exact .inr h
    ·rintro (h | h)
     ·rcases Nat.lt_or_ge n b with hb | hb
      ·exact .inl hb
      ·exact .inr (.inl (by omega))
     ·exact .inr (.inr h)
  have h0 := key (partsF (.mk a l)) (fun f hf => partsF_mem hf) 0
  rw [Bool.eq_iff_iff] at h0 ⊢
  simp only [Bool.or_eq_true,decide_eq_true_eq] at h0 ⊢
  constructor
  ·intro h
   have := h0.1 (.inr h)
   omega
  ·intro h
   rcases h0.2 (by omega) with h2 | h2
   ·omega
   ·exact h2

theorem dep_ev (f : Fm) : ∀ m : Nat,m ≤ 100000 → wfF f = true → Ev (fun k => QP.passepartoutref04_Depth.f k f.a.k f.a.s f.a.lo f.a.hi f.a.st (f.l.map ofF) (m : Int)) ((depR m f : Nat) : Int) := by
 induction f using RT.induct with
 | h a l ih =>
 intro m hm hw
 obtain ⟨_,hl,hws⟩ := (wfF_mk _ _).1 hw
 apply Ev.step
 ·intro k
  simp only [QP.passepartoutref04_Depth.f]
  rfl
 refine Ev.cb (rparts_f a l) ?_
 rw [depR_parts]
 have hpl := partsF_len a l
 have hmem : ∀ x ∈ partsF (.mk a l),x ∈ l := fun x hx => partsF_mem hx
 generalize partsF (.mk a l) = P at hpl hmem
 have key : ∀ (d j q : Nat),P.length - j = d → j ≤ P.length → q ≤ m + 1 → Ev (fun k => QP.passepartoutref04_Depth.l0 k (m : Int) (q : Int) (P.map ofF) (j : Int)) ((depL m q (P.drop j) + 1 : Nat) : Int) := by
  intro d
  induction d with
  | zero =>
   intro j q hd hj hq2
   apply Ev.step
   ·intro k
    simp only [QP.passepartoutref04_Depth.l0]
    rfl
   refine Ev.in_ (by simp;omega) ?_
   apply Ev.step
   ·intro k
    simp only [QP.passepartoutref04_Depth.j1]
    rfl
   refine Ev.in_ (by simp) ?_
   rw [depL_end (.inl (by omega)),w64 (by omega) (by omega)]
   exact Ev.is (by simp)
  | succ d ihd =>
   intro j q hd hj hq2
   have hlt : j < P.length := by omega
   apply Ev.step
   ·intro k
    simp only [QP.passepartoutref04_Depth.l0]
    rfl
   refine Ev.ip (by simp;omega) ?_
   apply Ev.step
   ·intro k
    simp only [QP.passepartoutref04_Depth.j1,rd_ofF P j hlt,of_f0,of_f1,of_f2,of_f3,of_f4,of_f5]
    rfl
   cases m with
   | zero =>
    refine Ev.in_ (by simp) ?_
    rw [depL_end (.inr rfl),w64 (by omega) (by omega)]
    exact Ev.is (by simp)
   | succ m =>
    refine Ev.ip (by simp) ?_
    refine Ev.ip (by omega) (Ev.ip (by simp;omega) ?_)
    have h1 := ih P[j] (hmem _ (List.getElem_mem hlt)) m (by omega) (hws _ (hmem _ (List.getElem_mem hlt)))
    have hb := dep_bound P[j] m
    rw [w64 (x := ((m + 1 : Nat) : Int) - 1) (by omega) (by omega),show ((m + 1 : Nat) : Int) - 1 = (m : Int) by omega]
    refine Ev.bind h1 ?_
    rw [depL_drop hlt,w64 (x := (j : Int) + 1) (by omega) (by omega),show (j : Int) + 1 = ((j + 1 : Nat) : Int) by omega]
    refine Ev.sp (fun hx => ?_) (fun hx => ?_)
    ·refine Ev.eq_ (ihd (j + 1) (depR m P[j]) (by omega) (by omega) (by omega)) ?_
     rw [show max q (depR m P[j]) = depR m P[j] by omega]
    ·refine Ev.eq_ (ihd (j + 1) q (by omega) (by omega) (by omega)) ?_
     rw [show max q (depR m P[j]) = q by omega]
 have h0 := key P.length 0 0 (by omega) (by omega) (by omega)
 rw [List.drop_zero] at h0
 exact h0

theorem bounds_ne (lo hi M : Int) : boundsR lo hi M ≠ 0 ↔ lo < 0 ∨ hi < lo ∨ M < hi := by
 unfold boundsR
 split
 ·rename_i h
  simp [h]
 ·rename_i h
  simp only [ne_eq,not_true_eq_false,false_iff]
  exact h
theorem to_mk (f : Fm) : toF ⟨f.a.k,f.a.s,f.a.lo,f.a.hi,f.a.st,f.l.map ofF⟩ = f := by
 obtain ⟨a,l⟩ := f
 rw [toF_mk,map_to_ofF]
 rfl
theorem own_f (f : Fm) (hw : wfF f = true) : QP.passepartoutref04_own.f f.a.k f.a.s f.a.lo f.a.hi f.a.st (f.l.map ofF) = some (ownN f.a.k f.a.s f.a.lo f.a.hi f.a.st f.l.length) := by
 rw [QP.passepartoutref04_own.f,to_mk,if_pos hw]
 obtain ⟨a,l⟩ := f
 rfl
theorem least_ev (f : Fm) : wfF f = true → Ev (fun k => QP.passepartoutref04_Least.f k f.a.k f.a.s f.a.lo f.a.hi f.a.st (f.l.map ofF)) (spanR FH.lo f) := by
 induction f using RT.induct with
 | h a l ih =>
 intro hw
 obtain ⟨_,hl,hws⟩ := (wfF_mk _ _).1 hw
 rw [spanR_mk]
 simp only [RT.a,RT.l]
 apply Ev.step
 ·intro k
  simp only [QP.passepartoutref04_Least.f]
  rfl
 by_cases k0 : a.k = 0
 ·rw [if_pos k0]
  exact Ev.ip k0 (Ev.now _)
 rw [if_neg k0]
 refine Ev.in_ k0 ?_
 by_cases k1 : a.k = 1
 ·rw [if_pos (.inl k1)]
  refine Ev.ip k1 ?_
  apply Ev.step
  ·intro k
   simp only [QP.passepartoutref04_Least.j0]
   rfl
  exact Ev.ip (by simp [k1]) (Ev.now _)
 refine Ev.in_ k1 ?_
 apply Ev.step
 ·intro k
  simp only [QP.passepartoutref04_Least.j0]
  rfl
 by_cases k2 : a.k = 2
 ·rw [if_pos (.inr k2)]
  exact Ev.ip (by simp [k2]) (Ev.now _)
 rw [if_neg (by omega)]
 refine Ev.in_ (by simp [k2]) ?_
 by_cases k4 : a.k = 4
 ·rw [if_pos k4]
  exact Ev.ip k4 (Ev.now _)
 rw [if_neg k4]
 refine Ev.in_ k4 ?_
 by_cases k5 : a.k = 5
 ·rw [if_pos k5]
  exact Ev.ip k5 (Ev.now _)
 rw [if_neg k5]
 refine Ev.in_ k5 ?_
 have key : ∀ (d j : Nat) (q : Int),l.length - j = d → j ≤ l.length → Ev (fun k => QP.passepartoutref04_Least.l0 k q (j : Int) a.k a.s a.lo a.hi a.st (l.map ofF)) (spanL FH.lo q (l.drop j)) := by
  intro d
  induction d with
  | zero =>
   intro j q hd hj
   apply Ev.step
   ·intro k
    simp only [QP.passepartoutref04_Least.l0]
    rfl
   refine Ev.in_ (by simp;omega) ?_
   rw [List.drop_of_length_le (by omega),spanL]
   exact Ev.now _
  | succ d ihd =>
   intro j q hd hj
   have hlt : j < l.length := by omega
   apply Ev.step
   ·intro k
    simp only [QP.passepartoutref04_Least.l0,rd_ofF l j hlt,of_f0,of_f1,of_f2,of_f3,of_f4,of_f5]
    rfl
   refine Ev.ip (by simp;omega) (Ev.ip (by omega) ?_)
   refine Ev.bind (ih l[j] (List.getElem_mem hlt) (hws _ (List.getElem_mem hlt))) ?_
   rw [w64 (x := (j : Int) + 1) (by omega) (by omega),show (j : Int) + 1 = ((j + 1 : Nat) : Int) by omega]
   refine Ev.eq_ (ihd (j + 1) _ (by omega) (by omega)) ?_
   rw [List.drop_eq_getElem_cons hlt,spanL]
 have h0 := key l.length 0 0 (by omega) (by omega)
 rw [List.drop_zero] at h0
 exact h0

theorem open_ev (f : Fm) : wfF f = true → Ev (fun k => QP.passepartoutref04_Open.f k f.a.k f.a.s f.a.lo f.a.hi f.a.st (f.l.map ofF)) (openR f) := by
 induction f using RT.induct with
 | h a l ih =>
 intro hw
 obtain ⟨_,hl,hws⟩ := (wfF_mk _ _).1 hw
 rw [openR_mk]
 simp only [RT.a,RT.l]
 apply Ev.step
 ·intro k
  simp only [QP.passepartoutref04_Open.f]
  rfl
 by_cases k4 : a.k = 4
 ·rw [if_neg (by omega),decide_eq_true k4]
  exact Ev.ip k4 (Ev.now _)
 refine Ev.in_ k4 ?_
 by_cases k3 : a.k = 3
 ·rw [if_pos k3]
  refine Ev.ip k3 ?_
  by_cases h0 : l.length = 0
  ·obtain rfl : l = [] := List.eq_nil_of_length_eq_zero h0
   exact Ev.ip (by simp) (Ev.now _)
  ·obtain ⟨n,hn⟩ : ∃ n,l.length = n + 1 := ⟨l.length - 1,by omega⟩
   rw [openL_last l n hn]
   refine Ev.in_ (by simp;intro h;simp [h] at h0) ?_
   rw [w64 (x := ((l.map ofF).length : Int) - 1) (by rw [List.length_map];omega) (by rw [List.length_map];omega),show ((l.map ofF).length : Int) - 1 = (n : Int) by rw [List.length_map];omega]
   refine Ev.ip (by omega) (Ev.ip (by rw [List.length_map];omega) ?_)
   simp only [rd_ofF l n (by omega),of_f0,of_f1,of_f2,of_f3,of_f4,of_f5]
   have hm : l[n]'(by omega) ∈ l := List.getElem_mem _
   exact Ev.bind (ih _ hm (hws _ hm)) (Ev.now _)
 ·rw [if_neg k3,decide_eq_false k4]
  exact Ev.in_ k3 (Ev.now _)

theorem check_ev (f : Fm) : wfF f = true → Ev (fun k => QP.passepartoutref04_check.f k f.a.k f.a.s f.a.lo f.a.hi f.a.st (f.l.map ofF)) (checkR f) := by
 induction f using RT.induct with
 | h a l ih =>
 intro hw
 obtain ⟨_,hl,hws⟩ := (wfF_mk _ _).1 hw
 rw [checkR_parts]
 simp only [RT.a,RT.l]
 apply Ev.step
 ·intro k
  simp only [QP.passepartoutref04_check.f]
  rfl
 refine Ev.cb (own_f (.mk a l) hw) ?_
 show Ev _ (if ownN a.k a.s a.lo a.hi a.st l.length ≠ 0 then ownN a.k a.s a.lo a.hi a.st l.length else restR a.k (partsF (.mk a l)))
 by_cases h0 : ownN a.k a.s a.lo a.hi a.st l.length = 0
 rotate_left
 ·rw [if_pos h0]
  exact Ev.in_ h0 (Ev.now _)
 rw [if_neg (by omega)]
 refine Ev.ip h0 (Ev.cb (rparts_f a l) ?_)
 have hpl := partsF_len a l
 have hmem : ∀ x ∈ partsF (.mk a l),x ∈ l := fun x hx => partsF_mem hx
 have hone : a.k = 2 → (partsF (.mk a l)).length = 1 := by
  intro k2
  show (if a.k = 2 ∨ a.k = 3 then l else []).length = 1
  rw [if_pos (.inl k2)]
  by_cases h1 : l.length = 1
  ·exact h1
  ·exfalso
   rw [ownN,if_neg (by omega),if_pos (.inl k2)] at h0
   split at h0
   ·omega
   ·split at h0
    ·omega
    ·rw [if_pos ⟨k2,h1⟩] at h0
     omega
 generalize partsF (.mk a l) = P at hpl hmem hone
 have hP : ∀ j (h : j < P.length),wfF P[j] = true := fun j h => hws _ (hmem _ (List.getElem_mem h))
 -- the second loop
 let opn : Nat → List Fm → Bool := fun j t => (t.zipIdx j).any (fun x => openR x.1 && (decide (a.k = 2) || decide (x.2 + 1 < P.length)))
 have hopn : ∀ j (h : j < P.length),opn j (P.drop j) = ((openR P[j] && (decide (a.k = 2) || decide (j + 1 < P.length))) || opn (j + 1) (P.drop (j + 1))) := by
  intro j h
  simp only [opn]
  rw [List.drop_eq_getElem_cons h,List.zipIdx_cons,List.any_cons]
 have key2 : ∀ (d j : Nat),P.length - j = d → j ≤ P.length → Ev (fun k => QP.passepartoutref04_check.l1 k (P.map ofF) (j : Int) a.k a.s a.lo a.hi a.st (l.map ofF)) (if opn j (P.drop j) then 15 else if a.k = 2 ∧ ∃ h : 0 < P.length,leastR (P[0]'h) = 0 then 15 else 0) := by
  intro d
  induction d with
  | zero =>
   intro j hd hj
   apply Ev.step
   ·intro k
    simp only [QP.passepartoutref04_check.l1]
    rfl
   refine Ev.in_ (by simp;omega) ?_
   rw [List.drop_of_length_le (by omega),if_neg (by simp [opn])]
   by_cases k2 : a.k = 2
   ·have h1 := hone k2
    have hlt : 0 < P.length := by omega
    refine Ev.ip k2 (Ev.ip (by simp;omega) ?_)
    have hrd := rd_ofF P 0 hlt
    simp only [Int.natCast_zero] at hrd
    simp only [hrd,of_f0,of_f1,of_f2,of_f3,of_f4,of_f5]
    refine Ev.bind (least_ev P[0] (hP 0 hlt)) ?_
    show Ev _ _
    by_cases hz : spanR FH.lo P[0] = 0
    ·exact Ev.eq_ (Ev.ip hz (Ev.now _)) (if_pos ⟨k2,hlt,hz⟩).symm
    ·exact Ev.eq_ (Ev.in_ hz (Ev.now _)) (if_neg (by rintro ⟨_,_,h⟩;exact hz h)).symm
   ·rw [if_neg (by rintro ⟨h,_⟩;exact k2 h)]
    exact Ev.in_ k2 (Ev.now _)
  | succ d ihd =>
   intro j hd hj
   have hlt : j < P.length := by omega
   apply Ev.step
   ·intro k
    simp only [QP.passepartoutref04_check.l1,rd_ofF P j hlt,of_f0,of_f1,of_f2,of_f3,of_f4,of_f5]
    rfl
   refine Ev.ip (by simp;omega) (Ev.ip (by omega) ?_)
   refine Ev.bind (open_ev P[j] (hP j hlt)) ?_
   rw [hopn j hlt,w64 (x := (j : Int) + 1) (by omega) (by omega),show (j : Int) + 1 = ((j + 1 : Nat) : Int) by omega]
   have hn := ihd (j + 1) (by omega) (by omega)
   cases ho : openR P[j]
   ·refine Ev.in_ (by simp) ?_
    simpa using hn
   ·refine Ev.ip rfl ?_
    by_cases k2 : a.k = 2
    ·rw [if_pos (by simp [k2])]
     exact Ev.ip k2 (Ev.now _)
    ·refine Ev.in_ k2 ?_
     by_cases hj1 : j + 1 < P.length
     ·rw [if_pos (by simp [hj1])]
      exact Ev.ip (by simp;omega) (Ev.now _)
     ·refine Ev.in_ (by simp;omega) ?_
      simpa [k2,hj1] using hn
 have hbad : (if opn 0 P then (15 : Int) else if a.k = 2 ∧ ∃ h : 0 < P.length,leastR (P[0]'h) = 0 then 15 else 0) = if badF a.k P.length 0 P then 15 else 0 := by
  have hb : ∀ (t : List Fm) (j : Nat),badF a.k P.length j t = ((t.zipIdx j).any (fun x => openR x.1 && (decide (a.k = 2) || decide (x.2 + 1 < P.length))) || (decide (a.k = 2) && t.any (fun x => decide (leastR x = 0)))) := by
   intro t
   induction t with
   | nil => intro j;simp [badF]
   | cons f t ih2 =>
    intro j
    rw [badF,ih2,badI,List.zipIdx_cons,List.any_cons,List.any_cons]
    cases openR f <;> cases decide (a.k = 2) <;> cases decide (j + 1 < P.length) <;> cases decide (leastR f = 0) <;> simp
  rw [hb P 0]
  show (if opn 0 P then (15 : Int) else _) = if (opn 0 P || _) = true then 15 else 0
  cases opn 0 P
  ·by_cases k2 : a.k = 2
   ·have h1 := hone k2
    obtain ⟨x,rfl⟩ : ∃ x,P = [x] := List.length_eq_one_iff.1 h1
    simp [k2]
   ·simp [k2]
  ·simp
 have key : ∀ (d j : Nat),P.length - j = d → j ≤ P.length → Ev (fun k => QP.passepartoutref04_check.l0 k (P.map ofF) (j : Int) a.k a.s a.lo a.hi a.st (l.map ofF)) (if checkL (P.drop j) ≠ 0 then checkL (P.drop j) else if badF a.k P.length 0 P then 15 else 0) := by
  intro d
  induction d with
  | zero =>
   intro j hd hj
   apply Ev.step
   ·intro k
    simp only [QP.passepartoutref04_check.l0]
    rfl
   refine Ev.in_ (by simp;omega) ?_
   rw [List.drop_of_length_le (by omega),checkL,if_neg (by omega)]
   have h2 := key2 P.length 0 (by omega) (by omega)
   rw [List.drop_zero,hbad] at h2
   exact h2
  | succ d ihd =>
   intro j hd hj
   have hlt : j < P.length := by omega
   apply Ev.step
   ·intro k
    simp only [QP.passepartoutref04_check.l0,rd_ofF P j hlt,of_f0,of_f1,of_f2,of_f3,of_f4,of_f5]
    rfl
   refine Ev.ip (by simp;omega) (Ev.ip (by omega) ?_)
   refine Ev.bind (ih P[j] (hmem _ (List.getElem_mem hlt)) (hP j hlt)) ?_
   rw [w64 (x := (j : Int) + 1) (by omega) (by omega),show (j : Int) + 1 = ((j + 1 : Nat) : Int) by omega,checkL_drop hlt]
   by_cases hc : checkR P[j] = 0
   ·refine Ev.ip hc ?_
    rw [if_neg (show ¬ checkR P[j] ≠ 0 by omega)]
    exact ihd (j + 1) (by omega) (by omega)
   ·refine Ev.in_ hc ?_
    rw [if_pos hc,if_pos hc]
    exact Ev.now _
 have h0 := key P.length 0 (by omega) (by omega)
 rw [List.drop_zero] at h0
 exact h0

/-- The document's word on a form. -/
theorem Check_ev (f : Fm) (hw : wfF f = true) : Ev (fun k => QP.passepartoutref04_Check.f k f.a.k f.a.s f.a.lo f.a.hi f.a.st (f.l.map ofF)) (if deepB 8 f then 14 else checkR f) := by
 have hd := dep_ev f 9 (by omega) hw
 rw [dep_deep f 8 9 (by omega)]
 simp only [QP.passepartoutref04_Check.f]
 refine Ev.bind hd ?_
 by_cases h : 8 < depR 9 f
 ·rw [if_pos (by simpa using h)]
  exact Ev.ip (by omega) (Ev.now _)
 ·rw [if_neg (by simpa using h)]
  exact Ev.in_ (by omega) (Ev.bind (check_ev f hw) (Ev.now _))
end Go.Proofs.Ytdhnfccgojgehaa

namespace Go.Proofs.Ytdhnfccgojgehaa.QP
open Go.RowKit Go.Proofs.YtdhnfccgojgehaaW.PrintWords Go.Proofs.YtdhnfccgojgehaaW.PrintLast Go.Proofs.YtdhnfccgojgehaaW.PrintMore
attribute [local go_sem] max2_int min2_int max_two min_two max_three min_three max_four min_four   -- for this text's walks alone
set_option linter.unusedVariables false
set_option linter.unusedSimpArgs false

/-! ### layout_Check: function 49 -/
def layout_Check.f (a0_0 : Int) (a0_1 : Int) (a0_2 : Int) (a0_3 : Int) (a0_4 : Int) (l0_5 : List (S24)) : Option (Int) := if wfF (toF ⟨a0_0,a0_1,a0_2,a0_3,a0_4,l0_5⟩) = true then some (if deepB 8 (toF ⟨a0_0,a0_1,a0_2,a0_3,a0_4,l0_5⟩) then 14 else checkR (toF ⟨a0_0,a0_1,a0_2,a0_3,a0_4,l0_5⟩)) else none
set_option maxHeartbeats 8000000 in
set_option maxRecDepth 100000 in
theorem layout_Check.calls (a0_0 : Int) (a0_1 : Int) (a0_2 : Int) (a0_3 : Int) (a0_4 : Int) (A0_5 : Option Addr) (c0_5 : Nat) (l0_5 : List (S24)) (r : Int) (w : World) (hr0_5 : Kd.C k24 w A0_5 l0_5.length l0_5) (hc0_5 : l0_5.length ≤ c0_5) (h : layout_Check.f a0_0 a0_1 a0_2 a0_3 a0_4 l0_5 = some r) :
  Calls Try.prog 49 #[.agg #[.int .i64 a0_0,.int .i64 a0_1,.int .i64 a0_2,.int .i64 a0_3,.int .i64 a0_4,.slice A0_5 l0_5.length c0_5]] w fun e w' => e = .returned (.int .i64 r) ∧ Below w.heap.size w w' := by
 unfold layout_Check.f at h
 split at h
 ·rename_i hw
  injection h with h
  subst h
  exact (check_any (fun x => x < w.heap.size) (toF ⟨a0_0,a0_1,a0_2,a0_3,a0_4,l0_5⟩) _ w (fun _ h => h) (c_FmR hr0_5 hc0_5 hw)).mono fun e w' h => ⟨h.1,h.2.below⟩
 ·cases h

end Go.Proofs.Ytdhnfccgojgehaa.QP

namespace Go.Proofs.Ytdhnfccgojgehaa.QP
open Go.RowKit Go.Proofs.YtdhnfccgojgehaaW.PrintWords Go.Proofs.YtdhnfccgojgehaaW.PrintLast Go.Proofs.YtdhnfccgojgehaaW.PrintMore
attribute [local go_sem] max2_int min2_int max_two min_two max_three min_three max_four min_four   -- for this text's walks alone
set_option linter.unusedVariables false
set_option linter.unusedSimpArgs false

/-! ### layout_Open: function 62 -/
def layout_Open.f (a0_0 : Int) (a0_1 : Int) (a0_2 : Int) (a0_3 : Int) (a0_4 : Int) (l0_5 : List (S24)) : Option (Bool) := if wfF (toF ⟨a0_0,a0_1,a0_2,a0_3,a0_4,l0_5⟩) = true then some (openR (toF ⟨a0_0,a0_1,a0_2,a0_3,a0_4,l0_5⟩)) else none
set_option maxHeartbeats 8000000 in
set_option maxRecDepth 100000 in
theorem layout_Open.calls (a0_0 : Int) (a0_1 : Int) (a0_2 : Int) (a0_3 : Int) (a0_4 : Int) (A0_5 : Option Addr) (c0_5 : Nat) (l0_5 : List (S24)) (r : Bool) (w : World) (hr0_5 : Kd.C k24 w A0_5 l0_5.length l0_5) (hc0_5 : l0_5.length ≤ c0_5) (h : layout_Open.f a0_0 a0_1 a0_2 a0_3 a0_4 l0_5 = some r) :
  Calls Try.prog 62 #[.agg #[.int .i64 a0_0,.int .i64 a0_1,.int .i64 a0_2,.int .i64 a0_3,.int .i64 a0_4,.slice A0_5 l0_5.length c0_5]] w fun e w' => e = .returned (.bool r) ∧ Below w.heap.size w w' := by
 unfold layout_Open.f at h
 split at h
 ·rename_i hw
  injection h with h
  subst h
  exact (open_any (fun x => x < w.heap.size) _ (toF ⟨a0_0,a0_1,a0_2,a0_3,a0_4,l0_5⟩) w (fun _ h => h) (c_FmR hr0_5 hc0_5 hw)).mono fun e w' h => ⟨h.1,h.2.below⟩
 ·cases h

end Go.Proofs.Ytdhnfccgojgehaa.QP

namespace Go.Proofs.Ytdhnfccgojgehaa.QP
open Go.RowKit Go.Proofs.YtdhnfccgojgehaaW.PrintWords Go.Proofs.YtdhnfccgojgehaaW.PrintLast Go.Proofs.YtdhnfccgojgehaaW.PrintMore
attribute [local go_sem] max2_int min2_int max_two min_two max_three min_three max_four min_four   -- for this text's walks alone
set_option linter.unusedVariables false
set_option linter.unusedSimpArgs false

/-! ### layout_Least: function 63 -/
def layout_Least.f (a0_0 : Int) (a0_1 : Int) (a0_2 : Int) (a0_3 : Int) (a0_4 : Int) (l0_5 : List (S24)) : Option (Int) := if wfF (toF ⟨a0_0,a0_1,a0_2,a0_3,a0_4,l0_5⟩) = true then some (leastR (toF ⟨a0_0,a0_1,a0_2,a0_3,a0_4,l0_5⟩)) else none
set_option maxHeartbeats 8000000 in
set_option maxRecDepth 100000 in
theorem layout_Least.calls (a0_0 : Int) (a0_1 : Int) (a0_2 : Int) (a0_3 : Int) (a0_4 : Int) (A0_5 : Option Addr) (c0_5 : Nat) (l0_5 : List (S24)) (r : Int) (w : World) (hr0_5 : Kd.C k24 w A0_5 l0_5.length l0_5) (hc0_5 : l0_5.length ≤ c0_5) (h : layout_Least.f a0_0 a0_1 a0_2 a0_3 a0_4 l0_5 = some r) :
  Calls Try.prog 63 #[.agg #[.int .i64 a0_0,.int .i64 a0_1,.int .i64 a0_2,.int .i64 a0_3,.int .i64 a0_4,.slice A0_5 l0_5.length c0_5]] w fun e w' => e = .returned (.int .i64 r) ∧ Below w.heap.size w w' := by
 unfold layout_Least.f at h
 split at h
 ·rename_i hw
  injection h with h
  subst h
  exact (least_any (fun x => x < w.heap.size) _ (toF ⟨a0_0,a0_1,a0_2,a0_3,a0_4,l0_5⟩) w (c_FmR hr0_5 hc0_5 hw)).mono fun e w' h => ⟨h.1,h.2.below⟩
 ·cases h

end Go.Proofs.Ytdhnfccgojgehaa.QP

namespace Go.Proofs.Ytdhnfccgojgehaa
open Go.RowKit YtdhnfccgojgehaaW.PrintWords

structure OwnOk (a : FH) : Prop where
 k0 : a.k = 0 → 1 ≤ a.s ∧ a.s ≤ 8
 k12 : a.k = 1 ∨ a.k = 2 → 1 ≤ a.s ∧ a.s ≤ 3 ∧ 0 ≤ a.lo ∧ a.lo ≤ a.hi ∧ a.hi ≤ 16777215 ∧ a.hi ≤ 256 ^ a.s.toNat - 1 ∧ 1 ≤ a.st ∧ a.st ≤ 65536
 k4 : a.k = 4 → 0 ≤ a.lo ∧ a.lo ≤ a.hi ∧ a.hi ≤ 16777215
 k5 : a.k = 5 → 0 ≤ a.lo ∧ a.lo ≤ 16777215
 k : 0 ≤ a.k ∧ a.k ≤ 5
theorem own_ok {a : FH} {n : Nat} (h : ownN a.k a.s a.lo a.hi a.st n = 0) : OwnOk a ∧ (a.k = 2 → n = 1) ∧ (a.k = 3 → n ≤ 32) := by
 obtain ⟨k,s,lo,hi,st⟩ := a
 simp only [] at h ⊢
 unfold ownN at h
 by_cases k0 : k = 0
 ·rw [if_pos k0] at h
  split at h
  ·omega
  ·exact ⟨⟨fun _ => ⟨by simp only [];omega,by simp only [];omega⟩,fun h => by simp only [] at h;omega,fun h => by simp only [] at h;omega,fun h => by simp only [] at h;omega,⟨by simp only [];omega,by simp only [];omega⟩⟩,by omega,by omega⟩
 rw [if_neg k0] at h
 by_cases k12 : k = 2 ∨ k = 1
 ·rw [if_pos k12] at h
  split at h
  ·omega
  rename_i hs
  split at h
  ·omega
  rename_i hb
  have hb1 : ¬ boundsR lo hi (256 ^ s.toNat - 1) ≠ 0 := fun x => hb (.inl x)
  rw [bounds_ne] at hb1
  have hM : (256 : Int) ^ s.toNat - 1 ≤ 16777215 := by
   rcases (show s.toNat = 1 ∨ s.toNat = 2 ∨ s.toNat = 3 by omega) with e | e | e <;> rw [e] <;> decide
  refine ⟨⟨fun h => by simp only [] at h;omega,fun _ => ⟨by simp only [];omega,by simp only [];omega,by simp only [];omega,by simp only [];omega,by simp only [];omega,?_,by simp only [];omega,by simp only [];omega⟩,fun h => by simp only [] at h;omega,fun h => by simp only [] at h;omega,⟨by simp only [];omega,by simp only [];omega⟩⟩,fun k2 => ?_,by omega⟩
  ·show hi ≤ (256 : Int) ^ s.toNat - 1
   omega
  ·split at h
   ·omega
   ·omega
 rw [if_neg k12] at h
 by_cases k3 : k = 3
 ·rw [if_pos k3] at h
  split at h
  ·omega
  ·exact ⟨⟨fun h => by simp only [] at h;omega,fun h => by simp only [] at h;omega,fun h => by simp only [] at h;omega,fun h => by simp only [] at h;omega,⟨by simp only [];omega,by simp only [];omega⟩⟩,by omega,by omega⟩
 rw [if_neg k3] at h
 by_cases k4 : k = 4
 ·rw [if_pos k4] at h
  have hb : ¬ boundsR lo hi 16777215 ≠ 0 := by omega
  rw [bounds_ne] at hb
  exact ⟨⟨fun h => by simp only [] at h;omega,fun h => by simp only [] at h;omega,fun _ => ⟨by simp only [];omega,by simp only [];omega,by simp only [];omega⟩,fun h => by simp only [] at h;omega,⟨by simp only [];omega,by simp only [];omega⟩⟩,by omega,by omega⟩
 rw [if_neg k4] at h
 by_cases k5 : k = 5
 ·rw [if_pos k5] at h
  have hb : ¬ boundsR lo lo 16777215 ≠ 0 := by omega
  rw [bounds_ne] at hb
  exact ⟨⟨fun h => by simp only [] at h;omega,fun h => by simp only [] at h;omega,fun h => by simp only [] at h;omega,fun _ => ⟨by simp only [];omega,by simp only [];omega⟩,⟨by simp only [];omega,by simp only [];omega⟩⟩,by omega,by omega⟩
 ·rw [if_neg k5] at h
  omega
/-- What a right form is. -/
theorem check_ok {a : FH} {l : List Fm} (h : checkR (.mk a l) = 0) : OwnOk a ∧ (a.k = 2 → l.length = 1) ∧ (a.k = 3 → l.length ≤ 32) ∧ ((a.k = 2 ∨ a.k = 3) → (∀ x ∈ l,checkR x = 0) ∧ badF a.k l.length 0 l = false) := by
 rw [checkR_mk] at h
 by_cases h0 : ownN a.k a.s a.lo a.hi a.st l.length ≠ 0
 ·rw [if_pos h0] at h
  exact absurd h h0
 rw [if_neg h0] at h
 have ho := own_ok (Decidable.not_not.1 h0)
 refine ⟨ho.1,ho.2.1,ho.2.2,fun hk => ?_⟩
 rw [if_pos hk] at h
 have hL : ∀ t : List Fm,checkL t = 0 → ∀ x ∈ t,checkR x = 0 := by
  intro t
  induction t with
  | nil => intro _ x hx;simp at hx
  | cons f t ih =>
   intro h x hx
   rw [checkL] at h
   split at h
   ·omega
   ·rcases List.mem_cons.1 hx with rfl | hx
    ·omega
    ·exact ih h x hx
 split at h
 ·omega
 ·rename_i h1
  refine ⟨hL l (by omega),?_⟩
  split at h
  ·omega
  ·rename_i h2
   simpa using h2

/-- How many bytes there may be: as many as the forms allow, and no wrap. -/
theorem span_bd (sel : FH → Int) (hs : sel = FH.lo ∨ sel = FH.hi) (f : Fm) : ∀ m,m ≤ 100000 → cntR m f ≤ m → checkR f = 0 → 0 ≤ spanR sel f ∧ spanR sel f ≤ 16777218 * (cntR m f : Nat) := by
 induction f using RT.induct with
 | h a l ih =>
 intro m hm hc hk
 obtain ⟨ho,_,_,hch⟩ := check_ok hk
 have h1 := (cnt_bound (.mk a l) m).1
 rw [spanR_mk]
 by_cases k0 : a.k = 0
 ·rw [if_pos k0]
  have := ho.k0 k0
  omega
 rw [if_neg k0]
 by_cases k12 : a.k = 1 ∨ a.k = 2
 ·rw [if_pos k12]
  have := ho.k12 k12
  have hsel : 0 ≤ sel a ∧ sel a ≤ 16777215 := by rcases hs with rfl | rfl <;> omega
  rw [w64 (by omega) (by omega)]
  omega
 rw [if_neg k12]
 by_cases k4 : a.k = 4
 ·rw [if_pos k4]
  have := ho.k4 k4
  have hsel : 0 ≤ sel a ∧ sel a ≤ 16777215 := by rcases hs with rfl | rfl <;> omega
  omega
 rw [if_neg k4]
 by_cases k5 : a.k = 5
 ·rw [if_pos k5]
  have := ho.k5 k5
  omega
 rw [if_neg k5]
 have k3 : a.k = 3 := by have := ho.k;omega
 have hm1 : 1 ≤ m := by omega
 rw [cntR,if_pos (.inr k3)] at hc ⊢
 have key : ∀ (t : List Fm),(∀ x ∈ t,x ∈ l) → ∀ (n : Nat) (q : Int),cntL m n t ≤ m → n ≤ m → 0 ≤ q → q ≤ 16777218 * (n : Nat) → 0 ≤ spanL sel q t ∧ spanL sel q t ≤ 16777218 * (cntL m n t : Nat) := by
  intro t
  induction t with
  | nil => intro _ n q _ _ h1 h2;rw [spanL,cntL];exact ⟨h1,h2⟩
  | cons f t ih2 =>
   intro hmem n q hc hn h1 h2
   have hb := cnt_bound f (m - n)
   rw [cntL,if_pos hn] at hc ⊢
   have hle : n + cntR (m - n) f ≤ m := by
    rcases Nat.lt_or_ge m (n + cntR (m - n) f) with h | h
    ·have : cntL m (n + cntR (m - n) f) t = n + cntR (m - n) f := by
      cases t with
      | nil => rw [cntL]
      | cons g u => rw [cntL,if_neg (by omega)]
     omega
    ·exact h
   have hf := ih f (hmem f (by simp)) (m - n) (by omega) (by omega) ((hch (.inr k3)).1 f (hmem f (by simp)))
   rw [spanL,w64 (by omega) (by omega)]
   exact ih2 (fun x hx => hmem x (by simp [hx])) _ _ hc hle (by omega) (by omega)
 exact key l (fun x hx => hx) 1 0 hc (by omega) (by omega) (by omega)

/-! ### My contracts' answers among the printed ones. -/
end Go.Proofs.Ytdhnfccgojgehaa

namespace Go.Proofs.Ytdhnfccgojgehaa
open Go.RowKit

def bI (l : List UInt8) : List Int := l.map fun b => (b.toNat : Int)
def iB (l : List Int) : List UInt8 := l.map fun x => UInt8.ofNat x.toNat
def okB (l : List Int) : Bool := l.all fun x => decide (0 ≤ x) && decide (x < 256)
theorem bI_len (l : List UInt8) : (bI l).length = l.length := by simp [bI]
theorem okB_bI (l : List UInt8) : okB (bI l) = true := by
 unfold okB bI
 simp only [List.all_map,List.all_eq_true,Function.comp,Bool.and_eq_true,decide_eq_true_eq]
 intro b _
 have := b.toNat_lt
 omega
section
open YtdhnfccgojgehaaW.PrintWords
theorem br_c {w : World} {ok : Nat → Prop} {A : Option Addr} {n c : Nat} {l : List UInt8} (h : BR w ok (.slice A n c) l) (hl : l.length ≤ 140737488355328) : n = (bI l).length ∧ (bI l).length ≤ c ∧ (Kd.int .u8).C w A (bI l).length (bI l) := by
 obtain ⟨A',c',e,h1,h2⟩ := h
 injection e with e1 e2 e3
 subst e1 e2 e3
 refine ⟨(bI_len l).symm,by rw [bI_len];exact h1,rfl,by rw [bI_len];omega,fun h0 => ?_⟩
 rw [bI_len] at h0
 obtain ⟨ad,e,hsp,_,hc⟩ := h2.2 h0
 refine ⟨ad,e,fun j p hj => ⟨[.int .u8 p],rfl,rfl,fun i u hu => ?_⟩⟩
 obtain rfl : i = 0 := by
  have := (List.getElem?_eq_some_iff.1 hu).1
  simpa using this
 obtain rfl : .int .u8 p = u := by simpa using hu
 refine hc _ _ ?_
 show (bc l)[j * 1 + 0]? = _
 rw [Nat.mul_one,Nat.add_zero]
 rw [bI,List.getElem?_map] at hj
 obtain ⟨b,hb,rfl⟩ := Option.map_eq_some_iff.1 hj
 rw [bc,List.getElem?_map,hb]
 rfl
end

abbrev SV := QP.S29
abbrev kV : YtdhnfccgojgehaaW.PrintWords.Kd SV := QP.k29
mutual
def toV : SV → Vt
 | ⟨n,b,l⟩ => .mk ⟨n,iB b⟩ (toVs l)
def toVs : List SV → List Vt
 | [] => []
 | x :: l => toV x :: toVs l
end
mutual
def ofV : Vt → SV
 | .mk a l => ⟨a.n,bI a.b,ofVs l⟩
def ofVs : List Vt → List SV
 | [] => []
 | x :: l => ofV x :: ofVs l
end
theorem ofVs_map (l : List Vt) : ofVs l = l.map ofV := by
 induction l with
 | nil => rw [ofVs];rfl
 | cons x l ih => rw [ofVs,ih];rfl
theorem ofV_mk (a : VH) (l : List Vt) : ofV (.mk a l) = ⟨a.n,bI a.b,l.map ofV⟩ := by rw [ofV,ofVs_map]
theorem rd_ofV (l : List Vt) (j : Nat) (h : j < l.length) : QP.rd_T29 (l.map ofV) (j : Int) = ofV l[j] := by
 simp [QP.rd_T29,h]
theorem ofV_f0 (x : Vt) : (ofV x).f0 = x.a.n := by cases x;rw [ofV_mk];rfl
theorem ofV_f1 (x : Vt) : (ofV x).f1 = bI x.a.b := by cases x;rw [ofV_mk];rfl
theorem ofV_f2 (x : Vt) : (ofV x).f2 = x.l.map ofV := by cases x;rw [ofV_mk];rfl
mutual
/-- Numbers of 64 bits, bytes that are bytes, and lengths that there may be. -/
def wfSV : SV → Bool
 | ⟨n,b,l⟩ => (decide (0 ≤ n) && decide (n < 18446744073709551616)) && (okB b && (decide (b.length ≤ 140737488355328) && (decide (l.length ≤ 140737488355328) && wfSVs l)))
def wfSVs : List SV → Bool
 | [] => true
 | x :: l => wfSV x && wfSVs l
end
theorem wfSVs_iff (l : List SV) : wfSVs l = true ↔ ∀ x ∈ l,wfSV x = true := by
 induction l with
 | nil => rw [wfSVs];simp
 | cons x l ih => rw [wfSVs];simp [ih]
theorem wfSV_mk (n : Int) (b : List Int) (l : List SV) : wfSV ⟨n,b,l⟩ = true ↔ u64B n ∧ okB b = true ∧ b.length ≤ 140737488355328 ∧ l.length ≤ 140737488355328 ∧ ∀ x ∈ l,wfSV x = true := by
 rw [wfSV]
 simp only [Bool.and_eq_true,decide_eq_true_eq,wfSVs_iff,u64B]
def wfV (x : Vt) : Bool := wfSV (ofV x)
theorem wfV_mk (a : VH) (l : List Vt) : wfV (.mk a l) = true ↔ u64B a.n ∧ a.b.length ≤ 140737488355328 ∧ l.length ≤ 140737488355328 ∧ ∀ x ∈ l,wfV x = true := by
 unfold wfV
 rw [ofV_mk,wfSV_mk,bI_len,List.length_map]
 simp only [okB_bI,true_and,List.mem_map,forall_exists_index,and_imp,forall_apply_eq_imp_iff₂]
section
open YtdhnfccgojgehaaW.PrintWords
theorem tr_wfV {w : World} {ok : Nat → Prop} (x : Vt) : ∀ cs,TR VHd 3 w ok x cs → wfV x = true := by
 induction x using RT.induct with
 | h a l ih =>
 intro cs h
 obtain ⟨hd,A,c,_,_,⟨_,_,ho,_,hb⟩,_,h2,h3⟩ := (TR_def _ _ _ _ _ _).1 h
 refine (wfV_mk _ _).2 ⟨ho,hb,h2,fun x hx => ?_⟩
 obtain ⟨i,hi,rfl⟩ := List.mem_iff_getElem.1 hx
 obtain ⟨b,off,cs',_,_,ht,_⟩ := h3.at_ hi
 exact ih _ hx cs' ht
theorem tl_cV {w : World} {ok : Nat → Prop} {l : List Vt} {A : Option Addr} (hl : l.length ≤ 140737488355328) (h : TL VHd 3 w ok l A) (hk : ∀ x ∈ l,∀ cs,TR VHd 3 w ok x cs → kV.K w (ofV x) cs) : kV.C w A (l.map ofV).length (l.map ofV) := by
 refine ⟨rfl,by rw [List.length_map];omega,fun h0 => ?_⟩
 rw [List.length_map] at h0
 obtain ⟨b,off,e,_,ht⟩ := h h0
 refine ⟨_,e,fun j p hj => ?_⟩
 rw [List.getElem?_map] at hj
 obtain ⟨x,hx,rfl⟩ := Option.map_eq_some_iff.1 hj
 obtain ⟨hjl,rfl⟩ := List.getElem?_eq_some_iff.1 hx
 obtain ⟨cs,h1,h2⟩ := ht.at_ hjl
 refine ⟨cs,?_,hk _ (List.getElem_mem hjl) cs h1,fun i u hu => ?_⟩
 ·obtain ⟨hd,A',c',e',hl',_⟩ := (TR_def _ _ _ _ _ _).1 h1
  rw [e',List.length_append]
  exact hl'
 ·rw [add_spot]
  have := h2 i u hu
  rwa [Nat.add_assoc] at this
theorem tr_kV {w : World} {ok : Nat → Prop} (x : Vt) : ∀ cs,TR VHd 3 w ok x cs → kV.K w (ofV x) cs := by
 induction x using RT.induct with
 | h a l ih =>
 intro cs h
 obtain ⟨hd,A,c,e,_,⟨bv,hh,_,hb,hbl⟩,h1,h2,h3⟩ := (TR_def _ _ _ _ _ _).1 h
 subst hh
 subst e
 rw [ofV_mk]
 have hc := tl_cV h2 h3 ih
 obtain ⟨A1,c1,e1,_,_⟩ := id hb
 subst e1
 obtain ⟨g1,g2,g3⟩ := br_c hb hbl
 have := QP.k29_mk w ⟨a.n,bI a.b,l.map ofV⟩ (A1 := A1) (c1 := c1) g2 g3 (A2 := A) (c2 := c) (by simpa using (show l.length ≤ c from h1)) hc
 rw [List.length_map,bI_len] at this
 exact this
/-- Values in a slice, for the printed texts. -/
theorem VsR.c {w : World} {ok : Nat → Prop} {A : Option Addr} {n c : Nat} {l : List Vt} (h : VsR w ok (.slice A n c) l) : n = (l.map ofV).length ∧ (l.map ofV).length ≤ c ∧ kV.C w A (l.map ofV).length (l.map ofV) := by
 obtain ⟨A',c',e,h1,h2,h3⟩ := h
 injection e with e1 e2 e3
 subst e1 e2 e3
 exact ⟨by simp,by simpa using h1,tl_cV h2 h3 (fun x _ => tr_kV x)⟩
theorem VsR.wf {w : World} {ok : Nat → Prop} {v : Value} {l : List Vt} (h : VsR w ok v l) : l.length ≤ 140737488355328 ∧ ∀ x ∈ l,wfV x = true := by
 obtain ⟨A',c',e,h1,h2,h3⟩ := h
 refine ⟨h2,fun x hx => ?_⟩
 obtain ⟨i,hi,rfl⟩ := List.mem_iff_getElem.1 hx
 obtain ⟨b,off,cs',_,_,ht,_⟩ := h3.at_ hi
 exact tr_wfV _ cs' ht
end
end Go.Proofs.Ytdhnfccgojgehaa

namespace Go.Proofs.Ytdhnfccgojgehaa
open Go.RowKit

mutual
/-- How many values there are in one; no more than so many (and one) are told. -/
def cntV : Nat → Vt → Nat
 | m,.mk _ l => cntVs m 1 l
def cntVs : Nat → Nat → List Vt → Nat
 | _,n,[] => n
 | m,n,x :: t => if n ≤ m then cntVs m (n + cntV (m - n) x) t else n
end
mutual
/-- How many bytes. -/
def bytV : Nat → Vt → Nat
 | m,.mk a l => bytVs m a.b.length l
def bytVs : Nat → Nat → List Vt → Nat
 | _,n,[] => n
 | m,n,x :: t => if n ≤ m then bytVs m (n + bytV (m - n) x) t else n
end
theorem cntVs_end {l : List Vt} {k m n : Nat} (hk : ¬ (k < l.length ∧ n ≤ m)) : cntVs m n (l.drop k) = n := by
 by_cases h : k < l.length
 ·rw [List.drop_eq_getElem_cons h,cntVs,if_neg (by omega)]
 ·rw [List.drop_of_length_le (by omega),cntVs]
theorem cntVs_drop {l : List Vt} {k m n : Nat} (hk : k < l.length) : cntVs m n (l.drop k) = if n ≤ m then cntVs m (n + cntV (m - n) l[k]) (l.drop (k + 1)) else n := by
 rw [List.drop_eq_getElem_cons hk,cntVs]
theorem bytVs_end {l : List Vt} {k m n : Nat} (hk : ¬ (k < l.length ∧ n ≤ m)) : bytVs m n (l.drop k) = n := by
 by_cases h : k < l.length
 ·rw [List.drop_eq_getElem_cons h,bytVs,if_neg (by omega)]
 ·rw [List.drop_of_length_le (by omega),bytVs]
theorem bytVs_drop {l : List Vt} {k m n : Nat} (hk : k < l.length) : bytVs m n (l.drop k) = if n ≤ m then bytVs m (n + bytV (m - n) l[k]) (l.drop (k + 1)) else n := by
 rw [List.drop_eq_getElem_cons hk,bytVs]
theorem cntV_bound (x : Vt) : ∀ m,1 ≤ cntV m x ∧ cntV m x ≤ m + 1 := by
 induction x using RT.induct with
 | h a l ih =>
 intro m
 rw [cntV]
 have key : ∀ (t : List Vt),(∀ f ∈ t,∀ m,1 ≤ cntV m f ∧ cntV m f ≤ m + 1) → ∀ n,n ≤ m + 1 → n ≤ cntVs m n t ∧ cntVs m n t ≤ m + 1 := by
  intro t
  induction t with
  | nil => intro _ n hn;rw [cntVs];omega
  | cons f t ih2 =>
   intro hf n hn
   rw [cntVs]
   split
   ·have h1 := hf f (by simp) (m - n)
    have h2 := ih2 (fun g hg => hf g (by simp [hg])) (n + cntV (m - n) f) (by omega)
    omega
   ·omega
 exact key l ih 1 (by omega)
/-- A number of bytes that is told to the end. -/
theorem bytV_bound (x : Vt) : ∀ m,wfV x = true → m ≤ 100000 → bytV m x ≤ m + 140737488355328 := by
 induction x using RT.induct with
 | h a l ih =>
 intro m hw hm
 obtain ⟨_,hb,_,hws⟩ := (wfV_mk _ _).1 hw
 rw [bytV]
 have key : ∀ (t : List Vt),(∀ f ∈ t,f ∈ l) → ∀ n,n ≤ m + 140737488355328 → bytVs m n t ≤ m + 140737488355328 := by
  intro t
  induction t with
  | nil => intro _ n hn;rw [bytVs];omega
  | cons f t ih2 =>
   intro hf n hn
   rw [bytVs]
   split
   ·have h1 := ih f (hf f (by simp)) (m - n) (hws f (hf f (by simp))) (by omega)
    exact ih2 (fun g hg => hf g (by simp [hg])) (n + bytV (m - n) f) (by omega)
   ·omega
 exact key l (fun f hf => hf) _ (by omega)
theorem mayR_ok {n lo hi st : Int} (h : mayR n lo hi st = 0) : lo ≤ n ∧ n ≤ hi ∧ Int.tmod n st = 0 := by
 unfold mayR at h
 split at h
 ·omega
 ·split at h
  ·omega
  ·split at h
   ·exact ⟨by omega,by omega,by assumption⟩
   ·omega

theorem sizeR_ok {f : Fm} {x : Vt} (h : (sizeR f x).2 = 0) : deepB 8 f = false ∧ checkR f = 0 ∧ (fitR f x).2 = 0 ∧ (sizeR f x).1 = (fitR f x).1 := by
 unfold sizeR at h ⊢
 cases hd : deepB 8 f
 ·simp only [hd,Bool.false_eq_true,if_false] at h ⊢
  by_cases hc : checkR f = 0
  ·rw [if_pos hc] at h ⊢
   by_cases hz : (fitR f x).2 = 0
   ·rw [if_pos hz]
    exact ⟨trivial,hc,hz,rfl⟩
   ·rw [if_neg hz] at h
    exact absurd h hz
  ·rw [if_neg hc] at h
   exact absurd h hc
 ·rw [hd] at h
  simp at h
theorem sizeR_eq {f : Fm} {x : Vt} (hd : deepB 8 f = false) (hc : checkR f = 0) : sizeR f x = if (fitR f x).2 = 0 then ((fitR f x).1,0) else (0,(fitR f x).2) := by
 unfold sizeR
 rw [hd]
 simp [hc]
end Go.Proofs.Ytdhnfccgojgehaa

namespace Go.Proofs.Ytdhnfccgojgehaa

/-- The next n bytes, the error. -/
def nx (l : List UInt8) (n : Int) : List UInt8 × Int := if n < 0 then ([],2) else if (l.length : Int) < n then ([],4) else (l.take n.toNat,0)

def nn (l : List UInt8) (n : Int) : List UInt8 × Int := if szB n = true then nx l n else ([],2)

end Go.Proofs.Ytdhnfccgojgehaa

namespace Go.Proofs.Ytdhnfccgojgehaa
open Go.RowKit

/-- What a reading tells: where it is wrong (so many bytes on), why; or the value, and the bytes that are left; its steps. -/
inductive RdT where
 | bad (at_ : Int) (e : Int) (q : Nat)
 | got (x : Vt) (rest : List UInt8) (q : Nat)
def RdT.steps : RdT → Nat
 | .bad _ _ q => q
 | .got _ _ q => q
/-- A length: where it is wrong, why; how many. -/
def lenE (h : FH) (b : List UInt8) : Int × Int × Nat :=
 if (b.length : Int) < h.s then (b.length,4,0)
 else if (be (b.take h.s.toNat) : Int) < h.lo ∨ h.hi < (be (b.take h.s.toNat) : Int) ∨ Int.tmod (be (b.take h.s.toNat) : Int) h.st ≠ 0 then (0,5,0)
 else if b.length < h.s.toNat + be (b.take h.s.toNat) then (b.length,4,0)
 else (0,0,be (b.take h.s.toNat))
/-- Things, as long as there are bytes. -/
def iterR (f : List UInt8 → RdT) : Nat → List UInt8 → Nat → Nat → List Vt → RdT
 | 0,b,_,q,acc => .got (.mk ⟨0,[]⟩ acc) b q
 | n + 1,b,d,q,acc =>
  if b.length = 0 then .got (.mk ⟨0,[]⟩ acc) b q
  else match f b with
   | .bad a e s => .bad (d + a) e (q + s)
   | .got x r s => iterR f n r (d + (b.length - r.length)) (q + s) (acc ++ [x])
mutual
/-- Reads one. -/
def readR : Fm → List UInt8 → RdT
 | .mk h P,b =>
  if h.k = 0 then (if (b.length : Int) < h.s then .bad b.length 4 1 else .got (.mk ⟨(be (b.take h.s.toNat) : Nat),[]⟩ []) (b.drop h.s.toNat) 1)
  else if h.k = 1 then (if (lenE h b).2.1 ≠ 0 then .bad (lenE h b).1 (lenE h b).2.1 1 else .got (.mk ⟨0,(b.drop h.s.toNat).take (lenE h b).2.2⟩ []) (b.drop (h.s.toNat + (lenE h b).2.2)) 1)
  else if h.k = 4 then (if (b.length : Int) < h.lo then .bad b.length 4 1 else if h.hi < (b.length : Int) then .bad h.hi 6 1 else .got (.mk ⟨0,b⟩ []) [] 1)
  else if h.k = 5 then (if (b.length : Int) < h.lo then .bad b.length 4 1 else .got (.mk ⟨0,b.take h.lo.toNat⟩ []) (b.drop h.lo.toNat) 1)
  else if h.k = 3 then readRow P b 0 1 []
  else if (lenE h b).2.1 ≠ 0 then .bad (lenE h b).1 (lenE h b).2.1 1
  else match iterR (readHd P) (lenE h b).2.2 ((b.drop h.s.toNat).take (lenE h b).2.2) h.s.toNat 1 [] with
   | .bad a e q => .bad a e q
   | .got x _ q => .got x (b.drop (h.s.toNat + (lenE h b).2.2)) q
def readRow : List Fm → List UInt8 → Nat → Nat → List Vt → RdT
 | [],b,_,q,acc => .got (.mk ⟨0,[]⟩ acc) b q
 | g :: P,b,d,q,acc => match readR g b with
  | .bad a e s => .bad (d + a) e (q + s)
  | .got x r s => readRow P r (d + (b.length - r.length)) (q + s) (acc ++ [x])
def readHd : List Fm → List UInt8 → RdT
 | [],_ => .bad 0 0 0
 | g :: _,b => readR g b
end
theorem readR_mk (h : FH) (P : List Fm) (b : List UInt8) : readR (.mk h P) b =
  if h.k = 0 then (if (b.length : Int) < h.s then .bad b.length 4 1 else .got (.mk ⟨(be (b.take h.s.toNat) : Nat),[]⟩ []) (b.drop h.s.toNat) 1)
  else if h.k = 1 then (if (lenE h b).2.1 ≠ 0 then .bad (lenE h b).1 (lenE h b).2.1 1 else .got (.mk ⟨0,(b.drop h.s.toNat).take (lenE h b).2.2⟩ []) (b.drop (h.s.toNat + (lenE h b).2.2)) 1)
  else if h.k = 4 then (if (b.length : Int) < h.lo then .bad b.length 4 1 else if h.hi < (b.length : Int) then .bad h.hi 6 1 else .got (.mk ⟨0,b⟩ []) [] 1)
  else if h.k = 5 then (if (b.length : Int) < h.lo then .bad b.length 4 1 else .got (.mk ⟨0,b.take h.lo.toNat⟩ []) (b.drop h.lo.toNat) 1)
  else if h.k = 3 then readRow P b 0 1 []
  else if (lenE h b).2.1 ≠ 0 then .bad (lenE h b).1 (lenE h b).2.1 1
  else match iterR (readHd P) (lenE h b).2.2 ((b.drop h.s.toNat).take (lenE h b).2.2) h.s.toNat 1 [] with
   | .bad a e q => .bad a e q
   | .got x _ q => .got x (b.drop (h.s.toNat + (lenE h b).2.2)) q := by rw [readR]
theorem readRow_drop {P : List Fm} {i : Nat} (hi : i < P.length) (b : List UInt8) (d q : Nat) (acc : List Vt) : readRow (P.drop i) b d q acc = match readR P[i] b with
  | .bad a e s => .bad (d + a) e (q + s)
  | .got x r s => readRow (P.drop (i + 1)) r (d + (b.length - r.length)) (q + s) (acc ++ [x]) := by
 rw [List.drop_eq_getElem_cons hi,readRow]
theorem readRow_end {P : List Fm} {i : Nat} (hi : P.length ≤ i) (b : List UInt8) (d q : Nat) (acc : List Vt) : readRow (P.drop i) b d q acc = .got (.mk ⟨0,[]⟩ acc) b q := by
 rw [List.drop_of_length_le hi,readRow]
theorem readHd_one (g : Fm) (t : List Fm) : readHd (g :: t) = readR g := by
 funext b
 rw [readHd]
mutual
/-- The bytes of a value. -/
def writeR : Fm → Vt → List UInt8
 | f,.mk a l =>
  if f.a.k = 0 then beB f.a.s.toNat a.n.toNat
  else if f.a.k = 1 then beB f.a.s.toNat a.b.length ++ a.b
  else if f.a.k = 4 ∨ f.a.k = 5 then a.b
  else if f.a.k = 2 then beB f.a.s.toNat (writeL f 0 l).length ++ writeL f 0 l
  else writeL f 0 l
def writeL : Fm → Nat → List Vt → List UInt8
 | _,_,[] => []
 | f,j,x :: t => writeR (f.l.getD (j % f.l.length) nilF) x ++ writeL f (j + 1) t
end
theorem writeR_mk (h : FH) (P : List Fm) (a : VH) (l : List Vt) : writeR (.mk h P) (.mk a l) =
  if h.k = 0 then beB h.s.toNat a.n.toNat
  else if h.k = 1 then beB h.s.toNat a.b.length ++ a.b
  else if h.k = 4 ∨ h.k = 5 then a.b
  else if h.k = 2 then beB h.s.toNat (writeL (.mk h P) 0 l).length ++ writeL (.mk h P) 0 l
  else writeL (.mk h P) 0 l := by rw [writeR];rfl
theorem lenE_ok {h : FH} {b : List UInt8} (h1 : (lenE h b).2.1 = 0) : h.s ≤ b.length ∧ h.lo ≤ ((lenE h b).2.2 : Int) ∧ ((lenE h b).2.2 : Int) ≤ h.hi ∧ Int.tmod ((lenE h b).2.2 : Int) h.st = 0 ∧ h.s.toNat + (lenE h b).2.2 ≤ b.length ∧ (lenE h b).2.2 = be (b.take h.s.toNat) ∧ (lenE h b).1 = 0 := by
 unfold lenE at h1 ⊢
 split at h1
 ·simp at h1
 ·rename_i g1
  split at h1
  ·simp at h1
  ·rename_i g2
   split at h1
   ·simp at h1
   ·rename_i g3
    rw [if_neg g1,if_neg g2,if_neg g3]
    simp only [not_or,Decidable.not_not] at g2
    exact ⟨by omega,by simp only;omega,by simp only;omega,g2.2.2,by simp only;omega,rfl,rfl⟩
end Go.Proofs.Ytdhnfccgojgehaa
