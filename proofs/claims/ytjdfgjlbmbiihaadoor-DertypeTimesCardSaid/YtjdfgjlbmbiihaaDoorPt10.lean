/-
  Plain: which bytes may be a bit string's, and a time's; what digits are.
-/
import Derived.Test.YtjdfgjlbmbiihaaDoorNum
import Derived.Lib.Atoi
namespace Go.Proofs.YtjdfgjlbmbiihaaDoor
open Go

/-- A byte of a list, as a number; behind its end 0. -/
def bt (l : List UInt8) (i : Nat) : Nat := (l[i]?.getD 0).toNat
theorem bt_at {l : List UInt8} {i : Nat} (h : i < l.length) : bt l i = (l[i]'h).toNat := by
  rw [bt, List.getElem?_eq_getElem h]
  rfl
theorem bt_lt (l : List UInt8) (i : Nat) : bt l i < 256 := UInt8.toNat_lt _

/-- May bytes be a bit string's? -/
def bitsB (l : List UInt8) : Bool :=
  decide (0 < l.length) && decide (bt l 0 ≤ 7) && (if l.length = 1 then decide (bt l 0 = 0) else decide (bt l (l.length - 1) % 2 ^ bt l 0 = 0))

def isDig (c : UInt8) : Bool := decide (48 ≤ c.toNat) && decide (c.toNat ≤ 57)
def digs (l : List UInt8) : Bool := l.all isDig
/-- The number that digits are. -/
def num (l : List UInt8) : Nat := l.foldl (fun n c => n * 10 + (c.toNat - 48)) 0
theorem num_snoc (l : List UInt8) (c : UInt8) : num (l ++ [c]) = num l * 10 + (c.toNat - 48) := by simp [num]
theorem digs_append (l m : List UInt8) : digs (l ++ m) = (digs l && digs m) := by simp [digs]
theorem digs_sub {l : List UInt8} {n i m : Nat} (h : digs (l.take n) = true) (him : i + m ≤ n) : digs ((l.drop i).take m) = true := by
  refine List.all_eq_true.2 fun c hc => List.all_eq_true.1 h c ?_
  have e : (l.drop i).take m = ((l.take n).drop i).take m := by
    rw [List.drop_take, List.take_take, Nat.min_eq_left (by omega)]
  rw [e] at hc
  exact List.mem_of_mem_drop (List.mem_of_mem_take hc)
theorem num_take (l : List UInt8) (k : Nat) (h : k < l.length) : num (l.take (k + 1)) = num (l.take k) * 10 + (l[k].toNat - 48) := by
  rw [List.take_succ_eq_append_getElem h, num_snoc]
theorem num_lt (l : List UInt8) (h : digs l = true) : num l < 10 ^ l.length := by
  obtain ⟨m, rfl⟩ : ∃ m : List UInt8, l = m.reverse := ⟨l.reverse, by simp⟩
  induction m with
  | nil => simp [num]
  | cons c m ih =>
    rw [List.reverse_cons, digs_append, Bool.and_eq_true] at h
    have h1 := ih h.1
    have h2 : isDig c = true := by simpa [digs] using h.2
    simp only [isDig, Bool.and_eq_true, decide_eq_true_eq] at h2
    rw [List.reverse_cons, num_snoc, List.length_append, List.length_singleton, Nat.pow_succ]
    omega
theorem num1 (a : UInt8) : num [a] = a.toNat - 48 := by simp [num]
theorem num2 (a b : UInt8) : num [a, b] = (a.toNat - 48) * 10 + (b.toNat - 48) := by simp [num]

/-- Six numbers. -/
structure T6 where
  (a b c d e f : Nat)
deriving DecidableEq
def T6.v (t : T6) : Value := .agg #[.int .i64 t.a, .int .i64 t.b, .int .i64 t.c, .int .i64 t.d, .int .i64 t.e, .int .i64 t.f]
def T6.zero : T6 := ⟨0, 0, 0, 0, 0, 0⟩

/-- The days of a month. -/
def leapN (y : Nat) : Bool := decide (y % 4 = 0) && (decide (y % 100 ≠ 0) || decide (y % 400 = 0))
def dim (y m : Nat) : Nat := if m = 4 ∨ m = 6 ∨ m = 9 ∨ m = 11 then 30 else if m = 2 then (if leapN y = true then 29 else 28) else 31
def okT (t : T6) : Bool := decide (1 ≤ t.b) && decide (t.b ≤ 12) && decide (1 ≤ t.c) && decide (t.c ≤ dim t.a t.b) && decide (t.d ≤ 23) && decide (t.e ≤ 59) && decide (t.f ≤ 59)
/-- The numbers of fourteen digits. -/
def t15 (l : List UInt8) : T6 := ⟨num (l.take 4), num ((l.drop 4).take 2), num ((l.drop 6).take 2), num ((l.drop 8).take 2), num ((l.drop 10).take 2), num ((l.drop 12).take 2)⟩
def time15 (l : List UInt8) : Option T6 :=
  if l.length = 15 ∧ bt l 14 = 90 ∧ digs (l.take 14) = true then (if okT (t15 l) = true then some (t15 l) else none) else none
/-- The century of a year of two digits. -/
def cent (l : List UInt8) : List UInt8 := if 53 ≤ bt l 0 then [49, 57] else [50, 48]
def timeR (tag : Int) (l : List UInt8) : Option T6 :=
  if tag = 23 then (if l.length = 13 then time15 (cent l ++ l) else none) else time15 l

theorem atoi_digs (l : List UInt8) (h0 : l ≠ []) (h : digs l = true) : Lib.atoi l = some (num l : Int) := by
  have key : ∀ (m : List UInt8) (acc : Nat), digs m = true → Lib.decFrom acc m = some (m.foldl (fun n c => n * 10 + (c.toNat - 48)) acc) := by
    intro m
    induction m with
    | nil => intro acc _; rfl
    | cons c m ih =>
      intro acc hm
      simp only [digs, List.all_cons, Bool.and_eq_true] at hm
      have h2 := hm.1
      simp only [isDig, Bool.and_eq_true, decide_eq_true_eq] at h2
      rw [Lib.decFrom, Lib.digitVal, if_pos h2]
      exact ih _ hm.2
  cases l with
  | nil => exact absurd rfl h0
  | cons c m =>
    have hk := key (c :: m) 0 h
    have h2 : isDig c = true := by
      simp only [digs, List.all_cons, Bool.and_eq_true] at h
      exact h.1
    simp only [isDig, Bool.and_eq_true, decide_eq_true_eq] at h2
    have e1 : (c == 45) = false := by
      rw [beq_eq_false_iff_ne]
      rintro rfl
      simp at h2
    have e2 : (c == 43) = false := by
      rw [beq_eq_false_iff_ne]
      rintro rfl
      simp at h2
    rw [Lib.atoi, e1, e2]
    simp only [Bool.false_eq_true, if_false, Lib.decNat, List.isEmpty_cons, hk, Option.map_some]
    rfl
end Go.Proofs.YtjdfgjlbmbiihaaDoor
