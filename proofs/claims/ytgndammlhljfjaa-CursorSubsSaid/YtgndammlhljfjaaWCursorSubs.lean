/-
  CursorSubs: the walk.
-/
import Derived.Test.YtgndammlhljfjaaL01
import Derived.Deep.RegionWith
namespace Go.Proofs.Ytgndammlhljfjaa
open Go.RowKit
/-! ### CursorSubs -/
set_option maxRecDepth 100000 in
theorem subs_walk (w : World) (v : Value) (l : List UInt8) (hv : BR w (· < w.heap.size) v l) (hl : l.length ≤ 140737488351232) (n : Int) (_hn : (Lit.int .i64 n).wf = true) (k : Int) (_hk : (Lit.int .i64 k).wf = true) :
    Calls Try.prog 7 #[v, .int .i64 n, .int .i64 k] w fun e w' => e = .returned (.bool true) ∧ Below w.heap.size w w' := by
  obtain ⟨A, c, rfl, hlc, hr⟩ := id hv
  obtain ⟨m, hm, hml⟩ := mod_place n l.length hl
  obtain ⟨j, hj, hjm⟩ := mod_place k m (by omega)
  go_enter Try.func7, Try.ntmps7
  go_wp2_with fail
  refine (new_any _ _ _ 100 _ hv).mono ?_
  rintro e w1 ⟨g, rfl, hg, hc1, hk1⟩
  go_wp2_with fail
  refine (alive01 _).mono ?_
  rintro e w2 ⟨rfl, hk2⟩
  have hc2 := hc1.kp hk2 (fun _ _ h => h) (fun h => h)
  have hh2 := hk1.then_ hk2 (fun _ h => h.elim)
  go_wp2_with fail
  refine (sub_ok _ _ _ _ m _ hc2 (by omega) hl (by omega) (by omega) hml).mono ?_
  rintro e w3 ⟨s, rfl, hs, hs3, hc3, hk3⟩
  have hc2l := hc2.lt
  have hh3 := hh2.then_ hk3 (fun i hi => .inr (by omega))
  clear hm hj hk1 hk2 hk3 hc1 hc2
  have hql : (l.take m).length = m := by simp; omega
  have hrl : (l.drop m).length = l.length - m := by simp
  generalize hq : l.take m = q at hs3 hql
  generalize hd : l.drop m = d at hc3 hrl
  have Hq := Lib.hid hq
  have hsz := hh2.size
  clear hq hd
  go_wp2_with (first
    | (go_at_call_of 18 (Value.pointer (some ⟨g, 0, none⟩)); ((with_reducible refine (at_any _ g _ _ _ hc3).mono ?_); rintro e w' ⟨rfl, rfl⟩))
    | (go_at_call 24; ((with_reducible refine (end_any _ s _ _ _ hs3 (by omega) (by omega)).mono ?_); rintro e w' ⟨rfl, rfl⟩)))
  refine (take_at _ _ _ _ (m - j) _ hs3 (by omega) (by omega) (by omega) (by omega) (q.take (m - j)) (q.drop (m - j)) 0 (100 + (m : Int) - j) (m - j) (by rw [nx_ok (by omega) (by omega)]; congr 2; omega) (by simp; omega) rfl (by omega)).mono ?_
  rintro e w4 ⟨A4, c4, rfl, hlc4, hx4, hs4, hk4⟩
  have hc4 := hc3.kp hk4 (fun i hi hj => by subst hj; omega) (by have := hc2l; omega)
  have hh4 := hh3.then_ hk4 (fun i hi => .inr (by omega))
  have hrl2 : (q.drop (m - j)).length = j := by simp; omega
  generalize hd : q.drop (m - j) = r at hs4 hrl2
  have Hr := Lib.hid hd
  clear hd
  go_wp2_with fail
  refine (sub_ok _ _ _ _ j _ hs4 (by omega) (by omega) (by omega) (by omega) (by omega)).mono ?_
  rintro e w5 ⟨t, rfl, ht, ht5, hs5, hk5⟩
  have hc5 := hc4.kp hk5 (fun i hi hj => by subst hj; omega) (by have := hc2l; omega)
  have hh5 := hh4.then_ hk5 (fun i hi => .inr (by omega))
  have e1 : r.take j = r := List.take_of_length_le (by omega)
  have e2 : r.drop j = [] := List.drop_of_length_le (by omega)
  rw [e1] at ht5
  rw [e2] at hs5
  clear e1 e2
  have hh4s := hh4.size
  go_wp2_with (first
    | (go_at_call 18; ((with_reducible refine (at_any _ t _ _ _ ht5).mono ?_); rintro e w' ⟨rfl, rfl⟩))
    | (go_at_call 25; ((with_reducible refine (left_any _ s _ _ _ hs5).mono ?_); rintro e w' ⟨rfl, rfl⟩))
    | (go_at_call 24; ((with_reducible refine (end_any _ t _ _ _ ht5 (by omega) (by omega)).mono ?_); rintro e w' ⟨rfl, rfl⟩)))
  refine (take_at _ _ _ _ j _ ht5 (by omega) (by omega) (by omega) (by omega) r [] 0 (100 + (m : Int)) j (by rw [nx_ok (by omega) (by omega)]; congr 1; exact List.take_of_length_le (by omega)) hrl2 (List.drop_of_length_le (by omega)) (by omega)).mono ?_
  rintro e w6 ⟨A6, c6, rfl, hlc6, hx6, ht6, hk6⟩
  have hc6 := hc5.kp hk6 (fun i hi hj => by subst hj; omega) (by have := hc4.lt; omega)
  have hh6 := hh5.then_ hk6 (fun i hi => .inr (by omega))
  go_wp2_with fail
  refine (number_at _ _ _ _ 1 _ ht6 (by omega) (by simp) (by omega) (by simp; omega) [] [] 4 0 (100 + (m : Int)) rfl rfl rfl (by simp)).mono ?_
  rintro e w7 ⟨rfl, ht7, hk7⟩
  have hc7 := hc6.kp hk7 (fun i hi hj => by subst hj; omega) (by have := hc4.lt; omega)
  have hh7 := hh6.then_ hk7 (fun i hi => .inr (by omega))
  have hsx : ∀ q, (convert 22 9 (.slice A6 j c6)).run Try.prog (w7.drewN q) = .ok (.string (str r)) (w7.drewN q) := fun q =>
    run_str (e := 5) Try.underlying22 Try.underlying5 Try.underlying9 ((hx6.kp hk7 (fun i hi hj => by have := ht5.lt; omega)).kp ((Kp.refl (fun _ => False) w7).drewN q) (fun _ _ h => h))
  have hsy : ∀ q, (convert 22 9 (.slice (if c = m - j then A else A.map (·.add (m - j))) (m - (m - j)) (c - (m - j)))).run Try.prog (w7.drewN q) = .ok (.string (str r)) (w7.drewN q) := fun i => by
    have h1 : ((l.drop (m - j)).take (m - (m - j))) = r := by
      rw [← Hr.out, ← Hq.out, List.drop_take]
    have h2 := BR.sub hr hlc (show m - j ≤ m by omega) hml
    rw [h1] at h2
    exact run_str (e := 5) Try.underlying22 Try.underlying5 Try.underlying9 (h2.kp (hh7.drewN i) (fun _ _ h => h))
  have hbe : ((d.length : Int) == (l.length : Int) - (m : Int)) = true := by rw [beq_iff_eq]; omega
  clear hrl
  go_wp2_with fail
  go_quiet ((go_at_call 25; exact quiet_left (left_any _ g _ _ _ (hc7.kp ((Kp.refl (fun _ => False) w7).drewN _) (fun _ _ h => h) (fun h => h)))))
  go_wp2_with fail
  all_goals go_ret
  all_goals exact ⟨rfl, (hh7.drewN _).below⟩


end Go.Proofs.Ytgndammlhljfjaa
