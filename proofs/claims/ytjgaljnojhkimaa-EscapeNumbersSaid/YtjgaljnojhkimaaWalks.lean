/- The walks of package escape's small functions. No condition. -/
import Derived.Test.YtjgaljnojhkimaaEq
import Derived.Test.YtjgaljnojhkimaaSizes
namespace Go.Proofs.Ytjgaljnojhkimaa
open Go.RowKit
attribute [local go_sem] ite_max ite_min
attribute [local go_sem] h_lt1 h_lt2 h_lt3 h_lt4 h_lt5 h_lt6 h_eq1 h_qe1 h_eq2 h_qe2 h_eq3 h_qe3 h_eq4 h_qe4 h_eq5 h_qe5 h_eq6 h_qe6

abbrev rv (r : Pa × Ac × Bool) : Value := .tuple #[pv r.1, av r.2.1, .bool r.2.2]
abbrev rv3 (p : Pa) (a : Ac) (b : Bool) : Value := .tuple #[pv p, av a, .bool b]
def groundP (p : Pa) (n : Int) : Pa × Ac × Bool := if n < 0 ∨ n = 127 then (p, .zero, false) else (p, .of 1 n, true)
def escP (n : Int) : Pa × Ac × Bool := if n = 91 then (.at 2, .zero, false) else if n = 93 then (.at 3, .zero, false) else if 48 ≤ n ∧ n ≤ 126 then (.zero, .of 3 n, true) else (.zero, .zero, false)
def oscP (p : Pa) (n : Int) : Pa × Ac × Bool := if n = 7 then (.zero, .zero, false) else (p, .zero, false)
set_option maxRecDepth 100000 in
set_option maxHeartbeats 4000000 in
theorem none17 (p : Pa) (w : World) : Gives Try.prog 17 #[pv p] w (rv3 p .zero false) := by
  apply gives_of
  (go_enter Try.func17, Try.ntmps17; go_wp2_with (fail))
  (refine fin_three rfl p .zero false rfl rfl rfl rfl (by repeat (first | (with_reducible assumption) | (with_reducible exact blk_new (by first | rfl | (simp; done))) | with_reducible apply Blk.alloc | with_reducible apply Blk.drew | with_reducible apply Blk.latr)) (by repeat (first | (with_reducible assumption) | (with_reducible exact blk_new (by first | rfl | (simp; done))) | with_reducible apply Blk.alloc | with_reducible apply Blk.drew | with_reducible apply Blk.latr)) ⟨rfl, by repeat (first | (with_reducible exact Later.refl _) | (with_reducible assumption) | with_reducible apply Later.latr | with_reducible apply Later.alloc | with_reducible apply Later.drew | (with_reducible refine Later.set ?_ (by (simp; try omega)) _))⟩)
set_option maxRecDepth 100000 in
set_option maxHeartbeats 4000000 in
theorem ground18 (p : Pa) (n : Int) (w : World) : Gives Try.prog 18 #[pv p, .int .i64 n] w (rv (groundP p n)) := by
  apply gives_of
  unfold groundP
  split
  · rename_i h
    have dd : decide (n < 0) = true ∨ (decide (n < 0) = false ∧ (n == 127) = true) := by
      rcases h with h | h
      · exact .inl (decide_eq_true h)
      · exact .inr ⟨decide_eq_false (by omega), by simpa using h⟩
    clear h
    rcases dd with d1 | ⟨d1, d2⟩
    all_goals
      (go_enter Try.func18, Try.ntmps18; go_wp2_with (fail))
      (refine (none17 p _).later.mono ?_; rintro e W1 ⟨rfl, hl1⟩; have hB4 := (show Blk _ (w.heap.size + 1) 27 (pc .zero) from (by repeat (first | (with_reducible assumption) | (with_reducible exact blk_new (by first | rfl | (simp; done))) | with_reducible apply Blk.alloc | with_reducible apply Blk.drew | with_reducible apply Blk.latr))).later hl1; have hB5 := (show Blk _ (w.heap.size + 1 + 1) 25 (ac .zero) from (by repeat (first | (with_reducible assumption) | (with_reducible exact blk_new (by first | rfl | (simp; done))) | with_reducible apply Blk.alloc | with_reducible apply Blk.drew | with_reducible apply Blk.latr))).later hl1; have hL := Later.trans (a := w) (by repeat (first | (with_reducible exact Later.refl _) | with_reducible apply Later.latr | with_reducible apply Later.alloc | with_reducible apply Later.drew | (with_reducible refine Later.set ?_ (by (simp; try omega)) _))) hl1; have hne : w.heap.size + 1 ≠ w.heap.size + 1 + 1 := (by omega); have hg4 : w.heap.size ≤ w.heap.size + 1 := (by omega); have hg5 : w.heap.size ≤ w.heap.size + 1 + 1 := (by omega); (generalize w.heap.size + 1 + 1 = g5 at *); (generalize w.heap.size + 1 = g4 at *); have ht4 := hB4.there (o := 0) (n := 13) (by decide); have ht5 := hB5.there (o := 0) (n := 12) (by decide); (simp only []); (repeat go_step); exact fin_sets rfl hB4 rfl hB5 rfl hne p .zero false rfl rfl rfl rfl ⟨rfl, later_sets (later_sets hL hg4 _ _) hg5 _ _⟩)
  · rename_i h
    have d1 : decide (n < 0) = false := decide_eq_false (by omega)
    have d2 : (n == 127) = false := by simp; omega
    (go_enter Try.func18, Try.ntmps18; go_wp2_with (fail))
    (refine fin_three rfl p (.of 1 n) true rfl rfl rfl rfl (by repeat (first | (with_reducible assumption) | (with_reducible exact blk_new (by first | rfl | (simp; done))) | with_reducible apply Blk.alloc | with_reducible apply Blk.drew | with_reducible apply Blk.latr)) (by repeat (first | (with_reducible assumption) | (with_reducible exact blk_new (by first | rfl | (simp; done))) | with_reducible apply Blk.alloc | with_reducible apply Blk.drew | with_reducible apply Blk.latr)) ⟨rfl, by repeat (first | (with_reducible exact Later.refl _) | (with_reducible assumption) | with_reducible apply Later.latr | with_reducible apply Later.alloc | with_reducible apply Later.drew | (with_reducible refine Later.set ?_ (by (simp; try omega)) _))⟩)
set_option maxRecDepth 100000 in
set_option maxHeartbeats 4000000 in
theorem esc19 (p : Pa) (n : Int) (w : World) : Gives Try.prog 19 #[pv p, .int .i64 n] w (rv (escP n)) := by
  apply gives_of
  unfold escP
  split
  · rename_i h
    subst h
    (go_enter Try.func19, Try.ntmps19; go_wp2_with (fail))
    (refine (none17 (.at 2) _).later.mono ?_; rintro e W1 ⟨rfl, hl1⟩; have hB4 := (show Blk _ (w.heap.size + 1) 27 (pc .zero) from (by repeat (first | (with_reducible assumption) | (with_reducible exact blk_new (by first | rfl | (simp; done))) | with_reducible apply Blk.alloc | with_reducible apply Blk.drew | with_reducible apply Blk.latr))).later hl1; have hB5 := (show Blk _ (w.heap.size + 1 + 1) 25 (ac .zero) from (by repeat (first | (with_reducible assumption) | (with_reducible exact blk_new (by first | rfl | (simp; done))) | with_reducible apply Blk.alloc | with_reducible apply Blk.drew | with_reducible apply Blk.latr))).later hl1; have hL := Later.trans (a := w) (by repeat (first | (with_reducible exact Later.refl _) | with_reducible apply Later.latr | with_reducible apply Later.alloc | with_reducible apply Later.drew | (with_reducible refine Later.set ?_ (by (simp; try omega)) _))) hl1; have hne : w.heap.size + 1 ≠ w.heap.size + 1 + 1 := (by omega); have hg4 : w.heap.size ≤ w.heap.size + 1 := (by omega); have hg5 : w.heap.size ≤ w.heap.size + 1 + 1 := (by omega); (generalize w.heap.size + 1 + 1 = g5 at *); (generalize w.heap.size + 1 = g4 at *); have ht4 := hB4.there (o := 0) (n := 13) (by decide); have ht5 := hB5.there (o := 0) (n := 12) (by decide); (simp only []); (repeat go_step); exact fin_sets rfl hB4 rfl hB5 rfl hne (.at 2) .zero false rfl rfl rfl rfl ⟨rfl, later_sets (later_sets hL hg4 _ _) hg5 _ _⟩)
  · rename_i h1
    have d1 : (n == 91) = false := by simp; omega
    split
    · rename_i h
      subst h
      (go_enter Try.func19, Try.ntmps19; go_wp2_with (fail))
      (refine (none17 (.at 3) _).later.mono ?_; rintro e W1 ⟨rfl, hl1⟩; have hB4 := (show Blk _ (w.heap.size + 1) 27 (pc .zero) from (by repeat (first | (with_reducible assumption) | (with_reducible exact blk_new (by first | rfl | (simp; done))) | with_reducible apply Blk.alloc | with_reducible apply Blk.drew | with_reducible apply Blk.latr))).later hl1; have hB5 := (show Blk _ (w.heap.size + 1 + 1) 25 (ac .zero) from (by repeat (first | (with_reducible assumption) | (with_reducible exact blk_new (by first | rfl | (simp; done))) | with_reducible apply Blk.alloc | with_reducible apply Blk.drew | with_reducible apply Blk.latr))).later hl1; have hL := Later.trans (a := w) (by repeat (first | (with_reducible exact Later.refl _) | with_reducible apply Later.latr | with_reducible apply Later.alloc | with_reducible apply Later.drew | (with_reducible refine Later.set ?_ (by (simp; try omega)) _))) hl1; have hne : w.heap.size + 1 ≠ w.heap.size + 1 + 1 := (by omega); have hg4 : w.heap.size ≤ w.heap.size + 1 := (by omega); have hg5 : w.heap.size ≤ w.heap.size + 1 + 1 := (by omega); (generalize w.heap.size + 1 + 1 = g5 at *); (generalize w.heap.size + 1 = g4 at *); have ht4 := hB4.there (o := 0) (n := 13) (by decide); have ht5 := hB5.there (o := 0) (n := 12) (by decide); (simp only []); (repeat go_step); exact fin_sets rfl hB4 rfl hB5 rfl hne (.at 3) .zero false rfl rfl rfl rfl ⟨rfl, later_sets (later_sets hL hg4 _ _) hg5 _ _⟩)
    · rename_i h2
      have d2 : (n == 93) = false := by simp; omega
      split
      · rename_i h3
        have d3 : decide (48 ≤ n) = true := decide_eq_true (by omega)
        have d4 : decide (n < 127) = true := decide_eq_true (by omega)
        (go_enter Try.func19, Try.ntmps19; go_wp2_with (fail))
        (refine fin_three rfl .zero (.of 3 n) true rfl rfl rfl rfl (by repeat (first | (with_reducible assumption) | (with_reducible exact blk_new (by first | rfl | (simp; done))) | with_reducible apply Blk.alloc | with_reducible apply Blk.drew | with_reducible apply Blk.latr)) (by repeat (first | (with_reducible assumption) | (with_reducible exact blk_new (by first | rfl | (simp; done))) | with_reducible apply Blk.alloc | with_reducible apply Blk.drew | with_reducible apply Blk.latr)) ⟨rfl, by repeat (first | (with_reducible exact Later.refl _) | (with_reducible assumption) | with_reducible apply Later.latr | with_reducible apply Later.alloc | with_reducible apply Later.drew | (with_reducible refine Later.set ?_ (by (simp; try omega)) _))⟩)
      · rename_i h3
        have dd : decide (48 ≤ n) = false ∨ (decide (48 ≤ n) = true ∧ decide (n < 127) = false) := by
          by_cases h : 48 ≤ n
          · exact .inr ⟨decide_eq_true h, decide_eq_false (by omega)⟩
          · exact .inl (decide_eq_false h)
        rcases dd with d3 | ⟨d3, d4⟩
        all_goals
          (go_enter Try.func19, Try.ntmps19; go_wp2_with (fail))
          (refine (none17 .zero _).later.mono ?_; rintro e W1 ⟨rfl, hl1⟩; have hB4 := (show Blk _ (w.heap.size + 1) 27 (pc .zero) from (by repeat (first | (with_reducible assumption) | (with_reducible exact blk_new (by first | rfl | (simp; done))) | with_reducible apply Blk.alloc | with_reducible apply Blk.drew | with_reducible apply Blk.latr))).later hl1; have hB5 := (show Blk _ (w.heap.size + 1 + 1) 25 (ac .zero) from (by repeat (first | (with_reducible assumption) | (with_reducible exact blk_new (by first | rfl | (simp; done))) | with_reducible apply Blk.alloc | with_reducible apply Blk.drew | with_reducible apply Blk.latr))).later hl1; have hL := Later.trans (a := w) (by repeat (first | (with_reducible exact Later.refl _) | with_reducible apply Later.latr | with_reducible apply Later.alloc | with_reducible apply Later.drew | (with_reducible refine Later.set ?_ (by (simp; try omega)) _))) hl1; have hne : w.heap.size + 1 ≠ w.heap.size + 1 + 1 := (by omega); have hg4 : w.heap.size ≤ w.heap.size + 1 := (by omega); have hg5 : w.heap.size ≤ w.heap.size + 1 + 1 := (by omega); (generalize w.heap.size + 1 + 1 = g5 at *); (generalize w.heap.size + 1 = g4 at *); have ht4 := hB4.there (o := 0) (n := 13) (by decide); have ht5 := hB5.there (o := 0) (n := 12) (by decide); (simp only []); (repeat go_step); exact fin_sets rfl hB4 rfl hB5 rfl hne .zero .zero false rfl rfl rfl rfl ⟨rfl, later_sets (later_sets hL hg4 _ _) hg5 _ _⟩)
set_option maxRecDepth 100000 in
set_option maxHeartbeats 4000000 in
theorem osc21 (p : Pa) (n : Int) (w : World) : Gives Try.prog 21 #[pv p, .int .i64 n] w (rv (oscP p n)) := by
  apply gives_of
  unfold oscP
  split
  · rename_i h
    subst h
    (go_enter Try.func21, Try.ntmps21; go_wp2_with (fail))
    (refine (none17 .zero _).later.mono ?_; rintro e W1 ⟨rfl, hl1⟩; have hB4 := (show Blk _ (w.heap.size + 1) 27 (pc .zero) from (by repeat (first | (with_reducible assumption) | (with_reducible exact blk_new (by first | rfl | (simp; done))) | with_reducible apply Blk.alloc | with_reducible apply Blk.drew | with_reducible apply Blk.latr))).later hl1; have hB5 := (show Blk _ (w.heap.size + 1 + 1) 25 (ac .zero) from (by repeat (first | (with_reducible assumption) | (with_reducible exact blk_new (by first | rfl | (simp; done))) | with_reducible apply Blk.alloc | with_reducible apply Blk.drew | with_reducible apply Blk.latr))).later hl1; have hL := Later.trans (a := w) (by repeat (first | (with_reducible exact Later.refl _) | with_reducible apply Later.latr | with_reducible apply Later.alloc | with_reducible apply Later.drew | (with_reducible refine Later.set ?_ (by (simp; try omega)) _))) hl1; have hne : w.heap.size + 1 ≠ w.heap.size + 1 + 1 := (by omega); have hg4 : w.heap.size ≤ w.heap.size + 1 := (by omega); have hg5 : w.heap.size ≤ w.heap.size + 1 + 1 := (by omega); (generalize w.heap.size + 1 + 1 = g5 at *); (generalize w.heap.size + 1 = g4 at *); have ht4 := hB4.there (o := 0) (n := 13) (by decide); have ht5 := hB5.there (o := 0) (n := 12) (by decide); (simp only []); (repeat go_step); exact fin_sets rfl hB4 rfl hB5 rfl hne .zero .zero false rfl rfl rfl rfl ⟨rfl, later_sets (later_sets hL hg4 _ _) hg5 _ _⟩)
  · rename_i h1
    have d1 : (n == 7) = false := by simp; omega
    (go_enter Try.func21, Try.ntmps21; go_wp2_with (fail))
    (refine (none17 p _).later.mono ?_; rintro e W1 ⟨rfl, hl1⟩; have hB4 := (show Blk _ (w.heap.size + 1) 27 (pc .zero) from (by repeat (first | (with_reducible assumption) | (with_reducible exact blk_new (by first | rfl | (simp; done))) | with_reducible apply Blk.alloc | with_reducible apply Blk.drew | with_reducible apply Blk.latr))).later hl1; have hB5 := (show Blk _ (w.heap.size + 1 + 1) 25 (ac .zero) from (by repeat (first | (with_reducible assumption) | (with_reducible exact blk_new (by first | rfl | (simp; done))) | with_reducible apply Blk.alloc | with_reducible apply Blk.drew | with_reducible apply Blk.latr))).later hl1; have hL := Later.trans (a := w) (by repeat (first | (with_reducible exact Later.refl _) | with_reducible apply Later.latr | with_reducible apply Later.alloc | with_reducible apply Later.drew | (with_reducible refine Later.set ?_ (by (simp; try omega)) _))) hl1; have hne : w.heap.size + 1 ≠ w.heap.size + 1 + 1 := (by omega); have hg4 : w.heap.size ≤ w.heap.size + 1 := (by omega); have hg5 : w.heap.size ≤ w.heap.size + 1 + 1 := (by omega); (generalize w.heap.size + 1 + 1 = g5 at *); (generalize w.heap.size + 1 = g4 at *); have ht4 := hB4.there (o := 0) (n := 13) (by decide); have ht5 := hB5.there (o := 0) (n := 12) (by decide); (simp only []); (repeat go_step); exact fin_sets rfl hB4 rfl hB5 rfl hne p .zero false rfl rfl rfl rfl ⟨rfl, later_sets (later_sets hL hg4 _ _) hg5 _ _⟩)
end Go.Proofs.Ytjgaljnojhkimaa
