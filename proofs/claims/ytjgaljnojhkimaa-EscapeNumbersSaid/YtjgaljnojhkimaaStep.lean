/- The walk of Step: the code's. No condition. -/
import Derived.Test.YtjgaljnojhkimaaOfs
import Derived.Test.YtjgaljnojhkimaaCsi
import Derived.Test.YtjgaljnojhkimaaRoom
namespace Go.Proofs.Ytjgaljnojhkimaa
open Go.RowKit
attribute [local go_sem] ite_max ite_min
attribute [local go_sem] h_lt1 h_lt2 h_lt3 h_lt4 h_lt5 h_lt6 h_eq1 h_qe1 h_eq2 h_qe2 h_eq3 h_qe3 h_eq4 h_qe4 h_eq5 h_qe5 h_eq6 h_qe6

theorem okP_ofP (q : Pa) : okP (ofP q) = true := by
  unfold ofP
  split
  · assumption
  · decide
set_option maxRecDepth 100000 in
set_option maxHeartbeats 8000000 in
theorem step_esc (q m : Pa) (hof : ∀ w, Gives Try.prog 16 #[pv q] w (pv m)) (n : Int) (hn : n = 27) (w : World) : Gives Try.prog 9 #[pv q, .int .i64 n] w (rv3 (.at 1) .zero false) := by
  apply gives_of
  subst hn
  (go_enter Try.func9, Try.ntmps9; go_wp2_with (fail))
  refine (hof _).later.mono ?_
  rintro e W1 ⟨rfl, hl1⟩
  have hB4 := (show Blk _ (w.heap.size + 1) 27 (pc .zero) from (by repeat (first | (with_reducible assumption) | (with_reducible exact blk_new (by first | rfl | (simp; done))) | with_reducible apply Blk.alloc | with_reducible apply Blk.drew | with_reducible apply Blk.latr | (with_reducible refine Blk.far ?_ (by (simp; try omega)) _)))).later hl1
  have hB5 := (show Blk _ (w.heap.size + 1 + 1) 25 (ac .zero) from (by repeat (first | (with_reducible assumption) | (with_reducible exact blk_new (by first | rfl | (simp; done))) | with_reducible apply Blk.alloc | with_reducible apply Blk.drew | with_reducible apply Blk.latr | (with_reducible refine Blk.far ?_ (by (simp; try omega)) _)))).later hl1
  have hL := Later.trans (a := w) (by repeat (first | (with_reducible exact Later.refl _) | with_reducible apply Later.latr | with_reducible apply Later.alloc | with_reducible apply Later.drew | (with_reducible refine Later.set ?_ (by (simp; try omega)) _))) hl1
  have hne : w.heap.size + 1 ≠ w.heap.size + 1 + 1 := by omega
  have hg4 : w.heap.size ≤ w.heap.size + 1 := by omega
  have hg5 : w.heap.size ≤ w.heap.size + 1 + 1 := by omega
  (generalize w.heap.size + 1 + 1 = g5 at *)
  (generalize w.heap.size + 1 = g4 at *)
  go_wp2_with (fail)
  refine (none17 (.at 1) _).later.mono ?_
  rintro e W2 ⟨rfl, hl2⟩
  have hC4 := (show Blk _ g4 27 (pc .zero) from (by repeat (first | (with_reducible assumption) | (with_reducible exact blk_new (by first | rfl | (simp; done))) | with_reducible apply Blk.alloc | with_reducible apply Blk.drew | with_reducible apply Blk.latr | (with_reducible refine Blk.far ?_ (by (simp; try omega)) _)))).later hl2
  have hC5 := (show Blk _ g5 25 (ac .zero) from (by repeat (first | (with_reducible assumption) | (with_reducible exact blk_new (by first | rfl | (simp; done))) | with_reducible apply Blk.alloc | with_reducible apply Blk.drew | with_reducible apply Blk.latr | (with_reducible refine Blk.far ?_ (by (simp; try omega)) _)))).later hl2
  have hL2 := Later.trans (a := w) (by repeat (first | (with_reducible exact Later.refl _) | (with_reducible exact hL) | with_reducible apply Later.latr | with_reducible apply Later.alloc | with_reducible apply Later.drew | (with_reducible refine Later.set ?_ (by (simp; try omega)) _))) hl2
  have ht4 := hC4.there (o := 0) (n := 13) (by decide)
  have ht5 := hC5.there (o := 0) (n := 12) (by decide)
  (simp only [])
  (repeat go_step)
  exact fin_sets rfl hC4 rfl hC5 rfl hne (.at 1) .zero false rfl rfl rfl rfl ⟨rfl, later_sets (later_sets hL2 hg4 _ _) hg5 _ _⟩
set_option maxRecDepth 100000 in
set_option maxHeartbeats 8000000 in
theorem step_ctl (q m : Pa) (hof : ∀ w, Gives Try.prog 16 #[pv q] w (pv m)) (n : Int) (h0 : 0 ≤ n) (h1 : n < 32) (h27 : n ≠ 27) (hs : m.st ≠ 3) (w : World) : Gives Try.prog 9 #[pv q, .int .i64 n] w (rv3 m (.of 2 n) true) := by
  apply gives_of
  have e27 : (n == 27) = false := by simpa using h27
  have d0 : decide (0 ≤ n) = true := decide_eq_true h0
  have d1 : decide (n < 32) = true := decide_eq_true h1
  have e3 : (m.st != 3) = true := by simpa using hs
  (go_enter Try.func9, Try.ntmps9; go_wp2_with (fail))
  refine (hof _).later.mono ?_
  rintro e W1 ⟨rfl, hl1⟩
  have hB4 := (show Blk _ (w.heap.size + 1) 27 (pc .zero) from (by repeat (first | (with_reducible assumption) | (with_reducible exact blk_new (by first | rfl | (simp; done))) | with_reducible apply Blk.alloc | with_reducible apply Blk.drew | with_reducible apply Blk.latr | (with_reducible refine Blk.far ?_ (by (simp; try omega)) _)))).later hl1
  have hB5 := (show Blk _ (w.heap.size + 1 + 1) 25 (ac .zero) from (by repeat (first | (with_reducible assumption) | (with_reducible exact blk_new (by first | rfl | (simp; done))) | with_reducible apply Blk.alloc | with_reducible apply Blk.drew | with_reducible apply Blk.latr | (with_reducible refine Blk.far ?_ (by (simp; try omega)) _)))).later hl1
  have hL := Later.trans (a := w) (by repeat (first | (with_reducible exact Later.refl _) | with_reducible apply Later.latr | with_reducible apply Later.alloc | with_reducible apply Later.drew | (with_reducible refine Later.set ?_ (by (simp; try omega)) _))) hl1
  have hne : w.heap.size + 1 ≠ w.heap.size + 1 + 1 := by omega
  have hg4 : w.heap.size ≤ w.heap.size + 1 := by omega
  have hg5 : w.heap.size ≤ w.heap.size + 1 + 1 := by omega
  (generalize w.heap.size + 1 + 1 = g5 at *)
  (generalize w.heap.size + 1 = g4 at *)
  have ht4 := (hB4.alloc (.cells (pc m) 44)).there (o := 0) (n := 13) (by simp)
  have ht5 := (hB5.alloc (.cells (pc m) 44)).there (o := 0) (n := 12) (by simp)
  (simp only [])
  (repeat go_step)
  exact fin_sets rfl (hB4.alloc _) rfl (hB5.alloc _) rfl hne m (.of 2 n) true rfl rfl rfl rfl ⟨rfl, later_sets (later_sets (hL.alloc _) hg4 _ _) hg5 _ _⟩
set_option maxRecDepth 100000 in
set_option maxHeartbeats 8000000 in
theorem step_st0 (q : Pa) (a : Ac) (hof : ∀ w, Gives Try.prog 16 #[pv q] w (pv ⟨0, a⟩)) (n : Int) (h27 : n ≠ 27) (hc : ¬ (0 ≤ n ∧ n < 32))  (w : World) : Gives Try.prog 9 #[pv q, .int .i64 n] w (rv (groundP ⟨0, a⟩ n)) := by
  apply gives_of
  have e27 : (n == 27) = false := by simpa using h27
  have dd : decide (0 ≤ n) = false ∨ (decide (0 ≤ n) = true ∧ decide (n < 32) = false) := by
    by_cases h : 0 ≤ n
    · exact .inr ⟨decide_eq_true h, decide_eq_false (by omega)⟩
    · exact .inl (decide_eq_false h)
  have hmf : ∀ (fn : Fn) (first cap : Array Value) (w : World), (Instr.makeFunc fn first cap).run Try.prog w = .ok (.func fn first cap) w := fun _ _ _ _ => rfl
  rcases dd with d0 | ⟨d0, d1⟩
  all_goals
    (go_enter Try.func9, Try.ntmps9; go_wp2_with (fail))
    refine (hof _).later.mono ?_
    rintro e W1 ⟨rfl, hl1⟩
    have hB4 := (show Blk _ (w.heap.size + 1) 27 (pc .zero) from (by repeat (first | (with_reducible assumption) | (with_reducible exact blk_new (by first | rfl | (simp; done))) | with_reducible apply Blk.alloc | with_reducible apply Blk.drew | with_reducible apply Blk.latr | (with_reducible refine Blk.far ?_ (by (simp; try omega)) _)))).later hl1
    have hB5 := (show Blk _ (w.heap.size + 1 + 1) 25 (ac .zero) from (by repeat (first | (with_reducible assumption) | (with_reducible exact blk_new (by first | rfl | (simp; done))) | with_reducible apply Blk.alloc | with_reducible apply Blk.drew | with_reducible apply Blk.latr | (with_reducible refine Blk.far ?_ (by (simp; try omega)) _)))).later hl1
    have hL := Later.trans (a := w) (by repeat (first | (with_reducible exact Later.refl _) | with_reducible apply Later.latr | with_reducible apply Later.alloc | with_reducible apply Later.drew | (with_reducible refine Later.set ?_ (by (simp; try omega)) _))) hl1
    have hne : w.heap.size + 1 ≠ w.heap.size + 1 + 1 := by omega
    have hg4 : w.heap.size ≤ w.heap.size + 1 := by omega
    have hg5 : w.heap.size ≤ w.heap.size + 1 + 1 := by omega
    (generalize w.heap.size + 1 + 1 = g5 at *)
    (generalize w.heap.size + 1 = g4 at *)
    (simp only [])
    (repeat go_step)
    refine (ground18 ⟨0, a⟩ n _).later.mono ?_
    rintro e W2 ⟨rfl, hl2⟩
    have hC4 := (show Blk _ g4 27 (pc .zero) from (by repeat (first | (with_reducible assumption) | (with_reducible exact blk_new (by first | rfl | (simp; done))) | with_reducible apply Blk.alloc | with_reducible apply Blk.drew | with_reducible apply Blk.latr | (with_reducible refine Blk.far ?_ (by (simp; try omega)) _)))).later hl2
    have hC5 := (show Blk _ g5 25 (ac .zero) from (by repeat (first | (with_reducible assumption) | (with_reducible exact blk_new (by first | rfl | (simp; done))) | with_reducible apply Blk.alloc | with_reducible apply Blk.drew | with_reducible apply Blk.latr | (with_reducible refine Blk.far ?_ (by (simp; try omega)) _)))).later hl2
    have hL2 := Later.trans (a := w) (by repeat (first | (with_reducible exact Later.refl _) | (with_reducible exact hL) | with_reducible apply Later.latr | with_reducible apply Later.alloc | with_reducible apply Later.drew | (with_reducible refine Later.set ?_ (by (simp; try omega)) _))) hl2
    have ht4 := hC4.there (o := 0) (n := 13) (by decide)
    have ht5 := hC5.there (o := 0) (n := 12) (by decide)
    (simp only [])
    (repeat go_step)
    exact fin_sets rfl hC4 rfl hC5 rfl hne (groundP ⟨0, a⟩ n).1 (groundP ⟨0, a⟩ n).2.1 (groundP ⟨0, a⟩ n).2.2 rfl rfl rfl rfl ⟨rfl, later_sets (later_sets hL2 hg4 _ _) hg5 _ _⟩
set_option maxRecDepth 100000 in
set_option maxHeartbeats 8000000 in
theorem step_st1 (q : Pa) (a : Ac) (hof : ∀ w, Gives Try.prog 16 #[pv q] w (pv ⟨1, a⟩)) (n : Int) (h27 : n ≠ 27) (hc : ¬ (0 ≤ n ∧ n < 32))  (w : World) : Gives Try.prog 9 #[pv q, .int .i64 n] w (rv (escP n)) := by
  apply gives_of
  have e27 : (n == 27) = false := by simpa using h27
  have dd : decide (0 ≤ n) = false ∨ (decide (0 ≤ n) = true ∧ decide (n < 32) = false) := by
    by_cases h : 0 ≤ n
    · exact .inr ⟨decide_eq_true h, decide_eq_false (by omega)⟩
    · exact .inl (decide_eq_false h)
  have hmf : ∀ (fn : Fn) (first cap : Array Value) (w : World), (Instr.makeFunc fn first cap).run Try.prog w = .ok (.func fn first cap) w := fun _ _ _ _ => rfl
  rcases dd with d0 | ⟨d0, d1⟩
  all_goals
    (go_enter Try.func9, Try.ntmps9; go_wp2_with (fail))
    refine (hof _).later.mono ?_
    rintro e W1 ⟨rfl, hl1⟩
    have hB4 := (show Blk _ (w.heap.size + 1) 27 (pc .zero) from (by repeat (first | (with_reducible assumption) | (with_reducible exact blk_new (by first | rfl | (simp; done))) | with_reducible apply Blk.alloc | with_reducible apply Blk.drew | with_reducible apply Blk.latr | (with_reducible refine Blk.far ?_ (by (simp; try omega)) _)))).later hl1
    have hB5 := (show Blk _ (w.heap.size + 1 + 1) 25 (ac .zero) from (by repeat (first | (with_reducible assumption) | (with_reducible exact blk_new (by first | rfl | (simp; done))) | with_reducible apply Blk.alloc | with_reducible apply Blk.drew | with_reducible apply Blk.latr | (with_reducible refine Blk.far ?_ (by (simp; try omega)) _)))).later hl1
    have hL := Later.trans (a := w) (by repeat (first | (with_reducible exact Later.refl _) | with_reducible apply Later.latr | with_reducible apply Later.alloc | with_reducible apply Later.drew | (with_reducible refine Later.set ?_ (by (simp; try omega)) _))) hl1
    have hne : w.heap.size + 1 ≠ w.heap.size + 1 + 1 := by omega
    have hg4 : w.heap.size ≤ w.heap.size + 1 := by omega
    have hg5 : w.heap.size ≤ w.heap.size + 1 + 1 := by omega
    (generalize w.heap.size + 1 + 1 = g5 at *)
    (generalize w.heap.size + 1 = g4 at *)
    (simp only [])
    (repeat go_step)
    refine (esc19 ⟨1, a⟩ n _).later.mono ?_
    rintro e W2 ⟨rfl, hl2⟩
    have hC4 := (show Blk _ g4 27 (pc .zero) from (by repeat (first | (with_reducible assumption) | (with_reducible exact blk_new (by first | rfl | (simp; done))) | with_reducible apply Blk.alloc | with_reducible apply Blk.drew | with_reducible apply Blk.latr | (with_reducible refine Blk.far ?_ (by (simp; try omega)) _)))).later hl2
    have hC5 := (show Blk _ g5 25 (ac .zero) from (by repeat (first | (with_reducible assumption) | (with_reducible exact blk_new (by first | rfl | (simp; done))) | with_reducible apply Blk.alloc | with_reducible apply Blk.drew | with_reducible apply Blk.latr | (with_reducible refine Blk.far ?_ (by (simp; try omega)) _)))).later hl2
    have hL2 := Later.trans (a := w) (by repeat (first | (with_reducible exact Later.refl _) | (with_reducible exact hL) | with_reducible apply Later.latr | with_reducible apply Later.alloc | with_reducible apply Later.drew | (with_reducible refine Later.set ?_ (by (simp; try omega)) _))) hl2
    have ht4 := hC4.there (o := 0) (n := 13) (by decide)
    have ht5 := hC5.there (o := 0) (n := 12) (by decide)
    (simp only [])
    (repeat go_step)
    exact fin_sets rfl hC4 rfl hC5 rfl hne (escP n).1 (escP n).2.1 (escP n).2.2 rfl rfl rfl rfl ⟨rfl, later_sets (later_sets hL2 hg4 _ _) hg5 _ _⟩
set_option maxRecDepth 100000 in
set_option maxHeartbeats 8000000 in
theorem step_st2 (q : Pa) (a : Ac) (hof : ∀ w, Gives Try.prog 16 #[pv q] w (pv ⟨2, a⟩)) (n : Int) (h27 : n ≠ 27) (hc : ¬ (0 ≤ n ∧ n < 32)) (hm0 : 0 ≤ a.many) (hm7 : a.many ≤ 7) (hok : okA a = true) (w : World) : Gives Try.prog 9 #[pv q, .int .i64 n] w (rv (csiP ⟨2, a⟩ n)) := by
  apply gives_of
  have e27 : (n == 27) = false := by simpa using h27
  have dd : decide (0 ≤ n) = false ∨ (decide (0 ≤ n) = true ∧ decide (n < 32) = false) := by
    by_cases h : 0 ≤ n
    · exact .inr ⟨decide_eq_true h, decide_eq_false (by omega)⟩
    · exact .inl (decide_eq_false h)
  have hmf : ∀ (fn : Fn) (first cap : Array Value) (w : World), (Instr.makeFunc fn first cap).run Try.prog w = .ok (.func fn first cap) w := fun _ _ _ _ => rfl
  rcases dd with d0 | ⟨d0, d1⟩
  all_goals
    (go_enter Try.func9, Try.ntmps9; go_wp2_with (fail))
    refine (hof _).later.mono ?_
    rintro e W1 ⟨rfl, hl1⟩
    have hB4 := (show Blk _ (w.heap.size + 1) 27 (pc .zero) from (by repeat (first | (with_reducible assumption) | (with_reducible exact blk_new (by first | rfl | (simp; done))) | with_reducible apply Blk.alloc | with_reducible apply Blk.drew | with_reducible apply Blk.latr | (with_reducible refine Blk.far ?_ (by (simp; try omega)) _)))).later hl1
    have hB5 := (show Blk _ (w.heap.size + 1 + 1) 25 (ac .zero) from (by repeat (first | (with_reducible assumption) | (with_reducible exact blk_new (by first | rfl | (simp; done))) | with_reducible apply Blk.alloc | with_reducible apply Blk.drew | with_reducible apply Blk.latr | (with_reducible refine Blk.far ?_ (by (simp; try omega)) _)))).later hl1
    have hL := Later.trans (a := w) (by repeat (first | (with_reducible exact Later.refl _) | with_reducible apply Later.latr | with_reducible apply Later.alloc | with_reducible apply Later.drew | (with_reducible refine Later.set ?_ (by (simp; try omega)) _))) hl1
    have hne : w.heap.size + 1 ≠ w.heap.size + 1 + 1 := by omega
    have hg4 : w.heap.size ≤ w.heap.size + 1 := by omega
    have hg5 : w.heap.size ≤ w.heap.size + 1 + 1 := by omega
    (generalize w.heap.size + 1 + 1 = g5 at *)
    (generalize w.heap.size + 1 = g4 at *)
    (simp only [])
    (repeat go_step)
    refine (csi20 ⟨2, a⟩ n hm0 hm7 hok _).later.mono ?_
    rintro e W2 ⟨rfl, hl2⟩
    have hC4 := (show Blk _ g4 27 (pc .zero) from (by repeat (first | (with_reducible assumption) | (with_reducible exact blk_new (by first | rfl | (simp; done))) | with_reducible apply Blk.alloc | with_reducible apply Blk.drew | with_reducible apply Blk.latr | (with_reducible refine Blk.far ?_ (by (simp; try omega)) _)))).later hl2
    have hC5 := (show Blk _ g5 25 (ac .zero) from (by repeat (first | (with_reducible assumption) | (with_reducible exact blk_new (by first | rfl | (simp; done))) | with_reducible apply Blk.alloc | with_reducible apply Blk.drew | with_reducible apply Blk.latr | (with_reducible refine Blk.far ?_ (by (simp; try omega)) _)))).later hl2
    have hL2 := Later.trans (a := w) (by repeat (first | (with_reducible exact Later.refl _) | (with_reducible exact hL) | with_reducible apply Later.latr | with_reducible apply Later.alloc | with_reducible apply Later.drew | (with_reducible refine Later.set ?_ (by (simp; try omega)) _))) hl2
    have ht4 := hC4.there (o := 0) (n := 13) (by decide)
    have ht5 := hC5.there (o := 0) (n := 12) (by decide)
    (simp only [])
    (repeat go_step)
    exact fin_sets rfl hC4 rfl hC5 rfl hne (csiP ⟨2, a⟩ n).1 (csiP ⟨2, a⟩ n).2.1 (csiP ⟨2, a⟩ n).2.2 rfl rfl rfl rfl ⟨rfl, later_sets (later_sets hL2 hg4 _ _) hg5 _ _⟩
set_option maxRecDepth 100000 in
set_option maxHeartbeats 8000000 in
theorem step_st3 (q : Pa) (a : Ac) (hof : ∀ w, Gives Try.prog 16 #[pv q] w (pv ⟨3, a⟩)) (n : Int) (h27 : n ≠ 27) (w : World) : Gives Try.prog 9 #[pv q, .int .i64 n] w (rv (oscP ⟨3, a⟩ n)) := by
  apply gives_of
  have e27 : (n == 27) = false := by simpa using h27
  have dd : decide (0 ≤ n) = false ∨ (decide (0 ≤ n) = true ∧ decide (n < 32) = false) ∨ (decide (0 ≤ n) = true ∧ decide (n < 32) = true) := by
    by_cases h : 0 ≤ n
    · by_cases h' : n < 32
      · exact .inr (.inr ⟨decide_eq_true h, decide_eq_true h'⟩)
      · exact .inr (.inl ⟨decide_eq_true h, decide_eq_false h'⟩)
    · exact .inl (decide_eq_false h)
  have hmf : ∀ (fn : Fn) (first cap : Array Value) (w : World), (Instr.makeFunc fn first cap).run Try.prog w = .ok (.func fn first cap) w := fun _ _ _ _ => rfl
  rcases dd with d0 | ⟨d0, d1⟩ | ⟨d0, d1⟩
  all_goals
    (go_enter Try.func9, Try.ntmps9; go_wp2_with (fail))
    refine (hof _).later.mono ?_
    rintro e W1 ⟨rfl, hl1⟩
    have hB4 := (show Blk _ (w.heap.size + 1) 27 (pc .zero) from (by repeat (first | (with_reducible assumption) | (with_reducible exact blk_new (by first | rfl | (simp; done))) | with_reducible apply Blk.alloc | with_reducible apply Blk.drew | with_reducible apply Blk.latr | (with_reducible refine Blk.far ?_ (by (simp; try omega)) _)))).later hl1
    have hB5 := (show Blk _ (w.heap.size + 1 + 1) 25 (ac .zero) from (by repeat (first | (with_reducible assumption) | (with_reducible exact blk_new (by first | rfl | (simp; done))) | with_reducible apply Blk.alloc | with_reducible apply Blk.drew | with_reducible apply Blk.latr | (with_reducible refine Blk.far ?_ (by (simp; try omega)) _)))).later hl1
    have hL := Later.trans (a := w) (by repeat (first | (with_reducible exact Later.refl _) | with_reducible apply Later.latr | with_reducible apply Later.alloc | with_reducible apply Later.drew | (with_reducible refine Later.set ?_ (by (simp; try omega)) _))) hl1
    have hne : w.heap.size + 1 ≠ w.heap.size + 1 + 1 := by omega
    have hg4 : w.heap.size ≤ w.heap.size + 1 := by omega
    have hg5 : w.heap.size ≤ w.heap.size + 1 + 1 := by omega
    (generalize w.heap.size + 1 + 1 = g5 at *)
    (generalize w.heap.size + 1 = g4 at *)
    (simp only [])
    (repeat go_step)
    refine (osc21 ⟨3, a⟩ n _).later.mono ?_
    rintro e W2 ⟨rfl, hl2⟩
    have hC4 := (show Blk _ g4 27 (pc .zero) from (by repeat (first | (with_reducible assumption) | (with_reducible exact blk_new (by first | rfl | (simp; done))) | with_reducible apply Blk.alloc | with_reducible apply Blk.drew | with_reducible apply Blk.latr | (with_reducible refine Blk.far ?_ (by (simp; try omega)) _)))).later hl2
    have hC5 := (show Blk _ g5 25 (ac .zero) from (by repeat (first | (with_reducible assumption) | (with_reducible exact blk_new (by first | rfl | (simp; done))) | with_reducible apply Blk.alloc | with_reducible apply Blk.drew | with_reducible apply Blk.latr | (with_reducible refine Blk.far ?_ (by (simp; try omega)) _)))).later hl2
    have hL2 := Later.trans (a := w) (by repeat (first | (with_reducible exact Later.refl _) | (with_reducible exact hL) | with_reducible apply Later.latr | with_reducible apply Later.alloc | with_reducible apply Later.drew | (with_reducible refine Later.set ?_ (by (simp; try omega)) _))) hl2
    have ht4 := hC4.there (o := 0) (n := 13) (by decide)
    have ht5 := hC5.there (o := 0) (n := 12) (by decide)
    (simp only [])
    (repeat go_step)
    exact fin_sets rfl hC4 rfl hC5 rfl hne (oscP ⟨3, a⟩ n).1 (oscP ⟨3, a⟩ n).2.1 (oscP ⟨3, a⟩ n).2.2 rfl rfl rfl rfl ⟨rfl, later_sets (later_sets hL2 hg4 _ _) hg5 _ _⟩
theorem step9 (q : Pa) (n : Int) (w : World) : Gives Try.prog 9 #[pv q, .int .i64 n] w (rv (stepP q n)) := by
  have hof := of16 q
  have hok := okP_ofP q
  unfold stepP
  generalize ofP q = m at *
  have hk := (okP_iff m).1 hok
  obtain ⟨s, a⟩ := m
  dsimp only at hk
  by_cases h27 : n = 27
  · rw [if_pos h27]
    exact step_esc q _ hof n h27 w
  rw [if_neg h27]
  dsimp only
  by_cases hc : 0 ≤ n ∧ n < 32 ∧ s ≠ 3
  · rw [if_pos hc]
    exact step_ctl q _ hof n hc.1 hc.2.1 h27 hc.2.2 w
  rw [if_neg hc]
  have hs : s = 0 ∨ s = 1 ∨ s = 2 ∨ s = 3 := by omega
  rcases hs with rfl | rfl | rfl | rfl
  · rw [if_pos rfl]
    exact step_st0 q a hof n h27 (fun h => hc ⟨h.1, h.2, by decide⟩) w
  · rw [if_neg (by decide), if_pos rfl]
    exact step_st1 q a hof n h27 (fun h => hc ⟨h.1, h.2, by decide⟩) w
  · rw [if_neg (by decide), if_neg (by decide), if_pos rfl]
    exact step_st2 q a hof n h27 (fun h => hc ⟨h.1, h.2, by decide⟩) hk.2.2.1.1 hk.2.2.1.2 hk.2.2.2.2.2 w
  · rw [if_neg (by decide), if_neg (by decide), if_neg (by decide)]
    exact step_st3 q a hof n h27 w
end Go.Proofs.Ytjgaljnojhkimaa
