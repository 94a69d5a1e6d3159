/- The walk of Step: the reference's. No condition. -/
import Derived.Test.YtjgaljnojhkimaaOfs
import Derived.Test.YtjgaljnojhkimaaRcsi
import Derived.Test.YtjgaljnojhkimaaRoom
namespace Go.Proofs.Ytjgaljnojhkimaa
open Go.RowKit
attribute [local go_sem] ite_max ite_min
attribute [local go_sem] h_lt1 h_lt2 h_lt3 h_lt4 h_lt5 h_lt6 h_eq1 h_qe1 h_eq2 h_qe2 h_eq3 h_qe3 h_eq4 h_qe4 h_eq5 h_qe5 h_eq6 h_qe6

theorem okP_ofR (q : Pa) : okP (ofP q) = true := by
  unfold ofP
  split
  · assumption
  · decide
set_option maxRecDepth 100000 in
set_option maxHeartbeats 8000000 in
theorem rstep_esc (q m : Pa) (hof : ∀ w, Gives Try.prog 22 #[pv q] w (pv m)) (n : Int) (hn : n = 27) (w : World) : Gives Try.prog 10 #[pv q, .int .i64 n] w (rv3 (.at 1) .zero false) := by
  apply gives_of
  subst hn
  (go_enter Try.func10, Try.ntmps10; go_wp2_with (fail))
  refine (hof _).later.mono ?_
  rintro e W1 ⟨rfl, hl1⟩
  have hB4 := (show Blk _ (w.heap.size + 1) 27 (pc .zero) from (by repeat (first | (with_reducible assumption) | (with_reducible exact blk_new (by first | rfl | (simp; done))) | with_reducible apply Blk.alloc | with_reducible apply Blk.drew | with_reducible apply Blk.latr | (with_reducible refine Blk.far ?_ (by (simp; try omega)) _)))).later hl1
  have hB5 := (show Blk _ (w.heap.size + 1 + 1) 25 (ac .zero) from (by repeat (first | (with_reducible assumption) | (with_reducible exact blk_new (by first | rfl | (simp; done))) | with_reducible apply Blk.alloc | with_reducible apply Blk.drew | with_reducible apply Blk.latr | (with_reducible refine Blk.far ?_ (by (simp; try omega)) _)))).later hl1
  have hL := Later.trans (a := w) (by repeat (first | (with_reducible exact Later.refl _) | with_reducible apply Later.latr | with_reducible apply Later.alloc | with_reducible apply Later.drew | (with_reducible refine Later.set ?_ (by (simp; try omega)) _))) hl1
  have hne : w.heap.size + 1 ≠ w.heap.size + 1 + 1 := by omega
  have hg4 : w.heap.size ≤ w.heap.size + 1 := by omega
  have hg5 : w.heap.size ≤ w.heap.size + 1 + 1 := by omega
  (generalize w.heap.size + 1 + 1 = g5 at *)
  (generalize w.heap.size + 1 = g4 at *)
  have ht4 := (hB4.alloc (.cells (pc m) 27)).there (o := 0) (n := 13) (by simp)
  have ht5 := (hB5.alloc (.cells (pc m) 27)).there (o := 0) (n := 12) (by simp)
  (simp only [])
  (repeat go_step)
  exact fin_sets rfl (hB4.alloc _) rfl (hB5.alloc _) rfl hne (.at 1) .zero false rfl rfl rfl rfl ⟨rfl, later_sets (later_sets (hL.alloc _) hg4 _ _) hg5 _ _⟩
set_option maxRecDepth 100000 in
set_option maxHeartbeats 8000000 in
theorem rstep_ctl (q m : Pa) (hof : ∀ w, Gives Try.prog 22 #[pv q] w (pv m)) (n : Int) (h0 : 0 ≤ n) (h1 : n < 32) (h27 : n ≠ 27) (hs : m.st ≠ 3) (w : World) : Gives Try.prog 10 #[pv q, .int .i64 n] w (rv3 m (.of 2 n) true) := by
  apply gives_of
  have e27 : (n == 27) = false := by simpa using h27
  have d0 : decide (0 ≤ n) = true := decide_eq_true h0
  have d1 : decide (n < 32) = true := decide_eq_true h1
  have e3 : (m.st != 3) = true := by simpa using hs
  (go_enter Try.func10, Try.ntmps10; go_wp2_with (fail))
  refine (hof _).later.mono ?_
  rintro e W1 ⟨rfl, hl1⟩
  have hB4 := (show Blk _ (w.heap.size + 1) 27 (pc .zero) from (by repeat (first | (with_reducible assumption) | (with_reducible exact blk_new (by first | rfl | (simp; done))) | with_reducible apply Blk.alloc | with_reducible apply Blk.drew | with_reducible apply Blk.latr | (with_reducible refine Blk.far ?_ (by (simp; try omega)) _)))).later hl1
  have hB5 := (show Blk _ (w.heap.size + 1 + 1) 25 (ac .zero) from (by repeat (first | (with_reducible assumption) | (with_reducible exact blk_new (by first | rfl | (simp; done))) | with_reducible apply Blk.alloc | with_reducible apply Blk.drew | with_reducible apply Blk.latr | (with_reducible refine Blk.far ?_ (by (simp; try omega)) _)))).later hl1
  have hL := Later.trans (a := w) (by repeat (first | (with_reducible exact Later.refl _) | with_reducible apply Later.latr | with_reducible apply Later.alloc | with_reducible apply Later.drew | (with_reducible refine Later.set ?_ (by (simp; try omega)) _))) hl1
  have hne : w.heap.size + 1 ≠ w.heap.size + 1 + 1 := by omega
  have hg4 : w.heap.size ≤ w.heap.size + 1 := by omega
  have hg5 : w.heap.size ≤ w.heap.size + 1 + 1 := by omega
  (generalize w.heap.size + 1 + 1 = g5 at *)
  (generalize w.heap.size + 1 = g4 at *)
  have ht4 := (hB4.alloc (.cells (pc m) 27)).there (o := 0) (n := 13) (by simp)
  have ht5 := (hB5.alloc (.cells (pc m) 27)).there (o := 0) (n := 12) (by simp)
  (simp only [])
  (repeat go_step)
  exact fin_sets rfl (hB4.alloc _) rfl (hB5.alloc _) rfl hne m (.of 2 n) true rfl rfl rfl rfl ⟨rfl, later_sets (later_sets (hL.alloc _) hg4 _ _) hg5 _ _⟩
set_option maxRecDepth 100000 in
set_option maxHeartbeats 8000000 in
theorem rst0_a (q : Pa) (a : Ac) (hof : ∀ w, Gives Try.prog 22 #[pv q] w (pv ⟨0, a⟩)) (n : Int) (h27 : n ≠ 27) (h : n < 0) (w : World) : Gives Try.prog 10 #[pv q, .int .i64 n] w (rv3 ⟨0, a⟩ .zero false) := by
  apply gives_of
  have e27 : (n == 27) = false := by simpa using h27
  have d0 : decide (0 ≤ n) = false := decide_eq_false (by omega)
  have f0 : decide (n < 0) = true := decide_eq_true h
  (go_enter Try.func10, Try.ntmps10; go_wp2_with (fail))
  refine (hof _).later.mono ?_
  rintro e W1 ⟨rfl, hl1⟩
  have hB4 := (show Blk _ (w.heap.size + 1) 27 (pc .zero) from (by repeat (first | (with_reducible assumption) | (with_reducible exact blk_new (by first | rfl | (simp; done))) | with_reducible apply Blk.alloc | with_reducible apply Blk.drew | with_reducible apply Blk.latr | (with_reducible refine Blk.far ?_ (by (simp; try omega)) _)))).later hl1
  have hB5 := (show Blk _ (w.heap.size + 1 + 1) 25 (ac .zero) from (by repeat (first | (with_reducible assumption) | (with_reducible exact blk_new (by first | rfl | (simp; done))) | with_reducible apply Blk.alloc | with_reducible apply Blk.drew | with_reducible apply Blk.latr | (with_reducible refine Blk.far ?_ (by (simp; try omega)) _)))).later hl1
  have hL := Later.trans (a := w) (by repeat (first | (with_reducible exact Later.refl _) | with_reducible apply Later.latr | with_reducible apply Later.alloc | with_reducible apply Later.drew | (with_reducible refine Later.set ?_ (by (simp; try omega)) _))) hl1
  have hne : w.heap.size + 1 ≠ w.heap.size + 1 + 1 := by omega
  have hg4 : w.heap.size ≤ w.heap.size + 1 := by omega
  have hg5 : w.heap.size ≤ w.heap.size + 1 + 1 := by omega
  (generalize w.heap.size + 1 + 1 = g5 at *)
  (generalize w.heap.size + 1 = g4 at *)
  have ht4 := (hB4.alloc (.cells (pc ⟨0, a⟩) 27)).there (o := 0) (n := 13) (by simp)
  have ht5 := (hB5.alloc (.cells (pc ⟨0, a⟩) 27)).there (o := 0) (n := 12) (by simp)
  (simp only [])
  (repeat go_step)
  exact fin_sets rfl (hB4.alloc _) rfl (hB5.alloc _) rfl hne ⟨0, a⟩ .zero false rfl rfl rfl rfl ⟨rfl, later_sets (later_sets (hL.alloc _) hg4 _ _) hg5 _ _⟩
set_option maxRecDepth 100000 in
set_option maxHeartbeats 8000000 in
theorem rst0_b (q : Pa) (a : Ac) (hof : ∀ w, Gives Try.prog 22 #[pv q] w (pv ⟨0, a⟩)) (n : Int) (h27 : n ≠ 27) (h : n = 127) (w : World) : Gives Try.prog 10 #[pv q, .int .i64 n] w (rv3 ⟨0, a⟩ .zero false) := by
  apply gives_of
  have e27 : (n == 27) = false := by simpa using h27
  have f0 : decide (n < 0) = false := decide_eq_false (by omega)
  have f1 : (n == 127) = true := by simpa using h
  have d0 : decide (0 ≤ n) = true := decide_eq_true (by omega)
  have d1 : decide (n < 32) = false := decide_eq_false (by omega)
  (go_enter Try.func10, Try.ntmps10; go_wp2_with (fail))
  refine (hof _).later.mono ?_
  rintro e W1 ⟨rfl, hl1⟩
  have hB4 := (show Blk _ (w.heap.size + 1) 27 (pc .zero) from (by repeat (first | (with_reducible assumption) | (with_reducible exact blk_new (by first | rfl | (simp; done))) | with_reducible apply Blk.alloc | with_reducible apply Blk.drew | with_reducible apply Blk.latr | (with_reducible refine Blk.far ?_ (by (simp; try omega)) _)))).later hl1
  have hB5 := (show Blk _ (w.heap.size + 1 + 1) 25 (ac .zero) from (by repeat (first | (with_reducible assumption) | (with_reducible exact blk_new (by first | rfl | (simp; done))) | with_reducible apply Blk.alloc | with_reducible apply Blk.drew | with_reducible apply Blk.latr | (with_reducible refine Blk.far ?_ (by (simp; try omega)) _)))).later hl1
  have hL := Later.trans (a := w) (by repeat (first | (with_reducible exact Later.refl _) | with_reducible apply Later.latr | with_reducible apply Later.alloc | with_reducible apply Later.drew | (with_reducible refine Later.set ?_ (by (simp; try omega)) _))) hl1
  have hne : w.heap.size + 1 ≠ w.heap.size + 1 + 1 := by omega
  have hg4 : w.heap.size ≤ w.heap.size + 1 := by omega
  have hg5 : w.heap.size ≤ w.heap.size + 1 + 1 := by omega
  (generalize w.heap.size + 1 + 1 = g5 at *)
  (generalize w.heap.size + 1 = g4 at *)
  have ht4 := (hB4.alloc (.cells (pc ⟨0, a⟩) 27)).there (o := 0) (n := 13) (by simp)
  have ht5 := (hB5.alloc (.cells (pc ⟨0, a⟩) 27)).there (o := 0) (n := 12) (by simp)
  (simp only [])
  (repeat go_step)
  exact fin_sets rfl (hB4.alloc _) rfl (hB5.alloc _) rfl hne ⟨0, a⟩ .zero false rfl rfl rfl rfl ⟨rfl, later_sets (later_sets (hL.alloc _) hg4 _ _) hg5 _ _⟩
set_option maxRecDepth 100000 in
set_option maxHeartbeats 8000000 in
theorem rst0_c (q : Pa) (a : Ac) (hof : ∀ w, Gives Try.prog 22 #[pv q] w (pv ⟨0, a⟩)) (n : Int) (h27 : n ≠ 27) (h : 32 ≤ n) (h1 : n ≠ 127) (w : World) : Gives Try.prog 10 #[pv q, .int .i64 n] w (rv3 ⟨0, a⟩ (.of 1 n) true) := by
  apply gives_of
  have e27 : (n == 27) = false := by simpa using h27
  have f0 : decide (n < 0) = false := decide_eq_false (by omega)
  have f1 : (n == 127) = false := by simpa using h1
  have d0 : decide (0 ≤ n) = true := decide_eq_true (by omega)
  have d1 : decide (n < 32) = false := decide_eq_false (by omega)
  (go_enter Try.func10, Try.ntmps10; go_wp2_with (fail))
  refine (hof _).later.mono ?_
  rintro e W1 ⟨rfl, hl1⟩
  have hB4 := (show Blk _ (w.heap.size + 1) 27 (pc .zero) from (by repeat (first | (with_reducible assumption) | (with_reducible exact blk_new (by first | rfl | (simp; done))) | with_reducible apply Blk.alloc | with_reducible apply Blk.drew | with_reducible apply Blk.latr | (with_reducible refine Blk.far ?_ (by (simp; try omega)) _)))).later hl1
  have hB5 := (show Blk _ (w.heap.size + 1 + 1) 25 (ac .zero) from (by repeat (first | (with_reducible assumption) | (with_reducible exact blk_new (by first | rfl | (simp; done))) | with_reducible apply Blk.alloc | with_reducible apply Blk.drew | with_reducible apply Blk.latr | (with_reducible refine Blk.far ?_ (by (simp; try omega)) _)))).later hl1
  have hL := Later.trans (a := w) (by repeat (first | (with_reducible exact Later.refl _) | with_reducible apply Later.latr | with_reducible apply Later.alloc | with_reducible apply Later.drew | (with_reducible refine Later.set ?_ (by (simp; try omega)) _))) hl1
  have hne : w.heap.size + 1 ≠ w.heap.size + 1 + 1 := by omega
  have hg4 : w.heap.size ≤ w.heap.size + 1 := by omega
  have hg5 : w.heap.size ≤ w.heap.size + 1 + 1 := by omega
  (generalize w.heap.size + 1 + 1 = g5 at *)
  (generalize w.heap.size + 1 = g4 at *)
  have ht4 := (hB4.alloc (.cells (pc ⟨0, a⟩) 27)).there (o := 0) (n := 13) (by simp)
  have ht5 := (hB5.alloc (.cells (pc ⟨0, a⟩) 27)).there (o := 0) (n := 12) (by simp)
  (simp only [])
  (repeat go_step)
  exact fin_sets rfl (hB4.alloc _) rfl (hB5.alloc _) rfl hne ⟨0, a⟩ (.of 1 n) true rfl rfl rfl rfl ⟨rfl, later_sets (later_sets (hL.alloc _) hg4 _ _) hg5 _ _⟩
set_option maxRecDepth 100000 in
set_option maxHeartbeats 8000000 in
theorem rst1_a (q : Pa) (a : Ac) (hof : ∀ w, Gives Try.prog 22 #[pv q] w (pv ⟨1, a⟩)) (n : Int) (h27 : n ≠ 27) (h : n = 91) (w : World) : Gives Try.prog 10 #[pv q, .int .i64 n] w (rv3 (.at 2) .zero false) := by
  apply gives_of
  have e27 : (n == 27) = false := by simpa using h27
  have d0 : decide (0 ≤ n) = true := decide_eq_true (by omega)
  have d1 : decide (n < 32) = false := decide_eq_false (by omega)
  have g1 : (n == 91) = true := by simpa using h
  (go_enter Try.func10, Try.ntmps10; go_wp2_with (fail))
  refine (hof _).later.mono ?_
  rintro e W1 ⟨rfl, hl1⟩
  have hB4 := (show Blk _ (w.heap.size + 1) 27 (pc .zero) from (by repeat (first | (with_reducible assumption) | (with_reducible exact blk_new (by first | rfl | (simp; done))) | with_reducible apply Blk.alloc | with_reducible apply Blk.drew | with_reducible apply Blk.latr | (with_reducible refine Blk.far ?_ (by (simp; try omega)) _)))).later hl1
  have hB5 := (show Blk _ (w.heap.size + 1 + 1) 25 (ac .zero) from (by repeat (first | (with_reducible assumption) | (with_reducible exact blk_new (by first | rfl | (simp; done))) | with_reducible apply Blk.alloc | with_reducible apply Blk.drew | with_reducible apply Blk.latr | (with_reducible refine Blk.far ?_ (by (simp; try omega)) _)))).later hl1
  have hL := Later.trans (a := w) (by repeat (first | (with_reducible exact Later.refl _) | with_reducible apply Later.latr | with_reducible apply Later.alloc | with_reducible apply Later.drew | (with_reducible refine Later.set ?_ (by (simp; try omega)) _))) hl1
  have hne : w.heap.size + 1 ≠ w.heap.size + 1 + 1 := by omega
  have hg4 : w.heap.size ≤ w.heap.size + 1 := by omega
  have hg5 : w.heap.size ≤ w.heap.size + 1 + 1 := by omega
  (generalize w.heap.size + 1 + 1 = g5 at *)
  (generalize w.heap.size + 1 = g4 at *)
  have ht4 := (hB4.alloc (.cells (pc ⟨1, a⟩) 27)).there (o := 0) (n := 13) (by simp)
  have ht5 := (hB5.alloc (.cells (pc ⟨1, a⟩) 27)).there (o := 0) (n := 12) (by simp)
  (simp only [])
  (repeat go_step)
  exact fin_sets rfl (hB4.alloc _) rfl (hB5.alloc _) rfl hne (.at 2) .zero false rfl rfl rfl rfl ⟨rfl, later_sets (later_sets (hL.alloc _) hg4 _ _) hg5 _ _⟩
set_option maxRecDepth 100000 in
set_option maxHeartbeats 8000000 in
theorem rst1_b (q : Pa) (a : Ac) (hof : ∀ w, Gives Try.prog 22 #[pv q] w (pv ⟨1, a⟩)) (n : Int) (h27 : n ≠ 27) (h : n = 93) (w : World) : Gives Try.prog 10 #[pv q, .int .i64 n] w (rv3 (.at 3) .zero false) := by
  apply gives_of
  have e27 : (n == 27) = false := by simpa using h27
  have d0 : decide (0 ≤ n) = true := decide_eq_true (by omega)
  have d1 : decide (n < 32) = false := decide_eq_false (by omega)
  have g1 : (n == 91) = false := by simp; omega
  have g2 : (n == 93) = true := by simpa using h
  (go_enter Try.func10, Try.ntmps10; go_wp2_with (fail))
  refine (hof _).later.mono ?_
  rintro e W1 ⟨rfl, hl1⟩
  have hB4 := (show Blk _ (w.heap.size + 1) 27 (pc .zero) from (by repeat (first | (with_reducible assumption) | (with_reducible exact blk_new (by first | rfl | (simp; done))) | with_reducible apply Blk.alloc | with_reducible apply Blk.drew | with_reducible apply Blk.latr | (with_reducible refine Blk.far ?_ (by (simp; try omega)) _)))).later hl1
  have hB5 := (show Blk _ (w.heap.size + 1 + 1) 25 (ac .zero) from (by repeat (first | (with_reducible assumption) | (with_reducible exact blk_new (by first | rfl | (simp; done))) | with_reducible apply Blk.alloc | with_reducible apply Blk.drew | with_reducible apply Blk.latr | (with_reducible refine Blk.far ?_ (by (simp; try omega)) _)))).later hl1
  have hL := Later.trans (a := w) (by repeat (first | (with_reducible exact Later.refl _) | with_reducible apply Later.latr | with_reducible apply Later.alloc | with_reducible apply Later.drew | (with_reducible refine Later.set ?_ (by (simp; try omega)) _))) hl1
  have hne : w.heap.size + 1 ≠ w.heap.size + 1 + 1 := by omega
  have hg4 : w.heap.size ≤ w.heap.size + 1 := by omega
  have hg5 : w.heap.size ≤ w.heap.size + 1 + 1 := by omega
  (generalize w.heap.size + 1 + 1 = g5 at *)
  (generalize w.heap.size + 1 = g4 at *)
  have ht4 := (hB4.alloc (.cells (pc ⟨1, a⟩) 27)).there (o := 0) (n := 13) (by simp)
  have ht5 := (hB5.alloc (.cells (pc ⟨1, a⟩) 27)).there (o := 0) (n := 12) (by simp)
  (simp only [])
  (repeat go_step)
  exact fin_sets rfl (hB4.alloc _) rfl (hB5.alloc _) rfl hne (.at 3) .zero false rfl rfl rfl rfl ⟨rfl, later_sets (later_sets (hL.alloc _) hg4 _ _) hg5 _ _⟩
set_option maxRecDepth 100000 in
set_option maxHeartbeats 8000000 in
theorem rst1_c (q : Pa) (a : Ac) (hof : ∀ w, Gives Try.prog 22 #[pv q] w (pv ⟨1, a⟩)) (n : Int) (h27 : n ≠ 27) (h0 : 48 ≤ n) (h1 : n ≤ 126) (h2 : n ≠ 91) (h3 : n ≠ 93) (w : World) : Gives Try.prog 10 #[pv q, .int .i64 n] w (rv3 .zero (.of 3 n) true) := by
  apply gives_of
  have e27 : (n == 27) = false := by simpa using h27
  have d0 : decide (0 ≤ n) = true := decide_eq_true (by omega)
  have d1 : decide (n < 32) = false := decide_eq_false (by omega)
  have g1 : (n == 91) = false := by simp; omega
  have g2 : (n == 93) = false := by simp; omega
  have g3 : decide (48 ≤ n) = true := decide_eq_true h0
  have g4' : decide (n ≤ 126) = true := decide_eq_true h1
  (go_enter Try.func10, Try.ntmps10; go_wp2_with (fail))
  refine (hof _).later.mono ?_
  rintro e W1 ⟨rfl, hl1⟩
  have hB4 := (show Blk _ (w.heap.size + 1) 27 (pc .zero) from (by repeat (first | (with_reducible assumption) | (with_reducible exact blk_new (by first | rfl | (simp; done))) | with_reducible apply Blk.alloc | with_reducible apply Blk.drew | with_reducible apply Blk.latr | (with_reducible refine Blk.far ?_ (by (simp; try omega)) _)))).later hl1
  have hB5 := (show Blk _ (w.heap.size + 1 + 1) 25 (ac .zero) from (by repeat (first | (with_reducible assumption) | (with_reducible exact blk_new (by first | rfl | (simp; done))) | with_reducible apply Blk.alloc | with_reducible apply Blk.drew | with_reducible apply Blk.latr | (with_reducible refine Blk.far ?_ (by (simp; try omega)) _)))).later hl1
  have hL := Later.trans (a := w) (by repeat (first | (with_reducible exact Later.refl _) | with_reducible apply Later.latr | with_reducible apply Later.alloc | with_reducible apply Later.drew | (with_reducible refine Later.set ?_ (by (simp; try omega)) _))) hl1
  have hne : w.heap.size + 1 ≠ w.heap.size + 1 + 1 := by omega
  have hg4 : w.heap.size ≤ w.heap.size + 1 := by omega
  have hg5 : w.heap.size ≤ w.heap.size + 1 + 1 := by omega
  (generalize w.heap.size + 1 + 1 = g5 at *)
  (generalize w.heap.size + 1 = g4 at *)
  have ht4 := (hB4.alloc (.cells (pc ⟨1, a⟩) 27)).there (o := 0) (n := 13) (by simp)
  have ht5 := (hB5.alloc (.cells (pc ⟨1, a⟩) 27)).there (o := 0) (n := 12) (by simp)
  (simp only [])
  (repeat go_step)
  exact fin_sets rfl (hB4.alloc _) rfl (hB5.alloc _) rfl hne .zero (.of 3 n) true rfl rfl rfl rfl ⟨rfl, later_sets (later_sets (hL.alloc _) hg4 _ _) hg5 _ _⟩
set_option maxRecDepth 100000 in
set_option maxHeartbeats 8000000 in
theorem rst1_d (q : Pa) (a : Ac) (hof : ∀ w, Gives Try.prog 22 #[pv q] w (pv ⟨1, a⟩)) (n : Int) (h27 : n ≠ 27) (h0 : n < 0) (w : World) : Gives Try.prog 10 #[pv q, .int .i64 n] w (rv3 .zero .zero false) := by
  apply gives_of
  have e27 : (n == 27) = false := by simpa using h27
  have d0 : decide (0 ≤ n) = false := decide_eq_false (by omega)
  have g1 : (n == 91) = false := by simp; omega
  have g2 : (n == 93) = false := by simp; omega
  have g3 : decide (48 ≤ n) = false := decide_eq_false (by omega)
  (go_enter Try.func10, Try.ntmps10; go_wp2_with (fail))
  refine (hof _).later.mono ?_
  rintro e W1 ⟨rfl, hl1⟩
  have hB4 := (show Blk _ (w.heap.size + 1) 27 (pc .zero) from (by repeat (first | (with_reducible assumption) | (with_reducible exact blk_new (by first | rfl | (simp; done))) | with_reducible apply Blk.alloc | with_reducible apply Blk.drew | with_reducible apply Blk.latr | (with_reducible refine Blk.far ?_ (by (simp; try omega)) _)))).later hl1
  have hB5 := (show Blk _ (w.heap.size + 1 + 1) 25 (ac .zero) from (by repeat (first | (with_reducible assumption) | (with_reducible exact blk_new (by first | rfl | (simp; done))) | with_reducible apply Blk.alloc | with_reducible apply Blk.drew | with_reducible apply Blk.latr | (with_reducible refine Blk.far ?_ (by (simp; try omega)) _)))).later hl1
  have hL := Later.trans (a := w) (by repeat (first | (with_reducible exact Later.refl _) | with_reducible apply Later.latr | with_reducible apply Later.alloc | with_reducible apply Later.drew | (with_reducible refine Later.set ?_ (by (simp; try omega)) _))) hl1
  have hne : w.heap.size + 1 ≠ w.heap.size + 1 + 1 := by omega
  have hg4 : w.heap.size ≤ w.heap.size + 1 := by omega
  have hg5 : w.heap.size ≤ w.heap.size + 1 + 1 := by omega
  (generalize w.heap.size + 1 + 1 = g5 at *)
  (generalize w.heap.size + 1 = g4 at *)
  have ht4 := (hB4.alloc (.cells (pc ⟨1, a⟩) 27)).there (o := 0) (n := 13) (by simp)
  have ht5 := (hB5.alloc (.cells (pc ⟨1, a⟩) 27)).there (o := 0) (n := 12) (by simp)
  (simp only [])
  (repeat go_step)
  exact fin_sets rfl (hB4.alloc _) rfl (hB5.alloc _) rfl hne .zero .zero false rfl rfl rfl rfl ⟨rfl, later_sets (later_sets (hL.alloc _) hg4 _ _) hg5 _ _⟩
set_option maxRecDepth 100000 in
set_option maxHeartbeats 8000000 in
theorem rst1_e (q : Pa) (a : Ac) (hof : ∀ w, Gives Try.prog 22 #[pv q] w (pv ⟨1, a⟩)) (n : Int) (h27 : n ≠ 27) (h0 : 32 ≤ n) (h1 : n < 48) (w : World) : Gives Try.prog 10 #[pv q, .int .i64 n] w (rv3 .zero .zero false) := by
  apply gives_of
  have e27 : (n == 27) = false := by simpa using h27
  have d0 : decide (0 ≤ n) = true := decide_eq_true (by omega)
  have d1 : decide (n < 32) = false := decide_eq_false (by omega)
  have g1 : (n == 91) = false := by simp; omega
  have g2 : (n == 93) = false := by simp; omega
  have g3 : decide (48 ≤ n) = false := decide_eq_false (by omega)
  (go_enter Try.func10, Try.ntmps10; go_wp2_with (fail))
  refine (hof _).later.mono ?_
  rintro e W1 ⟨rfl, hl1⟩
  have hB4 := (show Blk _ (w.heap.size + 1) 27 (pc .zero) from (by repeat (first | (with_reducible assumption) | (with_reducible exact blk_new (by first | rfl | (simp; done))) | with_reducible apply Blk.alloc | with_reducible apply Blk.drew | with_reducible apply Blk.latr | (with_reducible refine Blk.far ?_ (by (simp; try omega)) _)))).later hl1
  have hB5 := (show Blk _ (w.heap.size + 1 + 1) 25 (ac .zero) from (by repeat (first | (with_reducible assumption) | (with_reducible exact blk_new (by first | rfl | (simp; done))) | with_reducible apply Blk.alloc | with_reducible apply Blk.drew | with_reducible apply Blk.latr | (with_reducible refine Blk.far ?_ (by (simp; try omega)) _)))).later hl1
  have hL := Later.trans (a := w) (by repeat (first | (with_reducible exact Later.refl _) | with_reducible apply Later.latr | with_reducible apply Later.alloc | with_reducible apply Later.drew | (with_reducible refine Later.set ?_ (by (simp; try omega)) _))) hl1
  have hne : w.heap.size + 1 ≠ w.heap.size + 1 + 1 := by omega
  have hg4 : w.heap.size ≤ w.heap.size + 1 := by omega
  have hg5 : w.heap.size ≤ w.heap.size + 1 + 1 := by omega
  (generalize w.heap.size + 1 + 1 = g5 at *)
  (generalize w.heap.size + 1 = g4 at *)
  have ht4 := (hB4.alloc (.cells (pc ⟨1, a⟩) 27)).there (o := 0) (n := 13) (by simp)
  have ht5 := (hB5.alloc (.cells (pc ⟨1, a⟩) 27)).there (o := 0) (n := 12) (by simp)
  (simp only [])
  (repeat go_step)
  exact fin_sets rfl (hB4.alloc _) rfl (hB5.alloc _) rfl hne .zero .zero false rfl rfl rfl rfl ⟨rfl, later_sets (later_sets (hL.alloc _) hg4 _ _) hg5 _ _⟩
set_option maxRecDepth 100000 in
set_option maxHeartbeats 8000000 in
theorem rst1_f (q : Pa) (a : Ac) (hof : ∀ w, Gives Try.prog 22 #[pv q] w (pv ⟨1, a⟩)) (n : Int) (h27 : n ≠ 27) (h0 : 126 < n) (w : World) : Gives Try.prog 10 #[pv q, .int .i64 n] w (rv3 .zero .zero false) := by
  apply gives_of
  have e27 : (n == 27) = false := by simpa using h27
  have d0 : decide (0 ≤ n) = true := decide_eq_true (by omega)
  have d1 : decide (n < 32) = false := decide_eq_false (by omega)
  have g1 : (n == 91) = false := by simp; omega
  have g2 : (n == 93) = false := by simp; omega
  have g3 : decide (48 ≤ n) = true := decide_eq_true (by omega)
  have g4' : decide (n ≤ 126) = false := decide_eq_false (by omega)
  (go_enter Try.func10, Try.ntmps10; go_wp2_with (fail))
  refine (hof _).later.mono ?_
  rintro e W1 ⟨rfl, hl1⟩
  have hB4 := (show Blk _ (w.heap.size + 1) 27 (pc .zero) from (by repeat (first | (with_reducible assumption) | (with_reducible exact blk_new (by first | rfl | (simp; done))) | with_reducible apply Blk.alloc | with_reducible apply Blk.drew | with_reducible apply Blk.latr | (with_reducible refine Blk.far ?_ (by (simp; try omega)) _)))).later hl1
  have hB5 := (show Blk _ (w.heap.size + 1 + 1) 25 (ac .zero) from (by repeat (first | (with_reducible assumption) | (with_reducible exact blk_new (by first | rfl | (simp; done))) | with_reducible apply Blk.alloc | with_reducible apply Blk.drew | with_reducible apply Blk.latr | (with_reducible refine Blk.far ?_ (by (simp; try omega)) _)))).later hl1
  have hL := Later.trans (a := w) (by repeat (first | (with_reducible exact Later.refl _) | with_reducible apply Later.latr | with_reducible apply Later.alloc | with_reducible apply Later.drew | (with_reducible refine Later.set ?_ (by (simp; try omega)) _))) hl1
  have hne : w.heap.size + 1 ≠ w.heap.size + 1 + 1 := by omega
  have hg4 : w.heap.size ≤ w.heap.size + 1 := by omega
  have hg5 : w.heap.size ≤ w.heap.size + 1 + 1 := by omega
  (generalize w.heap.size + 1 + 1 = g5 at *)
  (generalize w.heap.size + 1 = g4 at *)
  have ht4 := (hB4.alloc (.cells (pc ⟨1, a⟩) 27)).there (o := 0) (n := 13) (by simp)
  have ht5 := (hB5.alloc (.cells (pc ⟨1, a⟩) 27)).there (o := 0) (n := 12) (by simp)
  (simp only [])
  (repeat go_step)
  exact fin_sets rfl (hB4.alloc _) rfl (hB5.alloc _) rfl hne .zero .zero false rfl rfl rfl rfl ⟨rfl, later_sets (later_sets (hL.alloc _) hg4 _ _) hg5 _ _⟩
set_option maxRecDepth 100000 in
set_option maxHeartbeats 8000000 in
theorem rst2_a (q : Pa) (a : Ac) (hof : ∀ w, Gives Try.prog 22 #[pv q] w (pv ⟨2, a⟩)) (n : Int) (h27 : n ≠ 27) (h : n < 0) (hm0 : 0 ≤ a.many) (hm7 : a.many ≤ 7) (hok : okA a = true) (w : World) : Gives Try.prog 10 #[pv q, .int .i64 n] w (rv (csiP ⟨2, a⟩ n)) := by
  apply gives_of
  have e27 : (n == 27) = false := by simpa using h27
  have d0 : decide (0 ≤ n) = false := decide_eq_false (by omega)
  (go_enter Try.func10, Try.ntmps10; go_wp2_with (fail))
  refine (hof _).later.mono ?_
  rintro e W1 ⟨rfl, hl1⟩
  have hB4 := (show Blk _ (w.heap.size + 1) 27 (pc .zero) from (by repeat (first | (with_reducible assumption) | (with_reducible exact blk_new (by first | rfl | (simp; done))) | with_reducible apply Blk.alloc | with_reducible apply Blk.drew | with_reducible apply Blk.latr | (with_reducible refine Blk.far ?_ (by (simp; try omega)) _)))).later hl1
  have hB5 := (show Blk _ (w.heap.size + 1 + 1) 25 (ac .zero) from (by repeat (first | (with_reducible assumption) | (with_reducible exact blk_new (by first | rfl | (simp; done))) | with_reducible apply Blk.alloc | with_reducible apply Blk.drew | with_reducible apply Blk.latr | (with_reducible refine Blk.far ?_ (by (simp; try omega)) _)))).later hl1
  have hL := Later.trans (a := w) (by repeat (first | (with_reducible exact Later.refl _) | with_reducible apply Later.latr | with_reducible apply Later.alloc | with_reducible apply Later.drew | (with_reducible refine Later.set ?_ (by (simp; try omega)) _))) hl1
  have hne : w.heap.size + 1 ≠ w.heap.size + 1 + 1 := by omega
  have hg4 : w.heap.size ≤ w.heap.size + 1 := by omega
  have hg5 : w.heap.size ≤ w.heap.size + 1 + 1 := by omega
  (generalize w.heap.size + 1 + 1 = g5 at *)
  (generalize w.heap.size + 1 = g4 at *)
  (simp only [])
  (repeat go_step)
  refine (rcsi23 ⟨2, a⟩ n hm0 hm7 hok _).later.mono ?_
  rintro e W2 ⟨rfl, hl2⟩
  have hC4 := (show Blk _ g4 27 (pc .zero) from (by repeat (first | (with_reducible assumption) | (with_reducible exact blk_new (by first | rfl | (simp; done))) | with_reducible apply Blk.alloc | with_reducible apply Blk.drew | with_reducible apply Blk.latr | (with_reducible refine Blk.far ?_ (by (simp; try omega)) _)))).later hl2
  have hC5 := (show Blk _ g5 25 (ac .zero) from (by repeat (first | (with_reducible assumption) | (with_reducible exact blk_new (by first | rfl | (simp; done))) | with_reducible apply Blk.alloc | with_reducible apply Blk.drew | with_reducible apply Blk.latr | (with_reducible refine Blk.far ?_ (by (simp; try omega)) _)))).later hl2
  have hL2 := Later.trans (a := w) (by repeat (first | (with_reducible exact Later.refl _) | (with_reducible exact hL) | with_reducible apply Later.latr | with_reducible apply Later.alloc | with_reducible apply Later.drew | (with_reducible refine Later.set ?_ (by (simp; try omega)) _))) hl2
  have ht4 := hC4.there (o := 0) (n := 13) (by decide)
  have ht5 := hC5.there (o := 0) (n := 12) (by decide)
  (simp only [])
  (repeat go_step)
  exact fin_sets rfl hC4 rfl hC5 rfl hne (csiP ⟨2, a⟩ n).1 (csiP ⟨2, a⟩ n).2.1 (csiP ⟨2, a⟩ n).2.2 rfl rfl rfl rfl ⟨rfl, later_sets (later_sets hL2 hg4 _ _) hg5 _ _⟩
set_option maxRecDepth 100000 in
set_option maxHeartbeats 8000000 in
theorem rst2_b (q : Pa) (a : Ac) (hof : ∀ w, Gives Try.prog 22 #[pv q] w (pv ⟨2, a⟩)) (n : Int) (h27 : n ≠ 27) (h : 32 ≤ n) (hm0 : 0 ≤ a.many) (hm7 : a.many ≤ 7) (hok : okA a = true) (w : World) : Gives Try.prog 10 #[pv q, .int .i64 n] w (rv (csiP ⟨2, a⟩ n)) := by
  apply gives_of
  have e27 : (n == 27) = false := by simpa using h27
  have d0 : decide (0 ≤ n) = true := decide_eq_true (by omega)
  have d1 : decide (n < 32) = false := decide_eq_false (by omega)
  (go_enter Try.func10, Try.ntmps10; go_wp2_with (fail))
  refine (hof _).later.mono ?_
  rintro e W1 ⟨rfl, hl1⟩
  have hB4 := (show Blk _ (w.heap.size + 1) 27 (pc .zero) from (by repeat (first | (with_reducible assumption) | (with_reducible exact blk_new (by first | rfl | (simp; done))) | with_reducible apply Blk.alloc | with_reducible apply Blk.drew | with_reducible apply Blk.latr | (with_reducible refine Blk.far ?_ (by (simp; try omega)) _)))).later hl1
  have hB5 := (show Blk _ (w.heap.size + 1 + 1) 25 (ac .zero) from (by repeat (first | (with_reducible assumption) | (with_reducible exact blk_new (by first | rfl | (simp; done))) | with_reducible apply Blk.alloc | with_reducible apply Blk.drew | with_reducible apply Blk.latr | (with_reducible refine Blk.far ?_ (by (simp; try omega)) _)))).later hl1
  have hL := Later.trans (a := w) (by repeat (first | (with_reducible exact Later.refl _) | with_reducible apply Later.latr | with_reducible apply Later.alloc | with_reducible apply Later.drew | (with_reducible refine Later.set ?_ (by (simp; try omega)) _))) hl1
  have hne : w.heap.size + 1 ≠ w.heap.size + 1 + 1 := by omega
  have hg4 : w.heap.size ≤ w.heap.size + 1 := by omega
  have hg5 : w.heap.size ≤ w.heap.size + 1 + 1 := by omega
  (generalize w.heap.size + 1 + 1 = g5 at *)
  (generalize w.heap.size + 1 = g4 at *)
  (simp only [])
  (repeat go_step)
  refine (rcsi23 ⟨2, a⟩ n hm0 hm7 hok _).later.mono ?_
  rintro e W2 ⟨rfl, hl2⟩
  have hC4 := (show Blk _ g4 27 (pc .zero) from (by repeat (first | (with_reducible assumption) | (with_reducible exact blk_new (by first | rfl | (simp; done))) | with_reducible apply Blk.alloc | with_reducible apply Blk.drew | with_reducible apply Blk.latr | (with_reducible refine Blk.far ?_ (by (simp; try omega)) _)))).later hl2
  have hC5 := (show Blk _ g5 25 (ac .zero) from (by repeat (first | (with_reducible assumption) | (with_reducible exact blk_new (by first | rfl | (simp; done))) | with_reducible apply Blk.alloc | with_reducible apply Blk.drew | with_reducible apply Blk.latr | (with_reducible refine Blk.far ?_ (by (simp; try omega)) _)))).later hl2
  have hL2 := Later.trans (a := w) (by repeat (first | (with_reducible exact Later.refl _) | (with_reducible exact hL) | with_reducible apply Later.latr | with_reducible apply Later.alloc | with_reducible apply Later.drew | (with_reducible refine Later.set ?_ (by (simp; try omega)) _))) hl2
  have ht4 := hC4.there (o := 0) (n := 13) (by decide)
  have ht5 := hC5.there (o := 0) (n := 12) (by decide)
  (simp only [])
  (repeat go_step)
  exact fin_sets rfl hC4 rfl hC5 rfl hne (csiP ⟨2, a⟩ n).1 (csiP ⟨2, a⟩ n).2.1 (csiP ⟨2, a⟩ n).2.2 rfl rfl rfl rfl ⟨rfl, later_sets (later_sets hL2 hg4 _ _) hg5 _ _⟩
set_option maxRecDepth 100000 in
set_option maxHeartbeats 8000000 in
theorem rst3_a (q : Pa) (a : Ac) (hof : ∀ w, Gives Try.prog 22 #[pv q] w (pv ⟨3, a⟩)) (n : Int) (h27 : n ≠ 27) (h : n = 7) (w : World) : Gives Try.prog 10 #[pv q, .int .i64 n] w (rv3 .zero .zero false) := by
  apply gives_of
  have e27 : (n == 27) = false := by simpa using h27
  have d0 : decide (0 ≤ n) = true := decide_eq_true (by omega)
  have d1 : decide (n < 32) = true := decide_eq_true (by omega)
  have g7 : (n == 7) = true := by simpa using h
  (go_enter Try.func10, Try.ntmps10; go_wp2_with (fail))
  refine (hof _).later.mono ?_
  rintro e W1 ⟨rfl, hl1⟩
  have hB4 := (show Blk _ (w.heap.size + 1) 27 (pc .zero) from (by repeat (first | (with_reducible assumption) | (with_reducible exact blk_new (by first | rfl | (simp; done))) | with_reducible apply Blk.alloc | with_reducible apply Blk.drew | with_reducible apply Blk.latr | (with_reducible refine Blk.far ?_ (by (simp; try omega)) _)))).later hl1
  have hB5 := (show Blk _ (w.heap.size + 1 + 1) 25 (ac .zero) from (by repeat (first | (with_reducible assumption) | (with_reducible exact blk_new (by first | rfl | (simp; done))) | with_reducible apply Blk.alloc | with_reducible apply Blk.drew | with_reducible apply Blk.latr | (with_reducible refine Blk.far ?_ (by (simp; try omega)) _)))).later hl1
  have hL := Later.trans (a := w) (by repeat (first | (with_reducible exact Later.refl _) | with_reducible apply Later.latr | with_reducible apply Later.alloc | with_reducible apply Later.drew | (with_reducible refine Later.set ?_ (by (simp; try omega)) _))) hl1
  have hne : w.heap.size + 1 ≠ w.heap.size + 1 + 1 := by omega
  have hg4 : w.heap.size ≤ w.heap.size + 1 := by omega
  have hg5 : w.heap.size ≤ w.heap.size + 1 + 1 := by omega
  (generalize w.heap.size + 1 + 1 = g5 at *)
  (generalize w.heap.size + 1 = g4 at *)
  have ht4 := (hB4.alloc (.cells (pc ⟨3, a⟩) 27)).there (o := 0) (n := 13) (by simp)
  have ht5 := (hB5.alloc (.cells (pc ⟨3, a⟩) 27)).there (o := 0) (n := 12) (by simp)
  (simp only [])
  (repeat go_step)
  exact fin_sets rfl (hB4.alloc _) rfl (hB5.alloc _) rfl hne .zero .zero false rfl rfl rfl rfl ⟨rfl, later_sets (later_sets (hL.alloc _) hg4 _ _) hg5 _ _⟩
set_option maxRecDepth 100000 in
set_option maxHeartbeats 8000000 in
theorem rst3_b (q : Pa) (a : Ac) (hof : ∀ w, Gives Try.prog 22 #[pv q] w (pv ⟨3, a⟩)) (n : Int) (h27 : n ≠ 27) (h : n < 0) (w : World) : Gives Try.prog 10 #[pv q, .int .i64 n] w (rv3 ⟨3, a⟩ .zero false) := by
  apply gives_of
  have e27 : (n == 27) = false := by simpa using h27
  have d0 : decide (0 ≤ n) = false := decide_eq_false (by omega)
  have g7 : (n == 7) = false := by simp; omega
  (go_enter Try.func10, Try.ntmps10; go_wp2_with (fail))
  refine (hof _).later.mono ?_
  rintro e W1 ⟨rfl, hl1⟩
  have hB4 := (show Blk _ (w.heap.size + 1) 27 (pc .zero) from (by repeat (first | (with_reducible assumption) | (with_reducible exact blk_new (by first | rfl | (simp; done))) | with_reducible apply Blk.alloc | with_reducible apply Blk.drew | with_reducible apply Blk.latr | (with_reducible refine Blk.far ?_ (by (simp; try omega)) _)))).later hl1
  have hB5 := (show Blk _ (w.heap.size + 1 + 1) 25 (ac .zero) from (by repeat (first | (with_reducible assumption) | (with_reducible exact blk_new (by first | rfl | (simp; done))) | with_reducible apply Blk.alloc | with_reducible apply Blk.drew | with_reducible apply Blk.latr | (with_reducible refine Blk.far ?_ (by (simp; try omega)) _)))).later hl1
  have hL := Later.trans (a := w) (by repeat (first | (with_reducible exact Later.refl _) | with_reducible apply Later.latr | with_reducible apply Later.alloc | with_reducible apply Later.drew | (with_reducible refine Later.set ?_ (by (simp; try omega)) _))) hl1
  have hne : w.heap.size + 1 ≠ w.heap.size + 1 + 1 := by omega
  have hg4 : w.heap.size ≤ w.heap.size + 1 := by omega
  have hg5 : w.heap.size ≤ w.heap.size + 1 + 1 := by omega
  (generalize w.heap.size + 1 + 1 = g5 at *)
  (generalize w.heap.size + 1 = g4 at *)
  have ht4 := (hB4.alloc (.cells (pc ⟨3, a⟩) 27)).there (o := 0) (n := 13) (by simp)
  have ht5 := (hB5.alloc (.cells (pc ⟨3, a⟩) 27)).there (o := 0) (n := 12) (by simp)
  (simp only [])
  (repeat go_step)
  exact fin_sets rfl (hB4.alloc _) rfl (hB5.alloc _) rfl hne ⟨3, a⟩ .zero false rfl rfl rfl rfl ⟨rfl, later_sets (later_sets (hL.alloc _) hg4 _ _) hg5 _ _⟩
set_option maxRecDepth 100000 in
set_option maxHeartbeats 8000000 in
theorem rst3_c (q : Pa) (a : Ac) (hof : ∀ w, Gives Try.prog 22 #[pv q] w (pv ⟨3, a⟩)) (n : Int) (h27 : n ≠ 27) (h : 32 ≤ n) (w : World) : Gives Try.prog 10 #[pv q, .int .i64 n] w (rv3 ⟨3, a⟩ .zero false) := by
  apply gives_of
  have e27 : (n == 27) = false := by simpa using h27
  have d0 : decide (0 ≤ n) = true := decide_eq_true (by omega)
  have d1 : decide (n < 32) = false := decide_eq_false (by omega)
  have g7 : (n == 7) = false := by simp; omega
  (go_enter Try.func10, Try.ntmps10; go_wp2_with (fail))
  refine (hof _).later.mono ?_
  rintro e W1 ⟨rfl, hl1⟩
  have hB4 := (show Blk _ (w.heap.size + 1) 27 (pc .zero) from (by repeat (first | (with_reducible assumption) | (with_reducible exact blk_new (by first | rfl | (simp; done))) | with_reducible apply Blk.alloc | with_reducible apply Blk.drew | with_reducible apply Blk.latr | (with_reducible refine Blk.far ?_ (by (simp; try omega)) _)))).later hl1
  have hB5 := (show Blk _ (w.heap.size + 1 + 1) 25 (ac .zero) from (by repeat (first | (with_reducible assumption) | (with_reducible exact blk_new (by first | rfl | (simp; done))) | with_reducible apply Blk.alloc | with_reducible apply Blk.drew | with_reducible apply Blk.latr | (with_reducible refine Blk.far ?_ (by (simp; try omega)) _)))).later hl1
  have hL := Later.trans (a := w) (by repeat (first | (with_reducible exact Later.refl _) | with_reducible apply Later.latr | with_reducible apply Later.alloc | with_reducible apply Later.drew | (with_reducible refine Later.set ?_ (by (simp; try omega)) _))) hl1
  have hne : w.heap.size + 1 ≠ w.heap.size + 1 + 1 := by omega
  have hg4 : w.heap.size ≤ w.heap.size + 1 := by omega
  have hg5 : w.heap.size ≤ w.heap.size + 1 + 1 := by omega
  (generalize w.heap.size + 1 + 1 = g5 at *)
  (generalize w.heap.size + 1 = g4 at *)
  have ht4 := (hB4.alloc (.cells (pc ⟨3, a⟩) 27)).there (o := 0) (n := 13) (by simp)
  have ht5 := (hB5.alloc (.cells (pc ⟨3, a⟩) 27)).there (o := 0) (n := 12) (by simp)
  (simp only [])
  (repeat go_step)
  exact fin_sets rfl (hB4.alloc _) rfl (hB5.alloc _) rfl hne ⟨3, a⟩ .zero false rfl rfl rfl rfl ⟨rfl, later_sets (later_sets (hL.alloc _) hg4 _ _) hg5 _ _⟩
set_option maxRecDepth 100000 in
set_option maxHeartbeats 8000000 in
theorem rst3_d (q : Pa) (a : Ac) (hof : ∀ w, Gives Try.prog 22 #[pv q] w (pv ⟨3, a⟩)) (n : Int) (h27 : n ≠ 27) (h0 : 0 ≤ n) (h1 : n < 32) (h : n ≠ 7) (w : World) : Gives Try.prog 10 #[pv q, .int .i64 n] w (rv3 ⟨3, a⟩ .zero false) := by
  apply gives_of
  have e27 : (n == 27) = false := by simpa using h27
  have d0 : decide (0 ≤ n) = true := decide_eq_true (by omega)
  have d1 : decide (n < 32) = true := decide_eq_true (by omega)
  have g7 : (n == 7) = false := by simp; omega
  (go_enter Try.func10, Try.ntmps10; go_wp2_with (fail))
  refine (hof _).later.mono ?_
  rintro e W1 ⟨rfl, hl1⟩
  have hB4 := (show Blk _ (w.heap.size + 1) 27 (pc .zero) from (by repeat (first | (with_reducible assumption) | (with_reducible exact blk_new (by first | rfl | (simp; done))) | with_reducible apply Blk.alloc | with_reducible apply Blk.drew | with_reducible apply Blk.latr | (with_reducible refine Blk.far ?_ (by (simp; try omega)) _)))).later hl1
  have hB5 := (show Blk _ (w.heap.size + 1 + 1) 25 (ac .zero) from (by repeat (first | (with_reducible assumption) | (with_reducible exact blk_new (by first | rfl | (simp; done))) | with_reducible apply Blk.alloc | with_reducible apply Blk.drew | with_reducible apply Blk.latr | (with_reducible refine Blk.far ?_ (by (simp; try omega)) _)))).later hl1
  have hL := Later.trans (a := w) (by repeat (first | (with_reducible exact Later.refl _) | with_reducible apply Later.latr | with_reducible apply Later.alloc | with_reducible apply Later.drew | (with_reducible refine Later.set ?_ (by (simp; try omega)) _))) hl1
  have hne : w.heap.size + 1 ≠ w.heap.size + 1 + 1 := by omega
  have hg4 : w.heap.size ≤ w.heap.size + 1 := by omega
  have hg5 : w.heap.size ≤ w.heap.size + 1 + 1 := by omega
  (generalize w.heap.size + 1 + 1 = g5 at *)
  (generalize w.heap.size + 1 = g4 at *)
  have ht4 := (hB4.alloc (.cells (pc ⟨3, a⟩) 27)).there (o := 0) (n := 13) (by simp)
  have ht5 := (hB5.alloc (.cells (pc ⟨3, a⟩) 27)).there (o := 0) (n := 12) (by simp)
  (simp only [])
  (repeat go_step)
  exact fin_sets rfl (hB4.alloc _) rfl (hB5.alloc _) rfl hne ⟨3, a⟩ .zero false rfl rfl rfl rfl ⟨rfl, later_sets (later_sets (hL.alloc _) hg4 _ _) hg5 _ _⟩
theorem step10 (q : Pa) (n : Int) (w : World) : Gives Try.prog 10 #[pv q, .int .i64 n] w (rv (stepP q n)) := by
  have hof := of22 q
  have hok := okP_ofR q
  unfold stepP
  generalize ofP q = m at *
  have hk := (okP_iff m).1 hok
  obtain ⟨s, a⟩ := m
  dsimp only at hk
  by_cases h27 : n = 27
  · rw [if_pos h27]
    exact rstep_esc q _ hof n h27 w
  rw [if_neg h27]
  dsimp only
  by_cases hc : 0 ≤ n ∧ n < 32 ∧ s ≠ 3
  · rw [if_pos hc]
    exact rstep_ctl q _ hof n hc.1 hc.2.1 h27 hc.2.2 w
  rw [if_neg hc]
  have hs : s = 0 ∨ s = 1 ∨ s = 2 ∨ s = 3 := by omega
  rcases hs with rfl | rfl | rfl | rfl
  · rw [if_pos rfl]
    by_cases g : n < 0
    · rw [if_pos (.inl g)]; exact rst0_a q a hof n h27 g w
    by_cases g2 : n = 127
    · rw [if_pos (.inr g2)]; exact rst0_b q a hof n h27 g2 w
    · rw [if_neg (by omega)]; exact rst0_c q a hof n h27 (by omega) g2 w
  · rw [if_neg (by decide), if_pos rfl]
    by_cases g : n = 91
    · rw [if_pos g]; exact rst1_a q a hof n h27 g w
    rw [if_neg g]
    by_cases g2 : n = 93
    · rw [if_pos g2]; exact rst1_b q a hof n h27 g2 w
    rw [if_neg g2]
    by_cases g3 : 48 ≤ n ∧ n ≤ 126
    · rw [if_pos g3]; exact rst1_c q a hof n h27 g3.1 g3.2 g g2 w
    rw [if_neg g3]
    by_cases g4 : n < 0
    · exact rst1_d q a hof n h27 g4 w
    by_cases g5 : n < 48
    · exact rst1_e q a hof n h27 (by omega) g5 w
    · exact rst1_f q a hof n h27 (by omega) w
  · rw [if_neg (by decide), if_neg (by decide), if_pos rfl]
    by_cases g : n < 0
    · exact rst2_a q a hof n h27 g hk.2.2.1.1 hk.2.2.1.2 hk.2.2.2.2.2 w
    · exact rst2_b q a hof n h27 (by omega) hk.2.2.1.1 hk.2.2.1.2 hk.2.2.2.2.2 w
  · rw [if_neg (by decide), if_neg (by decide), if_neg (by decide)]
    by_cases g : n = 7
    · rw [if_pos g]; exact rst3_a q a hof n h27 g w
    rw [if_neg g]
    by_cases g4 : n < 0
    · exact rst3_b q a hof n h27 g4 w
    by_cases g5 : n < 32
    · exact rst3_d q a hof n h27 (by omega) g5 g w
    · exact rst3_c q a hof n h27 (by omega) w
end Go.Proofs.Ytjgaljnojhkimaa
