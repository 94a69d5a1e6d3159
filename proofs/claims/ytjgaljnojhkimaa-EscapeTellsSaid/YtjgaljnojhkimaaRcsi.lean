/- The walk of a step in a sequence: the reference's. Of a parser that may be. -/
import Derived.Test.YtjgaljnojhkimaaCsi
import Derived.Test.YtjgaljnojhkimaaOf
import Derived.Deep.DrawnRows
namespace Go.Proofs.Ytjgaljnojhkimaa
open Go.RowKit
attribute [local go_sem] ite_max ite_min
attribute [local go_sem ↓] Go.wp_at_zero Go.wp_at_succ
attribute [local go_sem] h_lt1 h_lt2 h_lt3 h_lt4 h_lt5 h_lt6 h_eq1 h_qe1 h_eq2 h_qe2 h_eq3 h_qe3 h_eq4 h_qe4 h_eq5 h_qe5 h_eq6 h_qe6

set_option maxRecDepth 100000 in
set_option maxHeartbeats 8000000 in
theorem rcsi_d0 (st kind rune : Int) (mark : Bool) (p0 p1 p2 p3 p4 p5 p6 p7 : Int) (n : Int) (h0 : 48 ≤ n) (h1 : n ≤ 57) (q0 : 0 ≤ p0) (q1 : p0 ≤ 9999) (w : World) : Gives Try.prog 23 #[pv ⟨st, ⟨kind, rune, mark, 0, p0, p1, p2, p3, p4, p5, p6, p7⟩⟩, .int .i64 n] w (rv3 ⟨st, ⟨kind, rune, mark, 0, (min (10 * p0 + n - 48) 9999), p1, p2, p3, p4, p5, p6, p7⟩⟩ .zero false) := by
  apply gives_of
  have d1 : decide (48 ≤ n) = true := decide_eq_true (by omega)
  have d2 : decide (n ≤ 57) = true := decide_eq_true (by omega)
  (go_enter Try.func23, Try.ntmps23; go_wp2_with (fail))
  (refine fin_three rfl ⟨st, ⟨kind, rune, mark, 0, (min (10 * p0 + n - 48) 9999), p1, p2, p3, p4, p5, p6, p7⟩⟩ .zero false rfl rfl rfl rfl (by repeat (first | (with_reducible assumption) | (with_reducible exact blk_new (by first | rfl | (simp; done))) | with_reducible apply Blk.alloc | with_reducible apply Blk.drew | with_reducible apply Blk.latr | (with_reducible refine Blk.far ?_ (by (simp; try omega)) _))) (by repeat (first | (with_reducible assumption) | (with_reducible exact blk_new (by first | rfl | (simp; done))) | with_reducible apply Blk.alloc | with_reducible apply Blk.drew | with_reducible apply Blk.latr | (with_reducible refine Blk.far ?_ (by (simp; try omega)) _))) ⟨rfl, by repeat (first | (with_reducible exact Later.refl _) | (with_reducible assumption) | with_reducible apply Later.latr | with_reducible apply Later.alloc | with_reducible apply Later.drew | (with_reducible refine Later.set ?_ (by (simp; try omega)) _))⟩)
set_option maxRecDepth 100000 in
set_option maxHeartbeats 8000000 in
theorem rcsi_d1 (st kind rune : Int) (mark : Bool) (p0 p1 p2 p3 p4 p5 p6 p7 : Int) (n : Int) (h0 : 48 ≤ n) (h1 : n ≤ 57) (q0 : 0 ≤ p1) (q1 : p1 ≤ 9999) (w : World) : Gives Try.prog 23 #[pv ⟨st, ⟨kind, rune, mark, 1, p0, p1, p2, p3, p4, p5, p6, p7⟩⟩, .int .i64 n] w (rv3 ⟨st, ⟨kind, rune, mark, 1, p0, (min (10 * p1 + n - 48) 9999), p2, p3, p4, p5, p6, p7⟩⟩ .zero false) := by
  apply gives_of
  have d1 : decide (48 ≤ n) = true := decide_eq_true (by omega)
  have d2 : decide (n ≤ 57) = true := decide_eq_true (by omega)
  (go_enter Try.func23, Try.ntmps23; go_wp2_with (fail))
  (refine fin_three rfl ⟨st, ⟨kind, rune, mark, 1, p0, (min (10 * p1 + n - 48) 9999), p2, p3, p4, p5, p6, p7⟩⟩ .zero false rfl rfl rfl rfl (by repeat (first | (with_reducible assumption) | (with_reducible exact blk_new (by first | rfl | (simp; done))) | with_reducible apply Blk.alloc | with_reducible apply Blk.drew | with_reducible apply Blk.latr | (with_reducible refine Blk.far ?_ (by (simp; try omega)) _))) (by repeat (first | (with_reducible assumption) | (with_reducible exact blk_new (by first | rfl | (simp; done))) | with_reducible apply Blk.alloc | with_reducible apply Blk.drew | with_reducible apply Blk.latr | (with_reducible refine Blk.far ?_ (by (simp; try omega)) _))) ⟨rfl, by repeat (first | (with_reducible exact Later.refl _) | (with_reducible assumption) | with_reducible apply Later.latr | with_reducible apply Later.alloc | with_reducible apply Later.drew | (with_reducible refine Later.set ?_ (by (simp; try omega)) _))⟩)
set_option maxRecDepth 100000 in
set_option maxHeartbeats 8000000 in
theorem rcsi_d2 (st kind rune : Int) (mark : Bool) (p0 p1 p2 p3 p4 p5 p6 p7 : Int) (n : Int) (h0 : 48 ≤ n) (h1 : n ≤ 57) (q0 : 0 ≤ p2) (q1 : p2 ≤ 9999) (w : World) : Gives Try.prog 23 #[pv ⟨st, ⟨kind, rune, mark, 2, p0, p1, p2, p3, p4, p5, p6, p7⟩⟩, .int .i64 n] w (rv3 ⟨st, ⟨kind, rune, mark, 2, p0, p1, (min (10 * p2 + n - 48) 9999), p3, p4, p5, p6, p7⟩⟩ .zero false) := by
  apply gives_of
  have d1 : decide (48 ≤ n) = true := decide_eq_true (by omega)
  have d2 : decide (n ≤ 57) = true := decide_eq_true (by omega)
  (go_enter Try.func23, Try.ntmps23; go_wp2_with (fail))
  (refine fin_three rfl ⟨st, ⟨kind, rune, mark, 2, p0, p1, (min (10 * p2 + n - 48) 9999), p3, p4, p5, p6, p7⟩⟩ .zero false rfl rfl rfl rfl (by repeat (first | (with_reducible assumption) | (with_reducible exact blk_new (by first | rfl | (simp; done))) | with_reducible apply Blk.alloc | with_reducible apply Blk.drew | with_reducible apply Blk.latr | (with_reducible refine Blk.far ?_ (by (simp; try omega)) _))) (by repeat (first | (with_reducible assumption) | (with_reducible exact blk_new (by first | rfl | (simp; done))) | with_reducible apply Blk.alloc | with_reducible apply Blk.drew | with_reducible apply Blk.latr | (with_reducible refine Blk.far ?_ (by (simp; try omega)) _))) ⟨rfl, by repeat (first | (with_reducible exact Later.refl _) | (with_reducible assumption) | with_reducible apply Later.latr | with_reducible apply Later.alloc | with_reducible apply Later.drew | (with_reducible refine Later.set ?_ (by (simp; try omega)) _))⟩)
set_option maxRecDepth 100000 in
set_option maxHeartbeats 8000000 in
theorem rcsi_d3 (st kind rune : Int) (mark : Bool) (p0 p1 p2 p3 p4 p5 p6 p7 : Int) (n : Int) (h0 : 48 ≤ n) (h1 : n ≤ 57) (q0 : 0 ≤ p3) (q1 : p3 ≤ 9999) (w : World) : Gives Try.prog 23 #[pv ⟨st, ⟨kind, rune, mark, 3, p0, p1, p2, p3, p4, p5, p6, p7⟩⟩, .int .i64 n] w (rv3 ⟨st, ⟨kind, rune, mark, 3, p0, p1, p2, (min (10 * p3 + n - 48) 9999), p4, p5, p6, p7⟩⟩ .zero false) := by
  apply gives_of
  have d1 : decide (48 ≤ n) = true := decide_eq_true (by omega)
  have d2 : decide (n ≤ 57) = true := decide_eq_true (by omega)
  (go_enter Try.func23, Try.ntmps23; go_wp2_with (fail))
  (refine fin_three rfl ⟨st, ⟨kind, rune, mark, 3, p0, p1, p2, (min (10 * p3 + n - 48) 9999), p4, p5, p6, p7⟩⟩ .zero false rfl rfl rfl rfl (by repeat (first | (with_reducible assumption) | (with_reducible exact blk_new (by first | rfl | (simp; done))) | with_reducible apply Blk.alloc | with_reducible apply Blk.drew | with_reducible apply Blk.latr | (with_reducible refine Blk.far ?_ (by (simp; try omega)) _))) (by repeat (first | (with_reducible assumption) | (with_reducible exact blk_new (by first | rfl | (simp; done))) | with_reducible apply Blk.alloc | with_reducible apply Blk.drew | with_reducible apply Blk.latr | (with_reducible refine Blk.far ?_ (by (simp; try omega)) _))) ⟨rfl, by repeat (first | (with_reducible exact Later.refl _) | (with_reducible assumption) | with_reducible apply Later.latr | with_reducible apply Later.alloc | with_reducible apply Later.drew | (with_reducible refine Later.set ?_ (by (simp; try omega)) _))⟩)
set_option maxRecDepth 100000 in
set_option maxHeartbeats 8000000 in
theorem rcsi_d4 (st kind rune : Int) (mark : Bool) (p0 p1 p2 p3 p4 p5 p6 p7 : Int) (n : Int) (h0 : 48 ≤ n) (h1 : n ≤ 57) (q0 : 0 ≤ p4) (q1 : p4 ≤ 9999) (w : World) : Gives Try.prog 23 #[pv ⟨st, ⟨kind, rune, mark, 4, p0, p1, p2, p3, p4, p5, p6, p7⟩⟩, .int .i64 n] w (rv3 ⟨st, ⟨kind, rune, mark, 4, p0, p1, p2, p3, (min (10 * p4 + n - 48) 9999), p5, p6, p7⟩⟩ .zero false) := by
  apply gives_of
  have d1 : decide (48 ≤ n) = true := decide_eq_true (by omega)
  have d2 : decide (n ≤ 57) = true := decide_eq_true (by omega)
  (go_enter Try.func23, Try.ntmps23; go_wp2_with (fail))
  (refine fin_three rfl ⟨st, ⟨kind, rune, mark, 4, p0, p1, p2, p3, (min (10 * p4 + n - 48) 9999), p5, p6, p7⟩⟩ .zero false rfl rfl rfl rfl (by repeat (first | (with_reducible assumption) | (with_reducible exact blk_new (by first | rfl | (simp; done))) | with_reducible apply Blk.alloc | with_reducible apply Blk.drew | with_reducible apply Blk.latr | (with_reducible refine Blk.far ?_ (by (simp; try omega)) _))) (by repeat (first | (with_reducible assumption) | (with_reducible exact blk_new (by first | rfl | (simp; done))) | with_reducible apply Blk.alloc | with_reducible apply Blk.drew | with_reducible apply Blk.latr | (with_reducible refine Blk.far ?_ (by (simp; try omega)) _))) ⟨rfl, by repeat (first | (with_reducible exact Later.refl _) | (with_reducible assumption) | with_reducible apply Later.latr | with_reducible apply Later.alloc | with_reducible apply Later.drew | (with_reducible refine Later.set ?_ (by (simp; try omega)) _))⟩)
set_option maxRecDepth 100000 in
set_option maxHeartbeats 8000000 in
theorem rcsi_d5 (st kind rune : Int) (mark : Bool) (p0 p1 p2 p3 p4 p5 p6 p7 : Int) (n : Int) (h0 : 48 ≤ n) (h1 : n ≤ 57) (q0 : 0 ≤ p5) (q1 : p5 ≤ 9999) (w : World) : Gives Try.prog 23 #[pv ⟨st, ⟨kind, rune, mark, 5, p0, p1, p2, p3, p4, p5, p6, p7⟩⟩, .int .i64 n] w (rv3 ⟨st, ⟨kind, rune, mark, 5, p0, p1, p2, p3, p4, (min (10 * p5 + n - 48) 9999), p6, p7⟩⟩ .zero false) := by
  apply gives_of
  have d1 : decide (48 ≤ n) = true := decide_eq_true (by omega)
  have d2 : decide (n ≤ 57) = true := decide_eq_true (by omega)
  (go_enter Try.func23, Try.ntmps23; go_wp2_with (fail))
  (refine fin_three rfl ⟨st, ⟨kind, rune, mark, 5, p0, p1, p2, p3, p4, (min (10 * p5 + n - 48) 9999), p6, p7⟩⟩ .zero false rfl rfl rfl rfl (by repeat (first | (with_reducible assumption) | (with_reducible exact blk_new (by first | rfl | (simp; done))) | with_reducible apply Blk.alloc | with_reducible apply Blk.drew | with_reducible apply Blk.latr | (with_reducible refine Blk.far ?_ (by (simp; try omega)) _))) (by repeat (first | (with_reducible assumption) | (with_reducible exact blk_new (by first | rfl | (simp; done))) | with_reducible apply Blk.alloc | with_reducible apply Blk.drew | with_reducible apply Blk.latr | (with_reducible refine Blk.far ?_ (by (simp; try omega)) _))) ⟨rfl, by repeat (first | (with_reducible exact Later.refl _) | (with_reducible assumption) | with_reducible apply Later.latr | with_reducible apply Later.alloc | with_reducible apply Later.drew | (with_reducible refine Later.set ?_ (by (simp; try omega)) _))⟩)
set_option maxRecDepth 100000 in
set_option maxHeartbeats 8000000 in
theorem rcsi_d6 (st kind rune : Int) (mark : Bool) (p0 p1 p2 p3 p4 p5 p6 p7 : Int) (n : Int) (h0 : 48 ≤ n) (h1 : n ≤ 57) (q0 : 0 ≤ p6) (q1 : p6 ≤ 9999) (w : World) : Gives Try.prog 23 #[pv ⟨st, ⟨kind, rune, mark, 6, p0, p1, p2, p3, p4, p5, p6, p7⟩⟩, .int .i64 n] w (rv3 ⟨st, ⟨kind, rune, mark, 6, p0, p1, p2, p3, p4, p5, (min (10 * p6 + n - 48) 9999), p7⟩⟩ .zero false) := by
  apply gives_of
  have d1 : decide (48 ≤ n) = true := decide_eq_true (by omega)
  have d2 : decide (n ≤ 57) = true := decide_eq_true (by omega)
  (go_enter Try.func23, Try.ntmps23; go_wp2_with (fail))
  (refine fin_three rfl ⟨st, ⟨kind, rune, mark, 6, p0, p1, p2, p3, p4, p5, (min (10 * p6 + n - 48) 9999), p7⟩⟩ .zero false rfl rfl rfl rfl (by repeat (first | (with_reducible assumption) | (with_reducible exact blk_new (by first | rfl | (simp; done))) | with_reducible apply Blk.alloc | with_reducible apply Blk.drew | with_reducible apply Blk.latr | (with_reducible refine Blk.far ?_ (by (simp; try omega)) _))) (by repeat (first | (with_reducible assumption) | (with_reducible exact blk_new (by first | rfl | (simp; done))) | with_reducible apply Blk.alloc | with_reducible apply Blk.drew | with_reducible apply Blk.latr | (with_reducible refine Blk.far ?_ (by (simp; try omega)) _))) ⟨rfl, by repeat (first | (with_reducible exact Later.refl _) | (with_reducible assumption) | with_reducible apply Later.latr | with_reducible apply Later.alloc | with_reducible apply Later.drew | (with_reducible refine Later.set ?_ (by (simp; try omega)) _))⟩)
set_option maxRecDepth 100000 in
set_option maxHeartbeats 8000000 in
theorem rcsi_d7 (st kind rune : Int) (mark : Bool) (p0 p1 p2 p3 p4 p5 p6 p7 : Int) (n : Int) (h0 : 48 ≤ n) (h1 : n ≤ 57) (q0 : 0 ≤ p7) (q1 : p7 ≤ 9999) (w : World) : Gives Try.prog 23 #[pv ⟨st, ⟨kind, rune, mark, 7, p0, p1, p2, p3, p4, p5, p6, p7⟩⟩, .int .i64 n] w (rv3 ⟨st, ⟨kind, rune, mark, 7, p0, p1, p2, p3, p4, p5, p6, (min (10 * p7 + n - 48) 9999)⟩⟩ .zero false) := by
  apply gives_of
  have d1 : decide (48 ≤ n) = true := decide_eq_true (by omega)
  have d2 : decide (n ≤ 57) = true := decide_eq_true (by omega)
  (go_enter Try.func23, Try.ntmps23; go_wp2_with (fail))
  (refine fin_three rfl ⟨st, ⟨kind, rune, mark, 7, p0, p1, p2, p3, p4, p5, p6, (min (10 * p7 + n - 48) 9999)⟩⟩ .zero false rfl rfl rfl rfl (by repeat (first | (with_reducible assumption) | (with_reducible exact blk_new (by first | rfl | (simp; done))) | with_reducible apply Blk.alloc | with_reducible apply Blk.drew | with_reducible apply Blk.latr | (with_reducible refine Blk.far ?_ (by (simp; try omega)) _))) (by repeat (first | (with_reducible assumption) | (with_reducible exact blk_new (by first | rfl | (simp; done))) | with_reducible apply Blk.alloc | with_reducible apply Blk.drew | with_reducible apply Blk.latr | (with_reducible refine Blk.far ?_ (by (simp; try omega)) _))) ⟨rfl, by repeat (first | (with_reducible exact Later.refl _) | (with_reducible assumption) | with_reducible apply Later.latr | with_reducible apply Later.alloc | with_reducible apply Later.drew | (with_reducible refine Later.set ?_ (by (simp; try omega)) _))⟩)
set_option maxRecDepth 100000 in
set_option maxHeartbeats 8000000 in
theorem rcsi_semi (st kind rune : Int) (mark : Bool) (many p0 p1 p2 p3 p4 p5 p6 p7 : Int) (n : Int) (hn : n = 59) (hm0 : 0 ≤ many) (hm7 : many ≤ 7) (w : World) : Gives Try.prog 23 #[pv ⟨st, ⟨kind, rune, mark, many, p0, p1, p2, p3, p4, p5, p6, p7⟩⟩, .int .i64 n] w (rv3 ⟨st, ⟨kind, rune, mark, (min (many + 1) 7), p0, p1, p2, p3, p4, p5, p6, p7⟩⟩ .zero false) := by
  apply gives_of
  have hk8 : many < 8 := by omega
  subst hn
  (go_enter Try.func23, Try.ntmps23; go_wp2_with (fail))
  (refine fin_three rfl ⟨st, ⟨kind, rune, mark, (min (many + 1) 7), p0, p1, p2, p3, p4, p5, p6, p7⟩⟩ .zero false rfl rfl rfl rfl (by repeat (first | (with_reducible assumption) | (with_reducible exact blk_new (by first | rfl | (simp; done))) | with_reducible apply Blk.alloc | with_reducible apply Blk.drew | with_reducible apply Blk.latr | (with_reducible refine Blk.far ?_ (by (simp; try omega)) _))) (by repeat (first | (with_reducible assumption) | (with_reducible exact blk_new (by first | rfl | (simp; done))) | with_reducible apply Blk.alloc | with_reducible apply Blk.drew | with_reducible apply Blk.latr | (with_reducible refine Blk.far ?_ (by (simp; try omega)) _))) ⟨rfl, by repeat (first | (with_reducible exact Later.refl _) | (with_reducible assumption) | with_reducible apply Later.latr | with_reducible apply Later.alloc | with_reducible apply Later.drew | (with_reducible refine Later.set ?_ (by (simp; try omega)) _))⟩)
set_option maxRecDepth 100000 in
set_option maxHeartbeats 8000000 in
theorem rcsi_mark_true (st kind rune : Int) (p1 p2 p3 p4 p5 p6 p7 n : Int) (hn : n = 63) (w : World) : Gives Try.prog 23 #[pv ⟨st, ⟨kind, rune, true, 0, 0, p1, p2, p3, p4, p5, p6, p7⟩⟩, .int .i64 n] w (rv3 ⟨st, ⟨kind, rune, true, 0, 0, p1, p2, p3, p4, p5, p6, p7⟩⟩ .zero false) := by
  apply gives_of
  subst hn
  (go_enter Try.func23, Try.ntmps23; go_wp2_with (fail))
  (refine fin_three rfl ⟨st, ⟨kind, rune, true, 0, 0, p1, p2, p3, p4, p5, p6, p7⟩⟩ .zero false rfl rfl rfl rfl (by repeat (first | (with_reducible assumption) | (with_reducible exact blk_new (by first | rfl | (simp; done))) | with_reducible apply Blk.alloc | with_reducible apply Blk.drew | with_reducible apply Blk.latr | (with_reducible refine Blk.far ?_ (by (simp; try omega)) _))) (by repeat (first | (with_reducible assumption) | (with_reducible exact blk_new (by first | rfl | (simp; done))) | with_reducible apply Blk.alloc | with_reducible apply Blk.drew | with_reducible apply Blk.latr | (with_reducible refine Blk.far ?_ (by (simp; try omega)) _))) ⟨rfl, by repeat (first | (with_reducible exact Later.refl _) | (with_reducible assumption) | with_reducible apply Later.latr | with_reducible apply Later.alloc | with_reducible apply Later.drew | (with_reducible refine Later.set ?_ (by (simp; try omega)) _))⟩)
set_option maxRecDepth 100000 in
set_option maxHeartbeats 8000000 in
theorem rcsi_mark_false (st kind rune : Int) (p1 p2 p3 p4 p5 p6 p7 n : Int) (hn : n = 63) (w : World) : Gives Try.prog 23 #[pv ⟨st, ⟨kind, rune, false, 0, 0, p1, p2, p3, p4, p5, p6, p7⟩⟩, .int .i64 n] w (rv3 ⟨st, ⟨kind, rune, true, 0, 0, p1, p2, p3, p4, p5, p6, p7⟩⟩ .zero false) := by
  apply gives_of
  subst hn
  (go_enter Try.func23, Try.ntmps23; go_wp2_with (fail))
  (refine fin_three rfl ⟨st, ⟨kind, rune, true, 0, 0, p1, p2, p3, p4, p5, p6, p7⟩⟩ .zero false rfl rfl rfl rfl (by repeat (first | (with_reducible assumption) | (with_reducible exact blk_new (by first | rfl | (simp; done))) | with_reducible apply Blk.alloc | with_reducible apply Blk.drew | with_reducible apply Blk.latr | (with_reducible refine Blk.far ?_ (by (simp; try omega)) _))) (by repeat (first | (with_reducible assumption) | (with_reducible exact blk_new (by first | rfl | (simp; done))) | with_reducible apply Blk.alloc | with_reducible apply Blk.drew | with_reducible apply Blk.latr | (with_reducible refine Blk.far ?_ (by (simp; try omega)) _))) ⟨rfl, by repeat (first | (with_reducible exact Later.refl _) | (with_reducible assumption) | with_reducible apply Later.latr | with_reducible apply Later.alloc | with_reducible apply Later.drew | (with_reducible refine Later.set ?_ (by (simp; try omega)) _))⟩)
set_option maxRecDepth 100000 in
set_option maxHeartbeats 8000000 in
theorem rcsi_fin (st kind rune : Int) (mark : Bool) (many p0 p1 p2 p3 p4 p5 p6 p7 : Int) (n : Int) (h0 : 64 ≤ n) (h1 : n ≤ 126) (hm0 : 0 ≤ many) (hm7 : many ≤ 7) (w : World) : Gives Try.prog 23 #[pv ⟨st, ⟨kind, rune, mark, many, p0, p1, p2, p3, p4, p5, p6, p7⟩⟩, .int .i64 n] w (rv3 .zero ⟨4, n, mark, many, p0, p1, p2, p3, p4, p5, p6, p7⟩ true) := by
  apply gives_of
  have hk8 : many < 8 := by omega
  have f1 : decide (64 ≤ n) = true := decide_eq_true (by omega)
  have f2 : decide (n ≤ 126) = true := decide_eq_true (by omega)
  have d63' : (n == 63) = false := by simp; omega
  have d59' : (n == 59) = false := by simp; omega
  have d1 : decide (48 ≤ n) = true := decide_eq_true (by omega)
  have d2 : decide (n ≤ 57) = false := decide_eq_false (by omega)
  (go_enter Try.func23, Try.ntmps23; go_wp2_with (fail))
  obtain ⟨U, hU⟩ : ∃ U, U = ((((w.alloc (.cells (pc ⟨st, ⟨kind, rune, mark, many, p0, p1, p2, p3, p4, p5, p6, p7⟩⟩) 27)).alloc (.cells (pc .zero) 27)).alloc (.cells (ac .zero) 25)).alloc (.cells (ac ⟨4, n, mark, many, p0, p1, p2, p3, p4, p5, p6, p7⟩) 25)) := ⟨_, rfl⟩
  have hB4 : Blk U (w.heap.size + 1) 27 (pc .zero) := by rw [hU]; exact (by repeat (first | (with_reducible assumption) | (with_reducible exact blk_new (by first | rfl | (simp; done))) | with_reducible apply Blk.alloc | with_reducible apply Blk.drew | with_reducible apply Blk.latr | (with_reducible refine Blk.far ?_ (by (simp; try omega)) _)))
  have hB5 : Blk U (w.heap.size + 1 + 1) 25 (ac .zero) := by rw [hU]; exact (by repeat (first | (with_reducible assumption) | (with_reducible exact blk_new (by first | rfl | (simp; done))) | with_reducible apply Blk.alloc | with_reducible apply Blk.drew | with_reducible apply Blk.latr | (with_reducible refine Blk.far ?_ (by (simp; try omega)) _)))
  have hB8 : Blk U (w.heap.size + 1 + 1 + 1) 25 (ac ⟨4, n, mark, many, p0, p1, p2, p3, p4, p5, p6, p7⟩) := by rw [hU]; exact (by repeat (first | (with_reducible assumption) | (with_reducible exact blk_new (by first | rfl | (simp; done))) | with_reducible apply Blk.alloc | with_reducible apply Blk.drew | with_reducible apply Blk.latr | (with_reducible refine Blk.far ?_ (by (simp; try omega)) _)))
  have hL : Later w U := by rw [hU]; exact by repeat (first | (with_reducible exact Later.refl _) | with_reducible apply Later.latr | with_reducible apply Later.alloc | with_reducible apply Later.drew | (with_reducible refine Later.set ?_ (by (simp; try omega)) _))
  rw [← hU]
  clear hU
  have hne : w.heap.size + 1 ≠ w.heap.size + 1 + 1 := by omega
  have hn48 : w.heap.size + 1 + 1 + 1 ≠ w.heap.size + 1 := by omega
  have hn58 : w.heap.size + 1 + 1 + 1 ≠ w.heap.size + 1 + 1 := by omega
  have hg4 : w.heap.size ≤ w.heap.size + 1 := by omega
  have hg5 : w.heap.size ≤ w.heap.size + 1 + 1 := by omega
  generalize w.heap.size + 1 + 1 + 1 = g8 at *
  generalize w.heap.size + 1 + 1 = g5 at *
  generalize w.heap.size + 1 = g4 at *
  have ht4 := hB4.there (o := 0) (n := 13) (by decide)
  have ht5 := hB5.there (o := 0) (n := 12) (by decide)
  have ht8 := hB8.there (o := 0) (n := 12) (by simp)
  have hc8 := hB8.cells 0 12 (al ⟨4, n, mark, many, p0, p1, p2, p3, p4, p5, p6, p7⟩) rfl rfl
  go_region
  (repeat go_step)
  exact fin_sets rfl hB4.drew rfl hB5.drew rfl hne .zero ⟨4, n, mark, many, p0, p1, p2, p3, p4, p5, p6, p7⟩ true rfl rfl rfl rfl ⟨rfl, later_sets (later_sets hL.drew hg4 _ _) hg5 _ _⟩
set_option maxRecDepth 100000 in
set_option maxHeartbeats 8000000 in
theorem rcsi_n1 (st kind rune : Int) (mark : Bool) (many p0 p1 p2 p3 p4 p5 p6 p7 : Int) (n : Int) (h0 : n < 48) (hm0 : 0 ≤ many) (hm7 : many ≤ 7) (w : World) : Gives Try.prog 23 #[pv ⟨st, ⟨kind, rune, mark, many, p0, p1, p2, p3, p4, p5, p6, p7⟩⟩, .int .i64 n] w (rv3 ⟨st, ⟨kind, rune, mark, many, p0, p1, p2, p3, p4, p5, p6, p7⟩⟩ .zero false) := by
  apply gives_of
  have hk8 : many < 8 := by omega
  have d1 : decide (48 ≤ n) = false := decide_eq_false (by omega)
  have d59 : (n == 59) = false := by simp; omega
  have d63 : (n == 63) = false := by simp; omega
  have f1 : decide (64 ≤ n) = false := decide_eq_false (by omega)
  (go_enter Try.func23, Try.ntmps23; go_wp2_with (fail))
  (refine fin_three rfl ⟨st, ⟨kind, rune, mark, many, p0, p1, p2, p3, p4, p5, p6, p7⟩⟩ .zero false rfl rfl rfl rfl (by repeat (first | (with_reducible assumption) | (with_reducible exact blk_new (by first | rfl | (simp; done))) | with_reducible apply Blk.alloc | with_reducible apply Blk.drew | with_reducible apply Blk.latr | (with_reducible refine Blk.far ?_ (by (simp; try omega)) _))) (by repeat (first | (with_reducible assumption) | (with_reducible exact blk_new (by first | rfl | (simp; done))) | with_reducible apply Blk.alloc | with_reducible apply Blk.drew | with_reducible apply Blk.latr | (with_reducible refine Blk.far ?_ (by (simp; try omega)) _))) ⟨rfl, by repeat (first | (with_reducible exact Later.refl _) | (with_reducible assumption) | with_reducible apply Later.latr | with_reducible apply Later.alloc | with_reducible apply Later.drew | (with_reducible refine Later.set ?_ (by (simp; try omega)) _))⟩)
set_option maxRecDepth 100000 in
set_option maxHeartbeats 8000000 in
theorem rcsi_n2 (st kind rune : Int) (mark : Bool) (many p0 p1 p2 p3 p4 p5 p6 p7 : Int) (n : Int) (h0 : 57 < n) (h1 : n < 64) (h2 : n ≠ 59) (h3 : n ≠ 63) (hm0 : 0 ≤ many) (hm7 : many ≤ 7) (w : World) : Gives Try.prog 23 #[pv ⟨st, ⟨kind, rune, mark, many, p0, p1, p2, p3, p4, p5, p6, p7⟩⟩, .int .i64 n] w (rv3 ⟨st, ⟨kind, rune, mark, many, p0, p1, p2, p3, p4, p5, p6, p7⟩⟩ .zero false) := by
  apply gives_of
  have hk8 : many < 8 := by omega
  have d1 : decide (48 ≤ n) = true := decide_eq_true (by omega)
  have d2 : decide (n ≤ 57) = false := decide_eq_false (by omega)
  have d59 : (n == 59) = false := by simp; omega
  have d63 : (n == 63) = false := by simp; omega
  have f1 : decide (64 ≤ n) = false := decide_eq_false (by omega)
  (go_enter Try.func23, Try.ntmps23; go_wp2_with (fail))
  (refine fin_three rfl ⟨st, ⟨kind, rune, mark, many, p0, p1, p2, p3, p4, p5, p6, p7⟩⟩ .zero false rfl rfl rfl rfl (by repeat (first | (with_reducible assumption) | (with_reducible exact blk_new (by first | rfl | (simp; done))) | with_reducible apply Blk.alloc | with_reducible apply Blk.drew | with_reducible apply Blk.latr | (with_reducible refine Blk.far ?_ (by (simp; try omega)) _))) (by repeat (first | (with_reducible assumption) | (with_reducible exact blk_new (by first | rfl | (simp; done))) | with_reducible apply Blk.alloc | with_reducible apply Blk.drew | with_reducible apply Blk.latr | (with_reducible refine Blk.far ?_ (by (simp; try omega)) _))) ⟨rfl, by repeat (first | (with_reducible exact Later.refl _) | (with_reducible assumption) | with_reducible apply Later.latr | with_reducible apply Later.alloc | with_reducible apply Later.drew | (with_reducible refine Later.set ?_ (by (simp; try omega)) _))⟩)
set_option maxRecDepth 100000 in
set_option maxHeartbeats 8000000 in
theorem rcsi_n3 (st kind rune : Int) (mark : Bool) (many p0 p1 p2 p3 p4 p5 p6 p7 : Int) (n : Int) (h0 : 126 < n) (hm0 : 0 ≤ many) (hm7 : many ≤ 7) (w : World) : Gives Try.prog 23 #[pv ⟨st, ⟨kind, rune, mark, many, p0, p1, p2, p3, p4, p5, p6, p7⟩⟩, .int .i64 n] w (rv3 ⟨st, ⟨kind, rune, mark, many, p0, p1, p2, p3, p4, p5, p6, p7⟩⟩ .zero false) := by
  apply gives_of
  have hk8 : many < 8 := by omega
  have d1 : decide (48 ≤ n) = true := decide_eq_true (by omega)
  have d2 : decide (n ≤ 57) = false := decide_eq_false (by omega)
  have d59 : (n == 59) = false := by simp; omega
  have d63 : (n == 63) = false := by simp; omega
  have f1 : decide (64 ≤ n) = true := decide_eq_true (by omega)
  have f2 : decide (n ≤ 126) = false := decide_eq_false (by omega)
  (go_enter Try.func23, Try.ntmps23; go_wp2_with (fail))
  (refine fin_three rfl ⟨st, ⟨kind, rune, mark, many, p0, p1, p2, p3, p4, p5, p6, p7⟩⟩ .zero false rfl rfl rfl rfl (by repeat (first | (with_reducible assumption) | (with_reducible exact blk_new (by first | rfl | (simp; done))) | with_reducible apply Blk.alloc | with_reducible apply Blk.drew | with_reducible apply Blk.latr | (with_reducible refine Blk.far ?_ (by (simp; try omega)) _))) (by repeat (first | (with_reducible assumption) | (with_reducible exact blk_new (by first | rfl | (simp; done))) | with_reducible apply Blk.alloc | with_reducible apply Blk.drew | with_reducible apply Blk.latr | (with_reducible refine Blk.far ?_ (by (simp; try omega)) _))) ⟨rfl, by repeat (first | (with_reducible exact Later.refl _) | (with_reducible assumption) | with_reducible apply Later.latr | with_reducible apply Later.alloc | with_reducible apply Later.drew | (with_reducible refine Later.set ?_ (by (simp; try omega)) _))⟩)
set_option maxRecDepth 100000 in
set_option maxHeartbeats 8000000 in
theorem rcsi_n4 (st kind rune : Int) (mark : Bool) (many p0 p1 p2 p3 p4 p5 p6 p7 : Int) (n : Int) (h0 : n = 63) (h1 : many ≠ 0) (hm0 : 0 ≤ many) (hm7 : many ≤ 7) (w : World) : Gives Try.prog 23 #[pv ⟨st, ⟨kind, rune, mark, many, p0, p1, p2, p3, p4, p5, p6, p7⟩⟩, .int .i64 n] w (rv3 ⟨st, ⟨kind, rune, mark, many, p0, p1, p2, p3, p4, p5, p6, p7⟩⟩ .zero false) := by
  apply gives_of
  have hk8 : many < 8 := by omega
  subst h0
  have g2 : (many == 0) = false := by simpa using h1
  (go_enter Try.func23, Try.ntmps23; go_wp2_with (fail))
  (refine fin_three rfl ⟨st, ⟨kind, rune, mark, many, p0, p1, p2, p3, p4, p5, p6, p7⟩⟩ .zero false rfl rfl rfl rfl (by repeat (first | (with_reducible assumption) | (with_reducible exact blk_new (by first | rfl | (simp; done))) | with_reducible apply Blk.alloc | with_reducible apply Blk.drew | with_reducible apply Blk.latr | (with_reducible refine Blk.far ?_ (by (simp; try omega)) _))) (by repeat (first | (with_reducible assumption) | (with_reducible exact blk_new (by first | rfl | (simp; done))) | with_reducible apply Blk.alloc | with_reducible apply Blk.drew | with_reducible apply Blk.latr | (with_reducible refine Blk.far ?_ (by (simp; try omega)) _))) ⟨rfl, by repeat (first | (with_reducible exact Later.refl _) | (with_reducible assumption) | with_reducible apply Later.latr | with_reducible apply Later.alloc | with_reducible apply Later.drew | (with_reducible refine Later.set ?_ (by (simp; try omega)) _))⟩)
set_option maxRecDepth 100000 in
set_option maxHeartbeats 8000000 in
theorem rcsi_n5 (st kind rune : Int) (mark : Bool) (p0 p1 p2 p3 p4 p5 p6 p7 : Int) (n : Int) (h0 : n = 63) (h1 : p0 ≠ 0) (w : World) : Gives Try.prog 23 #[pv ⟨st, ⟨kind, rune, mark, 0, p0, p1, p2, p3, p4, p5, p6, p7⟩⟩, .int .i64 n] w (rv3 ⟨st, ⟨kind, rune, mark, 0, p0, p1, p2, p3, p4, p5, p6, p7⟩⟩ .zero false) := by
  apply gives_of
  subst h0
  have g2 : (p0 == 0) = false := by simpa using h1
  (go_enter Try.func23, Try.ntmps23; go_wp2_with (fail))
  (refine fin_three rfl ⟨st, ⟨kind, rune, mark, 0, p0, p1, p2, p3, p4, p5, p6, p7⟩⟩ .zero false rfl rfl rfl rfl (by repeat (first | (with_reducible assumption) | (with_reducible exact blk_new (by first | rfl | (simp; done))) | with_reducible apply Blk.alloc | with_reducible apply Blk.drew | with_reducible apply Blk.latr | (with_reducible refine Blk.far ?_ (by (simp; try omega)) _))) (by repeat (first | (with_reducible assumption) | (with_reducible exact blk_new (by first | rfl | (simp; done))) | with_reducible apply Blk.alloc | with_reducible apply Blk.drew | with_reducible apply Blk.latr | (with_reducible refine Blk.far ?_ (by (simp; try omega)) _))) ⟨rfl, by repeat (first | (with_reducible exact Later.refl _) | (with_reducible assumption) | with_reducible apply Later.latr | with_reducible apply Later.alloc | with_reducible apply Later.drew | (with_reducible refine Later.set ?_ (by (simp; try omega)) _))⟩)
theorem rcsi23 (p : Pa) (n : Int) (hm0 : 0 ≤ p.a.many) (hm7 : p.a.many ≤ 7) (hok : okA p.a = true) (w : World) : Gives Try.prog 23 #[pv p, .int .i64 n] w (rv (csiP p n)) := by
  obtain ⟨⟨q0a, q0b⟩, ⟨q1a, q1b⟩, ⟨q2a, q2b⟩, ⟨q3a, q3b⟩, ⟨q4a, q4b⟩, ⟨q5a, q5b⟩, ⟨q6a, q6b⟩, ⟨q7a, q7b⟩⟩ := okA_at hok
  clear hok
  obtain ⟨st, kind, rune, mark, many, p0, p1, p2, p3, p4, p5, p6, p7⟩ := p
  dsimp only at *
  unfold csiP
  dsimp only
  split
  · rename_i h
    have hk : many = 0 ∨ many = 1 ∨ many = 2 ∨ many = 3 ∨ many = 4 ∨ many = 5 ∨ many = 6 ∨ many = 7 := by omega
    rcases hk with rfl | rfl | rfl | rfl | rfl | rfl | rfl | rfl
    · exact rcsi_d0 _ _ _ _ _ _ _ _ _ _ _ _ _ h.1 h.2 q0a q0b w
    · exact rcsi_d1 _ _ _ _ _ _ _ _ _ _ _ _ _ h.1 h.2 q1a q1b w
    · exact rcsi_d2 _ _ _ _ _ _ _ _ _ _ _ _ _ h.1 h.2 q2a q2b w
    · exact rcsi_d3 _ _ _ _ _ _ _ _ _ _ _ _ _ h.1 h.2 q3a q3b w
    · exact rcsi_d4 _ _ _ _ _ _ _ _ _ _ _ _ _ h.1 h.2 q4a q4b w
    · exact rcsi_d5 _ _ _ _ _ _ _ _ _ _ _ _ _ h.1 h.2 q5a q5b w
    · exact rcsi_d6 _ _ _ _ _ _ _ _ _ _ _ _ _ h.1 h.2 q6a q6b w
    · exact rcsi_d7 _ _ _ _ _ _ _ _ _ _ _ _ _ h.1 h.2 q7a q7b w
  rename_i hd
  split
  · rename_i h
    exact rcsi_semi _ _ _ _ _ _ _ _ _ _ _ _ _ _ h hm0 hm7 w
  rename_i h59
  split
  · rename_i h
    obtain ⟨h, rfl, rfl⟩ := h
    cases mark
    · exact rcsi_mark_false _ _ _ _ _ _ _ _ _ _ _ h w
    · exact rcsi_mark_true _ _ _ _ _ _ _ _ _ _ _ h w
  rename_i h63
  split
  · rename_i h
    exact rcsi_fin _ _ _ _ _ _ _ _ _ _ _ _ _ _ h.1 h.2 hm0 hm7 w
  rename_i h64
  by_cases g1 : n < 48
  · exact rcsi_n1 _ _ _ _ _ _ _ _ _ _ _ _ _ _ g1 hm0 hm7 w
  by_cases g2 : 126 < n
  · exact rcsi_n3 _ _ _ _ _ _ _ _ _ _ _ _ _ _ g2 hm0 hm7 w
  by_cases g3 : n = 63
  · by_cases g4 : many = 0
    · subst g4
      exact rcsi_n5 _ _ _ _ _ _ _ _ _ _ _ _ _ g3 (fun h => h63 ⟨g3, rfl, h⟩) w
    · exact rcsi_n4 _ _ _ _ _ _ _ _ _ _ _ _ _ _ g3 g4 hm0 hm7 w
  · exact rcsi_n2 _ _ _ _ _ _ _ _ _ _ _ _ _ _ (by omega) (by omega) h59 g3 hm0 hm7 w
end Go.Proofs.Ytjgaljnojhkimaa
