/- The walk of a step in a sequence: what is no digit. Of a parser that may be. -/
import Derived.Test.YtjgaljnojhkimaaWalks
namespace Go.Proofs.Ytjgaljnojhkimaa
open Go.RowKit
attribute [local go_sem] ite_max ite_min
attribute [local go_sem] h_lt1 h_lt2 h_lt3 h_lt4 h_lt5 h_lt6 h_eq1 h_qe1 h_eq2 h_qe2 h_eq3 h_qe3 h_eq4 h_qe4 h_eq5 h_qe5 h_eq6 h_qe6

set_option maxRecDepth 100000 in
set_option maxHeartbeats 8000000 in
theorem csi_semi (st kind rune : Int) (mark : Bool) (many p0 p1 p2 p3 p4 p5 p6 p7 : Int) (n : Int) (hn : n = 59) (hm0 : 0 ≤ many) (hm7 : many ≤ 7) (w : World) : Gives Try.prog 20 #[pv ⟨st, ⟨kind, rune, mark, many, p0, p1, p2, p3, p4, p5, p6, p7⟩⟩, .int .i64 n] w (rv3 ⟨st, ⟨kind, rune, mark, (min (many + 1) 7), p0, p1, p2, p3, p4, p5, p6, p7⟩⟩ .zero false) := by
  apply gives_of
  have hk8 : many < 8 := by omega
  subst hn
  (go_enter Try.func20, Try.ntmps20; go_wp2_with (fail))
  go_region
  go_wp2_with (fail)
  (refine (none17 ⟨st, ⟨kind, rune, mark, (min (many + 1) 7), p0, p1, p2, p3, p4, p5, p6, p7⟩⟩ _).later.mono ?_; rintro e W1 ⟨rfl, hl1⟩; have hB4 := (show Blk _ (w.heap.size + 1) 27 (pc .zero) from (by repeat (first | (with_reducible assumption) | (with_reducible exact blk_new (by first | rfl | (simp; done))) | with_reducible apply Blk.alloc | with_reducible apply Blk.drew | with_reducible apply Blk.latr | (with_reducible refine Blk.far ?_ (by (simp; try omega)) _)))).later hl1; have hB5 := (show Blk _ (w.heap.size + 1 + 1) 25 (ac .zero) from (by repeat (first | (with_reducible assumption) | (with_reducible exact blk_new (by first | rfl | (simp; done))) | with_reducible apply Blk.alloc | with_reducible apply Blk.drew | with_reducible apply Blk.latr | (with_reducible refine Blk.far ?_ (by (simp; try omega)) _)))).later hl1; have hL := Later.trans (a := w) (by repeat (first | (with_reducible exact Later.refl _) | with_reducible apply Later.latr | with_reducible apply Later.alloc | with_reducible apply Later.drew | (with_reducible refine Later.set ?_ (by (simp; try omega)) _))) hl1; have hne : w.heap.size + 1 ≠ w.heap.size + 1 + 1 := (by omega); have hg4 : w.heap.size ≤ w.heap.size + 1 := (by omega); have hg5 : w.heap.size ≤ w.heap.size + 1 + 1 := (by omega); (generalize w.heap.size + 1 + 1 = g5 at *); (generalize w.heap.size + 1 = g4 at *); have ht4 := hB4.there (o := 0) (n := 13) (by decide); have ht5 := hB5.there (o := 0) (n := 12) (by decide); (simp only []); (repeat go_step); exact fin_sets rfl hB4 rfl hB5 rfl hne ⟨st, ⟨kind, rune, mark, (min (many + 1) 7), p0, p1, p2, p3, p4, p5, p6, p7⟩⟩ .zero false rfl rfl rfl rfl ⟨rfl, later_sets (later_sets hL hg4 _ _) hg5 _ _⟩)
set_option maxRecDepth 100000 in
set_option maxHeartbeats 8000000 in
theorem csi_mark (st kind rune : Int) (mark : Bool) (p1 p2 p3 p4 p5 p6 p7 n : Int) (hn : n = 63) (w : World) : Gives Try.prog 20 #[pv ⟨st, ⟨kind, rune, mark, 0, 0, p1, p2, p3, p4, p5, p6, p7⟩⟩, .int .i64 n] w (rv3 ⟨st, ⟨kind, rune, true, 0, 0, p1, p2, p3, p4, p5, p6, p7⟩⟩ .zero false) := by
  apply gives_of
  subst hn
  (go_enter Try.func20, Try.ntmps20; go_wp2_with (fail))
  go_region
  go_wp2_with (fail)
  (refine (none17 ⟨st, ⟨kind, rune, true, 0, 0, p1, p2, p3, p4, p5, p6, p7⟩⟩ _).later.mono ?_; rintro e W1 ⟨rfl, hl1⟩; have hB4 := (show Blk _ (w.heap.size + 1) 27 (pc .zero) from (by repeat (first | (with_reducible assumption) | (with_reducible exact blk_new (by first | rfl | (simp; done))) | with_reducible apply Blk.alloc | with_reducible apply Blk.drew | with_reducible apply Blk.latr | (with_reducible refine Blk.far ?_ (by (simp; try omega)) _)))).later hl1; have hB5 := (show Blk _ (w.heap.size + 1 + 1) 25 (ac .zero) from (by repeat (first | (with_reducible assumption) | (with_reducible exact blk_new (by first | rfl | (simp; done))) | with_reducible apply Blk.alloc | with_reducible apply Blk.drew | with_reducible apply Blk.latr | (with_reducible refine Blk.far ?_ (by (simp; try omega)) _)))).later hl1; have hL := Later.trans (a := w) (by repeat (first | (with_reducible exact Later.refl _) | with_reducible apply Later.latr | with_reducible apply Later.alloc | with_reducible apply Later.drew | (with_reducible refine Later.set ?_ (by (simp; try omega)) _))) hl1; have hne : w.heap.size + 1 ≠ w.heap.size + 1 + 1 := (by omega); have hg4 : w.heap.size ≤ w.heap.size + 1 := (by omega); have hg5 : w.heap.size ≤ w.heap.size + 1 + 1 := (by omega); (generalize w.heap.size + 1 + 1 = g5 at *); (generalize w.heap.size + 1 = g4 at *); have ht4 := hB4.there (o := 0) (n := 13) (by decide); have ht5 := hB5.there (o := 0) (n := 12) (by decide); (simp only []); (repeat go_step); exact fin_sets rfl hB4 rfl hB5 rfl hne ⟨st, ⟨kind, rune, true, 0, 0, p1, p2, p3, p4, p5, p6, p7⟩⟩ .zero false rfl rfl rfl rfl ⟨rfl, later_sets (later_sets hL hg4 _ _) hg5 _ _⟩)
set_option maxRecDepth 100000 in
set_option maxHeartbeats 8000000 in
theorem csi_fin (st kind rune : Int) (mark : Bool) (many p0 p1 p2 p3 p4 p5 p6 p7 : Int) (n : Int) (h0 : 64 ≤ n) (h1 : n ≤ 126) (hm0 : 0 ≤ many) (hm7 : many ≤ 7) (w : World) : Gives Try.prog 20 #[pv ⟨st, ⟨kind, rune, mark, many, p0, p1, p2, p3, p4, p5, p6, p7⟩⟩, .int .i64 n] w (rv3 .zero ⟨4, n, mark, many, p0, p1, p2, p3, p4, p5, p6, p7⟩ true) := by
  apply gives_of
  have hk8 : many < 8 := by omega
  have f1 : decide (64 ≤ n) = true := decide_eq_true (by omega)
  have f2 : decide (n < 127) = true := decide_eq_true (by omega)
  have d63' : (n == 63) = false := by simp; omega
  have d59' : (n == 59) = false := by simp; omega
  have d1 : decide (48 ≤ n) = true := decide_eq_true (by omega)
  have d2 : decide (n ≤ 57) = false := decide_eq_false (by omega)
  (go_enter Try.func20, Try.ntmps20; go_wp2_with (fail))
  go_region
  go_wp2_with (fail)
  go_region
  all_goals
    go_wp2_with (fail)
    (refine fin_three rfl .zero ⟨4, n, mark, many, p0, p1, p2, p3, p4, p5, p6, p7⟩ true rfl rfl rfl rfl (by repeat (first | (with_reducible assumption) | (with_reducible exact blk_new (by first | rfl | (simp; done))) | with_reducible apply Blk.alloc | with_reducible apply Blk.drew | with_reducible apply Blk.latr | (with_reducible refine Blk.far ?_ (by (simp; try omega)) _))) (by repeat (first | (with_reducible assumption) | (with_reducible exact blk_new (by first | rfl | (simp; done))) | with_reducible apply Blk.alloc | with_reducible apply Blk.drew | with_reducible apply Blk.latr | (with_reducible refine Blk.far ?_ (by (simp; try omega)) _))) ⟨rfl, by repeat (first | (with_reducible exact Later.refl _) | (with_reducible assumption) | with_reducible apply Later.latr | with_reducible apply Later.alloc | with_reducible apply Later.drew | (with_reducible refine Later.set ?_ (by (simp; try omega)) _))⟩)
set_option maxRecDepth 100000 in
set_option maxHeartbeats 8000000 in
theorem csi_n1 (st kind rune : Int) (mark : Bool) (many p0 p1 p2 p3 p4 p5 p6 p7 : Int) (n : Int) (h0 : n < 48) (hm0 : 0 ≤ many) (hm7 : many ≤ 7) (w : World) : Gives Try.prog 20 #[pv ⟨st, ⟨kind, rune, mark, many, p0, p1, p2, p3, p4, p5, p6, p7⟩⟩, .int .i64 n] w (rv3 ⟨st, ⟨kind, rune, mark, many, p0, p1, p2, p3, p4, p5, p6, p7⟩⟩ .zero false) := by
  apply gives_of
  have hk8 : many < 8 := by omega
  have d1 : decide (48 ≤ n) = false := decide_eq_false (by omega)
  have d59 : (n == 59) = false := by simp; omega
  have d63 : (n == 63) = false := by simp; omega
  have f1 : decide (64 ≤ n) = false := decide_eq_false (by omega)
  (go_enter Try.func20, Try.ntmps20; go_wp2_with (fail))
  go_region
  go_wp2_with (fail)
  (refine (none17 ⟨st, ⟨kind, rune, mark, many, p0, p1, p2, p3, p4, p5, p6, p7⟩⟩ _).later.mono ?_; rintro e W1 ⟨rfl, hl1⟩; have hB4 := (show Blk _ (w.heap.size + 1) 27 (pc .zero) from (by repeat (first | (with_reducible assumption) | (with_reducible exact blk_new (by first | rfl | (simp; done))) | with_reducible apply Blk.alloc | with_reducible apply Blk.drew | with_reducible apply Blk.latr | (with_reducible refine Blk.far ?_ (by (simp; try omega)) _)))).later hl1; have hB5 := (show Blk _ (w.heap.size + 1 + 1) 25 (ac .zero) from (by repeat (first | (with_reducible assumption) | (with_reducible exact blk_new (by first | rfl | (simp; done))) | with_reducible apply Blk.alloc | with_reducible apply Blk.drew | with_reducible apply Blk.latr | (with_reducible refine Blk.far ?_ (by (simp; try omega)) _)))).later hl1; have hL := Later.trans (a := w) (by repeat (first | (with_reducible exact Later.refl _) | with_reducible apply Later.latr | with_reducible apply Later.alloc | with_reducible apply Later.drew | (with_reducible refine Later.set ?_ (by (simp; try omega)) _))) hl1; have hne : w.heap.size + 1 ≠ w.heap.size + 1 + 1 := (by omega); have hg4 : w.heap.size ≤ w.heap.size + 1 := (by omega); have hg5 : w.heap.size ≤ w.heap.size + 1 + 1 := (by omega); (generalize w.heap.size + 1 + 1 = g5 at *); (generalize w.heap.size + 1 = g4 at *); have ht4 := hB4.there (o := 0) (n := 13) (by decide); have ht5 := hB5.there (o := 0) (n := 12) (by decide); (simp only []); (repeat go_step); exact fin_sets rfl hB4 rfl hB5 rfl hne ⟨st, ⟨kind, rune, mark, many, p0, p1, p2, p3, p4, p5, p6, p7⟩⟩ .zero false rfl rfl rfl rfl ⟨rfl, later_sets (later_sets hL hg4 _ _) hg5 _ _⟩)
set_option maxRecDepth 100000 in
set_option maxHeartbeats 8000000 in
theorem csi_n2 (st kind rune : Int) (mark : Bool) (many p0 p1 p2 p3 p4 p5 p6 p7 : Int) (n : Int) (h0 : 57 < n) (h1 : n < 64) (h2 : n ≠ 59) (h3 : n ≠ 63) (hm0 : 0 ≤ many) (hm7 : many ≤ 7) (w : World) : Gives Try.prog 20 #[pv ⟨st, ⟨kind, rune, mark, many, p0, p1, p2, p3, p4, p5, p6, p7⟩⟩, .int .i64 n] w (rv3 ⟨st, ⟨kind, rune, mark, many, p0, p1, p2, p3, p4, p5, p6, p7⟩⟩ .zero false) := by
  apply gives_of
  have hk8 : many < 8 := by omega
  have d1 : decide (48 ≤ n) = true := decide_eq_true (by omega)
  have d2 : decide (n ≤ 57) = false := decide_eq_false (by omega)
  have d59 : (n == 59) = false := by simp; omega
  have d63 : (n == 63) = false := by simp; omega
  have f1 : decide (64 ≤ n) = false := decide_eq_false (by omega)
  (go_enter Try.func20, Try.ntmps20; go_wp2_with (fail))
  go_region
  go_wp2_with (fail)
  (refine (none17 ⟨st, ⟨kind, rune, mark, many, p0, p1, p2, p3, p4, p5, p6, p7⟩⟩ _).later.mono ?_; rintro e W1 ⟨rfl, hl1⟩; have hB4 := (show Blk _ (w.heap.size + 1) 27 (pc .zero) from (by repeat (first | (with_reducible assumption) | (with_reducible exact blk_new (by first | rfl | (simp; done))) | with_reducible apply Blk.alloc | with_reducible apply Blk.drew | with_reducible apply Blk.latr | (with_reducible refine Blk.far ?_ (by (simp; try omega)) _)))).later hl1; have hB5 := (show Blk _ (w.heap.size + 1 + 1) 25 (ac .zero) from (by repeat (first | (with_reducible assumption) | (with_reducible exact blk_new (by first | rfl | (simp; done))) | with_reducible apply Blk.alloc | with_reducible apply Blk.drew | with_reducible apply Blk.latr | (with_reducible refine Blk.far ?_ (by (simp; try omega)) _)))).later hl1; have hL := Later.trans (a := w) (by repeat (first | (with_reducible exact Later.refl _) | with_reducible apply Later.latr | with_reducible apply Later.alloc | with_reducible apply Later.drew | (with_reducible refine Later.set ?_ (by (simp; try omega)) _))) hl1; have hne : w.heap.size + 1 ≠ w.heap.size + 1 + 1 := (by omega); have hg4 : w.heap.size ≤ w.heap.size + 1 := (by omega); have hg5 : w.heap.size ≤ w.heap.size + 1 + 1 := (by omega); (generalize w.heap.size + 1 + 1 = g5 at *); (generalize w.heap.size + 1 = g4 at *); have ht4 := hB4.there (o := 0) (n := 13) (by decide); have ht5 := hB5.there (o := 0) (n := 12) (by decide); (simp only []); (repeat go_step); exact fin_sets rfl hB4 rfl hB5 rfl hne ⟨st, ⟨kind, rune, mark, many, p0, p1, p2, p3, p4, p5, p6, p7⟩⟩ .zero false rfl rfl rfl rfl ⟨rfl, later_sets (later_sets hL hg4 _ _) hg5 _ _⟩)
set_option maxRecDepth 100000 in
set_option maxHeartbeats 8000000 in
theorem csi_n3 (st kind rune : Int) (mark : Bool) (many p0 p1 p2 p3 p4 p5 p6 p7 : Int) (n : Int) (h0 : 126 < n) (hm0 : 0 ≤ many) (hm7 : many ≤ 7) (w : World) : Gives Try.prog 20 #[pv ⟨st, ⟨kind, rune, mark, many, p0, p1, p2, p3, p4, p5, p6, p7⟩⟩, .int .i64 n] w (rv3 ⟨st, ⟨kind, rune, mark, many, p0, p1, p2, p3, p4, p5, p6, p7⟩⟩ .zero false) := by
  apply gives_of
  have hk8 : many < 8 := by omega
  have d1 : decide (48 ≤ n) = true := decide_eq_true (by omega)
  have d2 : decide (n ≤ 57) = false := decide_eq_false (by omega)
  have d59 : (n == 59) = false := by simp; omega
  have d63 : (n == 63) = false := by simp; omega
  have f1 : decide (64 ≤ n) = true := decide_eq_true (by omega)
  have f2 : decide (n < 127) = false := decide_eq_false (by omega)
  (go_enter Try.func20, Try.ntmps20; go_wp2_with (fail))
  go_region
  go_wp2_with (fail)
  (refine (none17 ⟨st, ⟨kind, rune, mark, many, p0, p1, p2, p3, p4, p5, p6, p7⟩⟩ _).later.mono ?_; rintro e W1 ⟨rfl, hl1⟩; have hB4 := (show Blk _ (w.heap.size + 1) 27 (pc .zero) from (by repeat (first | (with_reducible assumption) | (with_reducible exact blk_new (by first | rfl | (simp; done))) | with_reducible apply Blk.alloc | with_reducible apply Blk.drew | with_reducible apply Blk.latr | (with_reducible refine Blk.far ?_ (by (simp; try omega)) _)))).later hl1; have hB5 := (show Blk _ (w.heap.size + 1 + 1) 25 (ac .zero) from (by repeat (first | (with_reducible assumption) | (with_reducible exact blk_new (by first | rfl | (simp; done))) | with_reducible apply Blk.alloc | with_reducible apply Blk.drew | with_reducible apply Blk.latr | (with_reducible refine Blk.far ?_ (by (simp; try omega)) _)))).later hl1; have hL := Later.trans (a := w) (by repeat (first | (with_reducible exact Later.refl _) | with_reducible apply Later.latr | with_reducible apply Later.alloc | with_reducible apply Later.drew | (with_reducible refine Later.set ?_ (by (simp; try omega)) _))) hl1; have hne : w.heap.size + 1 ≠ w.heap.size + 1 + 1 := (by omega); have hg4 : w.heap.size ≤ w.heap.size + 1 := (by omega); have hg5 : w.heap.size ≤ w.heap.size + 1 + 1 := (by omega); (generalize w.heap.size + 1 + 1 = g5 at *); (generalize w.heap.size + 1 = g4 at *); have ht4 := hB4.there (o := 0) (n := 13) (by decide); have ht5 := hB5.there (o := 0) (n := 12) (by decide); (simp only []); (repeat go_step); exact fin_sets rfl hB4 rfl hB5 rfl hne ⟨st, ⟨kind, rune, mark, many, p0, p1, p2, p3, p4, p5, p6, p7⟩⟩ .zero false rfl rfl rfl rfl ⟨rfl, later_sets (later_sets hL hg4 _ _) hg5 _ _⟩)
set_option maxRecDepth 100000 in
set_option maxHeartbeats 8000000 in
theorem csi_n4 (st kind rune : Int) (mark : Bool) (many p0 p1 p2 p3 p4 p5 p6 p7 : Int) (n : Int) (h0 : n = 63) (h1 : many ≠ 0) (hm0 : 0 ≤ many) (hm7 : many ≤ 7) (w : World) : Gives Try.prog 20 #[pv ⟨st, ⟨kind, rune, mark, many, p0, p1, p2, p3, p4, p5, p6, p7⟩⟩, .int .i64 n] w (rv3 ⟨st, ⟨kind, rune, mark, many, p0, p1, p2, p3, p4, p5, p6, p7⟩⟩ .zero false) := by
  apply gives_of
  have hk8 : many < 8 := by omega
  subst h0
  have g2 : (many == 0) = false := by simpa using h1
  (go_enter Try.func20, Try.ntmps20; go_wp2_with (fail))
  go_region
  go_wp2_with (fail)
  (refine (none17 ⟨st, ⟨kind, rune, mark, many, p0, p1, p2, p3, p4, p5, p6, p7⟩⟩ _).later.mono ?_; rintro e W1 ⟨rfl, hl1⟩; have hB4 := (show Blk _ (w.heap.size + 1) 27 (pc .zero) from (by repeat (first | (with_reducible assumption) | (with_reducible exact blk_new (by first | rfl | (simp; done))) | with_reducible apply Blk.alloc | with_reducible apply Blk.drew | with_reducible apply Blk.latr | (with_reducible refine Blk.far ?_ (by (simp; try omega)) _)))).later hl1; have hB5 := (show Blk _ (w.heap.size + 1 + 1) 25 (ac .zero) from (by repeat (first | (with_reducible assumption) | (with_reducible exact blk_new (by first | rfl | (simp; done))) | with_reducible apply Blk.alloc | with_reducible apply Blk.drew | with_reducible apply Blk.latr | (with_reducible refine Blk.far ?_ (by (simp; try omega)) _)))).later hl1; have hL := Later.trans (a := w) (by repeat (first | (with_reducible exact Later.refl _) | with_reducible apply Later.latr | with_reducible apply Later.alloc | with_reducible apply Later.drew | (with_reducible refine Later.set ?_ (by (simp; try omega)) _))) hl1; have hne : w.heap.size + 1 ≠ w.heap.size + 1 + 1 := (by omega); have hg4 : w.heap.size ≤ w.heap.size + 1 := (by omega); have hg5 : w.heap.size ≤ w.heap.size + 1 + 1 := (by omega); (generalize w.heap.size + 1 + 1 = g5 at *); (generalize w.heap.size + 1 = g4 at *); have ht4 := hB4.there (o := 0) (n := 13) (by decide); have ht5 := hB5.there (o := 0) (n := 12) (by decide); (simp only []); (repeat go_step); exact fin_sets rfl hB4 rfl hB5 rfl hne ⟨st, ⟨kind, rune, mark, many, p0, p1, p2, p3, p4, p5, p6, p7⟩⟩ .zero false rfl rfl rfl rfl ⟨rfl, later_sets (later_sets hL hg4 _ _) hg5 _ _⟩)
set_option maxRecDepth 100000 in
set_option maxHeartbeats 8000000 in
theorem csi_n5 (st kind rune : Int) (mark : Bool) (p0 p1 p2 p3 p4 p5 p6 p7 : Int) (n : Int) (h0 : n = 63) (h1 : p0 ≠ 0) (w : World) : Gives Try.prog 20 #[pv ⟨st, ⟨kind, rune, mark, 0, p0, p1, p2, p3, p4, p5, p6, p7⟩⟩, .int .i64 n] w (rv3 ⟨st, ⟨kind, rune, mark, 0, p0, p1, p2, p3, p4, p5, p6, p7⟩⟩ .zero false) := by
  apply gives_of
  subst h0
  have g2 : (p0 == 0) = false := by simpa using h1
  (go_enter Try.func20, Try.ntmps20; go_wp2_with (fail))
  go_region
  go_wp2_with (fail)
  (refine (none17 ⟨st, ⟨kind, rune, mark, 0, p0, p1, p2, p3, p4, p5, p6, p7⟩⟩ _).later.mono ?_; rintro e W1 ⟨rfl, hl1⟩; have hB4 := (show Blk _ (w.heap.size + 1) 27 (pc .zero) from (by repeat (first | (with_reducible assumption) | (with_reducible exact blk_new (by first | rfl | (simp; done))) | with_reducible apply Blk.alloc | with_reducible apply Blk.drew | with_reducible apply Blk.latr | (with_reducible refine Blk.far ?_ (by (simp; try omega)) _)))).later hl1; have hB5 := (show Blk _ (w.heap.size + 1 + 1) 25 (ac .zero) from (by repeat (first | (with_reducible assumption) | (with_reducible exact blk_new (by first | rfl | (simp; done))) | with_reducible apply Blk.alloc | with_reducible apply Blk.drew | with_reducible apply Blk.latr | (with_reducible refine Blk.far ?_ (by (simp; try omega)) _)))).later hl1; have hL := Later.trans (a := w) (by repeat (first | (with_reducible exact Later.refl _) | with_reducible apply Later.latr | with_reducible apply Later.alloc | with_reducible apply Later.drew | (with_reducible refine Later.set ?_ (by (simp; try omega)) _))) hl1; have hne : w.heap.size + 1 ≠ w.heap.size + 1 + 1 := (by omega); have hg4 : w.heap.size ≤ w.heap.size + 1 := (by omega); have hg5 : w.heap.size ≤ w.heap.size + 1 + 1 := (by omega); (generalize w.heap.size + 1 + 1 = g5 at *); (generalize w.heap.size + 1 = g4 at *); have ht4 := hB4.there (o := 0) (n := 13) (by decide); have ht5 := hB5.there (o := 0) (n := 12) (by decide); (simp only []); (repeat go_step); exact fin_sets rfl hB4 rfl hB5 rfl hne ⟨st, ⟨kind, rune, mark, 0, p0, p1, p2, p3, p4, p5, p6, p7⟩⟩ .zero false rfl rfl rfl rfl ⟨rfl, later_sets (later_sets hL hg4 _ _) hg5 _ _⟩)
end Go.Proofs.Ytjgaljnojhkimaa
