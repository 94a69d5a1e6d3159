/- The walk of 'of': a parser that may be: the code's. No condition. -/
import Derived.Test.YtjgaljnojhkimaaOf
namespace Go.Proofs.Ytjgaljnojhkimaa
open Go.RowKit
attribute [local go_sem] ite_max ite_min
attribute [local go_sem] h_lt1 h_lt2 h_lt3 h_lt4 h_lt5 h_lt6 h_eq1 h_qe1 h_eq2 h_qe2 h_eq3 h_qe3 h_eq4 h_qe4 h_eq5 h_qe5 h_eq6 h_qe6

set_option maxRecDepth 100000 in
set_option maxHeartbeats 8000000 in
theorem ofA_good2 (mark : Bool) (many p0 p1 p2 p3 p4 p5 p6 p7 : Int) (m0 : 0 ≤ many) (m7 : many ≤ 7) (a0 : 0 ≤ p0) (b0 : p0 ≤ 9999) (a1 : 0 ≤ p1) (b1 : p1 ≤ 9999) (a2 : 0 ≤ p2) (b2 : p2 ≤ 9999) (a3 : 0 ≤ p3) (b3 : p3 ≤ 9999) (a4 : 0 ≤ p4) (b4 : p4 ≤ 9999) (a5 : 0 ≤ p5) (b5 : p5 ≤ 9999) (a6 : 0 ≤ p6) (b6 : p6 ≤ 9999) (a7 : 0 ≤ p7) (b7 : p7 ≤ 9999) (w : World) : Gives Try.prog 16 #[pv ⟨2, ⟨0, 0, mark, many, p0, p1, p2, p3, p4, p5, p6, p7⟩⟩] w (pv ⟨2, ⟨0, 0, mark, many, p0, p1, p2, p3, p4, p5, p6, p7⟩⟩) := by
  apply gives_of
  have d3 : decide (many < 0) = false := decide_eq_false (by omega)
  have d4 : decide (8 ≤ many) = false := decide_eq_false (by omega)
  have u0 : decide (p0 < 0) = false := decide_eq_false (by omega)
  have v0 : decide (9999 < p0) = false := decide_eq_false (by omega)
  have u1 : decide (p1 < 0) = false := decide_eq_false (by omega)
  have v1 : decide (9999 < p1) = false := decide_eq_false (by omega)
  have u2 : decide (p2 < 0) = false := decide_eq_false (by omega)
  have v2 : decide (9999 < p2) = false := decide_eq_false (by omega)
  have u3 : decide (p3 < 0) = false := decide_eq_false (by omega)
  have v3 : decide (9999 < p3) = false := decide_eq_false (by omega)
  have u4 : decide (p4 < 0) = false := decide_eq_false (by omega)
  have v4 : decide (9999 < p4) = false := decide_eq_false (by omega)
  have u5 : decide (p5 < 0) = false := decide_eq_false (by omega)
  have v5 : decide (9999 < p5) = false := decide_eq_false (by omega)
  have u6 : decide (p6 < 0) = false := decide_eq_false (by omega)
  have v6 : decide (9999 < p6) = false := decide_eq_false (by omega)
  have u7 : decide (p7 < 0) = false := decide_eq_false (by omega)
  have v7 : decide (9999 < p7) = false := decide_eq_false (by omega)
  (go_enter Try.func16, Try.ntmps16; go_wp2_with (fail))
  refine wp_loop_rounds 9 ?_
  (iterate 9 (rw [rounds_succ]; go_wp2_with (fail)))
  exact fin_cell rfl rfl rfl (load44 ⟨2, ⟨0, 0, mark, many, p0, p1, p2, p3, p4, p5, p6, p7⟩⟩ ((by repeat (first | (with_reducible assumption) | (with_reducible exact blk_new (by first | rfl | (simp; done))) | with_reducible apply Blk.alloc | with_reducible apply Blk.drew | with_reducible apply Blk.latr | (with_reducible refine Blk.far ?_ (by (simp; try omega)) _))))) ⟨rfl, by repeat (first | (with_reducible exact Later.refl _) | with_reducible apply Later.latr | with_reducible apply Later.alloc | with_reducible apply Later.drew | (with_reducible refine Later.set ?_ (by (simp; try omega)) _))⟩
set_option maxRecDepth 100000 in
set_option maxHeartbeats 8000000 in
theorem ofA_goodz (st : Int) (s0 : 0 ≤ st) (s3 : st ≤ 3) (s2 : st ≠ 2) (w : World) : Gives Try.prog 16 #[pv (.at st)] w (pv (.at st)) := by
  apply gives_of
  have d1 : decide (st < 0) = false := decide_eq_false (by omega)
  have d2 : decide (3 < st) = false := decide_eq_false (by omega)
  have s2' : (st == 2) = false := by simpa using s2
  (go_enter Try.func16, Try.ntmps16; go_wp2_with (fail))
  refine wp_loop_rounds 9 ?_
  (iterate 9 (rw [rounds_succ]; go_wp2_with (fail)))
  exact fin_cell rfl rfl rfl (load44 (.at st) ((by repeat (first | (with_reducible assumption) | (with_reducible exact blk_new (by first | rfl | (simp; done))) | with_reducible apply Blk.alloc | with_reducible apply Blk.drew | with_reducible apply Blk.latr | (with_reducible refine Blk.far ?_ (by (simp; try omega)) _))))) ⟨rfl, by repeat (first | (with_reducible exact Later.refl _) | with_reducible apply Later.latr | with_reducible apply Later.alloc | with_reducible apply Later.drew | (with_reducible refine Later.set ?_ (by (simp; try omega)) _))⟩
set_option maxRecDepth 100000 in
set_option maxHeartbeats 8000000 in
theorem ofA_b1 (st kind rune : Int) (mark : Bool) (many p0 p1 p2 p3 p4 p5 p6 p7 : Int) (h : st < 0) (w : World) : Gives Try.prog 16 #[pv ⟨st, ⟨kind, rune, mark, many, p0, p1, p2, p3, p4, p5, p6, p7⟩⟩] w (pv .zero) := by
  apply gives_of
  have d1 : decide (st < 0) = true := decide_eq_true h
  (go_enter Try.func16, Try.ntmps16; go_wp2_with (fail))
  refine wp_loop_rounds 9 ?_
  (iterate 9 (rw [rounds_succ]; go_wp2_with (fail)))
  exact fin_cell rfl rfl rfl (load44 .zero ((by repeat (first | (with_reducible assumption) | (with_reducible exact blk_new (by first | rfl | (simp; done))) | with_reducible apply Blk.alloc | with_reducible apply Blk.drew | with_reducible apply Blk.latr | (with_reducible refine Blk.far ?_ (by (simp; try omega)) _))))) ⟨rfl, by repeat (first | (with_reducible exact Later.refl _) | with_reducible apply Later.latr | with_reducible apply Later.alloc | with_reducible apply Later.drew | (with_reducible refine Later.set ?_ (by (simp; try omega)) _))⟩
set_option maxRecDepth 100000 in
set_option maxHeartbeats 8000000 in
theorem ofA_b2 (st kind rune : Int) (mark : Bool) (many p0 p1 p2 p3 p4 p5 p6 p7 : Int) (_h0 : 0 ≤ st) (h : 3 < st) (w : World) : Gives Try.prog 16 #[pv ⟨st, ⟨kind, rune, mark, many, p0, p1, p2, p3, p4, p5, p6, p7⟩⟩] w (pv .zero) := by
  apply gives_of
  have d1 : decide (st < 0) = false := decide_eq_false (by omega)
  have d2 : decide (3 < st) = true := decide_eq_true h
  (go_enter Try.func16, Try.ntmps16; go_wp2_with (fail))
  refine wp_loop_rounds 9 ?_
  (iterate 9 (rw [rounds_succ]; go_wp2_with (fail)))
  exact fin_cell rfl rfl rfl (load44 .zero ((by repeat (first | (with_reducible assumption) | (with_reducible exact blk_new (by first | rfl | (simp; done))) | with_reducible apply Blk.alloc | with_reducible apply Blk.drew | with_reducible apply Blk.latr | (with_reducible refine Blk.far ?_ (by (simp; try omega)) _))))) ⟨rfl, by repeat (first | (with_reducible exact Later.refl _) | with_reducible apply Later.latr | with_reducible apply Later.alloc | with_reducible apply Later.drew | (with_reducible refine Later.set ?_ (by (simp; try omega)) _))⟩
set_option maxRecDepth 100000 in
set_option maxHeartbeats 8000000 in
theorem ofA_b3 (st kind rune : Int) (mark : Bool) (many p0 p1 p2 p3 p4 p5 p6 p7 : Int) (s0 : 0 ≤ st) (s3 : st ≤ 3) (h : many < 0) (w : World) : Gives Try.prog 16 #[pv ⟨st, ⟨kind, rune, mark, many, p0, p1, p2, p3, p4, p5, p6, p7⟩⟩] w (pv .zero) := by
  apply gives_of
  have d1 : decide (st < 0) = false := decide_eq_false (by omega)
  have d2 : decide (3 < st) = false := decide_eq_false (by omega)
  have d3 : decide (many < 0) = true := decide_eq_true h
  (go_enter Try.func16, Try.ntmps16; go_wp2_with (fail))
  refine wp_loop_rounds 9 ?_
  (iterate 9 (rw [rounds_succ]; go_wp2_with (fail)))
  exact fin_cell rfl rfl rfl (load44 .zero ((by repeat (first | (with_reducible assumption) | (with_reducible exact blk_new (by first | rfl | (simp; done))) | with_reducible apply Blk.alloc | with_reducible apply Blk.drew | with_reducible apply Blk.latr | (with_reducible refine Blk.far ?_ (by (simp; try omega)) _))))) ⟨rfl, by repeat (first | (with_reducible exact Later.refl _) | with_reducible apply Later.latr | with_reducible apply Later.alloc | with_reducible apply Later.drew | (with_reducible refine Later.set ?_ (by (simp; try omega)) _))⟩
set_option maxRecDepth 100000 in
set_option maxHeartbeats 8000000 in
theorem ofA_b4 (st kind rune : Int) (mark : Bool) (many p0 p1 p2 p3 p4 p5 p6 p7 : Int) (s0 : 0 ≤ st) (s3 : st ≤ 3) (h : 8 ≤ many) (w : World) : Gives Try.prog 16 #[pv ⟨st, ⟨kind, rune, mark, many, p0, p1, p2, p3, p4, p5, p6, p7⟩⟩] w (pv .zero) := by
  apply gives_of
  have d1 : decide (st < 0) = false := decide_eq_false (by omega)
  have d2 : decide (3 < st) = false := decide_eq_false (by omega)
  have d3 : decide (many < 0) = false := decide_eq_false (by omega)
  have d4 : decide (8 ≤ many) = true := decide_eq_true h
  (go_enter Try.func16, Try.ntmps16; go_wp2_with (fail))
  refine wp_loop_rounds 9 ?_
  (iterate 9 (rw [rounds_succ]; go_wp2_with (fail)))
  exact fin_cell rfl rfl rfl (load44 .zero ((by repeat (first | (with_reducible assumption) | (with_reducible exact blk_new (by first | rfl | (simp; done))) | with_reducible apply Blk.alloc | with_reducible apply Blk.drew | with_reducible apply Blk.latr | (with_reducible refine Blk.far ?_ (by (simp; try omega)) _))))) ⟨rfl, by repeat (first | (with_reducible exact Later.refl _) | with_reducible apply Later.latr | with_reducible apply Later.alloc | with_reducible apply Later.drew | (with_reducible refine Later.set ?_ (by (simp; try omega)) _))⟩
set_option maxRecDepth 100000 in
set_option maxHeartbeats 8000000 in
theorem ofA_b5 (st kind rune : Int) (mark : Bool) (many p0 p1 p2 p3 p4 p5 p6 p7 : Int) (s0 : 0 ≤ st) (s3 : st ≤ 3) (m0 : 0 ≤ many) (m7 : many ≤ 7) (h : kind ≠ 0) (w : World) : Gives Try.prog 16 #[pv ⟨st, ⟨kind, rune, mark, many, p0, p1, p2, p3, p4, p5, p6, p7⟩⟩] w (pv .zero) := by
  apply gives_of
  have d1 : decide (st < 0) = false := decide_eq_false (by omega)
  have d2 : decide (3 < st) = false := decide_eq_false (by omega)
  have d3 : decide (many < 0) = false := decide_eq_false (by omega)
  have d4 : decide (8 ≤ many) = false := decide_eq_false (by omega)
  have d5 : (kind != 0) = true := by simpa using h
  (go_enter Try.func16, Try.ntmps16; go_wp2_with (fail))
  refine wp_loop_rounds 9 ?_
  (iterate 9 (rw [rounds_succ]; go_wp2_with (fail)))
  exact fin_cell rfl rfl rfl (load44 .zero ((by repeat (first | (with_reducible assumption) | (with_reducible exact blk_new (by first | rfl | (simp; done))) | with_reducible apply Blk.alloc | with_reducible apply Blk.drew | with_reducible apply Blk.latr | (with_reducible refine Blk.far ?_ (by (simp; try omega)) _))))) ⟨rfl, by repeat (first | (with_reducible exact Later.refl _) | with_reducible apply Later.latr | with_reducible apply Later.alloc | with_reducible apply Later.drew | (with_reducible refine Later.set ?_ (by (simp; try omega)) _))⟩
set_option maxRecDepth 100000 in
set_option maxHeartbeats 8000000 in
theorem ofA_b6 (st rune : Int) (mark : Bool) (many p0 p1 p2 p3 p4 p5 p6 p7 : Int) (s0 : 0 ≤ st) (s3 : st ≤ 3) (m0 : 0 ≤ many) (m7 : many ≤ 7) (h : rune ≠ 0) (w : World) : Gives Try.prog 16 #[pv ⟨st, ⟨0, rune, mark, many, p0, p1, p2, p3, p4, p5, p6, p7⟩⟩] w (pv .zero) := by
  apply gives_of
  have d1 : decide (st < 0) = false := decide_eq_false (by omega)
  have d2 : decide (3 < st) = false := decide_eq_false (by omega)
  have d3 : decide (many < 0) = false := decide_eq_false (by omega)
  have d4 : decide (8 ≤ many) = false := decide_eq_false (by omega)
  have d6 : (rune != 0) = true := by simpa using h
  (go_enter Try.func16, Try.ntmps16; go_wp2_with (fail))
  refine wp_loop_rounds 9 ?_
  (iterate 9 (rw [rounds_succ]; go_wp2_with (fail)))
  exact fin_cell rfl rfl rfl (load44 .zero ((by repeat (first | (with_reducible assumption) | (with_reducible exact blk_new (by first | rfl | (simp; done))) | with_reducible apply Blk.alloc | with_reducible apply Blk.drew | with_reducible apply Blk.latr | (with_reducible refine Blk.far ?_ (by (simp; try omega)) _))))) ⟨rfl, by repeat (first | (with_reducible exact Later.refl _) | with_reducible apply Later.latr | with_reducible apply Later.alloc | with_reducible apply Later.drew | (with_reducible refine Later.set ?_ (by (simp; try omega)) _))⟩
set_option maxRecDepth 100000 in
set_option maxHeartbeats 8000000 in
theorem ofA_b8 (st : Int) (mark : Bool) (many p0 p1 p2 p3 p4 p5 p6 p7 : Int) (s0 : 0 ≤ st) (s3 : st ≤ 3) (m0 : 0 ≤ many) (m7 : many ≤ 7)  (a0 : 0 ≤ p0) (b0 : p0 ≤ 9999) (a1 : 0 ≤ p1) (b1 : p1 ≤ 9999) (a2 : 0 ≤ p2) (b2 : p2 ≤ 9999) (a3 : 0 ≤ p3) (b3 : p3 ≤ 9999) (a4 : 0 ≤ p4) (b4 : p4 ≤ 9999) (a5 : 0 ≤ p5) (b5 : p5 ≤ 9999) (a6 : 0 ≤ p6) (b6 : p6 ≤ 9999) (a7 : 0 ≤ p7) (b7 : p7 ≤ 9999) (s2 : st ≠ 2) (h : (⟨0, 0, mark, many, p0, p1, p2, p3, p4, p5, p6, p7⟩ : Ac) ≠ .zero) (w : World) : Gives Try.prog 16 #[pv ⟨st, ⟨0, 0, mark, many, p0, p1, p2, p3, p4, p5, p6, p7⟩⟩] w (pv .zero) := by
  apply gives_of
  have d1 : decide (st < 0) = false := decide_eq_false (by omega)
  have d2 : decide (3 < st) = false := decide_eq_false (by omega)
  have d3 : decide (many < 0) = false := decide_eq_false (by omega)
  have d4 : decide (8 ≤ many) = false := decide_eq_false (by omega)
  have u0 : decide (p0 < 0) = false := decide_eq_false (by omega)
  have v0 : decide (9999 < p0) = false := decide_eq_false (by omega)
  have u1 : decide (p1 < 0) = false := decide_eq_false (by omega)
  have v1 : decide (9999 < p1) = false := decide_eq_false (by omega)
  have u2 : decide (p2 < 0) = false := decide_eq_false (by omega)
  have v2 : decide (9999 < p2) = false := decide_eq_false (by omega)
  have u3 : decide (p3 < 0) = false := decide_eq_false (by omega)
  have v3 : decide (9999 < p3) = false := decide_eq_false (by omega)
  have u4 : decide (p4 < 0) = false := decide_eq_false (by omega)
  have v4 : decide (9999 < p4) = false := decide_eq_false (by omega)
  have u5 : decide (p5 < 0) = false := decide_eq_false (by omega)
  have v5 : decide (9999 < p5) = false := decide_eq_false (by omega)
  have u6 : decide (p6 < 0) = false := decide_eq_false (by omega)
  have v6 : decide (9999 < p6) = false := decide_eq_false (by omega)
  have u7 : decide (p7 < 0) = false := decide_eq_false (by omega)
  have v7 : decide (9999 < p7) = false := decide_eq_false (by omega)
  have s2' : (st != 2) = true := by simpa using s2
  have he : eqA ⟨0, 0, mark, many, p0, p1, p2, p3, p4, p5, p6, p7⟩ ⟨0, 0, false, 0, 0, 0, 0, 0, 0, 0, 0, 0⟩ = false := decide_eq_false h
  (go_enter Try.func16, Try.ntmps16; go_wp2_with (fail))
  refine wp_loop_rounds 9 ?_
  (iterate 9 (rw [rounds_succ]; go_wp2_with (fail)))
  exact fin_cell rfl rfl rfl (load44 .zero ((by repeat (first | (with_reducible assumption) | (with_reducible exact blk_new (by first | rfl | (simp; done))) | with_reducible apply Blk.alloc | with_reducible apply Blk.drew | with_reducible apply Blk.latr | (with_reducible refine Blk.far ?_ (by (simp; try omega)) _))))) ⟨rfl, by repeat (first | (with_reducible exact Later.refl _) | with_reducible apply Later.latr | with_reducible apply Later.alloc | with_reducible apply Later.drew | (with_reducible refine Later.set ?_ (by (simp; try omega)) _))⟩
end Go.Proofs.Ytjgaljnojhkimaa
