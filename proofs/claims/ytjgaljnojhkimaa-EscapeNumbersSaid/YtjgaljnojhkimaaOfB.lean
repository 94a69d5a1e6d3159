/- The walk of 'of': a parser that may be: the code's. No condition. -/
import Derived.Test.YtjgaljnojhkimaaOf
namespace Go.Proofs.Ytjgaljnojhkimaa
open Go.RowKit
attribute [local go_sem] ite_max ite_min
attribute [local go_sem] h_lt1 h_lt2 h_lt3 h_lt4 h_lt5 h_lt6 h_eq1 h_qe1 h_eq2 h_qe2 h_eq3 h_qe3 h_eq4 h_qe4 h_eq5 h_qe5 h_eq6 h_qe6

set_option maxRecDepth 100000 in
set_option maxHeartbeats 8000000 in
theorem ofA_p0l (st : Int) (mark : Bool) (many p0 p1 p2 p3 p4 p5 p6 p7 : Int) (s0 : 0 ≤ st) (s3 : st ≤ 3) (m0 : 0 ≤ many) (m7 : many ≤ 7) (h : p0 < 0) (w : World) : Gives Try.prog 16 #[pv ⟨st, ⟨0, 0, mark, many, p0, p1, p2, p3, p4, p5, p6, p7⟩⟩] w (pv .zero) := by
  apply gives_of
  have d1 : decide (st < 0) = false := decide_eq_false (by omega)
  have d2 : decide (3 < st) = false := decide_eq_false (by omega)
  have d3 : decide (many < 0) = false := decide_eq_false (by omega)
  have d4 : decide (8 ≤ many) = false := decide_eq_false (by omega)
  have u0 : decide (p0 < 0) = true := decide_eq_true h
  (go_enter Try.func16, Try.ntmps16; go_wp2_with (fail))
  refine wp_loop_rounds 9 ?_
  (iterate 9 (rw [rounds_succ]; go_wp2_with (fail)))
  exact fin_cell rfl rfl rfl (load44 .zero ((by repeat (first | (with_reducible assumption) | (with_reducible exact blk_new (by first | rfl | (simp; done))) | with_reducible apply Blk.alloc | with_reducible apply Blk.drew | with_reducible apply Blk.latr | (with_reducible refine Blk.far ?_ (by (simp; try omega)) _))))) ⟨rfl, by repeat (first | (with_reducible exact Later.refl _) | with_reducible apply Later.latr | with_reducible apply Later.alloc | with_reducible apply Later.drew | (with_reducible refine Later.set ?_ (by (simp; try omega)) _))⟩
set_option maxRecDepth 100000 in
set_option maxHeartbeats 8000000 in
theorem ofA_p0g (st : Int) (mark : Bool) (many p0 p1 p2 p3 p4 p5 p6 p7 : Int) (s0 : 0 ≤ st) (s3 : st ≤ 3) (m0 : 0 ≤ many) (m7 : many ≤ 7) (_h0 : 0 ≤ p0) (h : 9999 < p0) (w : World) : Gives Try.prog 16 #[pv ⟨st, ⟨0, 0, mark, many, p0, p1, p2, p3, p4, p5, p6, p7⟩⟩] w (pv .zero) := by
  apply gives_of
  have d1 : decide (st < 0) = false := decide_eq_false (by omega)
  have d2 : decide (3 < st) = false := decide_eq_false (by omega)
  have d3 : decide (many < 0) = false := decide_eq_false (by omega)
  have d4 : decide (8 ≤ many) = false := decide_eq_false (by omega)
  have u0 : decide (p0 < 0) = false := decide_eq_false (by omega)
  have v0 : decide (9999 < p0) = true := decide_eq_true h
  (go_enter Try.func16, Try.ntmps16; go_wp2_with (fail))
  refine wp_loop_rounds 9 ?_
  (iterate 9 (rw [rounds_succ]; go_wp2_with (fail)))
  exact fin_cell rfl rfl rfl (load44 .zero ((by repeat (first | (with_reducible assumption) | (with_reducible exact blk_new (by first | rfl | (simp; done))) | with_reducible apply Blk.alloc | with_reducible apply Blk.drew | with_reducible apply Blk.latr | (with_reducible refine Blk.far ?_ (by (simp; try omega)) _))))) ⟨rfl, by repeat (first | (with_reducible exact Later.refl _) | with_reducible apply Later.latr | with_reducible apply Later.alloc | with_reducible apply Later.drew | (with_reducible refine Later.set ?_ (by (simp; try omega)) _))⟩
set_option maxRecDepth 100000 in
set_option maxHeartbeats 8000000 in
theorem ofA_p1l (st : Int) (mark : Bool) (many p0 p1 p2 p3 p4 p5 p6 p7 : Int) (s0 : 0 ≤ st) (s3 : st ≤ 3) (m0 : 0 ≤ many) (m7 : many ≤ 7) (a0 : 0 ≤ p0) (b0 : p0 ≤ 9999)(h : p1 < 0) (w : World) : Gives Try.prog 16 #[pv ⟨st, ⟨0, 0, mark, many, p0, p1, p2, p3, p4, p5, p6, p7⟩⟩] w (pv .zero) := by
  apply gives_of
  have d1 : decide (st < 0) = false := decide_eq_false (by omega)
  have d2 : decide (3 < st) = false := decide_eq_false (by omega)
  have d3 : decide (many < 0) = false := decide_eq_false (by omega)
  have d4 : decide (8 ≤ many) = false := decide_eq_false (by omega)
  have u0 : decide (p0 < 0) = false := decide_eq_false (by omega)
  have v0 : decide (9999 < p0) = false := decide_eq_false (by omega)
  have u1 : decide (p1 < 0) = true := decide_eq_true h
  (go_enter Try.func16, Try.ntmps16; go_wp2_with (fail))
  refine wp_loop_rounds 9 ?_
  (iterate 9 (rw [rounds_succ]; go_wp2_with (fail)))
  exact fin_cell rfl rfl rfl (load44 .zero ((by repeat (first | (with_reducible assumption) | (with_reducible exact blk_new (by first | rfl | (simp; done))) | with_reducible apply Blk.alloc | with_reducible apply Blk.drew | with_reducible apply Blk.latr | (with_reducible refine Blk.far ?_ (by (simp; try omega)) _))))) ⟨rfl, by repeat (first | (with_reducible exact Later.refl _) | with_reducible apply Later.latr | with_reducible apply Later.alloc | with_reducible apply Later.drew | (with_reducible refine Later.set ?_ (by (simp; try omega)) _))⟩
set_option maxRecDepth 100000 in
set_option maxHeartbeats 8000000 in
theorem ofA_p1g (st : Int) (mark : Bool) (many p0 p1 p2 p3 p4 p5 p6 p7 : Int) (s0 : 0 ≤ st) (s3 : st ≤ 3) (m0 : 0 ≤ many) (m7 : many ≤ 7) (a0 : 0 ≤ p0) (b0 : p0 ≤ 9999)(_h0 : 0 ≤ p1) (h : 9999 < p1) (w : World) : Gives Try.prog 16 #[pv ⟨st, ⟨0, 0, mark, many, p0, p1, p2, p3, p4, p5, p6, p7⟩⟩] w (pv .zero) := by
  apply gives_of
  have d1 : decide (st < 0) = false := decide_eq_false (by omega)
  have d2 : decide (3 < st) = false := decide_eq_false (by omega)
  have d3 : decide (many < 0) = false := decide_eq_false (by omega)
  have d4 : decide (8 ≤ many) = false := decide_eq_false (by omega)
  have u0 : decide (p0 < 0) = false := decide_eq_false (by omega)
  have v0 : decide (9999 < p0) = false := decide_eq_false (by omega)
  have u1 : decide (p1 < 0) = false := decide_eq_false (by omega)
  have v1 : decide (9999 < p1) = true := decide_eq_true h
  (go_enter Try.func16, Try.ntmps16; go_wp2_with (fail))
  refine wp_loop_rounds 9 ?_
  (iterate 9 (rw [rounds_succ]; go_wp2_with (fail)))
  exact fin_cell rfl rfl rfl (load44 .zero ((by repeat (first | (with_reducible assumption) | (with_reducible exact blk_new (by first | rfl | (simp; done))) | with_reducible apply Blk.alloc | with_reducible apply Blk.drew | with_reducible apply Blk.latr | (with_reducible refine Blk.far ?_ (by (simp; try omega)) _))))) ⟨rfl, by repeat (first | (with_reducible exact Later.refl _) | with_reducible apply Later.latr | with_reducible apply Later.alloc | with_reducible apply Later.drew | (with_reducible refine Later.set ?_ (by (simp; try omega)) _))⟩
set_option maxRecDepth 100000 in
set_option maxHeartbeats 8000000 in
theorem ofA_p2l (st : Int) (mark : Bool) (many p0 p1 p2 p3 p4 p5 p6 p7 : Int) (s0 : 0 ≤ st) (s3 : st ≤ 3) (m0 : 0 ≤ many) (m7 : many ≤ 7) (a0 : 0 ≤ p0) (b0 : p0 ≤ 9999) (a1 : 0 ≤ p1) (b1 : p1 ≤ 9999)(h : p2 < 0) (w : World) : Gives Try.prog 16 #[pv ⟨st, ⟨0, 0, mark, many, p0, p1, p2, p3, p4, p5, p6, p7⟩⟩] w (pv .zero) := by
  apply gives_of
  have d1 : decide (st < 0) = false := decide_eq_false (by omega)
  have d2 : decide (3 < st) = false := decide_eq_false (by omega)
  have d3 : decide (many < 0) = false := decide_eq_false (by omega)
  have d4 : decide (8 ≤ many) = false := decide_eq_false (by omega)
  have u0 : decide (p0 < 0) = false := decide_eq_false (by omega)
  have v0 : decide (9999 < p0) = false := decide_eq_false (by omega)
  have u1 : decide (p1 < 0) = false := decide_eq_false (by omega)
  have v1 : decide (9999 < p1) = false := decide_eq_false (by omega)
  have u2 : decide (p2 < 0) = true := decide_eq_true h
  (go_enter Try.func16, Try.ntmps16; go_wp2_with (fail))
  refine wp_loop_rounds 9 ?_
  (iterate 9 (rw [rounds_succ]; go_wp2_with (fail)))
  exact fin_cell rfl rfl rfl (load44 .zero ((by repeat (first | (with_reducible assumption) | (with_reducible exact blk_new (by first | rfl | (simp; done))) | with_reducible apply Blk.alloc | with_reducible apply Blk.drew | with_reducible apply Blk.latr | (with_reducible refine Blk.far ?_ (by (simp; try omega)) _))))) ⟨rfl, by repeat (first | (with_reducible exact Later.refl _) | with_reducible apply Later.latr | with_reducible apply Later.alloc | with_reducible apply Later.drew | (with_reducible refine Later.set ?_ (by (simp; try omega)) _))⟩
set_option maxRecDepth 100000 in
set_option maxHeartbeats 8000000 in
theorem ofA_p2g (st : Int) (mark : Bool) (many p0 p1 p2 p3 p4 p5 p6 p7 : Int) (s0 : 0 ≤ st) (s3 : st ≤ 3) (m0 : 0 ≤ many) (m7 : many ≤ 7) (a0 : 0 ≤ p0) (b0 : p0 ≤ 9999) (a1 : 0 ≤ p1) (b1 : p1 ≤ 9999)(_h0 : 0 ≤ p2) (h : 9999 < p2) (w : World) : Gives Try.prog 16 #[pv ⟨st, ⟨0, 0, mark, many, p0, p1, p2, p3, p4, p5, p6, p7⟩⟩] w (pv .zero) := by
  apply gives_of
  have d1 : decide (st < 0) = false := decide_eq_false (by omega)
  have d2 : decide (3 < st) = false := decide_eq_false (by omega)
  have d3 : decide (many < 0) = false := decide_eq_false (by omega)
  have d4 : decide (8 ≤ many) = false := decide_eq_false (by omega)
  have u0 : decide (p0 < 0) = false := decide_eq_false (by omega)
  have v0 : decide (9999 < p0) = false := decide_eq_false (by omega)
  have u1 : decide (p1 < 0) = false := decide_eq_false (by omega)
  have v1 : decide (9999 < p1) = false := decide_eq_false (by omega)
  have u2 : decide (p2 < 0) = false := decide_eq_false (by omega)
  have v2 : decide (9999 < p2) = true := decide_eq_true h
  (go_enter Try.func16, Try.ntmps16; go_wp2_with (fail))
  refine wp_loop_rounds 9 ?_
  (iterate 9 (rw [rounds_succ]; go_wp2_with (fail)))
  exact fin_cell rfl rfl rfl (load44 .zero ((by repeat (first | (with_reducible assumption) | (with_reducible exact blk_new (by first | rfl | (simp; done))) | with_reducible apply Blk.alloc | with_reducible apply Blk.drew | with_reducible apply Blk.latr | (with_reducible refine Blk.far ?_ (by (simp; try omega)) _))))) ⟨rfl, by repeat (first | (with_reducible exact Later.refl _) | with_reducible apply Later.latr | with_reducible apply Later.alloc | with_reducible apply Later.drew | (with_reducible refine Later.set ?_ (by (simp; try omega)) _))⟩
set_option maxRecDepth 100000 in
set_option maxHeartbeats 8000000 in
theorem ofA_p3l (st : Int) (mark : Bool) (many p0 p1 p2 p3 p4 p5 p6 p7 : Int) (s0 : 0 ≤ st) (s3 : st ≤ 3) (m0 : 0 ≤ many) (m7 : many ≤ 7) (a0 : 0 ≤ p0) (b0 : p0 ≤ 9999) (a1 : 0 ≤ p1) (b1 : p1 ≤ 9999) (a2 : 0 ≤ p2) (b2 : p2 ≤ 9999)(h : p3 < 0) (w : World) : Gives Try.prog 16 #[pv ⟨st, ⟨0, 0, mark, many, p0, p1, p2, p3, p4, p5, p6, p7⟩⟩] w (pv .zero) := by
  apply gives_of
  have d1 : decide (st < 0) = false := decide_eq_false (by omega)
  have d2 : decide (3 < st) = false := decide_eq_false (by omega)
  have d3 : decide (many < 0) = false := decide_eq_false (by omega)
  have d4 : decide (8 ≤ many) = false := decide_eq_false (by omega)
  have u0 : decide (p0 < 0) = false := decide_eq_false (by omega)
  have v0 : decide (9999 < p0) = false := decide_eq_false (by omega)
  have u1 : decide (p1 < 0) = false := decide_eq_false (by omega)
  have v1 : decide (9999 < p1) = false := decide_eq_false (by omega)
  have u2 : decide (p2 < 0) = false := decide_eq_false (by omega)
  have v2 : decide (9999 < p2) = false := decide_eq_false (by omega)
  have u3 : decide (p3 < 0) = true := decide_eq_true h
  (go_enter Try.func16, Try.ntmps16; go_wp2_with (fail))
  refine wp_loop_rounds 9 ?_
  (iterate 9 (rw [rounds_succ]; go_wp2_with (fail)))
  exact fin_cell rfl rfl rfl (load44 .zero ((by repeat (first | (with_reducible assumption) | (with_reducible exact blk_new (by first | rfl | (simp; done))) | with_reducible apply Blk.alloc | with_reducible apply Blk.drew | with_reducible apply Blk.latr | (with_reducible refine Blk.far ?_ (by (simp; try omega)) _))))) ⟨rfl, by repeat (first | (with_reducible exact Later.refl _) | with_reducible apply Later.latr | with_reducible apply Later.alloc | with_reducible apply Later.drew | (with_reducible refine Later.set ?_ (by (simp; try omega)) _))⟩
set_option maxRecDepth 100000 in
set_option maxHeartbeats 8000000 in
theorem ofA_p3g (st : Int) (mark : Bool) (many p0 p1 p2 p3 p4 p5 p6 p7 : Int) (s0 : 0 ≤ st) (s3 : st ≤ 3) (m0 : 0 ≤ many) (m7 : many ≤ 7) (a0 : 0 ≤ p0) (b0 : p0 ≤ 9999) (a1 : 0 ≤ p1) (b1 : p1 ≤ 9999) (a2 : 0 ≤ p2) (b2 : p2 ≤ 9999)(_h0 : 0 ≤ p3) (h : 9999 < p3) (w : World) : Gives Try.prog 16 #[pv ⟨st, ⟨0, 0, mark, many, p0, p1, p2, p3, p4, p5, p6, p7⟩⟩] w (pv .zero) := by
  apply gives_of
  have d1 : decide (st < 0) = false := decide_eq_false (by omega)
  have d2 : decide (3 < st) = false := decide_eq_false (by omega)
  have d3 : decide (many < 0) = false := decide_eq_false (by omega)
  have d4 : decide (8 ≤ many) = false := decide_eq_false (by omega)
  have u0 : decide (p0 < 0) = false := decide_eq_false (by omega)
  have v0 : decide (9999 < p0) = false := decide_eq_false (by omega)
  have u1 : decide (p1 < 0) = false := decide_eq_false (by omega)
  have v1 : decide (9999 < p1) = false := decide_eq_false (by omega)
  have u2 : decide (p2 < 0) = false := decide_eq_false (by omega)
  have v2 : decide (9999 < p2) = false := decide_eq_false (by omega)
  have u3 : decide (p3 < 0) = false := decide_eq_false (by omega)
  have v3 : decide (9999 < p3) = true := decide_eq_true h
  (go_enter Try.func16, Try.ntmps16; go_wp2_with (fail))
  refine wp_loop_rounds 9 ?_
  (iterate 9 (rw [rounds_succ]; go_wp2_with (fail)))
  exact fin_cell rfl rfl rfl (load44 .zero ((by repeat (first | (with_reducible assumption) | (with_reducible exact blk_new (by first | rfl | (simp; done))) | with_reducible apply Blk.alloc | with_reducible apply Blk.drew | with_reducible apply Blk.latr | (with_reducible refine Blk.far ?_ (by (simp; try omega)) _))))) ⟨rfl, by repeat (first | (with_reducible exact Later.refl _) | with_reducible apply Later.latr | with_reducible apply Later.alloc | with_reducible apply Later.drew | (with_reducible refine Later.set ?_ (by (simp; try omega)) _))⟩
end Go.Proofs.Ytjgaljnojhkimaa
