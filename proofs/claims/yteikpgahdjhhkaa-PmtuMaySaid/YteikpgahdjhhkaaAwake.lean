/- The walk of the statements' head (awake): it answers true. No condition. -/
import Derived.Test.YteikpgahdjhhkaaSearr
namespace Go.Proofs.Yteikpgahdjhhkaa
open Go.RowKit
attribute [local go_sem] ite_max ite_min
attribute [local go_sem] h_lt1 h_lt2 h_lt3 h_lt4 h_lt5 h_lt6 h_eq1 h_qe1 h_eq2 h_qe2 h_eq3 h_qe3 h_eq4 h_qe4 h_eq5 h_qe5 h_eq6 h_qe6

theorem aw_256 (w : World) : Gives Try.prog 19 #[.int .i64 256] w (.tuple #[.int .i64 256, .int .i64 21]) := by
  have := search19 256 21 stop_256.1 w
  rw [stop_256.2] at this
  exact this
theorem aw_5000 (w : World) : Gives Try.prog 19 #[.int .i64 5000] w (.tuple #[.int .i64 1491, .int .i64 7]) := by
  have := search19 5000 7 stop_5000.1 w
  rw [stop_5000.2] at this
  exact this
theorem aw_s (w : World) : Gives Try.prog 21 #[] w (.agg #[.int .i64 256, .int .i64 1500, .int .i64 0, .int .i64 0, .int .i64 0]) := start21 w
theorem aw_a (w : World) : Gives Try.prog 13 #[.agg #[.int .i64 256, .int .i64 1500, .int .i64 0, .int .i64 0, .int .i64 0]] w (.agg #[.int .i64 256, .int .i64 1500, .int .i64 878, .int .i64 0, .int .i64 0]) := by
  have := ask13 start w
  rw [of_ok ok_start] at this
  exact this
theorem aw_p : Ok { z := 256, h := 1500, a := 878, f := 0, b := 0 } := by unfold Ok; dsimp only; omega
theorem aw_c (v : Value) (w : World) (h : Arr w 5 v 1 [.int .i64 0, .int .i64 0, .int .i64 878, .bool false, .bool true]) :
    Gives Try.prog 15 #[.agg #[.int .i64 256, .int .i64 1500, .int .i64 878, .int .i64 0, .int .i64 0], v] w (.agg #[.int .i64 878, .int .i64 1500, .int .i64 0, .int .i64 0, .int .i64 0]) := by
  have := came15 { z := 256, h := 1500, a := 878, f := 0, b := 0 } v [{ k := 0, t := 0, z := 878, e := false, p := true }] w h
  rw [of_ok aw_p] at this
  exact this
theorem aw_n (w : World) : Gives Try.prog 11 #[.agg #[.int .i64 256, .int .i64 1500, .int .i64 0, .int .i64 0, .int .i64 0]] w (.int .i64 878) := by
  have := next11 start w
  rw [of_ok ok_start] at this
  exact this
theorem aw_m (w : World) : Gives Try.prog 11 #[.agg #[.int .i64 256, .int .i64 1500, .int .i64 878, .int .i64 0, .int .i64 0]] w (.int .i64 0) := by
  have := next11 { z := 256, h := 1500, a := 878, f := 0, b := 0 } w
  rw [of_ok aw_p] at this
  exact this
theorem aw_k (w : World) : Gives Try.prog 9 #[.agg #[.int .i64 878, .int .i64 1500, .int .i64 0, .int .i64 0, .int .i64 0]] w (.bool true) := check9 { z := 878, h := 1500, a := 0, f := 0, b := 0 } w
theorem aw_z (w : World) : Gives Try.prog 9 #[.agg #[.int .i64 0, .int .i64 0, .int .i64 0, .int .i64 0, .int .i64 0]] w (.bool false) := check9 { z := 0, h := 0, a := 0, f := 0, b := 0 } w

set_option maxHeartbeats 4000000 in
theorem awake8 (w : World) : Gives Try.prog 8 #[] w (.bool true) := by
  apply gives_of
  (go_enter Try.func8, Try.ntmps8; go_wp2_with (fail))
  (refine (aw_256 _).mono ?_; rintro e w1 ⟨rfl, x1, rfl⟩; go_wp2_with (fail))
  (refine (aw_5000 _).mono ?_; rintro e w1 ⟨rfl, x1, rfl⟩; go_wp2_with (fail))
  (refine (aw_s _).mono ?_; rintro e w1 ⟨rfl, x1, rfl⟩; go_wp2_with (fail))
  refine (aw_a _).later.mono ?_
  rintro e w1 ⟨rfl, hl1⟩
  have HL1 := hid (Later.trans (a := w) (by repeat (first | (with_reducible exact Later.refl _) | with_reducible apply Later.latr | with_reducible apply Later.alloc | with_reducible apply Later.drew | (with_reducible refine Later.set ?_ (by (simp; try omega)) _))) hl1)
  clear hl1
  go_wp2_with (fail)
  refine (aw_c _ _ (arr_new (by simp) rfl (by decide))).later.mono ?_
  rintro e w2 ⟨rfl, hl2⟩
  have HL2 := hid (((HL1.out.alloc _).alloc _).trans hl2)
  have HP2 := hid (((Blk.new w1 23 #[.int .i64 256, .int .i64 1500, .int .i64 878, .int .i64 0, .int .i64 0]).alloc _).later hl2)
  clear hl2
  (obtain ⟨hcp0, hcp1, hcp2, hcp3, hcp4, hfp0, hfp1, hfp2, hfp3, hfp4, hgp⟩ := Blk.at5 (HP2.out))
  have HQ2 := hid (Blk.new w2 23 #[.int .i64 878, .int .i64 1500, .int .i64 0, .int .i64 0, .int .i64 0])
  go_wp2_with (fail)
  (refine (aw_s _).mono ?_; rintro e w1 ⟨rfl, x1, rfl⟩; go_wp2_with (fail))
  (refine (aw_s _).mono ?_; rintro e w1 ⟨rfl, x1, rfl⟩; go_wp2_with (fail))
  (refine (aw_n _).mono ?_; rintro e w1 ⟨rfl, x1, rfl⟩; go_wp2_with (fail))
  (refine (aw_m _).mono ?_; rintro e w1 ⟨rfl, x1, rfl⟩; go_wp2_with (fail))
  (refine (aw_k _).mono ?_; rintro e w1 ⟨rfl, x1, rfl⟩; go_wp2_with (fail))
  (refine (aw_z _).mono ?_; rintro e w1 ⟨rfl, x1, rfl⟩; go_wp2_with (fail))
  go_ret
  exact ⟨rfl, by repeat (first | (with_reducible exact Later.refl _) | (with_reducible exact HL2.out) | with_reducible apply Later.latr | with_reducible apply Later.alloc | with_reducible apply Later.drew | (with_reducible refine Later.set ?_ (by (simp; try omega)) _))⟩
end Go.Proofs.Yteikpgahdjhhkaa
