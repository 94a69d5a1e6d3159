/- The walk of the statements' head (awake), and of RttTells: each answers true. No condition. -/
import Derived.Test.YtogbpmkfnjebcaaRun
import Derived.Test.YtogbpmkfnjebcaaProbe
namespace Go.Proofs.Ytogbpmkfnjebcaa
open Go.RowKit

theorem aw_run : (runR [(100, 0), (60, 10)] r0).has = true ∧ (runR [(100, 0), (60, 10)] r0).l = 60 ∧ (runR [(100, 0), (60, 10)] r0).s = 95 ∧ (runR [(100, 0), (60, 10)] r0).v = 47 := by decide +kernel
theorem aw_p0 : probeR r0 0 = 175 := by decide +kernel
theorem aw_p1 : probeR r0 1 = 350 := by decide +kernel
theorem aw_l0 : lostR r0 0 = 56 := by decide +kernel
theorem aw_l1 : lostR { has := true, l := 60, s := 95, v := 47 } 160 = 180 := by decide +kernel
theorem call_run (v : Value) (W : World) (h : Arr W 2 v 2 (pairs [(100, 0), (60, 10)])) : Gives Try.prog 15 #[v] W (.agg #[.bool true, .int .i64 60, .int .i64 95, .int .i64 47]) := by
  have := run15 v [(100, 0), (60, 10)] W h
  rw [aw_run.1, aw_run.2.1, aw_run.2.2.1, aw_run.2.2.2] at this
  exact this
theorem call_p0 (W : World) : Gives Try.prog 13 #[.agg #[.bool false, .int .i64 0, .int .i64 0, .int .i64 0], .int .i64 0] W (.int .i64 175) := by
  have := probe13 r0 0 W; rw [aw_p0] at this; exact this
theorem call_p1 (W : World) : Gives Try.prog 13 #[.agg #[.bool false, .int .i64 0, .int .i64 0, .int .i64 0], .int .i64 1] W (.int .i64 350) := by
  have := probe13 r0 1 W; rw [aw_p1] at this; exact this
theorem call_l0 (W : World) : Gives Try.prog 11 #[.agg #[.bool false, .int .i64 0, .int .i64 0, .int .i64 0], .int .i64 0] W (.int .i64 56) := by
  have := lost11 r0 0 W; rw [aw_l0] at this; exact this
theorem call_l1 (W : World) : Gives Try.prog 11 #[.agg #[.bool true, .int .i64 60, .int .i64 95, .int .i64 47], .int .i64 160] W (.int .i64 180) := by
  have := lost11 { has := true, l := 60, s := 95, v := 47 } 160 W; rw [aw_l1] at this; exact this

set_option maxHeartbeats 2000000 in
theorem awake8 (w : World) : Gives Try.prog 8 #[] w (.bool true) := by
  apply gives_of
  go_enter Try.func8, Try.ntmps8
  go_wp2_with (fail)
  refine (call_run _ _ (Arr.lits (b := w.heap.size) rfl (by decide) (by simp) ?_)).mono ?_
  · intro j u hu
    rw [World.cell?_alloc_new, ← hu]
    simp [pairs]
  rintro e w1 ⟨rfl, x1, rfl⟩
  go_wp2_with (fail)
  refine (call_p0 _).mono ?_
  rintro e w1 ⟨rfl, x2, rfl⟩
  go_wp2_with (fail)
  refine (call_p1 _).mono ?_
  rintro e w1 ⟨rfl, x3, rfl⟩
  go_wp2_with (fail)
  refine (call_l0 _).mono ?_
  rintro e w1 ⟨rfl, x4, rfl⟩
  go_wp2_with (fail)
  refine (call_l1 _).mono ?_
  rintro e w1 ⟨rfl, x5, rfl⟩
  go_wp2_with (fail)
  go_ret
  exact ⟨rfl, by repeat (first | (with_reducible exact Later.refl _) | with_reducible apply Later.latr | with_reducible apply Later.alloc | with_reducible apply Later.drew)⟩

set_option maxHeartbeats 4000000 in
theorem tells3 (r : Rt) (latest delay often : Int) (w : World) :
    Calls Try.prog 3 #[.agg #[.bool r.has, .int .i64 r.l, .int .i64 r.s, .int .i64 r.v], .int .i64 latest, .int .i64 delay, .int .i64 often] w fun e w' => e = .returned (.bool true) ∧ Later w w' := by
  have h9 := step9 r latest delay
  have h10 := step10 r latest delay
  have h11 := lost11 r latest
  have h12 := lost12 r latest
  have h13 := probe13 r often
  have h14 := probe14 r often
  generalize stepR r latest delay = q at *
  generalize lostR r latest = l at *
  generalize probeR r often = p at *
  have H9 := hid h9
  have H10 := hid h10
  have H11 := hid h11
  have H12 := hid h12
  have H13 := hid h13
  have H14 := hid h14
  clear h9 h10 h11 h12 h13 h14
  go_enter Try.func3, Try.ntmps3
  go_wp2_with (fail)
  refine (awake8 _).mono ?_
  rintro e w1 ⟨rfl, x1, rfl⟩
  go_wp2_with (fail)
  refine wp_region_calm (by kernel_rfl) (by kernel_rfl) ?_
  repeat (go_big_quiet_step ((first | (go_at_call 9; exact calm_of (H9.out _)) | (go_at_call 10; exact calm_of (H10.out _)) | (go_at_call 11; exact calm_of (H11.out _)) | (go_at_call 12; exact calm_of (H12.out _)) | (go_at_call 13; exact calm_of (H13.out _)) | (go_at_call 14; exact calm_of (H14.out _)))))
  refine wpQuiet_nil ?_
  rintro _ ⟨x, rfl⟩
  go_wp2
  go_ret
  exact ⟨rfl, by repeat (first | (with_reducible exact Later.refl _) | with_reducible apply Later.latr | with_reducible apply Later.alloc | with_reducible apply Later.drew)⟩
end Go.Proofs.Ytogbpmkfnjebcaa
