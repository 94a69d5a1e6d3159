/- The walks of package rtt's functions, and the reference's: each gives what the plain function gives. No condition. -/
import Derived.Test.YtogbpmkfnjebcaaTail
import Derived.Test.YtogbpmkfnjebcaaPlain
namespace Go.Proofs.Ytogbpmkfnjebcaa
open Go.RowKit
attribute [local go_sem] ite_max ite_min

set_option maxHeartbeats 400000 in
theorem within16 (n m : Int) (w : World) : Gives Try.prog 16 #[.int .i64 n, .int .i64 m] w (.int .i64 (cl n m)) := by
  apply gives_of
  go_enter Try.func16, Try.ntmps16
  go_wp2
  go_ret
  exact ⟨rfl, Later.refl _⟩

set_option maxHeartbeats 400000 in
theorem time18 (n : Int) (w : World) : Gives Try.prog 18 #[.int .i64 n] w (.int .i64 (cl n 1099511627776)) := by
  apply gives_of
  go_enter Try.func18, Try.ntmps18
  go_wp2
  go_ret
  exact ⟨rfl, Later.refl _⟩

set_option maxHeartbeats 400000 in
theorem time19 (n : Int) (w : World) : Gives Try.prog 19 #[.int .i64 n] w (.int .i64 (cl n 1099511627776)) := by
  apply gives_of
  go_enter Try.func19, Try.ntmps19
  go_wp2_with (first | (go_at_call 16; refine (within16 _ _ _).mono ?_; rintro e w' ⟨rfl, x1, rfl⟩))
  go_ret
  exact ⟨rfl, (Later.refl _).latr _⟩

set_option maxHeartbeats 1000000 in
theorem known17 (l s v : Int) (w : World) :
    Gives Try.prog 17 #[.agg #[.bool true, .int .i64 l, .int .i64 s, .int .i64 v]] w (.agg #[.bool true, .int .i64 (cl l 1099511627776), .int .i64 (cl s 1099511627776), .int .i64 (cl v 1099511627776)]) := by
  apply gives_of
  go_enter Try.func17, Try.ntmps17
  go_wp2_with (fail)
  refine wp_region_calm_tail 13 (by kernel_rfl) (by kernel_rfl) ?_
  simp only [List.take_succ_cons, List.take_zero, List.drop_succ_cons, List.drop_zero]
  repeat (go_big_quiet_step ((go_at_call 19; exact calm_of (time19 _ _))))
  refine wpQuiet_nil ?_
  rintro _ ⟨x, rfl⟩
  go_wp2_with (fail)
  go_returns
  exact ⟨rfl, by repeat (first | (with_reducible exact Later.refl _) | with_reducible apply Later.latr | with_reducible apply Later.alloc | with_reducible apply Later.drew | (with_reducible refine Later.set ?_ (by simp) _))⟩

set_option maxHeartbeats 1000000 in
theorem known17_none (l s v : Int) (w : World) :
    Gives Try.prog 17 #[.agg #[.bool false, .int .i64 l, .int .i64 s, .int .i64 v]] w (.agg #[.bool false, .int .i64 50, .int .i64 50, .int .i64 25]) := by
  apply gives_of
  go_enter Try.func17, Try.ntmps17
  go_wp2_with (fail)
  go_returns
  exact ⟨rfl, by repeat (first | (with_reducible exact Later.refl _) | with_reducible apply Later.latr | with_reducible apply Later.alloc | with_reducible apply Later.drew | (with_reducible refine Later.set ?_ (by simp) _))⟩

end Go.Proofs.Ytogbpmkfnjebcaa
