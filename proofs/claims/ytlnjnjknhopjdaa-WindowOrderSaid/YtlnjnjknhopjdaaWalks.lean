/- The walks of package window's functions: each gives what the plain function gives. No condition but that the bits are 64. -/
import Derived.Test.YtlnjnjknhopjdaaKit
import Derived.Test.YtlnjnjknhopjdaaPlain
namespace Go.Proofs.Ytlnjnjknhopjdaa
open Go.RowKit
attribute [local go_sem] ite_max ite_min

theorem makeFunc_run : ∀ (fn : Fn) (first cap : Array Value) (w : World), (Instr.makeFunc fn first cap).run Try.prog w = .ok (.func fn first cap) w := fun _ _ _ _ => rfl

set_option maxHeartbeats 400000 in
theorem next14 (nx : Int) (sn : Nat) (w : World) : Gives Try.prog 14 #[.agg #[.int .i64 nx, .int .u64 sn]] w (.int .i64 (nextOf nx)) := by
  apply gives_of
  go_enter Try.func14, Try.ntmps14
  go_wp2
  go_ret
  exact ⟨rfl, (Later.refl _).alloc _⟩

set_option maxHeartbeats 400000 in
theorem next13 (nx : Int) (sn : Nat) (w : World) : Gives Try.prog 13 #[.agg #[.int .i64 nx, .int .u64 sn]] w (.int .i64 (nextOf nx)) := by
  apply gives_of
  go_enter Try.func13, Try.ntmps13
  go_wp2
  go_ret
  exact ⟨rfl, (Later.refl _).alloc _⟩

set_option maxHeartbeats 400000 in
theorem seen15 (nx : Int) (sn : Nat) (back : Int) (w : World) (h0 : 0 ≤ back) (hs : sn < 18446744073709551616) :
    Gives Try.prog 15 #[.agg #[.int .i64 nx, .int .u64 sn], .int .i64 back] w (.bool (seenB sn back)) := by
  apply gives_of
  have hb := bit_and sn back.toNat hs
  by_cases h1 : 64 ≤ back
  · have e : seenB sn back = true := by simp [seenB, h1]
    rw [e]
    go_enter Try.func15, Try.ntmps15
    go_wp2
    go_ret
    exact ⟨by simp, (Later.refl _).alloc _⟩
  · have e : seenB sn back = sn.testBit back.toNat := by simp [seenB]; omega
    rw [e]
    go_enter Try.func15, Try.ntmps15
    go_wp2
    go_ret
    exact ⟨by simp, (Later.refl _).alloc _⟩

set_option maxHeartbeats 1000000 in
theorem fresh12 (nx : Int) (sn : Nat) (n : Int) (w : World) (hs : sn < 18446744073709551616) :
    Gives Try.prog 12 #[.agg #[.int .i64 nx, .int .u64 sn], .int .i64 n] w (.bool (freshB nx sn n)) := by
  apply gives_of
  have hmf := makeFunc_run
  have hN := nextOf_bd nx
  by_cases h1 : n < 0
  · have e : freshB nx sn n = false := by simp [freshB]; omega
    rw [e]
    go_enter Try.func12, Try.ntmps12
    go_wp2_with (fail)
    refine wp_region_calm (by kernel_rfl) (by kernel_rfl) ?_
    repeat (go_big_quiet_step (fail))
    refine wpQuiet_nil ?_
    rintro _ ⟨x, rfl⟩
    go_wp2
    go_ret
    exact ⟨rfl, (((Later.refl _).alloc _).alloc _).latr _⟩
  by_cases h2 : 4611686018427387903 < n
  · have e : freshB nx sn n = false := by simp [freshB]; omega
    rw [e]
    go_enter Try.func12, Try.ntmps12
    go_wp2_with (fail)
    refine wp_region_calm (by kernel_rfl) (by kernel_rfl) ?_
    repeat (go_big_quiet_step (fail))
    refine wpQuiet_nil ?_
    rintro _ ⟨x, rfl⟩
    go_wp2
    go_ret
    exact ⟨rfl, (((Later.refl _).alloc _).alloc _).latr _⟩
  by_cases h3 : nextOf nx ≤ n
  · have e : freshB nx sn n = true := by simp [freshB]; omega
    rw [e]
    go_enter Try.func12, Try.ntmps12
    go_wp2_with (fail)
    refine wp_region_calm (by kernel_rfl) (by kernel_rfl) ?_
    repeat (go_big_quiet_step (fail))
    refine wpQuiet_nil ?_
    rintro _ ⟨x, rfl⟩
    go_wp2_with (first | (go_at_call 14; refine (next14 _ _ _).mono ?_; rintro e w' ⟨rfl, x1, rfl⟩))
    go_ret
    exact ⟨by simp, ((((Later.refl _).alloc _).alloc _).latr _).latr _⟩
  · have e : freshB nx sn n = !seenB sn (nextOf nx - 1 - n) := by
      have : decide (0 ≤ n ∧ n ≤ 4611686018427387903) = true := by simp; omega
      simp [freshB, this]; omega
    rw [e]
    go_enter Try.func12, Try.ntmps12
    go_wp2_with (fail)
    refine wp_region_calm (by kernel_rfl) (by kernel_rfl) ?_
    repeat (go_big_quiet_step (fail))
    refine wpQuiet_nil ?_
    rintro _ ⟨x, rfl⟩
    go_wp2_with (first | (go_at_call 14; refine (next14 _ _ _).mono ?_; rintro e w' ⟨rfl, x1, rfl⟩) | (go_at_call 15; refine (seen15 _ _ _ _ (by omega) hs).mono ?_; rintro e w' ⟨rfl, x1, rfl⟩))
    go_ret
    exact ⟨by simp; omega, ((((Later.refl _).alloc _).alloc _).latr _).latr _⟩

end Go.Proofs.Ytlnjnjknhopjdaa
