/- The walk of the statement WindowMarks: it answers true. No condition but that the bits are 64. -/
import Derived.Test.YtlnjnjknhopjdaaAwake
import Derived.Test.YtlnjnjknhopjdaaLaws
namespace Go.Proofs.Ytlnjnjknhopjdaa
open Go.RowKit

set_option maxHeartbeats 4000000 in
theorem marks5 (nx : Int) (sn : Nat) (n m : Int) (w : World) (hs : sn < 18446744073709551616) :
    Calls Try.prog 5 #[.agg #[.int .i64 nx, .int .u64 sn], .int .i64 n, .int .i64 m] w fun e w' => e = .returned (.bool true) ∧ Later w w' := by
  have hS := markS_lt nx sn n hs
  have hA : ∀ W, Gives Try.prog 11 #[.agg #[.int .i64 nx, .int .u64 sn], .int .i64 n] W (.agg #[.int .i64 (markN nx sn n), .int .u64 (markS nx sn n)]) := fun W => mark11 nx sn n W hs
  have fa : ∀ W, Gives Try.prog 12 #[.agg #[.int .i64 (markN nx sn n), .int .u64 (markS nx sn n)], .int .i64 n] W (.bool false) := fun W => (fresh12 _ _ n W hS).cast (by rw [marked])
  have hAA : ∀ W, Gives Try.prog 11 #[.agg #[.int .i64 (markN nx sn n), .int .u64 (markS nx sn n)], .int .i64 n] W (.agg #[.int .i64 (markN nx sn n), .int .u64 (markS nx sn n)]) := fun W =>
    (mark11 _ _ n W hS).cast (by rw [(mark_not _ _ n (marked nx sn n)).1, (mark_not _ _ n (marked nx sn n)).2])
  have fw : ∀ W, Gives Try.prog 12 #[.agg #[.int .i64 nx, .int .u64 sn], .int .i64 n] W (.bool (freshB nx sn n)) := fun W => fresh12 nx sn n W hs
  have fm : ∀ W, Gives Try.prog 12 #[.agg #[.int .i64 nx, .int .u64 sn], .int .i64 m] W (.bool (freshB nx sn m)) := fun W => fresh12 nx sn m W hs
  have fam : ∀ W, Gives Try.prog 12 #[.agg #[.int .i64 (markN nx sn n), .int .u64 (markS nx sn n)], .int .i64 m] W (.bool (freshB (markN nx sn n) (markS nx sn n) m)) := fun W => fresh12 _ _ m W hS
  have hless := fresh_less nx sn n m
  have hhi : 0 ≤ n → n ≤ 4611686018427387903 → nx ≤ n → markN nx sn n = n + 1 := fun h0 h1 h2 =>
    (mark_high nx sn n (fresh_high nx sn n h0 h1 (by unfold nextOf; omega)) (by unfold nextOf; omega)).1
  have hno : freshB nx sn n = false → markN nx sn n = nx ∧ markS nx sn n = sn := mark_not nx sn n
  generalize markN nx sn n = A at *
  generalize markS nx sn n = S at *
  generalize freshB nx sn n = f at *
  generalize freshB A S m = g' at *
  generalize freshB nx sn m = g at *
  have HA := hid hA
  have Hfa := hid fa
  have HAA := hid hAA
  have Hfw := hid fw
  have Hfm := hid fm
  have Hfam := hid fam
  clear hA fa hAA fw fm fam
  have hg : g = true ∨ (g = false ∧ g' = false) := by
    cases g with
    | true => exact .inl rfl
    | false => exact .inr ⟨rfl, by cases g' with | false => rfl | true => exact absurd (hless rfl) (by decide)⟩
  clear hless
  cases f with
  | true =>
    clear hno
    rcases hg with rfl | ⟨rfl, rfl⟩
    all_goals
      go_enter Try.func5, Try.ntmps5
      go_wp2_with (fail)
      refine (awake7 _).mono ?_
      rintro e w1 ⟨rfl, x1, rfl⟩
      go_wp2_with (fail)
      refine (HA.out _).mono ?_
      rintro e w1 ⟨rfl, x2, rfl⟩
      go_wp2_with (fail)
      refine (Hfa.out _).mono ?_
      rintro e w1 ⟨rfl, x3, rfl⟩
      go_wp2_with (fail)
      refine (Hfw.out _).mono ?_
      rintro e w1 ⟨rfl, x4, rfl⟩
      go_wp2_with (fail)
      all_goals
        refine wp_region_calm (by kernel_rfl) (by kernel_rfl) ?_
        repeat (go_big_quiet_step ((first | (go_at_call 11; exact calm_of (HAA.out _)) | (go_at_call_of 12 (Value.int IntKind.i64 A); exact calm_of (Hfam.out _)) | (go_at_call 12; exact calm_of (Hfm.out _)))))
        refine wpQuiet_nil ?_
        rintro _ ⟨x, rfl⟩
        go_wp2
        go_ret
        exact ⟨rfl, by repeat (first | exact Later.refl _ | apply Later.latr | apply Later.alloc | apply Later.drew)⟩
  | false =>
    obtain ⟨rfl, rfl⟩ := hno rfl
    clear hno Hfam
    rcases hg with rfl | ⟨rfl, rfl⟩
    all_goals
      go_enter Try.func5, Try.ntmps5
      go_wp2_with (fail)
      refine (awake7 _).mono ?_
      rintro e w1 ⟨rfl, x1, rfl⟩
      go_wp2_with (fail)
      refine (HA.out _).mono ?_
      rintro e w1 ⟨rfl, x2, rfl⟩
      go_wp2_with (fail)
      refine (Hfa.out _).mono ?_
      rintro e w1 ⟨rfl, x3, rfl⟩
      go_wp2_with (fail)
      refine (Hfw.out _).mono ?_
      rintro e w1 ⟨rfl, x4, rfl⟩
      go_wp2_with (fail)
      all_goals
        refine wp_region_calm (by kernel_rfl) (by kernel_rfl) ?_
        repeat (go_big_quiet_step ((first | (go_at_call 11; exact calm_of (HAA.out _)) | (go_at_call 12; exact calm_of (Hfm.out _)))))
        refine wpQuiet_nil ?_
        rintro _ ⟨x, rfl⟩
        go_wp2
        go_ret
        exact ⟨rfl, by repeat (first | exact Later.refl _ | apply Later.latr | apply Later.alloc | apply Later.drew)⟩
end Go.Proofs.Ytlnjnjknhopjdaa
