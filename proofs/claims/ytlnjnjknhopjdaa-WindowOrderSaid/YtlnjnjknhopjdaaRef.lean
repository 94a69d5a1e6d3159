/- The walks of the reference's Fresh and Mark: they give the same plain functions. No condition but that the bits are 64. -/
import Derived.Test.YtlnjnjknhopjdaaMark
import Derived.Test.YtlnjnjknhopjdaaTail
namespace Go.Proofs.Ytlnjnjknhopjdaa
open Go.RowKit
attribute [local go_sem] ite_max ite_min

theorem rem2 (sn k : Nat) : (((sn : Int) / 2 ^ k).tmod 2 == 0) = !sn.testBit k := by
  have e : ((sn : Int) / 2 ^ k) = ((sn / 2 ^ k : Nat) : Int) := by simp
  rw [e, Int.tmod_eq_emod_of_nonneg (Int.natCast_nonneg _)]
  rw [Nat.testBit_eq_decide_div_mod_eq, Bool.eq_iff_iff]
  simp
  omega

set_option maxHeartbeats 1000000 in
theorem fresh9 (nx : Int) (sn : Nat) (n : Int) (w : World) :
    Gives Try.prog 9 #[.agg #[.int .i64 nx, .int .u64 sn], .int .i64 n] w (.bool (freshB nx sn n)) := by
  apply gives_of
  have hN := nextOf_bd nx
  by_cases h1 : n < 0
  · have e : freshB nx sn n = false := by simp [freshB]; omega
    rw [e]
    go_enter Try.func9, Try.ntmps9
    go_wp2
    go_ret
    exact ⟨rfl, (Later.refl _).alloc _⟩
  by_cases h2 : 4611686018427387904 ≤ n
  · have e : freshB nx sn n = false := by simp [freshB]; omega
    rw [e]
    go_enter Try.func9, Try.ntmps9
    go_wp2
    go_ret
    exact ⟨rfl, (Later.refl _).alloc _⟩
  by_cases h3 : nextOf nx ≤ n
  · have e : freshB nx sn n = true := by simp [freshB]; omega
    rw [e]
    go_enter Try.func9, Try.ntmps9
    go_wp2_with (first | (go_at_call 13; refine (next13 _ _ _).mono ?_; rintro e w' ⟨rfl, x1, rfl⟩))
    go_ret
    exact ⟨rfl, ((Later.refl _).alloc _).latr _⟩
  have e0 : freshB nx sn n = !seenB sn (nextOf nx - 1 - n) := by
    have : decide (0 ≤ n ∧ n ≤ 4611686018427387903) = true := by simp; omega
    simp [freshB, this]; omega
  by_cases h4 : nextOf nx - 1 - n < 64
  · have hb := rem2 sn (nextOf nx - 1 - n).toNat
    have e : freshB nx sn n = !sn.testBit (nextOf nx - 1 - n).toNat := by rw [e0]; simp [seenB]; omega
    rw [e]
    clear e e0
    go_enter Try.func9, Try.ntmps9
    go_wp2_with (first | (go_at_call 13; refine (next13 _ _ _).mono ?_; rintro e w' ⟨rfl, x1, rfl⟩))
    go_ret
    exact ⟨by simp, ((Later.refl _).alloc _).latr _⟩
  · have e : freshB nx sn n = false := by rw [e0]; simp [seenB]; omega
    rw [e]
    clear e e0
    go_enter Try.func9, Try.ntmps9
    go_wp2_with (first | (go_at_call 13; refine (next13 _ _ _).mono ?_; rintro e w' ⟨rfl, x1, rfl⟩))
    go_ret
    exact ⟨by simp, (((Later.refl _).alloc _).latr _)⟩

theorem wrap_shl (s d : Nat) (h : d < 64) : IntKind.u64.wrap ((s : Int) * 2 ^ d) = ((shl64 s d : Nat) : Int) := by
  have e2 : ((s : Int) * 2 ^ d) = ((s * 2 ^ d : Nat) : Int) := by simp
  rw [IntKind.wrap_u64, e2]
  unfold shl64
  rw [if_pos h]
  omega

set_option maxHeartbeats 1000000 in
theorem mark10 (nx : Int) (sn : Nat) (n : Int) (w : World) (hs : sn < 18446744073709551616) :
    Gives Try.prog 10 #[.agg #[.int .i64 nx, .int .u64 sn], .int .i64 n] w (.agg #[.int .i64 (markN nx sn n), .int .u64 (markS nx sn n)]) := by
  apply gives_of
  have hN := nextOf_bd nx
  by_cases hf : freshB nx sn n = false
  · have e1 : markN nx sn n = nx := by simp [markN, hf]
    have e2 : markS nx sn n = sn := by simp [markS, hf]
    rw [e1, e2]
    clear e1 e2
    go_enter Try.func10, Try.ntmps10
    go_wp2_with (first | (go_at_call 9; refine (fresh9 _ _ _ _).mono ?_; rintro e w' ⟨rfl, x1, rfl⟩))
    go_returns
    exact ⟨rfl, by repeat (first | exact Later.refl _ | apply Later.latr | apply Later.alloc | apply Later.drew | (refine Later.set ?_ (by simp) _))⟩
  have hf : freshB nx sn n = true := by simpa using hf
  have hr : 0 ≤ n ∧ n ≤ 4611686018427387903 := by simp [freshB] at hf; omega
  obtain ⟨h0, hM⟩ := hr
  by_cases hn : n < nextOf nx
  · have hb : nextOf nx - 1 - n < 64 := by
      have := hf
      unfold freshB at this
      simp at this
      exact seen_lt (this.2.resolve_left (by omega)) (by omega)
    go_enter Try.func10, Try.ntmps10
    go_wp2_with (first | (go_at_call 9; refine (fresh9 _ _ _ _).mono ?_; rintro e w' ⟨rfl, x1, rfl⟩) | (go_at_call 13; refine (next13 _ _ _).mono ?_; rintro e w' ⟨rfl, x2, rfl⟩))
    refine wp_region_calm_tail 13 (by kernel_rfl) (by kernel_rfl) ?_
    simp only [List.take_succ_cons, List.take_zero, List.drop_succ_cons, List.drop_zero]
    repeat (go_big_quiet_step ((go_at_call 13; exact calm_of (next13 _ _ _))))
    refine wpQuiet_nil ?_
    rintro _ ⟨x, rfl⟩
    go_wp2
    go_returns
    refine ⟨?_, by repeat (first | exact Later.refl _ | apply Later.latr | apply Later.alloc | apply Later.drew | (refine Later.set ?_ (by simp) _))⟩
    rw [or_pow sn _ hs (by omega)]
    simp [markN, markS, hf, hn]
  have e1 : markN nx sn n = n + 1 := by simp [markN, hf, hn]
  have e2 : markS nx sn n = (shl64 sn (n + 1 - nextOf nx).toNat ||| 1) := by simp [markS, hf, hn]
  rw [e1, e2]
  clear e1 e2
  have hd : 0 ≤ n + 1 - nextOf nx := by omega
  have hsh := shl_run sn .u64 (n + 1 - nextOf nx) hd
  have hor := or_one _ (shl64_lt sn (n + 1 - nextOf nx).toNat)
  by_cases h64 : n + 1 - nextOf nx < 64
  · go_enter Try.func10, Try.ntmps10
    go_wp2_with (first | (go_at_call 9; refine (fresh9 _ _ _ _).mono ?_; rintro e w' ⟨rfl, x1, rfl⟩) | (go_at_call 13; refine (next13 _ _ _).mono ?_; rintro e w' ⟨rfl, x2, rfl⟩))
    refine wp_region_calm (by kernel_rfl) (by kernel_rfl) ?_
    repeat (go_big_quiet_step ((go_at_call 13; exact calm_of (next13 _ _ _))))
    refine wpQuiet_nil ?_
    rintro _ ⟨x, rfl⟩
    go_wp2
    go_returns
    rw [wrap_shl sn _ (show (n + 1 - nextOf nx).toNat < 64 by omega), hor]
    exact ⟨rfl, by repeat (first | exact Later.refl _ | apply Later.latr | apply Later.alloc | apply Later.drew | (refine Later.set ?_ (by simp) _))⟩
  · have e3 : shl64 sn (n + 1 - nextOf nx).toNat = 0 := by unfold shl64; rw [if_neg (by omega)]
    rw [e3] at hor ⊢
    go_enter Try.func10, Try.ntmps10
    go_wp2_with (first | (go_at_call 9; refine (fresh9 _ _ _ _).mono ?_; rintro e w' ⟨rfl, x1, rfl⟩) | (go_at_call 13; refine (next13 _ _ _).mono ?_; rintro e w' ⟨rfl, x2, rfl⟩))
    go_returns
    exact ⟨rfl, by repeat (first | exact Later.refl _ | apply Later.latr | apply Later.alloc | apply Later.drew | (refine Later.set ?_ (by simp) _))⟩
end Go.Proofs.Ytlnjnjknhopjdaa
