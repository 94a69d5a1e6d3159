/- The walk of window.Mark: it gives the plain window behind a number. No condition but that the bits are 64. -/
import Derived.Test.YtlnjnjknhopjdaaWalks
namespace Go.Proofs.Ytlnjnjknhopjdaa
open Go.RowKit
attribute [local go_sem] ite_max ite_min

theorem shl_run (s : Nat) (yk : IntKind) (d : Int) (h : 0 ≤ d) : Op.shift .shl .u64 (s : Int) yk d = pure (.int .u64 ((shl64 s d.toNat : Nat) : Int)) := by
  rw [shift_shl_any _ _ _ _ h]
  have e : IntKind.u64.wrap ((s : Int) * 2 ^ min d.toNat IntKind.u64.bits) = ((shl64 s d.toNat : Nat) : Int) := by
    rw [IntKind.wrap_u64]
    have e2 : ((s : Int) * 2 ^ min d.toNat IntKind.u64.bits) = ((s * 2 ^ min d.toNat 64 : Nat) : Int) := by simp [IntKind.bits]
    rw [e2]
    unfold shl64
    split
    · rename_i h1
      rw [Nat.min_eq_left (by omega)]
      omega
    · rename_i h1
      rw [Nat.min_eq_right (by omega)]
      have : s * 2 ^ 64 % 18446744073709551616 = 0 := by
        rw [show (18446744073709551616 : Nat) = 2 ^ 64 from by decide]; exact Nat.mul_mod_left _ _
      omega
  rw [e]

theorem or_one (s : Nat) (hs : s < 18446744073709551616) : bits BinOp.or IntKind.u64 (s : Int) 1 = ((s ||| 1 : Nat) : Int) := u64_or_nat s 1 hs (by omega)
theorem or_pow (s k : Nat) (hs : s < 18446744073709551616) (hk : k < 64) : bits BinOp.or IntKind.u64 (s : Int) (IntKind.u64.wrap (2 ^ k)) = ((s ||| 2 ^ k : Nat) : Int) := by
  have h1 : 2 ^ k < 18446744073709551616 := by
    rw [show (18446744073709551616 : Nat) = 2 ^ 64 from by decide]; exact Nat.pow_lt_pow_right (by omega) hk
  have e : IntKind.u64.wrap (2 ^ k) = ((2 ^ k : Nat) : Int) := by
    rw [IntKind.wrap_u64]
    have : ((2 : Int) ^ k) = ((2 ^ k : Nat) : Int) := by simp
    rw [this]
    generalize 2 ^ k = q at h1
    omega
  rw [e]
  exact u64_or_nat s _ hs h1

set_option maxHeartbeats 1000000 in
theorem mark11 (nx : Int) (sn : Nat) (n : Int) (w : World) (hs : sn < 18446744073709551616) :
    Gives Try.prog 11 #[.agg #[.int .i64 nx, .int .u64 sn], .int .i64 n] w (.agg #[.int .i64 (markN nx sn n), .int .u64 (markS nx sn n)]) := by
  apply gives_of
  have hN := nextOf_bd nx
  by_cases hf : freshB nx sn n = false
  · have e1 : markN nx sn n = nx := by simp [markN, hf]
    have e2 : markS nx sn n = sn := by simp [markS, hf]
    rw [e1, e2]
    clear e1 e2
    go_enter Try.func11, Try.ntmps11
    go_wp2_with (first | (go_at_call 12; refine (fresh12 _ _ _ _ hs).mono ?_; rintro e w' ⟨rfl, x1, rfl⟩))
    go_returns
    exact ⟨rfl, by repeat (first | exact Later.refl _ | apply Later.latr | apply Later.alloc | apply Later.drew | (refine Later.set ?_ (by simp) _))⟩
  have hf : freshB nx sn n = true := by simpa using hf
  have hr : 0 ≤ n ∧ n ≤ 4611686018427387903 := by simp [freshB] at hf; omega
  obtain ⟨h0, hM⟩ := hr
  by_cases hn : n < nextOf nx
  · have hb : nextOf nx - 1 - n < 64 := by
      have := hf
      unfold freshB at this
      simp at this
      exact seen_lt (this.2.resolve_left (by omega)) (by omega)
    go_enter Try.func11, Try.ntmps11
    go_wp2_with (first | (go_at_call 12; refine (fresh12 _ _ _ _ hs).mono ?_; rintro e w' ⟨rfl, x1, rfl⟩) | (go_at_call 14; refine (next14 _ _ _).mono ?_; rintro e w' ⟨rfl, x2, rfl⟩))
    go_region
    go_wp2
    go_returns
    refine ⟨?_, by repeat (first | exact Later.refl _ | apply Later.latr | apply Later.alloc | apply Later.drew | (refine Later.set ?_ (by simp) _))⟩
    rw [or_pow sn _ hs (by omega)]
    simp [markN, markS, hf, hn]
  · have hsh := shl_run sn .i64 (n + 1 - nextOf nx) (by omega)
    go_enter Try.func11, Try.ntmps11
    go_wp2_with (first | (go_at_call 12; refine (fresh12 _ _ _ _ hs).mono ?_; rintro e w' ⟨rfl, x1, rfl⟩) | (go_at_call 14; refine (next14 _ _ _).mono ?_; rintro e w' ⟨rfl, x2, rfl⟩))
    go_returns
    refine ⟨?_, by repeat (first | exact Later.refl _ | apply Later.latr | apply Later.alloc | apply Later.drew | (refine Later.set ?_ (by simp) _))⟩
    rw [or_one _ (shl64_lt _ _)]
    simp [markN, markS, hf, Int.not_lt.2 hn]
end Go.Proofs.Ytlnjnjknhopjdaa
