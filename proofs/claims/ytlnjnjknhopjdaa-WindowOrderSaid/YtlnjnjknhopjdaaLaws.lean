/- The plain laws of the window: what was marked is not fresh; nothing becomes fresh by a mark; which numbers are fresh behind a row of numbers. No program in sight. -/
import Derived.Test.YtlnjnjknhopjdaaPlain
namespace Go.Proofs.Ytlnjnjknhopjdaa

theorem shl64_bit (s d i : Nat) (hi : i < 64) (hd : d < 64) : (shl64 s d).testBit i = (decide (d ≤ i) && s.testBit (i - d)) := by
  unfold shl64
  rw [if_pos hd, show (18446744073709551616 : Nat) = 2 ^ 64 from by decide, Nat.testBit_mod_two_pow, ← Nat.shiftLeft_eq, Nat.testBit_shiftLeft]
  simp [hi]
theorem shl64_bit0 (s d i : Nat) (hd : 64 ≤ d) : (shl64 s d).testBit i = false := by
  unfold shl64
  rw [if_neg (by omega)]
  simp

/-- fresh, written out -/
theorem freshB_iff (nx : Int) (sn : Nat) (n : Int) : freshB nx sn n = true ↔ (0 ≤ n ∧ n ≤ 4611686018427387903 ∧ (nextOf nx ≤ n ∨ (nextOf nx - 1 - n < 64 ∧ sn.testBit (nextOf nx - 1 - n).toNat = false))) := by
  unfold freshB seenB
  rw [Bool.and_eq_true, Bool.or_eq_true, Bool.not_eq_true', Bool.or_eq_false_iff, decide_eq_true_eq, decide_eq_true_eq, decide_eq_false_iff_not, and_assoc, Int.not_le]
theorem nextOf_succ (n : Int) (h0 : 0 ≤ n) (h1 : n ≤ 4611686018427387903) : nextOf (n + 1) = n + 1 := by unfold nextOf; omega

theorem mark_not (nx : Int) (sn : Nat) (n : Int) (h : freshB nx sn n = false) : markN nx sn n = nx ∧ markS nx sn n = sn := by
  simp [markN, markS, h]
/-- a mark, written out: below the next one; or from it on -/
theorem mark_low (nx : Int) (sn : Nat) (n : Int) (h : freshB nx sn n = true) (hn : n < nextOf nx) : markN nx sn n = nx ∧ markS nx sn n = sn ||| 2 ^ (nextOf nx - 1 - n).toNat := by
  simp [markN, markS, h, hn]
theorem mark_high (nx : Int) (sn : Nat) (n : Int) (h : freshB nx sn n = true) (hn : nextOf nx ≤ n) : markN nx sn n = n + 1 ∧ markS nx sn n = shl64 sn (n + 1 - nextOf nx).toNat ||| 1 := by
  simp [markN, markS, h, Int.not_lt.2 hn]
theorem fresh_high (nx : Int) (sn : Nat) (n : Int) (h0 : 0 ≤ n) (h1 : n ≤ 4611686018427387903) (hn : nextOf nx ≤ n) : freshB nx sn n = true := (freshB_iff ..).2 ⟨h0, h1, .inl hn⟩

/-- what was marked is not fresh -/
theorem marked (nx : Int) (sn : Nat) (n : Int) : freshB (markN nx sn n) (markS nx sn n) n = false := by
  cases hf : freshB nx sn n with
  | false => rw [(mark_not nx sn n hf).1, (mark_not nx sn n hf).2]; exact hf
  | true =>
    have h := (freshB_iff nx sn n).1 hf
    rw [← Bool.not_eq_true, freshB_iff]
    rintro ⟨g0, g1, g2⟩
    by_cases hn : n < nextOf nx
    · rw [(mark_low nx sn n hf hn).1, (mark_low nx sn n hf hn).2] at g2
      simp [Nat.testBit_or] at g2
      omega
    · rw [(mark_high nx sn n hf (by omega)).1, (mark_high nx sn n hf (by omega)).2, nextOf_succ n g0 g1] at g2
      rw [show n + 1 - 1 - n = 0 by omega] at g2
      simp at g2
      omega

/-- nothing becomes fresh -/
theorem fresh_less (nx : Int) (sn : Nat) (n m : Int) (h : freshB (markN nx sn n) (markS nx sn n) m = true) : freshB nx sn m = true := by
  cases hf : freshB nx sn n with
  | false => rwa [(mark_not nx sn n hf).1, (mark_not nx sn n hf).2] at h
  | true =>
    obtain ⟨f0, f1, f2⟩ := (freshB_iff nx sn n).1 hf
    rw [freshB_iff] at h ⊢
    obtain ⟨g0, g1, g2⟩ := h
    refine ⟨g0, g1, ?_⟩
    by_cases hn : n < nextOf nx
    · rw [(mark_low nx sn n hf hn).1, (mark_low nx sn n hf hn).2] at g2
      rcases g2 with g2 | ⟨g2, g3⟩
      · exact .inl g2
      · rw [Nat.testBit_or, Bool.or_eq_false_iff] at g3
        exact .inr ⟨g2, g3.1⟩
    · rw [(mark_high nx sn n hf (by omega)).1, (mark_high nx sn n hf (by omega)).2, nextOf_succ n f0 f1] at g2
      by_cases hm : nextOf nx ≤ m
      · exact .inl hm
      · rcases g2 with g2 | ⟨g2, g3⟩
        · omega
        · rw [Nat.testBit_or, Bool.or_eq_false_iff, shl64_bit _ _ _ (by omega) (by omega)] at g3
          refine .inr ⟨by omega, ?_⟩
          have h1 := g3.1
          rw [show (n + 1 - 1 - m).toNat - (n + 1 - nextOf nx).toNat = (nextOf nx - 1 - m).toNat by omega] at h1
          simp at h1
          exact h1 (by omega)
end Go.Proofs.Ytlnjnjknhopjdaa
