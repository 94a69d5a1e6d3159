/- The window, in plain Lean: which numbers are fresh, and the window behind them. No program in sight, no condition. -/
import Derived.Laws.BitsAllLaws
import Derived.WalkSmall
namespace Go.Proofs.Ytlnjnjknhopjdaa

/-- one more than the greatest number that came -/
def nextOf (nx : Int) : Int := min (max nx 0) 4611686018427387904
theorem nextOf_bd (nx : Int) : 0 ≤ nextOf nx ∧ nextOf nx ≤ 4611686018427387904 := by unfold nextOf; omega

/-- bit number back, or too far back -/
def seenB (sn : Nat) (back : Int) : Bool := decide (64 ≤ back) || sn.testBit back.toNat

def freshB (nx : Int) (sn : Nat) (n : Int) : Bool :=
  decide (0 ≤ n ∧ n ≤ 4611686018427387903) && (decide (nextOf nx ≤ n) || !seenB sn (nextOf nx - 1 - n))

/-- bits moved up, cut at 64 -/
def shl64 (s : Nat) (d : Nat) : Nat := if d < 64 then (s * 2 ^ d) % 18446744073709551616 else 0

def markN (nx : Int) (sn : Nat) (n : Int) : Int := if freshB nx sn n = true then (if n < nextOf nx then nx else n + 1) else nx
def markS (nx : Int) (sn : Nat) (n : Int) : Nat :=
  if freshB nx sn n = true then (if n < nextOf nx then sn ||| 2 ^ (nextOf nx - 1 - n).toNat else shl64 sn (n + 1 - nextOf nx).toNat ||| 1) else sn

theorem shl64_lt (s d : Nat) : shl64 s d < 18446744073709551616 := by
  unfold shl64; split
  · exact Nat.mod_lt _ (by omega)
  · omega
theorem seen_lt {sn : Nat} {b : Int} (h : seenB sn b = false) (h0 : 0 ≤ b) : b < 64 := by
  unfold seenB at h; simp at h; omega
theorem markS_lt (nx : Int) (sn : Nat) (n : Int) (hs : sn < 18446744073709551616) : markS nx sn n < 18446744073709551616 := by
  have h64 : 18446744073709551616 = 2 ^ 64 := by decide
  unfold markS
  split
  · rename_i hf
    split
    · rename_i hn
      have hb : (nextOf nx - 1 - n).toNat < 64 := by
        unfold freshB at hf
        simp at hf
        have := seen_lt (hf.2.resolve_left (by omega)) (by omega)
        omega
      rw [h64] at hs ⊢
      exact Nat.or_lt_two_pow hs (Nat.pow_lt_pow_right (by omega) hb)
    · have := shl64_lt sn (n + 1 - nextOf nx).toNat
      rw [h64] at this ⊢
      exact Nat.or_lt_two_pow this (by decide)
  · exact hs

/-- which of some numbers are fresh, one behind the other -/
def runB : Int → Nat → List Int → List Bool
  | _, _, [] => []
  | nx, sn, n :: l => freshB nx sn n :: runB (markN nx sn n) (markS nx sn n) l
/-- the window behind them -/
def stN : Int → Nat → List Int → Int
  | nx, _, [] => nx
  | nx, sn, n :: l => stN (markN nx sn n) (markS nx sn n) l
def stS : Int → Nat → List Int → Nat
  | _, sn, [] => sn
  | nx, sn, n :: l => stS (markN nx sn n) (markS nx sn n) l
theorem st_snoc (l : List Int) (n : Int) : ∀ nx sn, stN nx sn (l ++ [n]) = markN (stN nx sn l) (stS nx sn l) n ∧ stS nx sn (l ++ [n]) = markS (stN nx sn l) (stS nx sn l) n ∧
    runB nx sn (l ++ [n]) = runB nx sn l ++ [freshB (stN nx sn l) (stS nx sn l) n] := by
  induction l with
  | nil => intro nx sn; exact ⟨rfl, rfl, rfl⟩
  | cons a l ih => intro nx sn; obtain ⟨h1, h2, h3⟩ := ih (markN nx sn a) (markS nx sn a); exact ⟨h1, h2, by simp only [List.cons_append, runB, h3, stN, stS]⟩
theorem runB_length (l : List Int) : ∀ nx sn, (runB nx sn l).length = l.length := by
  induction l with
  | nil => intro nx sn; rfl
  | cons a l ih => intro nx sn; simp only [runB, List.length_cons, ih]
theorem stS_lt (l : List Int) : ∀ nx sn, sn < 18446744073709551616 → stS nx sn l < 18446744073709551616 := by
  induction l with
  | nil => intro nx sn h; exact h
  | cons a l ih => intro nx sn h; exact ih _ _ (markS_lt _ _ _ h)

/-! ### the model's bits -/
open Go in
theorem bit_and (sn k : Nat) (hs : sn < 18446744073709551616) : (bits BinOp.and IntKind.u64 ((sn : Int) / 2 ^ k) 1 == 1) = sn.testBit k := by
  have e : ((sn : Int) / 2 ^ k) = ((sn / 2 ^ k : Nat) : Int) := by simp
  have hle : sn / 2 ^ k ≤ sn := Nat.div_le_self _ _
  rw [e]
  have h : bits BinOp.and IntKind.u64 (↑(sn / 2 ^ k)) 1 = ↑(sn / 2 ^ k &&& 1) := u64_and_nat (sn / 2 ^ k) 1 (by omega) (by omega)
  rw [h, Nat.testBit_eq_decide_div_mod_eq, Nat.and_one_is_mod, Bool.eq_iff_iff]
  simp
  omega
end Go.Proofs.Ytlnjnjknhopjdaa
