/- Hashes of the first bytes, as they are asked: the plain law, reckoned. Of texts of at most eighty bytes. -/
import Derived.Test.YtnidpncacgknkaaPlain
namespace Go.Proofs.Ytnidpncacgknkaa
/-- the first bytes -/
def tx (n : Nat) : List B8 := (List.range n).map fun i => BitVec.ofNat 8 i
theorem tx_succ (n : Nat) : tx (n + 1) = tx n ++ [BitVec.ofNat 8 n] := by simp [tx, List.range_succ]
theorem tx_len (n : Nat) : (tx n).length = n := by simp [tx]
def okAt (n : Nat) : Bool := decide (sha (tx n) ≠ sha (tx n ++ [0#8])) && decide (sha (tx n) ≠ sha (tx (n + 1))) && (decide (n = 0) || decide (sha (tx n ++ [0#8]) ≠ sha (tx (n + 1))))
theorem z0 : (List.range' 0 5).all okAt = true := by decide +kernel
theorem z1 : (List.range' 5 5).all okAt = true := by decide +kernel
theorem z2 : (List.range' 10 5).all okAt = true := by decide +kernel
theorem z3 : (List.range' 15 5).all okAt = true := by decide +kernel
theorem z4 : (List.range' 20 5).all okAt = true := by decide +kernel
theorem z5 : (List.range' 25 5).all okAt = true := by decide +kernel
theorem z6 : (List.range' 30 5).all okAt = true := by decide +kernel
theorem z7 : (List.range' 35 5).all okAt = true := by decide +kernel
theorem z8 : (List.range' 40 5).all okAt = true := by decide +kernel
theorem z9 : (List.range' 45 5).all okAt = true := by decide +kernel
theorem z10 : (List.range' 50 5).all okAt = true := by decide +kernel
theorem z11 : (List.range' 55 5).all okAt = true := by decide +kernel
theorem z12 : (List.range' 60 5).all okAt = true := by decide +kernel
theorem z13 : (List.range' 65 5).all okAt = true := by decide +kernel
theorem z14 : (List.range' 70 5).all okAt = true := by decide +kernel
theorem z15 : (List.range' 75 5).all okAt = true := by decide +kernel
theorem ok_at (k : Nat) (h : k < 80) : okAt k = true := by
  have f := fun (s : Nat) (hs : (List.range' s 5).all okAt = true) (h1 : s ≤ k) (h2 : k < s + 5) => List.all_eq_true.1 hs k (by simp only [List.mem_range'_1]; omega)
  by_cases h0 : k < 5
  · exact f 0 z0 (by omega) (by omega)
  by_cases h1 : k < 10
  · exact f 5 z1 (by omega) (by omega)
  by_cases h2 : k < 15
  · exact f 10 z2 (by omega) (by omega)
  by_cases h3 : k < 20
  · exact f 15 z3 (by omega) (by omega)
  by_cases h4 : k < 25
  · exact f 20 z4 (by omega) (by omega)
  by_cases h5 : k < 30
  · exact f 25 z5 (by omega) (by omega)
  by_cases h6 : k < 35
  · exact f 30 z6 (by omega) (by omega)
  by_cases h7 : k < 40
  · exact f 35 z7 (by omega) (by omega)
  by_cases h8 : k < 45
  · exact f 40 z8 (by omega) (by omega)
  by_cases h9 : k < 50
  · exact f 45 z9 (by omega) (by omega)
  by_cases h10 : k < 55
  · exact f 50 z10 (by omega) (by omega)
  by_cases h11 : k < 60
  · exact f 55 z11 (by omega) (by omega)
  by_cases h12 : k < 65
  · exact f 60 z12 (by omega) (by omega)
  by_cases h13 : k < 70
  · exact f 65 z13 (by omega) (by omega)
  by_cases h14 : k < 75
  · exact f 70 z14 (by omega) (by omega)
  by_cases h15 : k < 80
  · exact f 75 z15 (by omega) (by omega)
  omega
theorem ok_parts (k : Nat) (h : k < 80) : sha (tx k) ≠ sha (tx k ++ [0#8]) ∧ sha (tx k) ≠ sha (tx (k + 1)) ∧ (k ≠ 0 → sha (tx k ++ [0#8]) ≠ sha (tx (k + 1))) := by
  have := ok_at k h
  simp only [okAt, Bool.and_eq_true, Bool.or_eq_true, decide_eq_true_eq] at this
  exact ⟨this.1.1, this.1.2, fun hk => this.2.resolve_left hk⟩
end Go.Proofs.Ytnidpncacgknkaa
