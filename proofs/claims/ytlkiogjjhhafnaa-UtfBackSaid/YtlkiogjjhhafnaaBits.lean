/- Laws of bits: six bits behind a number; the first two bits of a byte. -/
import Derived.Test.YtlkiogjjhhafnaaFirst
namespace Go.Proofs.Ytlkiogjjhhafnaa
open Go Go.RowKit
theorem or_i64_nat (a b : Nat) (ha : a < 9223372036854775808) (hb : b < 9223372036854775808) : bits .or .i64 (a : Int) (b : Int) = ((a ||| b : Nat) : Int) := by
  have hx : a ||| b < 2 ^ 63 := Nat.or_lt_two_pow (by omega) (by omega)
  have h1 : (BitVec.ofInt 64 (a : Int)).toNat = a := by
    rw [BitVec.ofInt_natCast, BitVec.toNat_ofNat]; exact Nat.mod_eq_of_lt (by omega)
  have h2 : (BitVec.ofInt 64 (b : Int)).toNat = b := by
    rw [BitVec.ofInt_natCast, BitVec.toNat_ofNat]; exact Nat.mod_eq_of_lt (by omega)
  show IntKind.i64.wrap ((BitVec.ofInt 64 (a : Int) ||| BitVec.ofInt 64 (b : Int)).toNat : Int) = _
  rw [BitVec.toNat_or, h1, h2, IntKind.wrap_i64]
  omega
theorem wrap_id (n : Int) (h : -9223372036854775808 ≤ n) (h' : n ≤ 9223372036854775807) : wrap64 n = n := by
  unfold wrap64
  omega
theorem or_six (n c : Int) (h : 0 ≤ n) (h' : n ≤ 1048576) (hc : 0 ≤ c) (hc' : c < 64) : bits .or .i64 (wrap64 (n * 64)) c = 64 * n + c := by
  obtain ⟨a, rfl⟩ := Int.eq_ofNat_of_zero_le h
  obtain ⟨b, rfl⟩ := Int.eq_ofNat_of_zero_le hc
  rw [wrap_id _ (by omega) (by omega)]
  have e : ((a : Int) * 64) = ((2 ^ 6 * a : Nat) : Int) := by omega
  rw [e, or_i64_nat _ _ (by omega) (by omega), ← Nat.two_pow_add_eq_or_of_lt (by omega)]
  omega
theorem and_192 (b : Int) (h0 : 0 ≤ b) (h1 : b < 256) : (bits .and .u8 b 192 != 128) = decide (b < 128 ∨ 191 < b) := by
  obtain ⟨n, rfl⟩ := Int.eq_ofNat_of_zero_le h0
  have : ∀ m : Fin 256, (bits .and .u8 ((m.val : Nat) : Int) 192 != 128) = decide (((m.val : Nat) : Int) < 128 ∨ 191 < ((m.val : Nat) : Int)) := by decide +kernel
  exact this ⟨n, by omega⟩
end Go.Proofs.Ytlkiogjjhhafnaa
