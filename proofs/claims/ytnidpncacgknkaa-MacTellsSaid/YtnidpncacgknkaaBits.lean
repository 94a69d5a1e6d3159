/- Words of 32 bits: the model's own operations, said of bit vectors; the turned words of package sha and of the reference. No condition. -/
import Derived.Test.YtnidpncacgknkaaWr
import Derived.Test.YtnidpncacgknkaaArr
import Derived.Test.YtnidpncacgknkaaSizes
import Derived.Test.YtnidpncacgknkaaPlain
namespace Go.Proofs.Ytnidpncacgknkaa
open Go.RowKit
attribute [local go_sem] ite_max ite_min
attribute [local go_sem] h_lt1 h_lt2 h_lt3 h_lt4 h_lt5 h_lt6 h_eq1 h_qe1 h_eq2 h_qe2 h_eq3 h_qe3 h_eq4 h_qe4 h_eq5 h_qe5 h_eq6 h_qe6
/-- a word, a byte, as the model's numbers -/
def un (x : W32) : Int := (x.toNat : Int)
def bn (x : B8) : Int := (x.toNat : Int)
abbrev uv (x : W32) : Value := .int .u32 (un x)
abbrev bb (x : B8) : Value := .int .u8 (bn x)
theorem un_inj {a b : W32} (h : un a = un b) : a = b := BitVec.eq_of_toNat_eq (Int.ofNat_inj.1 h)
theorem bn_inj {a b : B8} (h : bn a = bn b) : a = b := BitVec.eq_of_toNat_eq (Int.ofNat_inj.1 h)
theorem un_range (a : W32) : 0 ≤ un a ∧ un a < 4294967296 := by have := a.isLt; unfold un; omega
theorem bn_range (a : B8) : 0 ≤ bn a ∧ bn a < 256 := by have := a.isLt; unfold bn; omega
@[go_sem] theorem w_or (a b : W32) : bits .or .u32 (un a) (un b) = un (a ||| b) := by unfold un; rw [u32_or_nat _ _ a.isLt b.isLt, BitVec.toNat_or]
@[go_sem] theorem w_and (a b : W32) : bits .and .u32 (un a) (un b) = un (a &&& b) := by unfold un; rw [u32_and_nat _ _ a.isLt b.isLt, BitVec.toNat_and]
@[go_sem] theorem w_xor (a b : W32) : bits .xor .u32 (un a) (un b) = un (a ^^^ b) := by unfold un; rw [u32_xor_nat _ _ a.isLt b.isLt, BitVec.toNat_xor]
theorem w_add' (a b : W32) : (un a + un b) % (4294967296 : Int) = un (a + b) := by
  unfold un
  rw [BitVec.toNat_add]
  omega
@[go_sem] theorem w_add (a b : W32) : IntKind.u32.wrap (un a + un b) = un (a + b) := by rw [IntKind.wrap_u32', w_add']
@[go_sem] theorem w_add2 (a b : W32) : (un a + un b) % (4294967296 : Int) = un (a + b) := w_add' a b
@[go_sem] theorem w_add3 (a b c : W32) : (un a + un b + un c) % (4294967296 : Int) = un (a + b + c) := by rw [← w_add' (a + b) c, ← w_add' a b]; omega
@[go_sem] theorem w_add4 (a b c d : W32) : (un a + un b + un c + un d) % (4294967296 : Int) = un (a + b + c + d) := by rw [← w_add' (a + b + c) d, ← w_add' (a + b) c, ← w_add' a b]; omega
@[go_sem] theorem w_add5 (a b c d e : W32) : (un a + un b + un c + un d + un e) % (4294967296 : Int) = un (a + b + c + d + e) := by rw [← w_add' (a + b + c + d) e, ← w_add' (a + b + c) d, ← w_add' (a + b) c, ← w_add' a b]; omega
theorem un_ones : (4294967295 : Int) = un (BitVec.allOnes 32) := by decide
@[go_sem] theorem w_not (a : W32) : bits .xor .u32 (un a) (4294967295 : Int) = un (BitVec.not a) := by rw [un_ones, w_xor, BitVec.xor_allOnes]; rfl
@[go_sem] theorem w_not2 (a : W32) : bits .xor .u32 IntKind.u32.max (un a) = un (BitVec.not a) := by rw [show IntKind.u32.max = un (BitVec.allOnes 32) by decide, w_xor, BitVec.xor_comm, BitVec.xor_allOnes]; rfl
theorem w_shr (a : W32) (k : Nat) : un (a >>> k) = un a / ((2 ^ k : Nat) : Int) := by
  unfold un
  rw [BitVec.toNat_ushiftRight, Nat.shiftRight_eq_div_pow]
  exact Int.natCast_ediv _ _
theorem w_shl (a : W32) (k : Nat) : un (a <<< k) = un a * ((2 ^ k : Nat) : Int) % (4294967296 : Int) := by
  unfold un
  rw [BitVec.toNat_shiftLeft, Nat.shiftLeft_eq, Int.natCast_emod, Int.natCast_mul]
  rfl
@[go_sem] theorem w_of_b (x : B8) : bn x % (4294967296 : Int) = un (x.setWidth 32) := by
  have := x.isLt
  unfold bn un
  rw [BitVec.toNat_setWidth]
  omega
@[go_sem] theorem b_xor (a b : B8) : bits .xor .u8 (bn a) (bn b) = bn (a ^^^ b) := by unfold bn; rw [u8_xor_nat _ _ a.isLt b.isLt, BitVec.toNat_xor]
@[go_sem] theorem w_shr2 (a : W32) : un a / (4 : Int) = un (a >>> 2) := (w_shr a 2).symm
@[go_sem] theorem w_shr3 (a : W32) : un a / (8 : Int) = un (a >>> 3) := (w_shr a 3).symm
@[go_sem] theorem w_shr6 (a : W32) : un a / (64 : Int) = un (a >>> 6) := (w_shr a 6).symm
@[go_sem] theorem w_shr7 (a : W32) : un a / (128 : Int) = un (a >>> 7) := (w_shr a 7).symm
@[go_sem] theorem w_shr10 (a : W32) : un a / (1024 : Int) = un (a >>> 10) := (w_shr a 10).symm
@[go_sem] theorem w_shr11 (a : W32) : un a / (2048 : Int) = un (a >>> 11) := (w_shr a 11).symm
@[go_sem] theorem w_shr13 (a : W32) : un a / (8192 : Int) = un (a >>> 13) := (w_shr a 13).symm
@[go_sem] theorem w_shr17 (a : W32) : un a / (131072 : Int) = un (a >>> 17) := (w_shr a 17).symm
@[go_sem] theorem w_shr18 (a : W32) : un a / (262144 : Int) = un (a >>> 18) := (w_shr a 18).symm
@[go_sem] theorem w_shr19 (a : W32) : un a / (524288 : Int) = un (a >>> 19) := (w_shr a 19).symm
@[go_sem] theorem w_shr22 (a : W32) : un a / (4194304 : Int) = un (a >>> 22) := (w_shr a 22).symm
@[go_sem] theorem w_shr25 (a : W32) : un a / (33554432 : Int) = un (a >>> 25) := (w_shr a 25).symm
@[go_sem] theorem w_shl7 (a : W32) : un a * (128 : Int) % (4294967296 : Int) = un (a <<< 7) := (w_shl a 7).symm
@[go_sem] theorem w_shl8 (a : W32) : un a * (256 : Int) % (4294967296 : Int) = un (a <<< 8) := (w_shl a 8).symm
@[go_sem] theorem w_shl10 (a : W32) : un a * (1024 : Int) % (4294967296 : Int) = un (a <<< 10) := (w_shl a 10).symm
@[go_sem] theorem w_shl13 (a : W32) : un a * (8192 : Int) % (4294967296 : Int) = un (a <<< 13) := (w_shl a 13).symm
@[go_sem] theorem w_shl14 (a : W32) : un a * (16384 : Int) % (4294967296 : Int) = un (a <<< 14) := (w_shl a 14).symm
@[go_sem] theorem w_shl15 (a : W32) : un a * (32768 : Int) % (4294967296 : Int) = un (a <<< 15) := (w_shl a 15).symm
@[go_sem] theorem w_shl16 (a : W32) : un a * (65536 : Int) % (4294967296 : Int) = un (a <<< 16) := (w_shl a 16).symm
@[go_sem] theorem w_shl19 (a : W32) : un a * (524288 : Int) % (4294967296 : Int) = un (a <<< 19) := (w_shl a 19).symm
@[go_sem] theorem w_shl21 (a : W32) : un a * (2097152 : Int) % (4294967296 : Int) = un (a <<< 21) := (w_shl a 21).symm
@[go_sem] theorem w_shl24 (a : W32) : un a * (16777216 : Int) % (4294967296 : Int) = un (a <<< 24) := (w_shl a 24).symm
@[go_sem] theorem w_shl25 (a : W32) : un a * (33554432 : Int) % (4294967296 : Int) = un (a <<< 25) := (w_shl a 25).symm
@[go_sem] theorem w_shl26 (a : W32) : un a * (67108864 : Int) % (4294967296 : Int) = un (a <<< 26) := (w_shl a 26).symm
@[go_sem] theorem w_shl30 (a : W32) : un a * (1073741824 : Int) % (4294967296 : Int) = un (a <<< 30) := (w_shl a 30).symm
theorem rot35_2 (x : W32) (w : World) : Gives Try.prog 35 #[uv x, .int .i64 (-2)] w (uv (rr x 2)) := by
  apply gives_of
  have h : bits .and .u64 (IntKind.u64.wrap (-2)) 31 = 30 := by decide
  (go_enter Try.func35, Try.ntmps35; go_wp2_with (fail))
  go_ret
  exact ⟨rfl, by repeat (first | (with_reducible exact Later.refl _) | with_reducible apply Later.latr | with_reducible apply Later.alloc | with_reducible apply Later.drew | (with_reducible refine Later.set ?_ (by (simp; try omega)) _))⟩
theorem rot33_2 (x : W32) (w : World) : Gives Try.prog 33 #[uv x, .int .i64 2] w (uv (rr x 2)) := by
  apply gives_of
  (go_enter Try.func33, Try.ntmps33; go_wp2_with (fail))
  (refine (rot35_2 x _).mono ?_; rintro e w1 ⟨rfl, x1, rfl⟩; go_wp2_with (fail))
  go_ret
  exact ⟨rfl, by repeat (first | (with_reducible exact Later.refl _) | with_reducible apply Later.latr | with_reducible apply Later.alloc | with_reducible apply Later.drew | (with_reducible refine Later.set ?_ (by (simp; try omega)) _))⟩
theorem ref29_2 (x : W32) (w : World) : Gives Try.prog 29 #[uv x, .int .u64 2] w (uv (rr x 2)) := by
  apply gives_of
  (go_enter Try.func29, Try.ntmps29; go_wp2_with (fail))
  go_ret
  exact ⟨by show Ending.returned (uv (x >>> 2 ||| x <<< 30)) = _; rw [BitVec.or_comm]; rfl, by repeat (first | (with_reducible exact Later.refl _) | with_reducible apply Later.latr | with_reducible apply Later.alloc | with_reducible apply Later.drew | (with_reducible refine Later.set ?_ (by (simp; try omega)) _))⟩
theorem rot35_6 (x : W32) (w : World) : Gives Try.prog 35 #[uv x, .int .i64 (-6)] w (uv (rr x 6)) := by
  apply gives_of
  have h : bits .and .u64 (IntKind.u64.wrap (-6)) 31 = 26 := by decide
  (go_enter Try.func35, Try.ntmps35; go_wp2_with (fail))
  go_ret
  exact ⟨rfl, by repeat (first | (with_reducible exact Later.refl _) | with_reducible apply Later.latr | with_reducible apply Later.alloc | with_reducible apply Later.drew | (with_reducible refine Later.set ?_ (by (simp; try omega)) _))⟩
theorem rot33_6 (x : W32) (w : World) : Gives Try.prog 33 #[uv x, .int .i64 6] w (uv (rr x 6)) := by
  apply gives_of
  (go_enter Try.func33, Try.ntmps33; go_wp2_with (fail))
  (refine (rot35_6 x _).mono ?_; rintro e w1 ⟨rfl, x1, rfl⟩; go_wp2_with (fail))
  go_ret
  exact ⟨rfl, by repeat (first | (with_reducible exact Later.refl _) | with_reducible apply Later.latr | with_reducible apply Later.alloc | with_reducible apply Later.drew | (with_reducible refine Later.set ?_ (by (simp; try omega)) _))⟩
theorem ref29_6 (x : W32) (w : World) : Gives Try.prog 29 #[uv x, .int .u64 6] w (uv (rr x 6)) := by
  apply gives_of
  (go_enter Try.func29, Try.ntmps29; go_wp2_with (fail))
  go_ret
  exact ⟨by show Ending.returned (uv (x >>> 6 ||| x <<< 26)) = _; rw [BitVec.or_comm]; rfl, by repeat (first | (with_reducible exact Later.refl _) | with_reducible apply Later.latr | with_reducible apply Later.alloc | with_reducible apply Later.drew | (with_reducible refine Later.set ?_ (by (simp; try omega)) _))⟩
theorem rot35_7 (x : W32) (w : World) : Gives Try.prog 35 #[uv x, .int .i64 (-7)] w (uv (rr x 7)) := by
  apply gives_of
  have h : bits .and .u64 (IntKind.u64.wrap (-7)) 31 = 25 := by decide
  (go_enter Try.func35, Try.ntmps35; go_wp2_with (fail))
  go_ret
  exact ⟨rfl, by repeat (first | (with_reducible exact Later.refl _) | with_reducible apply Later.latr | with_reducible apply Later.alloc | with_reducible apply Later.drew | (with_reducible refine Later.set ?_ (by (simp; try omega)) _))⟩
theorem rot33_7 (x : W32) (w : World) : Gives Try.prog 33 #[uv x, .int .i64 7] w (uv (rr x 7)) := by
  apply gives_of
  (go_enter Try.func33, Try.ntmps33; go_wp2_with (fail))
  (refine (rot35_7 x _).mono ?_; rintro e w1 ⟨rfl, x1, rfl⟩; go_wp2_with (fail))
  go_ret
  exact ⟨rfl, by repeat (first | (with_reducible exact Later.refl _) | with_reducible apply Later.latr | with_reducible apply Later.alloc | with_reducible apply Later.drew | (with_reducible refine Later.set ?_ (by (simp; try omega)) _))⟩
theorem ref29_7 (x : W32) (w : World) : Gives Try.prog 29 #[uv x, .int .u64 7] w (uv (rr x 7)) := by
  apply gives_of
  (go_enter Try.func29, Try.ntmps29; go_wp2_with (fail))
  go_ret
  exact ⟨by show Ending.returned (uv (x >>> 7 ||| x <<< 25)) = _; rw [BitVec.or_comm]; rfl, by repeat (first | (with_reducible exact Later.refl _) | with_reducible apply Later.latr | with_reducible apply Later.alloc | with_reducible apply Later.drew | (with_reducible refine Later.set ?_ (by (simp; try omega)) _))⟩
theorem rot35_11 (x : W32) (w : World) : Gives Try.prog 35 #[uv x, .int .i64 (-11)] w (uv (rr x 11)) := by
  apply gives_of
  have h : bits .and .u64 (IntKind.u64.wrap (-11)) 31 = 21 := by decide
  (go_enter Try.func35, Try.ntmps35; go_wp2_with (fail))
  go_ret
  exact ⟨rfl, by repeat (first | (with_reducible exact Later.refl _) | with_reducible apply Later.latr | with_reducible apply Later.alloc | with_reducible apply Later.drew | (with_reducible refine Later.set ?_ (by (simp; try omega)) _))⟩
theorem rot33_11 (x : W32) (w : World) : Gives Try.prog 33 #[uv x, .int .i64 11] w (uv (rr x 11)) := by
  apply gives_of
  (go_enter Try.func33, Try.ntmps33; go_wp2_with (fail))
  (refine (rot35_11 x _).mono ?_; rintro e w1 ⟨rfl, x1, rfl⟩; go_wp2_with (fail))
  go_ret
  exact ⟨rfl, by repeat (first | (with_reducible exact Later.refl _) | with_reducible apply Later.latr | with_reducible apply Later.alloc | with_reducible apply Later.drew | (with_reducible refine Later.set ?_ (by (simp; try omega)) _))⟩
theorem ref29_11 (x : W32) (w : World) : Gives Try.prog 29 #[uv x, .int .u64 11] w (uv (rr x 11)) := by
  apply gives_of
  (go_enter Try.func29, Try.ntmps29; go_wp2_with (fail))
  go_ret
  exact ⟨by show Ending.returned (uv (x >>> 11 ||| x <<< 21)) = _; rw [BitVec.or_comm]; rfl, by repeat (first | (with_reducible exact Later.refl _) | with_reducible apply Later.latr | with_reducible apply Later.alloc | with_reducible apply Later.drew | (with_reducible refine Later.set ?_ (by (simp; try omega)) _))⟩
theorem rot35_13 (x : W32) (w : World) : Gives Try.prog 35 #[uv x, .int .i64 (-13)] w (uv (rr x 13)) := by
  apply gives_of
  have h : bits .and .u64 (IntKind.u64.wrap (-13)) 31 = 19 := by decide
  (go_enter Try.func35, Try.ntmps35; go_wp2_with (fail))
  go_ret
  exact ⟨rfl, by repeat (first | (with_reducible exact Later.refl _) | with_reducible apply Later.latr | with_reducible apply Later.alloc | with_reducible apply Later.drew | (with_reducible refine Later.set ?_ (by (simp; try omega)) _))⟩
theorem rot33_13 (x : W32) (w : World) : Gives Try.prog 33 #[uv x, .int .i64 13] w (uv (rr x 13)) := by
  apply gives_of
  (go_enter Try.func33, Try.ntmps33; go_wp2_with (fail))
  (refine (rot35_13 x _).mono ?_; rintro e w1 ⟨rfl, x1, rfl⟩; go_wp2_with (fail))
  go_ret
  exact ⟨rfl, by repeat (first | (with_reducible exact Later.refl _) | with_reducible apply Later.latr | with_reducible apply Later.alloc | with_reducible apply Later.drew | (with_reducible refine Later.set ?_ (by (simp; try omega)) _))⟩
theorem ref29_13 (x : W32) (w : World) : Gives Try.prog 29 #[uv x, .int .u64 13] w (uv (rr x 13)) := by
  apply gives_of
  (go_enter Try.func29, Try.ntmps29; go_wp2_with (fail))
  go_ret
  exact ⟨by show Ending.returned (uv (x >>> 13 ||| x <<< 19)) = _; rw [BitVec.or_comm]; rfl, by repeat (first | (with_reducible exact Later.refl _) | with_reducible apply Later.latr | with_reducible apply Later.alloc | with_reducible apply Later.drew | (with_reducible refine Later.set ?_ (by (simp; try omega)) _))⟩
theorem rot35_17 (x : W32) (w : World) : Gives Try.prog 35 #[uv x, .int .i64 (-17)] w (uv (rr x 17)) := by
  apply gives_of
  have h : bits .and .u64 (IntKind.u64.wrap (-17)) 31 = 15 := by decide
  (go_enter Try.func35, Try.ntmps35; go_wp2_with (fail))
  go_ret
  exact ⟨rfl, by repeat (first | (with_reducible exact Later.refl _) | with_reducible apply Later.latr | with_reducible apply Later.alloc | with_reducible apply Later.drew | (with_reducible refine Later.set ?_ (by (simp; try omega)) _))⟩
theorem rot33_17 (x : W32) (w : World) : Gives Try.prog 33 #[uv x, .int .i64 17] w (uv (rr x 17)) := by
  apply gives_of
  (go_enter Try.func33, Try.ntmps33; go_wp2_with (fail))
  (refine (rot35_17 x _).mono ?_; rintro e w1 ⟨rfl, x1, rfl⟩; go_wp2_with (fail))
  go_ret
  exact ⟨rfl, by repeat (first | (with_reducible exact Later.refl _) | with_reducible apply Later.latr | with_reducible apply Later.alloc | with_reducible apply Later.drew | (with_reducible refine Later.set ?_ (by (simp; try omega)) _))⟩
theorem ref29_17 (x : W32) (w : World) : Gives Try.prog 29 #[uv x, .int .u64 17] w (uv (rr x 17)) := by
  apply gives_of
  (go_enter Try.func29, Try.ntmps29; go_wp2_with (fail))
  go_ret
  exact ⟨by show Ending.returned (uv (x >>> 17 ||| x <<< 15)) = _; rw [BitVec.or_comm]; rfl, by repeat (first | (with_reducible exact Later.refl _) | with_reducible apply Later.latr | with_reducible apply Later.alloc | with_reducible apply Later.drew | (with_reducible refine Later.set ?_ (by (simp; try omega)) _))⟩
theorem rot35_18 (x : W32) (w : World) : Gives Try.prog 35 #[uv x, .int .i64 (-18)] w (uv (rr x 18)) := by
  apply gives_of
  have h : bits .and .u64 (IntKind.u64.wrap (-18)) 31 = 14 := by decide
  (go_enter Try.func35, Try.ntmps35; go_wp2_with (fail))
  go_ret
  exact ⟨rfl, by repeat (first | (with_reducible exact Later.refl _) | with_reducible apply Later.latr | with_reducible apply Later.alloc | with_reducible apply Later.drew | (with_reducible refine Later.set ?_ (by (simp; try omega)) _))⟩
theorem rot33_18 (x : W32) (w : World) : Gives Try.prog 33 #[uv x, .int .i64 18] w (uv (rr x 18)) := by
  apply gives_of
  (go_enter Try.func33, Try.ntmps33; go_wp2_with (fail))
  (refine (rot35_18 x _).mono ?_; rintro e w1 ⟨rfl, x1, rfl⟩; go_wp2_with (fail))
  go_ret
  exact ⟨rfl, by repeat (first | (with_reducible exact Later.refl _) | with_reducible apply Later.latr | with_reducible apply Later.alloc | with_reducible apply Later.drew | (with_reducible refine Later.set ?_ (by (simp; try omega)) _))⟩
theorem ref29_18 (x : W32) (w : World) : Gives Try.prog 29 #[uv x, .int .u64 18] w (uv (rr x 18)) := by
  apply gives_of
  (go_enter Try.func29, Try.ntmps29; go_wp2_with (fail))
  go_ret
  exact ⟨by show Ending.returned (uv (x >>> 18 ||| x <<< 14)) = _; rw [BitVec.or_comm]; rfl, by repeat (first | (with_reducible exact Later.refl _) | with_reducible apply Later.latr | with_reducible apply Later.alloc | with_reducible apply Later.drew | (with_reducible refine Later.set ?_ (by (simp; try omega)) _))⟩
theorem rot35_19 (x : W32) (w : World) : Gives Try.prog 35 #[uv x, .int .i64 (-19)] w (uv (rr x 19)) := by
  apply gives_of
  have h : bits .and .u64 (IntKind.u64.wrap (-19)) 31 = 13 := by decide
  (go_enter Try.func35, Try.ntmps35; go_wp2_with (fail))
  go_ret
  exact ⟨rfl, by repeat (first | (with_reducible exact Later.refl _) | with_reducible apply Later.latr | with_reducible apply Later.alloc | with_reducible apply Later.drew | (with_reducible refine Later.set ?_ (by (simp; try omega)) _))⟩
theorem rot33_19 (x : W32) (w : World) : Gives Try.prog 33 #[uv x, .int .i64 19] w (uv (rr x 19)) := by
  apply gives_of
  (go_enter Try.func33, Try.ntmps33; go_wp2_with (fail))
  (refine (rot35_19 x _).mono ?_; rintro e w1 ⟨rfl, x1, rfl⟩; go_wp2_with (fail))
  go_ret
  exact ⟨rfl, by repeat (first | (with_reducible exact Later.refl _) | with_reducible apply Later.latr | with_reducible apply Later.alloc | with_reducible apply Later.drew | (with_reducible refine Later.set ?_ (by (simp; try omega)) _))⟩
theorem ref29_19 (x : W32) (w : World) : Gives Try.prog 29 #[uv x, .int .u64 19] w (uv (rr x 19)) := by
  apply gives_of
  (go_enter Try.func29, Try.ntmps29; go_wp2_with (fail))
  go_ret
  exact ⟨by show Ending.returned (uv (x >>> 19 ||| x <<< 13)) = _; rw [BitVec.or_comm]; rfl, by repeat (first | (with_reducible exact Later.refl _) | with_reducible apply Later.latr | with_reducible apply Later.alloc | with_reducible apply Later.drew | (with_reducible refine Later.set ?_ (by (simp; try omega)) _))⟩
theorem rot35_22 (x : W32) (w : World) : Gives Try.prog 35 #[uv x, .int .i64 (-22)] w (uv (rr x 22)) := by
  apply gives_of
  have h : bits .and .u64 (IntKind.u64.wrap (-22)) 31 = 10 := by decide
  (go_enter Try.func35, Try.ntmps35; go_wp2_with (fail))
  go_ret
  exact ⟨rfl, by repeat (first | (with_reducible exact Later.refl _) | with_reducible apply Later.latr | with_reducible apply Later.alloc | with_reducible apply Later.drew | (with_reducible refine Later.set ?_ (by (simp; try omega)) _))⟩
theorem rot33_22 (x : W32) (w : World) : Gives Try.prog 33 #[uv x, .int .i64 22] w (uv (rr x 22)) := by
  apply gives_of
  (go_enter Try.func33, Try.ntmps33; go_wp2_with (fail))
  (refine (rot35_22 x _).mono ?_; rintro e w1 ⟨rfl, x1, rfl⟩; go_wp2_with (fail))
  go_ret
  exact ⟨rfl, by repeat (first | (with_reducible exact Later.refl _) | with_reducible apply Later.latr | with_reducible apply Later.alloc | with_reducible apply Later.drew | (with_reducible refine Later.set ?_ (by (simp; try omega)) _))⟩
theorem ref29_22 (x : W32) (w : World) : Gives Try.prog 29 #[uv x, .int .u64 22] w (uv (rr x 22)) := by
  apply gives_of
  (go_enter Try.func29, Try.ntmps29; go_wp2_with (fail))
  go_ret
  exact ⟨by show Ending.returned (uv (x >>> 22 ||| x <<< 10)) = _; rw [BitVec.or_comm]; rfl, by repeat (first | (with_reducible exact Later.refl _) | with_reducible apply Later.latr | with_reducible apply Later.alloc | with_reducible apply Later.drew | (with_reducible refine Later.set ?_ (by (simp; try omega)) _))⟩
theorem rot35_25 (x : W32) (w : World) : Gives Try.prog 35 #[uv x, .int .i64 (-25)] w (uv (rr x 25)) := by
  apply gives_of
  have h : bits .and .u64 (IntKind.u64.wrap (-25)) 31 = 7 := by decide
  (go_enter Try.func35, Try.ntmps35; go_wp2_with (fail))
  go_ret
  exact ⟨rfl, by repeat (first | (with_reducible exact Later.refl _) | with_reducible apply Later.latr | with_reducible apply Later.alloc | with_reducible apply Later.drew | (with_reducible refine Later.set ?_ (by (simp; try omega)) _))⟩
theorem rot33_25 (x : W32) (w : World) : Gives Try.prog 33 #[uv x, .int .i64 25] w (uv (rr x 25)) := by
  apply gives_of
  (go_enter Try.func33, Try.ntmps33; go_wp2_with (fail))
  (refine (rot35_25 x _).mono ?_; rintro e w1 ⟨rfl, x1, rfl⟩; go_wp2_with (fail))
  go_ret
  exact ⟨rfl, by repeat (first | (with_reducible exact Later.refl _) | with_reducible apply Later.latr | with_reducible apply Later.alloc | with_reducible apply Later.drew | (with_reducible refine Later.set ?_ (by (simp; try omega)) _))⟩
theorem ref29_25 (x : W32) (w : World) : Gives Try.prog 29 #[uv x, .int .u64 25] w (uv (rr x 25)) := by
  apply gives_of
  (go_enter Try.func29, Try.ntmps29; go_wp2_with (fail))
  go_ret
  exact ⟨by show Ending.returned (uv (x >>> 25 ||| x <<< 7)) = _; rw [BitVec.or_comm]; rfl, by repeat (first | (with_reducible exact Later.refl _) | with_reducible apply Later.latr | with_reducible apply Later.alloc | with_reducible apply Later.drew | (with_reducible refine Later.set ?_ (by (simp; try omega)) _))⟩
end Go.Proofs.Ytnidpncacgknkaa
