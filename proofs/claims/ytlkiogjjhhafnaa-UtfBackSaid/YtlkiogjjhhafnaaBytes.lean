/- The walks of Bytes: the code's and the reference's. Of at most a thousand numbers. -/
import Derived.Test.YtlkiogjjhhafnaaRunes
namespace Go.Proofs.Ytlkiogjjhhafnaa
open Go.RowKit
attribute [local go_sem] ite_max ite_min
attribute [local go_sem] h_lt1 h_lt2 h_lt3 h_lt4 h_lt5 h_lt6 h_eq1 h_qe1 h_eq2 h_qe2 h_eq3 h_qe3 h_eq4 h_qe4 h_eq5 h_qe5 h_eq6 h_qe6

def MadeB (w : World) (l : List Int) (e : Ending) (w' : World) : Prop :=
  ∃ v, e = .returned v ∧ Later w w' ∧ w'.ownsRow w.heap.size 5 1 v l.length (l.map bv)
theorem info5 : (Try.prog.info? 5).map (fun i => (i.zero, i.size, i.bytes)) = some (some (.int .u8 0), 1, 1) := by kernel_rfl
theorem or_add (i a : Nat) (c : Int) (h0 : 0 ≤ c) (h1 : c < (2 ^ i : Nat)) (h2 : 2 ^ i * a < 1000000) (h3 : (2 ^ i : Nat) < 1000000) : bits .or .i64 ((2 ^ i * a : Nat) : Int) c = ((2 ^ i * a : Nat) : Int) + c := by
  obtain ⟨b, rfl⟩ := Int.eq_ofNat_of_zero_le h0
  have hb : b < 2 ^ i := by exact_mod_cast h1
  rw [or_i64_nat _ _ (by omega) (by omega), ← Nat.two_pow_add_eq_or_of_lt hb]
  push_cast
  rfl
theorem or_192 (c : Int) (h0 : 0 ≤ c) (h1 : c < 64) : bits .or .i64 192 c = 192 + c := or_add 6 3 c h0 (by simpa using h1) (by decide) (by decide)
theorem or_224 (c : Int) (h0 : 0 ≤ c) (h1 : c < 32) : bits .or .i64 224 c = 224 + c := or_add 5 7 c h0 (by simpa using h1) (by decide) (by decide)
theorem or_240 (c : Int) (h0 : 0 ≤ c) (h1 : c < 16) : bits .or .i64 240 c = 240 + c := or_add 4 15 c h0 (by simpa using h1) (by decide) (by decide)
theorem or_128 (c : Int) (h0 : 0 ≤ c) (h1 : c < 64) : bits .or .i64 128 c = 128 + c := or_add 7 1 c h0 (by simp; omega) (by decide) (by decide)
theorem or_0 (c : Int) (h0 : 0 ≤ c) (h1 : c < 2) : bits .or .i64 0 c = c := by rw [show (0 : Int) = ((2 ^ 1 * 0 : Nat) : Int) by rfl, or_add 1 0 c h0 (by simpa using h1) (by decide) (by decide)]; simp
theorem or_zero (c : Int) (h0 : 0 ≤ c) (h1 : c < 9223372036854775808) : bits .or .i64 0 c = c := by
  obtain ⟨b, rfl⟩ := Int.eq_ofNat_of_zero_le h0
  have := or_i64_nat 0 b (by decide) (by omega)
  rw [Nat.zero_or] at this
  exact this
theorem and_63 (a : Nat) (ha : a < 9223372036854775808) : bits .and .i64 (a : Int) 63 = ((a % 64 : Nat) : Int) := by
  have h1 : (BitVec.ofInt 64 (a : Int)).toNat = a := by
    rw [BitVec.ofInt_natCast, BitVec.toNat_ofNat]; exact Nat.mod_eq_of_lt (by omega)
  have h2 : (BitVec.ofInt 64 (63 : Int)).toNat = 63 := by decide
  show IntKind.i64.wrap ((BitVec.ofInt 64 (a : Int) &&& BitVec.ofInt 64 (63 : Int)).toNat : Int) = _
  rw [BitVec.toNat_and, h1, h2, IntKind.wrap_i64, show (63 : Nat) = 2 ^ 6 - 1 by rfl, Nat.and_two_pow_sub_one_eq_mod]
  omega
theorem low_six (c : Int) (h0 : 0 ≤ c) (h1 : c < 9223372036854775808) : bits .or .i64 128 (bits .and .i64 c 63) % 256 = 128 + c % 64 := by
  obtain ⟨b, rfl⟩ := Int.eq_ofNat_of_zero_le h0
  rw [and_63 b (by omega), or_128 _ (by omega) (by omega)]
  omega
theorem bytesU_snoc (l : List Int) (x : Int) : bytesU (l ++ [x]) = bytesU l ++ enc (fixN x) := by simp [bytesU, oneU]
theorem enc1 (m : Int) (h : m < 128) : enc m = [m] := by unfold enc; rw [if_pos h]
theorem enc2 (m : Int) (h : 128 ≤ m) (h' : m < 2048) : enc m = [192 + m / 64, 128 + m % 64] := by unfold enc; rw [if_neg (by omega), if_pos h']
theorem enc3 (m : Int) (h : 2048 ≤ m) (h' : m < 65536) : enc m = [224 + m / 4096, 128 + m / 64 % 64, 128 + m % 64] := by unfold enc; rw [if_neg (by omega), if_neg (by omega), if_pos h']
theorem enc4 (m : Int) (h : 65536 ≤ m) : enc m = [240 + m / 262144, 128 + m / 4096 % 64, 128 + m / 64 % 64, 128 + m % 64] := by unfold enc; rw [if_neg (by omega), if_neg (by omega), if_neg (by omega)]

set_option maxRecDepth 100000 in
set_option maxHeartbeats 8000000 in
theorem bytes11 (v : Value) (l : List Int) (w : World) (hlen : l.length ≤ 1000) (hv : Arr w 1 v l.length (l.map iv)) : Calls Try.prog 11 #[v] w (MadeB w (bytesU l)) := by
  obtain ⟨i0, hi0, hz0, hz1, hz2⟩ := info_parts info5
  rcases arr_cases hv with ⟨a, cap, rfl, h0, _, hmax⟩ | ⟨b, off, cap, rfl, hpos, hlen1, hb, hcap, hmax, hcell⟩
  · obtain rfl : l = [] := List.eq_nil_of_length_eq_zero h0
    clear hv
    (go_enter Try.func11, Try.ntmps11; go_wp2_with (fail))
    refine wp_loop_rounds 1 ?_
    rw [rounds_succ]
    go_wp2_with (fail)
    go_ret
    exact ⟨_, rfl, by repeat (first | (with_reducible exact Later.refl _) | with_reducible apply Later.latr | with_reducible apply Later.alloc | with_reducible apply Later.drew | (with_reducible refine Later.set ?_ (by (simp; try omega)) _)), World.ownsRow_nil _ _ _ _⟩
  have HC := hid hcell
  clear hcell hv
  (go_enter Try.func11, Try.ntmps11; go_wp2_with (fail))
  go_loopw [2, 9] (fun out i wr => ∃ k : Nat, k ≤ l.length ∧ i = .int .i64 k ∧ Later w wr ∧ wr.ownsRow w.heap.size 5 1 out (bytesU (l.take k)).length ((bytesU (l.take k)).map bv)) (fun _ i _ => l.length - (intOf i).toNat)
  case atStart => exact ⟨0, Nat.zero_le _, rfl, by repeat (first | (with_reducible exact Later.refl _) | with_reducible apply Later.latr | with_reducible apply Later.alloc | with_reducible apply Later.drew | (with_reducible refine Later.set ?_ (by (simp; try omega)) _)), World.ownsRow_nil _ _ _ _⟩
  case round =>
    obtain ⟨k, hk, rfl, hl, hO⟩ := hrel
    have hkl := bytes_len (l.take k)
    rw [List.length_take] at hkl
    by_cases hlt : k < l.length
    · have c0 : wr.cell? ⟨b, off + k, none⟩ = some (iv l[k]) := (hl.cell hb).trans (HC.out k _ (by simp [hlt]))
      have hbw : b < wr.heap.size := Nat.lt_of_lt_of_le hb hl.size
      have hsn := bytesU_snoc (l.take k) l[k]
      rw [← take_succ_ l k hlt] at hsn
      have hm := (isR_iff _).1 (fixN_is l[k])
      generalize bytesU (l.take k) = r at *
      have his := is16 l[k]
      generalize l[k] = x at *
      have HS := hid hsn
      have HO := hid hO
      have HL := hid hl
      clear hsn hO hl
      cases hr : isR x
      · rw [hr] at his
        have hfx : fixN x = 65533 := by unfold fixN; rw [if_neg (by simp [hr])]
        rw [hfx] at hm HS
        rw [show enc 65533 = [239, 191, 189] by decide] at HS
        have o0 : bits .or .i64 224 15 = 239 := by decide
        have o1 : bits .or .i64 128 (bits .and .i64 1023 63) % 256 = 191 := by decide
        have o2 : bits .or .i64 128 (bits .and .i64 65533 63) % 256 = 189 := by decide
        go_wp2_with (fail)
        (refine (his _).mono ?_; rintro e w1 ⟨rfl, x1, rfl⟩)
        have hO0 := own_latr HO.out x1
        have hz0 : w.heap.size ≤ (latr wr x1).heap.size := Nat.le_trans HL.out.size x1.is.size
        have hl0 : Later w (latr wr x1) := HL.out.latr x1
        have H0 := hid (And.intro hO0 (And.intro hz0 hl0))
        clear hO0 hz0 hl0
        go_wp2_with (first
          | (at_builtin
             go_must (refine append_new rfl (.tmp 25) (.tmp 32) 29 rfl w.heap.size 5 i0 _ 1 1 Try.underlying29 hi0 hz0 hz1 hz2 rfl (by decide) _ 5 _ _ _ rfl H0.out.1 _ 1 [_] rfl (size_latr _ _).symm rfl (by simp [Value.oneCell']) (by unfold maxLen; omega) (by omega) H0.out.2.1 ?_)
             intro v1 W1 hO1 hg1
             have hl1 := Later.grown H0.out.2.2 hg1 (own_lt H0.out.1 (Nat.le_refl _))
             have H1 := hid (And.intro hO1 (And.intro hl1.size hl1))
             clear hO1 hg1 hl1))
        refine wp_loop_rounds 3 ?_
        rw [rounds_succ]
        go_wp2_with (first
          | (at_builtin
             go_must (refine append_new rfl (.tmp 38) (.tmp 45) 29 rfl w.heap.size 5 i0 _ 1 1 Try.underlying29 hi0 hz0 hz1 hz2 rfl (by decide) _ 5 _ _ _ rfl H1.out.1 _ 1 [_] rfl rfl rfl (by simp [Value.oneCell']) (by unfold maxLen; omega) (by omega) H1.out.2.1 ?_)
             intro v2 W2 hO2 hg2
             have hl2 := Later.grown H1.out.2.2 hg2 (own_lt H1.out.1 (Nat.le_refl _))
             have H2 := hid (And.intro hO2 (And.intro hl2.size hl2))
             clear hO2 hg2 hl2))
        rw [rounds_succ]
        go_wp2_with (first
          | (at_builtin
             go_must (refine append_new rfl (.tmp 38) (.tmp 45) 29 rfl w.heap.size 5 i0 _ 1 1 Try.underlying29 hi0 hz0 hz1 hz2 rfl (by decide) _ 5 _ _ _ rfl H2.out.1 _ 1 [_] rfl rfl rfl (by simp [Value.oneCell']) (by unfold maxLen; omega) (by omega) H2.out.2.1 ?_)
             intro v3 W3 hO3 hg3
             have hl3 := Later.grown H2.out.2.2 hg3 (own_lt H2.out.1 (Nat.le_refl _))
             have H3 := hid (And.intro hO3 (And.intro hl3.size hl3))
             clear hO3 hg3 hl3))
        rw [rounds_succ]
        go_wp2_with (fail)
        go_roundw
        case rel => exact ⟨k + 1, by omega, by go_num, H3.out.2.2, by simpa [HS.out, Nat.add_assoc, o1, o2] using H3.out.1⟩
        case measure => simp [intOf]; omega
      · rw [hr] at his
        have hfx : fixN x = x := by unfold fixN; rw [if_pos hr]
        rw [hfx] at hm HS
        by_cases g1 : x < 128
        · rw [enc1 _ (by omega)] at HS
          have d1 : decide (65536 ≤ x) = false := by simp; omega
          have d2 : decide (2048 ≤ x) = false := by simp; omega
          have d3 : decide (128 ≤ x) = false := by simp; omega
          have o0 := or_zero x (by omega) (by omega)
          go_wp2_with (fail)
          (refine (his _).mono ?_; rintro e w1 ⟨rfl, x1, rfl⟩)
          have hO0 := own_latr HO.out x1
          have hz0 : w.heap.size ≤ (latr wr x1).heap.size := Nat.le_trans HL.out.size x1.is.size
          have hl0 : Later w (latr wr x1) := HL.out.latr x1
          have H0 := hid (And.intro hO0 (And.intro hz0 hl0))
          clear hO0 hz0 hl0
          go_wp2_with (first
            | (at_builtin
               go_must (refine append_new rfl (.tmp 25) (.tmp 32) 29 rfl w.heap.size 5 i0 _ 1 1 Try.underlying29 hi0 hz0 hz1 hz2 rfl (by decide) _ 5 _ _ _ rfl H0.out.1 _ 1 [_] rfl (size_latr _ _).symm rfl (by simp [Value.oneCell']) (by unfold maxLen; omega) (by omega) H0.out.2.1 ?_)
               intro v1 W1 hO1 hg1
               have hl1 := Later.grown H0.out.2.2 hg1 (own_lt H0.out.1 (Nat.le_refl _))
               have H1 := hid (And.intro hO1 (And.intro hl1.size hl1))
               clear hO1 hg1 hl1))
          refine wp_loop_rounds 1 ?_
          rw [rounds_succ]
          go_wp2_with (fail)
          go_roundw
          case rel => exact ⟨k + 1, by omega, by go_num, H1.out.2.2, by simpa [HS.out, Nat.add_assoc] using H1.out.1⟩
          case measure => simp [intOf]; omega
        by_cases g2 : x < 2048
        · rw [enc2 _ (by omega) (by omega)] at HS
          have d1 : decide (65536 ≤ x) = false := by simp; omega
          have d2 : decide (2048 ≤ x) = false := by simp; omega
          have d3 : decide (128 ≤ x) = true := by simp; omega
          have o0 := or_192 (x / 64) (by omega) (by omega)
          have o1 := low_six x (by omega) (by omega)
          go_wp2_with (fail)
          (refine (his _).mono ?_; rintro e w1 ⟨rfl, x1, rfl⟩)
          have hO0 := own_latr HO.out x1
          have hz0 : w.heap.size ≤ (latr wr x1).heap.size := Nat.le_trans HL.out.size x1.is.size
          have hl0 : Later w (latr wr x1) := HL.out.latr x1
          have H0 := hid (And.intro hO0 (And.intro hz0 hl0))
          clear hO0 hz0 hl0
          go_wp2_with (first
            | (at_builtin
               go_must (refine append_new rfl (.tmp 25) (.tmp 32) 29 rfl w.heap.size 5 i0 _ 1 1 Try.underlying29 hi0 hz0 hz1 hz2 rfl (by decide) _ 5 _ _ _ rfl H0.out.1 _ 1 [_] rfl (size_latr _ _).symm rfl (by simp [Value.oneCell']) (by unfold maxLen; omega) (by omega) H0.out.2.1 ?_)
               intro v1 W1 hO1 hg1
               have hl1 := Later.grown H0.out.2.2 hg1 (own_lt H0.out.1 (Nat.le_refl _))
               have H1 := hid (And.intro hO1 (And.intro hl1.size hl1))
               clear hO1 hg1 hl1))
          refine wp_loop_rounds 2 ?_
          rw [rounds_succ]
          go_wp2_with (first
            | (at_builtin
               go_must (refine append_new rfl (.tmp 38) (.tmp 45) 29 rfl w.heap.size 5 i0 _ 1 1 Try.underlying29 hi0 hz0 hz1 hz2 rfl (by decide) _ 5 _ _ _ rfl H1.out.1 _ 1 [_] rfl rfl rfl (by simp [Value.oneCell']) (by unfold maxLen; omega) (by omega) H1.out.2.1 ?_)
               intro v2 W2 hO2 hg2
               have hl2 := Later.grown H1.out.2.2 hg2 (own_lt H1.out.1 (Nat.le_refl _))
               have H2 := hid (And.intro hO2 (And.intro hl2.size hl2))
               clear hO2 hg2 hl2))
          rw [rounds_succ]
          go_wp2_with (fail)
          go_roundw
          case rel => exact ⟨k + 1, by omega, by go_num, H2.out.2.2, by simpa [HS.out, Nat.add_assoc, o1] using H2.out.1⟩
          case measure => simp [intOf]; omega
        by_cases g3 : x < 65536
        · rw [enc3 _ (by omega) (by omega)] at HS
          have d1 : decide (65536 ≤ x) = false := by simp; omega
          have d2 : decide (2048 ≤ x) = true := by simp; omega
          have d3 : decide (128 ≤ x) = true := by simp; omega
          have o0 := or_224 (x / 4096) (by omega) (by omega)
          have o1 := low_six x (by omega) (by omega)
          have o2 := low_six (x / 64) (by omega) (by omega)
          go_wp2_with (fail)
          (refine (his _).mono ?_; rintro e w1 ⟨rfl, x1, rfl⟩)
          have hO0 := own_latr HO.out x1
          have hz0 : w.heap.size ≤ (latr wr x1).heap.size := Nat.le_trans HL.out.size x1.is.size
          have hl0 : Later w (latr wr x1) := HL.out.latr x1
          have H0 := hid (And.intro hO0 (And.intro hz0 hl0))
          clear hO0 hz0 hl0
          go_wp2_with (first
            | (at_builtin
               go_must (refine append_new rfl (.tmp 25) (.tmp 32) 29 rfl w.heap.size 5 i0 _ 1 1 Try.underlying29 hi0 hz0 hz1 hz2 rfl (by decide) _ 5 _ _ _ rfl H0.out.1 _ 1 [_] rfl (size_latr _ _).symm rfl (by simp [Value.oneCell']) (by unfold maxLen; omega) (by omega) H0.out.2.1 ?_)
               intro v1 W1 hO1 hg1
               have hl1 := Later.grown H0.out.2.2 hg1 (own_lt H0.out.1 (Nat.le_refl _))
               have H1 := hid (And.intro hO1 (And.intro hl1.size hl1))
               clear hO1 hg1 hl1))
          refine wp_loop_rounds 3 ?_
          rw [rounds_succ]
          go_wp2_with (first
            | (at_builtin
               go_must (refine append_new rfl (.tmp 38) (.tmp 45) 29 rfl w.heap.size 5 i0 _ 1 1 Try.underlying29 hi0 hz0 hz1 hz2 rfl (by decide) _ 5 _ _ _ rfl H1.out.1 _ 1 [_] rfl rfl rfl (by simp [Value.oneCell']) (by unfold maxLen; omega) (by omega) H1.out.2.1 ?_)
               intro v2 W2 hO2 hg2
               have hl2 := Later.grown H1.out.2.2 hg2 (own_lt H1.out.1 (Nat.le_refl _))
               have H2 := hid (And.intro hO2 (And.intro hl2.size hl2))
               clear hO2 hg2 hl2))
          rw [rounds_succ]
          go_wp2_with (first
            | (at_builtin
               go_must (refine append_new rfl (.tmp 38) (.tmp 45) 29 rfl w.heap.size 5 i0 _ 1 1 Try.underlying29 hi0 hz0 hz1 hz2 rfl (by decide) _ 5 _ _ _ rfl H2.out.1 _ 1 [_] rfl rfl rfl (by simp [Value.oneCell']) (by unfold maxLen; omega) (by omega) H2.out.2.1 ?_)
               intro v3 W3 hO3 hg3
               have hl3 := Later.grown H2.out.2.2 hg3 (own_lt H2.out.1 (Nat.le_refl _))
               have H3 := hid (And.intro hO3 (And.intro hl3.size hl3))
               clear hO3 hg3 hl3))
          rw [rounds_succ]
          go_wp2_with (fail)
          go_roundw
          case rel => exact ⟨k + 1, by omega, by go_num, H3.out.2.2, by simpa [HS.out, Nat.add_assoc, o1, o2] using H3.out.1⟩
          case measure => simp [intOf]; omega
        rw [enc4 _ (by omega)] at HS
        have d1 : decide (65536 ≤ x) = true := by simp; omega
        have d2 : decide (2048 ≤ x) = true := by simp; omega
        have d3 : decide (128 ≤ x) = true := by simp; omega
        have o0 := or_240 (x / 262144) (by omega) (by omega)
        have o1 := low_six x (by omega) (by omega)
        have o2 := low_six (x / 64) (by omega) (by omega)
        have o3 := low_six (x / 4096) (by omega) (by omega)
        go_wp2_with (fail)
        (refine (his _).mono ?_; rintro e w1 ⟨rfl, x1, rfl⟩)
        have hO0 := own_latr HO.out x1
        have hz0 : w.heap.size ≤ (latr wr x1).heap.size := Nat.le_trans HL.out.size x1.is.size
        have hl0 : Later w (latr wr x1) := HL.out.latr x1
        have H0 := hid (And.intro hO0 (And.intro hz0 hl0))
        clear hO0 hz0 hl0
        go_wp2_with (first
          | (at_builtin
             go_must (refine append_new rfl (.tmp 25) (.tmp 32) 29 rfl w.heap.size 5 i0 _ 1 1 Try.underlying29 hi0 hz0 hz1 hz2 rfl (by decide) _ 5 _ _ _ rfl H0.out.1 _ 1 [_] rfl (size_latr _ _).symm rfl (by simp [Value.oneCell']) (by unfold maxLen; omega) (by omega) H0.out.2.1 ?_)
             intro v1 W1 hO1 hg1
             have hl1 := Later.grown H0.out.2.2 hg1 (own_lt H0.out.1 (Nat.le_refl _))
             have H1 := hid (And.intro hO1 (And.intro hl1.size hl1))
             clear hO1 hg1 hl1))
        refine wp_loop_rounds 4 ?_
        rw [rounds_succ]
        go_wp2_with (first
          | (at_builtin
             go_must (refine append_new rfl (.tmp 38) (.tmp 45) 29 rfl w.heap.size 5 i0 _ 1 1 Try.underlying29 hi0 hz0 hz1 hz2 rfl (by decide) _ 5 _ _ _ rfl H1.out.1 _ 1 [_] rfl rfl rfl (by simp [Value.oneCell']) (by unfold maxLen; omega) (by omega) H1.out.2.1 ?_)
             intro v2 W2 hO2 hg2
             have hl2 := Later.grown H1.out.2.2 hg2 (own_lt H1.out.1 (Nat.le_refl _))
             have H2 := hid (And.intro hO2 (And.intro hl2.size hl2))
             clear hO2 hg2 hl2))
        rw [rounds_succ]
        go_wp2_with (first
          | (at_builtin
             go_must (refine append_new rfl (.tmp 38) (.tmp 45) 29 rfl w.heap.size 5 i0 _ 1 1 Try.underlying29 hi0 hz0 hz1 hz2 rfl (by decide) _ 5 _ _ _ rfl H2.out.1 _ 1 [_] rfl rfl rfl (by simp [Value.oneCell']) (by unfold maxLen; omega) (by omega) H2.out.2.1 ?_)
             intro v3 W3 hO3 hg3
             have hl3 := Later.grown H2.out.2.2 hg3 (own_lt H2.out.1 (Nat.le_refl _))
             have H3 := hid (And.intro hO3 (And.intro hl3.size hl3))
             clear hO3 hg3 hl3))
        rw [rounds_succ]
        go_wp2_with (first
          | (at_builtin
             go_must (refine append_new rfl (.tmp 38) (.tmp 45) 29 rfl w.heap.size 5 i0 _ 1 1 Try.underlying29 hi0 hz0 hz1 hz2 rfl (by decide) _ 5 _ _ _ rfl H3.out.1 _ 1 [_] rfl rfl rfl (by simp [Value.oneCell']) (by unfold maxLen; omega) (by omega) H3.out.2.1 ?_)
             intro v4 W4 hO4 hg4
             have hl4 := Later.grown H3.out.2.2 hg4 (own_lt H3.out.1 (Nat.le_refl _))
             have H4 := hid (And.intro hO4 (And.intro hl4.size hl4))
             clear hO4 hg4 hl4))
        rw [rounds_succ]
        go_wp2_with (fail)
        go_roundw
        case rel => exact ⟨k + 1, by omega, by go_num, H4.out.2.2, by simpa [HS.out, Nat.add_assoc, o1, o2, o3] using H4.out.1⟩
        case measure => simp [intOf]; omega
    · obtain rfl : k = l.length := by omega
      rw [List.take_length] at hO
      have HL := hid hl
      have HO := hid hO
      clear hl hO
      go_wp2_with (fail)
      go_ret
      exact ⟨_, rfl, by repeat (first | (with_reducible exact Later.refl _) | (with_reducible exact HL.out) | with_reducible apply Later.latr | with_reducible apply Later.alloc | with_reducible apply Later.drew | (with_reducible refine Later.set ?_ (by (simp; try omega)) _)), HO.out⟩

set_option maxRecDepth 100000 in
set_option maxHeartbeats 8000000 in
theorem bytes12 (v : Value) (l : List Int) (w : World) (hlen : l.length ≤ 1000) (hv : Arr w 1 v l.length (l.map iv)) : Calls Try.prog 12 #[v] w (MadeB w (bytesU l)) := by
  obtain ⟨i0, hi0, hz0, hz1, hz2⟩ := info_parts info5
  rcases arr_cases hv with ⟨a, cap, rfl, h0, _, hmax⟩ | ⟨b, off, cap, rfl, hpos, hlen1, hb, hcap, hmax, hcell⟩
  · obtain rfl : l = [] := List.eq_nil_of_length_eq_zero h0
    clear hv
    (go_enter Try.func12, Try.ntmps12; go_wp2_with (fail))
    refine wp_loop_rounds 1 ?_
    rw [rounds_succ]
    go_wp2_with (fail)
    go_ret
    exact ⟨_, rfl, by repeat (first | (with_reducible exact Later.refl _) | with_reducible apply Later.latr | with_reducible apply Later.alloc | with_reducible apply Later.drew | (with_reducible refine Later.set ?_ (by (simp; try omega)) _)), World.ownsRow_nil _ _ _ _⟩
  have HC := hid hcell
  clear hcell hv
  (go_enter Try.func12, Try.ntmps12; go_wp2_with (fail))
  go_loopw [3, 4] (fun out i wr => ∃ k : Nat, k ≤ l.length ∧ i = .int .i64 k ∧ Later w wr ∧ wr.ownsRow w.heap.size 5 1 out (bytesU (l.take k)).length ((bytesU (l.take k)).map bv)) (fun _ i _ => l.length - (intOf i).toNat)
  case atStart => exact ⟨0, Nat.zero_le _, rfl, by repeat (first | (with_reducible exact Later.refl _) | with_reducible apply Later.latr | with_reducible apply Later.alloc | with_reducible apply Later.drew | (with_reducible refine Later.set ?_ (by (simp; try omega)) _)), World.ownsRow_nil _ _ _ _⟩
  case round =>
    obtain ⟨k, hk, rfl, hl, hO⟩ := hrel
    have hkl := bytes_len (l.take k)
    rw [List.length_take] at hkl
    by_cases hlt : k < l.length
    · have c0 : wr.cell? ⟨b, off + k, none⟩ = some (iv l[k]) := (hl.cell hb).trans (HC.out k _ (by simp [hlt]))
      have hbw : b < wr.heap.size := Nat.lt_of_lt_of_le hb hl.size
      have hsn := bytesU_snoc (l.take k) l[k]
      rw [← take_succ_ l k hlt] at hsn
      have hm := (isR_iff _).1 (fixN_is l[k])
      generalize bytesU (l.take k) = r at *
      have his := is19 l[k]
      generalize l[k] = x at *
      have HS := hid hsn
      have HO := hid hO
      have HL := hid hl
      clear hsn hO hl
      cases hr : isR x
      · rw [hr] at his
        have hfx : fixN x = 65533 := by unfold fixN; rw [if_neg (by simp [hr])]
        rw [hfx] at hm HS
        rw [show enc 65533 = [239, 191, 189] by decide] at HS
        go_wp2_with (fail)
        (refine (his _).mono ?_; rintro e w1 ⟨rfl, x1, rfl⟩)
        have hO0 := own_latr HO.out x1
        have hz0 : w.heap.size ≤ (latr wr x1).heap.size := Nat.le_trans HL.out.size x1.is.size
        have hl0 : Later w (latr wr x1) := HL.out.latr x1
        have H0 := hid (And.intro hO0 (And.intro hz0 hl0))
        clear hO0 hz0 hl0
        go_wp2_with (first
          | (at_builtin
             go_must (refine append_new rfl (.tmp 67) (.tmp 81) 29 rfl w.heap.size 5 i0 _ 1 1 Try.underlying29 hi0 hz0 hz1 hz2 rfl (by decide) _ 5 _ _ _ rfl H0.out.1 _ 3 [_, _, _] rfl (size_latr _ _).symm rfl (by simp [Value.oneCell']) (by unfold maxLen; omega) (by omega) H0.out.2.1 ?_)
             intro v1 W1 hO1 hg1
             have hl1 := Later.grown H0.out.2.2 hg1 (own_lt H0.out.1 (Nat.le_refl _))
             have H1 := hid (And.intro hO1 (And.intro hl1.size hl1))
             clear hO1 hg1 hl1))
        go_roundw
        case rel => exact ⟨k + 1, by omega, by go_num, H1.out.2.2, by simpa [HS.out, Nat.add_assoc] using H1.out.1⟩
        case measure => simp [intOf]; omega
      · rw [hr] at his
        have hfx : fixN x = x := by unfold fixN; rw [if_pos hr]
        rw [hfx] at hm HS
        by_cases g1 : x < 128
        · rw [enc1 _ (by omega)] at HS
          have d1 : decide (x < 128) = true := by simp; omega
          go_wp2_with (fail)
          (refine (his _).mono ?_; rintro e w1 ⟨rfl, x1, rfl⟩)
          have hO0 := own_latr HO.out x1
          have hz0 : w.heap.size ≤ (latr wr x1).heap.size := Nat.le_trans HL.out.size x1.is.size
          have hl0 : Later w (latr wr x1) := HL.out.latr x1
          have H0 := hid (And.intro hO0 (And.intro hz0 hl0))
          clear hO0 hz0 hl0
          go_wp2_with (first
            | (at_builtin
               go_must (refine append_new rfl (.tmp 45) (.tmp 48) 29 rfl w.heap.size 5 i0 _ 1 1 Try.underlying29 hi0 hz0 hz1 hz2 rfl (by decide) _ 5 _ _ _ rfl H0.out.1 _ 1 [_] rfl (size_latr _ _).symm rfl (by simp [Value.oneCell']) (by unfold maxLen; omega) (by omega) H0.out.2.1 ?_)
               intro v1 W1 hO1 hg1
               have hl1 := Later.grown H0.out.2.2 hg1 (own_lt H0.out.1 (Nat.le_refl _))
               have H1 := hid (And.intro hO1 (And.intro hl1.size hl1))
               clear hO1 hg1 hl1))
          go_roundw
          case rel => exact ⟨k + 1, by omega, by go_num, H1.out.2.2, by simpa [HS.out, Nat.add_assoc] using H1.out.1⟩
          case measure => simp [intOf]; omega
        by_cases g2 : x < 2048
        · rw [enc2 _ (by omega) (by omega)] at HS
          have d1 : decide (x < 128) = false := by simp; omega
          have d2 : decide (x < 2048) = true := by simp; omega
          go_wp2_with (fail)
          (refine (his _).mono ?_; rintro e w1 ⟨rfl, x1, rfl⟩)
          have hO0 := own_latr HO.out x1
          have hz0 : w.heap.size ≤ (latr wr x1).heap.size := Nat.le_trans HL.out.size x1.is.size
          have hl0 : Later w (latr wr x1) := HL.out.latr x1
          have H0 := hid (And.intro hO0 (And.intro hz0 hl0))
          clear hO0 hz0 hl0
          go_wp2_with (first
            | (at_builtin
               go_must (refine append_new rfl (.tmp 53) (.tmp 62) 29 rfl w.heap.size 5 i0 _ 1 1 Try.underlying29 hi0 hz0 hz1 hz2 rfl (by decide) _ 5 _ _ _ rfl H0.out.1 _ 2 [_, _] rfl (size_latr _ _).symm rfl (by simp [Value.oneCell']) (by unfold maxLen; omega) (by omega) H0.out.2.1 ?_)
               intro v1 W1 hO1 hg1
               have hl1 := Later.grown H0.out.2.2 hg1 (own_lt H0.out.1 (Nat.le_refl _))
               have H1 := hid (And.intro hO1 (And.intro hl1.size hl1))
               clear hO1 hg1 hl1))
          go_roundw
          case rel => exact ⟨k + 1, by omega, by go_num, H1.out.2.2, by simpa [HS.out, Nat.add_assoc] using H1.out.1⟩
          case measure => simp [intOf]; omega
        by_cases g3 : x < 65536
        · rw [enc3 _ (by omega) (by omega)] at HS
          have d1 : decide (x < 128) = false := by simp; omega
          have d2 : decide (x < 2048) = false := by simp; omega
          have d3 : decide (x < 65536) = true := by simp; omega
          go_wp2_with (fail)
          (refine (his _).mono ?_; rintro e w1 ⟨rfl, x1, rfl⟩)
          have hO0 := own_latr HO.out x1
          have hz0 : w.heap.size ≤ (latr wr x1).heap.size := Nat.le_trans HL.out.size x1.is.size
          have hl0 : Later w (latr wr x1) := HL.out.latr x1
          have H0 := hid (And.intro hO0 (And.intro hz0 hl0))
          clear hO0 hz0 hl0
          go_wp2_with (first
            | (at_builtin
               go_must (refine append_new rfl (.tmp 67) (.tmp 81) 29 rfl w.heap.size 5 i0 _ 1 1 Try.underlying29 hi0 hz0 hz1 hz2 rfl (by decide) _ 5 _ _ _ rfl H0.out.1 _ 3 [_, _, _] rfl (size_latr _ _).symm rfl (by simp [Value.oneCell']) (by unfold maxLen; omega) (by omega) H0.out.2.1 ?_)
               intro v1 W1 hO1 hg1
               have hl1 := Later.grown H0.out.2.2 hg1 (own_lt H0.out.1 (Nat.le_refl _))
               have H1 := hid (And.intro hO1 (And.intro hl1.size hl1))
               clear hO1 hg1 hl1))
          go_roundw
          case rel => exact ⟨k + 1, by omega, by go_num, H1.out.2.2, by simpa [HS.out, Nat.add_assoc] using H1.out.1⟩
          case measure => simp [intOf]; omega
        rw [enc4 _ (by omega)] at HS
        have d1 : decide (x < 128) = false := by simp; omega
        have d2 : decide (x < 2048) = false := by simp; omega
        have d3 : decide (x < 65536) = false := by simp; omega
        go_wp2_with (fail)
        (refine (his _).mono ?_; rintro e w1 ⟨rfl, x1, rfl⟩)
        have hO0 := own_latr HO.out x1
        have hz0 : w.heap.size ≤ (latr wr x1).heap.size := Nat.le_trans HL.out.size x1.is.size
        have hl0 : Later w (latr wr x1) := HL.out.latr x1
        have H0 := hid (And.intro hO0 (And.intro hz0 hl0))
        clear hO0 hz0 hl0
        go_wp2_with (first
          | (at_builtin
             go_must (refine append_new rfl (.tmp 21) (.tmp 40) 29 rfl w.heap.size 5 i0 _ 1 1 Try.underlying29 hi0 hz0 hz1 hz2 rfl (by decide) _ 5 _ _ _ rfl H0.out.1 _ 4 [_, _, _, _] rfl (size_latr _ _).symm rfl (by simp [Value.oneCell']) (by unfold maxLen; omega) (by omega) H0.out.2.1 ?_)
             intro v1 W1 hO1 hg1
             have hl1 := Later.grown H0.out.2.2 hg1 (own_lt H0.out.1 (Nat.le_refl _))
             have H1 := hid (And.intro hO1 (And.intro hl1.size hl1))
             clear hO1 hg1 hl1))
        go_roundw
        case rel => exact ⟨k + 1, by omega, by go_num, H1.out.2.2, by simpa [HS.out, Nat.add_assoc] using H1.out.1⟩
        case measure => simp [intOf]; omega
    · obtain rfl : k = l.length := by omega
      rw [List.take_length] at hO
      have HL := hid hl
      have HO := hid hO
      clear hl hO
      go_wp2_with (fail)
      go_ret
      exact ⟨_, rfl, by repeat (first | (with_reducible exact Later.refl _) | (with_reducible exact HL.out) | with_reducible apply Later.latr | with_reducible apply Later.alloc | with_reducible apply Later.drew | (with_reducible refine Later.set ?_ (by (simp; try omega)) _)), HO.out⟩

end Go.Proofs.Ytlkiogjjhhafnaa
