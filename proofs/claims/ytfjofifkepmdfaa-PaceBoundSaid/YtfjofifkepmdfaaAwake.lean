/- The walk of the statements' head (awake): it answers true. No condition. -/
import Derived.Test.YtfjofifkepmdfaaSends
namespace Go.Proofs.Ytfjofifkepmdfaa
open Go.RowKit

theorem aw_s : outS 10 100 [(0, 100), (0, 1), (5, 50), (5, 1)] (b0 10 100) = [true, false, true, false] := by decide +kernel
theorem aw_f : (fill { t := 5, l := 10 } 12 10 100).t = 25 ∧ (fill { t := 5, l := 10 } 12 10 100).l = 12 := by decide +kernel
theorem aw_t : (take { t := 25, l := 12 } 20).t = 5 ∧ (take { t := 25, l := 12 } 20).l = 12 ∧ may { t := 25, l := 12 } 20 = true := by decide +kernel
theorem aw_n : (take { t := 25, l := 12 } 26).t = 25 ∧ (take { t := 25, l := 12 } 26).l = 12 ∧ may { t := 25, l := 12 } 26 = false := by decide +kernel
theorem aw_r : rate 2560 50 = 64 := by decide +kernel
theorem aw_w : when { t := 25, l := 12 } 46 10 = 15 := by decide +kernel
theorem call_s (v : Value) (W : World) (h : Arr W 2 v 4 (pairs [(0, 100), (0, 1), (5, 50), (5, 1)])) :
    Calls Try.prog 8 #[.int .i64 10, .int .i64 100, v] W fun e w' => ∃ v', e = .returned v' ∧ Later W w' ∧ Arr w' 1 v' 4 [.bool true, .bool false, .bool true, .bool false] := by
  have := sends8 v 10 100 [(0, 100), (0, 1), (5, 50), (5, 1)] W h (by decide)
  rw [aw_s] at this
  exact this
theorem call_f (W : World) : Gives Try.prog 13 #[.agg #[.int .i64 5, .int .i64 10], .int .i64 12, .int .i64 10, .int .i64 100] W (.agg #[.int .i64 25, .int .i64 12]) := by
  have := fill13 { t := 5, l := 10 } 12 10 100 W; unfold bv at this; rw [aw_f.1, aw_f.2] at this; exact this
theorem call_t (W : World) : Gives Try.prog 12 #[.agg #[.int .i64 25, .int .i64 12], .int .i64 20] W (.tuple #[.agg #[.int .i64 5, .int .i64 12], .bool true]) := by
  have := take12 { t := 25, l := 12 } 20 W; unfold tv bv at this; rw [aw_t.1, aw_t.2.1, aw_t.2.2] at this; exact this
theorem call_n (W : World) : Gives Try.prog 12 #[.agg #[.int .i64 25, .int .i64 12], .int .i64 26] W (.tuple #[.agg #[.int .i64 25, .int .i64 12], .bool false]) := by
  have := take12 { t := 25, l := 12 } 26 W; unfold tv bv at this; rw [aw_n.1, aw_n.2.1, aw_n.2.2] at this; exact this
theorem call_r (W : World) : Gives Try.prog 14 #[.int .i64 2560, .int .i64 50] W (.int .i64 64) := by
  have := rate14 2560 50 W; rw [aw_r] at this; exact this
theorem call_w (W : World) : Gives Try.prog 11 #[.agg #[.int .i64 25, .int .i64 12], .int .i64 46, .int .i64 10] W (.int .i64 15) := by
  have := when11 { t := 25, l := 12 } 46 10 W; rw [aw_w] at this; exact this

/-! a block that lies below a size lies below what is more -/
@[local go_sem] theorem h_lt1 (b n a1 : Nat) (h : b < n) : (b < n + a1) = True := by simp only [eq_iff_iff, iff_true]; omega
@[local go_sem] theorem h_eq1 (b n a1 : Nat) (h : b < n) : (b = n + a1) = False := by simp only [eq_iff_iff, iff_false]; omega
@[local go_sem] theorem h_qe1 (b n a1 : Nat) (h : b < n) : (n + a1 = b) = False := by simp only [eq_iff_iff, iff_false]; omega
@[local go_sem] theorem h_lt2 (b n a1 a2 : Nat) (h : b < n) : (b < n + a1 + a2) = True := by simp only [eq_iff_iff, iff_true]; omega
@[local go_sem] theorem h_eq2 (b n a1 a2 : Nat) (h : b < n) : (b = n + a1 + a2) = False := by simp only [eq_iff_iff, iff_false]; omega
@[local go_sem] theorem h_qe2 (b n a1 a2 : Nat) (h : b < n) : (n + a1 + a2 = b) = False := by simp only [eq_iff_iff, iff_false]; omega
@[local go_sem] theorem h_lt3 (b n a1 a2 a3 : Nat) (h : b < n) : (b < n + a1 + a2 + a3) = True := by simp only [eq_iff_iff, iff_true]; omega
@[local go_sem] theorem h_eq3 (b n a1 a2 a3 : Nat) (h : b < n) : (b = n + a1 + a2 + a3) = False := by simp only [eq_iff_iff, iff_false]; omega
@[local go_sem] theorem h_qe3 (b n a1 a2 a3 : Nat) (h : b < n) : (n + a1 + a2 + a3 = b) = False := by simp only [eq_iff_iff, iff_false]; omega
@[local go_sem] theorem h_lt4 (b n a1 a2 a3 a4 : Nat) (h : b < n) : (b < n + a1 + a2 + a3 + a4) = True := by simp only [eq_iff_iff, iff_true]; omega
@[local go_sem] theorem h_eq4 (b n a1 a2 a3 a4 : Nat) (h : b < n) : (b = n + a1 + a2 + a3 + a4) = False := by simp only [eq_iff_iff, iff_false]; omega
@[local go_sem] theorem h_qe4 (b n a1 a2 a3 a4 : Nat) (h : b < n) : (n + a1 + a2 + a3 + a4 = b) = False := by simp only [eq_iff_iff, iff_false]; omega
@[local go_sem] theorem h_lt5 (b n a1 a2 a3 a4 a5 : Nat) (h : b < n) : (b < n + a1 + a2 + a3 + a4 + a5) = True := by simp only [eq_iff_iff, iff_true]; omega
@[local go_sem] theorem h_eq5 (b n a1 a2 a3 a4 a5 : Nat) (h : b < n) : (b = n + a1 + a2 + a3 + a4 + a5) = False := by simp only [eq_iff_iff, iff_false]; omega
@[local go_sem] theorem h_qe5 (b n a1 a2 a3 a4 a5 : Nat) (h : b < n) : (n + a1 + a2 + a3 + a4 + a5 = b) = False := by simp only [eq_iff_iff, iff_false]; omega
@[local go_sem] theorem h_lt6 (b n a1 a2 a3 a4 a5 a6 : Nat) (h : b < n) : (b < n + a1 + a2 + a3 + a4 + a5 + a6) = True := by simp only [eq_iff_iff, iff_true]; omega
@[local go_sem] theorem h_eq6 (b n a1 a2 a3 a4 a5 a6 : Nat) (h : b < n) : (b = n + a1 + a2 + a3 + a4 + a5 + a6) = False := by simp only [eq_iff_iff, iff_false]; omega
@[local go_sem] theorem h_qe6 (b n a1 a2 a3 a4 a5 a6 : Nat) (h : b < n) : (n + a1 + a2 + a3 + a4 + a5 + a6 = b) = False := by simp only [eq_iff_iff, iff_false]; omega

set_option maxHeartbeats 4000000 in
theorem awake7 (w : World) : Gives Try.prog 7 #[] w (.bool true) := by
  apply gives_of
  go_enter Try.func7, Try.ntmps7
  go_wp2_with (fail)
  refine (call_s _ _ (Arr.lits (b := w.heap.size) rfl (by decide) (by simp) ?_)).mono ?_
  · intro j u hu
    rw [World.cell?_alloc_new, ← hu]
    simp [pairs]
  rintro e w1 ⟨v', rfl, hl1, hv⟩
  rcases arr_cases hv with ⟨a, cap, rfl, h0, _, hmax⟩ | ⟨b, off, cap, rfl, hpos, hlen, hb, hcap, hmax, hcell⟩
  · cases h0
  have c0 : w1.cell? ⟨b, off, none⟩ = some (.bool true) := hcell 0 _ rfl
  have c1 : w1.cell? ⟨b, off + 1, none⟩ = some (.bool false) := hcell 1 _ rfl
  have c2 : w1.cell? ⟨b, off + 2, none⟩ = some (.bool true) := hcell 2 _ rfl
  have c3 : w1.cell? ⟨b, off + 3, none⟩ = some (.bool false) := hcell 3 _ rfl
  clear hcell hv
  have hw := hid (((Later.refl w).alloc _).trans hl1)
  go_wp2_with (fail)
  refine (call_f _).mono ?_
  rintro e w2 ⟨rfl, x2, rfl⟩
  go_wp2_with (fail)
  refine (call_t _).mono ?_
  rintro e w2 ⟨rfl, x3, rfl⟩
  go_wp2_with (fail)
  refine (call_n _).mono ?_
  rintro e w2 ⟨rfl, x4, rfl⟩
  go_wp2_with (fail)
  refine (call_r _).mono ?_
  rintro e w2 ⟨rfl, x5, rfl⟩
  go_wp2_with (fail)
  refine (call_w _).mono ?_
  rintro e w2 ⟨rfl, x6, rfl⟩
  go_wp2_with (fail)
  go_ret
  exact ⟨rfl, by repeat (first | (with_reducible exact hw.out) | with_reducible apply Later.latr | with_reducible apply Later.alloc | with_reducible apply Later.drew)⟩
end Go.Proofs.Ytfjofifkepmdfaa
