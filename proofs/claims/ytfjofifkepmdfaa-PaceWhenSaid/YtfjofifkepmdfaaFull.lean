/- PaceFull and PaceWhen: the laws, and the walks: each answers true. -/
import Derived.Test.YtfjofifkepmdfaaAwake
namespace Go.Proofs.Ytfjofifkepmdfaa
open Go.RowKit

/-- a bucket that waits as many ticks as a burst is full -/
theorem fill_full (t l r n : Int) (l0 : 0 ≤ l) (l1 : l ≤ 65535) (n0 : 1 ≤ n) (n1 : n ≤ 65536) : fill { t := t, l := l } (l + n) r n = { t := n, l := l + n } := by
  unfold fill ticks
  dsimp only
  rw [cl_id l _ (by omega) (by omega), cl_id (l + n) _ (by omega) (by omega), cl1_id n _ (by omega) (by omega)]
  have h : max (l + n - l) 0 = n := by omega
  rw [h]
  have h1 := cl_bd t 1048576 (by omega)
  have h2 := cl1_bd r 1048576 (by omega)
  have h3 : 1 * n ≤ cl1 r 1048576 * n := Int.mul_le_mul_of_nonneg_right (by omega) (by omega)
  simp only [Bk.mk.injEq, and_true]
  omega
theorem take_full (n l s : Int) (l0 : 0 ≤ l) (l1 : l ≤ 262144) (n0 : 1 ≤ n) (n1 : n ≤ 65536) (s0 : 0 ≤ s) (s1 : s ≤ 65535) : take { t := n, l := l } s = (if s ≤ n then { t := n - s, l := l } else { t := n, l := l }) ∧ may { t := n, l := l } s = decide (s ≤ n) := by
  unfold take may
  dsimp only
  rw [cl_id l _ (by omega) (by omega), cl_id n _ (by omega) (by omega), cl_id s _ (by omega) (by omega)]
  exact ⟨rfl, rfl⟩

set_option maxHeartbeats 4000000 in
theorem full6 (t l r n s : Int) (w : World) (ht0 : 0 ≤ t) (ht1 : t ≤ 65535) (hl0 : 0 ≤ l) (hl1 : l ≤ 65535) (hr0 : 0 ≤ r) (hr1 : r ≤ 65535) (hn0 : 0 ≤ n) (hn1 : n ≤ 65535) (hs0 : 0 ≤ s) (hs1 : s ≤ 65535) :
    Calls Try.prog 6 #[.int .u16 t, .int .u16 l, .int .u16 r, .int .u16 n, .int .u16 s] w fun e w' => e = .returned (.bool true) ∧ Later w w' := by
  have hf := fill13 { t := t, l := l } (l + (1 + n)) (1 + r) (1 + n)
  rw [fill_full t l (1 + r) (1 + n) hl0 hl1 (by omega) (by omega)] at hf
  have hk := take12 { t := 1 + n, l := l + (1 + n) } s
  obtain ⟨k1, k2⟩ := take_full (1 + n) (l + (1 + n)) s (by omega) (by omega) (by omega) (by omega) hs0 hs1
  unfold tv at hk
  rw [k1, k2] at hk
  clear k1 k2
  have HF := hid hf
  clear hf
  have e1 : IntKind.i64.wrap (1 + n) = 1 + n := IntWalk.i64_in _ (by omega)
  have e2 : IntKind.i64.wrap (1 + r) = 1 + r := IntWalk.i64_in _ (by omega)
  have e3 : IntKind.i64.wrap (l + (1 + n)) = l + (1 + n) := IntWalk.i64_in _ (by omega)
  have e4 : IntKind.i64.wrap (1 + n - s + s) = 1 + n := by rw [Int.sub_add_cancel]; exact e1
  by_cases hc : s ≤ 1 + n
  · simp only [hc, if_true, decide_true] at hk
    have HK := hid hk
    clear hk
    go_enter Try.func6, Try.ntmps6
    go_wp2_with (fail)
    refine (awake7 _).mono ?_
    rintro e w1 ⟨rfl, x1, rfl⟩
    go_wp2_with (fail)
    refine (HF.out _).mono ?_
    rintro e w1 ⟨rfl, x2, rfl⟩
    go_wp2_with (fail)
    refine (HK.out _).mono ?_
    rintro e w1 ⟨rfl, x3, rfl⟩
    go_wp2_with (fail)
    go_ret
    exact ⟨rfl, by repeat (first | (with_reducible exact Later.refl _) | with_reducible apply Later.latr | with_reducible apply Later.alloc | with_reducible apply Later.drew)⟩
  · simp only [hc, if_false, decide_false] at hk
    have HK := hid hk
    clear hk
    go_enter Try.func6, Try.ntmps6
    go_wp2_with (fail)
    refine (awake7 _).mono ?_
    rintro e w1 ⟨rfl, x1, rfl⟩
    go_wp2_with (fail)
    refine (HF.out _).mono ?_
    rintro e w1 ⟨rfl, x2, rfl⟩
    go_wp2_with (fail)
    refine (HK.out _).mono ?_
    rintro e w1 ⟨rfl, x3, rfl⟩
    go_wp2_with (fail)
    go_ret
    refine ⟨by show Ending.returned (Value.bool (!decide (s ≤ 1 + n))) = _; rw [decide_eq_false (show ¬ s ≤ 1 + n by omega)]; rfl, by repeat (first | (with_reducible exact Later.refl _) | with_reducible apply Later.latr | with_reducible apply Later.alloc | with_reducible apply Later.drew)⟩

theorem ceil_bd (s r : Int) (h : 0 ≤ s) (hr : 1 ≤ r) : 0 ≤ (s + r - 1) / r ∧ (s + r - 1) / r ≤ s ∧ s ≤ r * ((s + r - 1) / r) ∧ r * ((s + r - 1) / r) ≤ s + r - 1 := by
  have h1 : 0 ≤ (s + r - 1) / r := Int.ediv_nonneg (by omega) (by omega)
  have h2 := Int.mul_ediv_add_emod (s + r - 1) r
  have h3 := Int.emod_nonneg (s + r - 1) (show r ≠ 0 by omega)
  have h4 := Int.emod_lt_of_pos (s + r - 1) (show 0 < r by omega)
  refine ⟨h1, ?_, by omega, by omega⟩
  rcases Int.lt_or_le s ((s + r - 1) / r) with h5 | h5
  · have h6 : r * (s + 1) ≤ r * ((s + r - 1) / r) := Int.mul_le_mul_of_nonneg_left (by omega) (by omega)
    have h7 : s + 1 ≤ r * (s + 1) - (r - 1) * (s + 1) := by rw [Int.sub_mul, Int.one_mul]; omega
    have h8 : (r - 1) * 1 ≤ (r - 1) * (s + 1) := Int.mul_le_mul_of_nonneg_left (by omega) (by omega)
    omega
  · exact h5

theorem when_law (t l r s : Int) (ht0 : 0 ≤ t) (ht1 : t ≤ 65535) (hl0 : 0 ≤ l) (hl1 : l ≤ 65535) (hr0 : 1 ≤ r) (hr1 : r ≤ 65536) (hs0 : 0 ≤ s) (hs1 : s ≤ 65535) :
    l ≤ when { t := t, l := l } s r ∧ when { t := t, l := l } s r ≤ 131070 ∧ may (fill { t := t, l := l } (when { t := t, l := l } s r) r 65535) s = true ∧
      (when { t := t, l := l } s r = l ∨ may (fill { t := t, l := l } (when { t := t, l := l } s r - 1) r 65535) s = false) := by
  obtain ⟨q0, q1, q2, q3⟩ := ceil_bd (max (s - t) 0) r (by omega) hr0
  have hw : when { t := t, l := l } s r = l + (max (s - t) 0 + r - 1) / r := by
    unfold when short
    dsimp only
    rw [cl_id l _ (by omega) (by omega), cl_id t _ (by omega) (by omega), cl_id s _ (by omega) (by omega), cl1_id r _ (by omega) (by omega)]
    omega
  rw [hw]
  generalize (max (s - t) 0 + r - 1) / r = q at *
  refine ⟨by omega, by omega, ?_, ?_⟩
  · unfold may fill ticks
    dsimp only
    rw [cl_id l _ (by omega) (by omega), cl_id t _ (by omega) (by omega), cl_id s _ (by omega) (by omega), cl1_id r _ (by omega) (by omega), cl_id (l + q) _ (by omega) (by omega), cl1_id 65535 _ (by omega) (by omega)]
    rw [show max (l + q - l) 0 = q by omega, cl_id (min (t + r * q) 65535) _ (by omega) (by omega)]
    exact decide_eq_true (by omega)
  · by_cases hq : q = 0
    · left; omega
    · right
      unfold may fill ticks
      dsimp only
      rw [cl_id l _ (by omega) (by omega), cl_id t _ (by omega) (by omega), cl_id s _ (by omega) (by omega), cl1_id r _ (by omega) (by omega), cl_id (l + q - 1) _ (by omega) (by omega), cl1_id 65535 _ (by omega) (by omega)]
      have h1 : r * (q - 1) = r * q - r := by rw [Int.mul_sub, Int.mul_one]
      have h2 : 0 ≤ r * (q - 1) := Int.mul_nonneg (by omega) (by omega)
      rw [show max (l + q - 1 - l) 0 = q - 1 by omega, cl_id (min (t + r * (q - 1)) 65535) _ (by omega) (by omega)]
      refine decide_eq_false ?_
      have h3 : 0 < max (s - t) 0 := by
        rcases Int.lt_or_le 0 (max (s - t) 0) with h | h
        · exact h
        · have h4 : max (s - t) 0 = 0 := by omega
          omega
      omega

set_option maxHeartbeats 4000000 in
theorem when5 (t l r s : Int) (w : World) (ht0 : 0 ≤ t) (ht1 : t ≤ 65535) (hl0 : 0 ≤ l) (hl1 : l ≤ 65535) (hr0 : 0 ≤ r) (hr1 : r ≤ 65535) (hs0 : 0 ≤ s) (hs1 : s ≤ 65535) :
    Calls Try.prog 5 #[.int .u16 t, .int .u16 l, .int .u16 r, .int .u16 s] w fun e w' => e = .returned (.bool true) ∧ Later w w' := by
  have hw := when11 { t := t, l := l } s (r + 1)
  obtain ⟨q0, q1, q2, q3⟩ := when_law t l (r + 1) s ht0 ht1 hl0 hl1 (by omega) (by omega) hs0 hs1
  generalize when { t := t, l := l } s (r + 1) = q at *
  have hf := fill13 { t := t, l := l } q (r + 1) 65535
  have hg := fill13 { t := t, l := l } (q - 1) (r + 1) 65535
  generalize fill { t := t, l := l } q (r + 1) 65535 = F at *
  generalize fill { t := t, l := l } (q - 1) (r + 1) 65535 = G at *
  have hk := take12 F s
  have hm := take12 G s
  unfold tv at hk hm
  rw [q2] at hk
  generalize take F s = K at *
  generalize take G s = M at *
  generalize may G s = m at *
  have HW := hid hw
  have HF := hid hf
  have HG := hid hg
  have HK := hid hk
  have HM := hid hm
  clear hw hf hg hk hm q2
  have e1 : IntKind.i64.wrap (r + 1) = r + 1 := IntWalk.i64_in _ (by omega)
  have e2 : IntKind.i64.wrap (q - 1) = q - 1 := IntWalk.i64_in _ (by omega)
  have hd : decide (l ≤ q) = true := decide_eq_true q0
  by_cases hql : q = l
  · subst hql
    go_enter Try.func5, Try.ntmps5
    go_wp2_with (fail)
    refine (awake7 _).mono ?_
    rintro e w1 ⟨rfl, x1, rfl⟩
    go_wp2_with (fail)
    refine (HW.out _).mono ?_
    rintro e w1 ⟨rfl, x2, rfl⟩
    go_wp2_with (fail)
    refine (HF.out _).mono ?_
    rintro e w1 ⟨rfl, x3, rfl⟩
    go_wp2_with (fail)
    refine (HK.out _).mono ?_
    rintro e w1 ⟨rfl, x4, rfl⟩
    go_wp2_with (fail)
    refine (HG.out _).mono ?_
    rintro e w1 ⟨rfl, x5, rfl⟩
    go_wp2_with (fail)
    refine (HM.out _).mono ?_
    rintro e w1 ⟨rfl, x6, rfl⟩
    go_wp2_with (fail)
    go_ret
    exact ⟨rfl, by repeat (first | (with_reducible exact Later.refl _) | with_reducible apply Later.latr | with_reducible apply Later.alloc | with_reducible apply Later.drew)⟩
  · obtain rfl : m = false := q3.resolve_left hql
    go_enter Try.func5, Try.ntmps5
    go_wp2_with (fail)
    refine (awake7 _).mono ?_
    rintro e w1 ⟨rfl, x1, rfl⟩
    go_wp2_with (fail)
    refine (HW.out _).mono ?_
    rintro e w1 ⟨rfl, x2, rfl⟩
    go_wp2_with (fail)
    refine (HF.out _).mono ?_
    rintro e w1 ⟨rfl, x3, rfl⟩
    go_wp2_with (fail)
    refine (HK.out _).mono ?_
    rintro e w1 ⟨rfl, x4, rfl⟩
    go_wp2_with (fail)
    refine (HG.out _).mono ?_
    rintro e w1 ⟨rfl, x5, rfl⟩
    go_wp2_with (fail)
    refine (HM.out _).mono ?_
    rintro e w1 ⟨rfl, x6, rfl⟩
    go_wp2_with (fail)
    go_ret
    exact ⟨rfl, by repeat (first | (with_reducible exact Later.refl _) | with_reducible apply Later.latr | with_reducible apply Later.alloc | with_reducible apply Later.drew)⟩
end Go.Proofs.Ytfjofifkepmdfaa
