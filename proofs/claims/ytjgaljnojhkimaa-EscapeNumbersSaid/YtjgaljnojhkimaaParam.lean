/- The walks of Param: the code's and the reference's. No condition. -/
import Derived.Test.YtjgaljnojhkimaaWalks
namespace Go.Proofs.Ytjgaljnojhkimaa
open Go.RowKit
attribute [local go_sem] ite_max ite_min
attribute [local go_sem] h_lt1 h_lt2 h_lt3 h_lt4 h_lt5 h_lt6 h_eq1 h_qe1 h_eq2 h_qe2 h_eq3 h_qe3 h_eq4 h_qe4 h_eq5 h_qe5 h_eq6 h_qe6

def paramA (a : Ac) (i none : Int) : Int := if i < 0 ∨ 7 < i ∨ a.get i.toNat ≤ 0 then none else min (a.get i.toNat) 9999
set_option maxRecDepth 100000 in
set_option maxHeartbeats 8000000 in
theorem param11 (a : Ac) (i none : Int) (w : World) : Gives Try.prog 11 #[av a, .int .i64 i, .int .i64 none] w (.int .i64 (paramA a i none)) := by
  apply gives_of
  unfold paramA
  by_cases g1 : i < 0
  · rw [if_pos (.inl g1)]
    have d1 : decide (i < 0) = true := decide_eq_true g1
    (go_enter Try.func11, Try.ntmps11; go_wp2_with (fail))
    go_ret
    exact ⟨rfl, by repeat (first | (with_reducible exact Later.refl _) | with_reducible apply Later.latr | with_reducible apply Later.alloc | with_reducible apply Later.drew | (with_reducible refine Later.set ?_ (by (simp; try omega)) _))⟩
  by_cases g2 : 7 < i
  · rw [if_pos (.inr (.inl g2))]
    have d1 : decide (i < 0) = false := decide_eq_false g1
    have d2 : decide (8 ≤ i) = true := decide_eq_true (by omega)
    (go_enter Try.func11, Try.ntmps11; go_wp2_with (fail))
    go_ret
    exact ⟨rfl, by repeat (first | (with_reducible exact Later.refl _) | with_reducible apply Later.latr | with_reducible apply Later.alloc | with_reducible apply Later.drew | (with_reducible refine Later.set ?_ (by (simp; try omega)) _))⟩
  have hk : i = 0 ∨ i = 1 ∨ i = 2 ∨ i = 3 ∨ i = 4 ∨ i = 5 ∨ i = 6 ∨ i = 7 := by omega
  obtain ⟨kind, rune, mark, many, p0, p1, p2, p3, p4, p5, p6, p7⟩ := a
  rcases hk with rfl | rfl | rfl | rfl | rfl | rfl | rfl | rfl
  · show Calls Try.prog 11 _ w fun e w' => e = .returned (.int .i64 (if (0 : Int) < 0 ∨ 7 < (0 : Int) ∨ p0 ≤ 0 then none else min p0 9999)) ∧ Later w w'
    by_cases g : p0 ≤ 0
    · rw [if_pos (.inr (.inr g))]
      have d3 : decide (p0 ≤ 0) = true := decide_eq_true g
      (go_enter Try.func11, Try.ntmps11; go_wp2_with (fail))
      go_ret
      exact ⟨rfl, by repeat (first | (with_reducible exact Later.refl _) | with_reducible apply Later.latr | with_reducible apply Later.alloc | with_reducible apply Later.drew | (with_reducible refine Later.set ?_ (by (simp; try omega)) _))⟩
    · rw [if_neg (by omega)]
      have d3 : decide (p0 ≤ 0) = false := decide_eq_false g
      (go_enter Try.func11, Try.ntmps11; go_wp2_with (fail))
      go_ret
      exact ⟨rfl, by repeat (first | (with_reducible exact Later.refl _) | with_reducible apply Later.latr | with_reducible apply Later.alloc | with_reducible apply Later.drew | (with_reducible refine Later.set ?_ (by (simp; try omega)) _))⟩
  · show Calls Try.prog 11 _ w fun e w' => e = .returned (.int .i64 (if (1 : Int) < 0 ∨ 7 < (1 : Int) ∨ p1 ≤ 0 then none else min p1 9999)) ∧ Later w w'
    by_cases g : p1 ≤ 0
    · rw [if_pos (.inr (.inr g))]
      have d3 : decide (p1 ≤ 0) = true := decide_eq_true g
      (go_enter Try.func11, Try.ntmps11; go_wp2_with (fail))
      go_ret
      exact ⟨rfl, by repeat (first | (with_reducible exact Later.refl _) | with_reducible apply Later.latr | with_reducible apply Later.alloc | with_reducible apply Later.drew | (with_reducible refine Later.set ?_ (by (simp; try omega)) _))⟩
    · rw [if_neg (by omega)]
      have d3 : decide (p1 ≤ 0) = false := decide_eq_false g
      (go_enter Try.func11, Try.ntmps11; go_wp2_with (fail))
      go_ret
      exact ⟨rfl, by repeat (first | (with_reducible exact Later.refl _) | with_reducible apply Later.latr | with_reducible apply Later.alloc | with_reducible apply Later.drew | (with_reducible refine Later.set ?_ (by (simp; try omega)) _))⟩
  · show Calls Try.prog 11 _ w fun e w' => e = .returned (.int .i64 (if (2 : Int) < 0 ∨ 7 < (2 : Int) ∨ p2 ≤ 0 then none else min p2 9999)) ∧ Later w w'
    by_cases g : p2 ≤ 0
    · rw [if_pos (.inr (.inr g))]
      have d3 : decide (p2 ≤ 0) = true := decide_eq_true g
      (go_enter Try.func11, Try.ntmps11; go_wp2_with (fail))
      go_ret
      exact ⟨rfl, by repeat (first | (with_reducible exact Later.refl _) | with_reducible apply Later.latr | with_reducible apply Later.alloc | with_reducible apply Later.drew | (with_reducible refine Later.set ?_ (by (simp; try omega)) _))⟩
    · rw [if_neg (by omega)]
      have d3 : decide (p2 ≤ 0) = false := decide_eq_false g
      (go_enter Try.func11, Try.ntmps11; go_wp2_with (fail))
      go_ret
      exact ⟨rfl, by repeat (first | (with_reducible exact Later.refl _) | with_reducible apply Later.latr | with_reducible apply Later.alloc | with_reducible apply Later.drew | (with_reducible refine Later.set ?_ (by (simp; try omega)) _))⟩
  · show Calls Try.prog 11 _ w fun e w' => e = .returned (.int .i64 (if (3 : Int) < 0 ∨ 7 < (3 : Int) ∨ p3 ≤ 0 then none else min p3 9999)) ∧ Later w w'
    by_cases g : p3 ≤ 0
    · rw [if_pos (.inr (.inr g))]
      have d3 : decide (p3 ≤ 0) = true := decide_eq_true g
      (go_enter Try.func11, Try.ntmps11; go_wp2_with (fail))
      go_ret
      exact ⟨rfl, by repeat (first | (with_reducible exact Later.refl _) | with_reducible apply Later.latr | with_reducible apply Later.alloc | with_reducible apply Later.drew | (with_reducible refine Later.set ?_ (by (simp; try omega)) _))⟩
    · rw [if_neg (by omega)]
      have d3 : decide (p3 ≤ 0) = false := decide_eq_false g
      (go_enter Try.func11, Try.ntmps11; go_wp2_with (fail))
      go_ret
      exact ⟨rfl, by repeat (first | (with_reducible exact Later.refl _) | with_reducible apply Later.latr | with_reducible apply Later.alloc | with_reducible apply Later.drew | (with_reducible refine Later.set ?_ (by (simp; try omega)) _))⟩
  · show Calls Try.prog 11 _ w fun e w' => e = .returned (.int .i64 (if (4 : Int) < 0 ∨ 7 < (4 : Int) ∨ p4 ≤ 0 then none else min p4 9999)) ∧ Later w w'
    by_cases g : p4 ≤ 0
    · rw [if_pos (.inr (.inr g))]
      have d3 : decide (p4 ≤ 0) = true := decide_eq_true g
      (go_enter Try.func11, Try.ntmps11; go_wp2_with (fail))
      go_ret
      exact ⟨rfl, by repeat (first | (with_reducible exact Later.refl _) | with_reducible apply Later.latr | with_reducible apply Later.alloc | with_reducible apply Later.drew | (with_reducible refine Later.set ?_ (by (simp; try omega)) _))⟩
    · rw [if_neg (by omega)]
      have d3 : decide (p4 ≤ 0) = false := decide_eq_false g
      (go_enter Try.func11, Try.ntmps11; go_wp2_with (fail))
      go_ret
      exact ⟨rfl, by repeat (first | (with_reducible exact Later.refl _) | with_reducible apply Later.latr | with_reducible apply Later.alloc | with_reducible apply Later.drew | (with_reducible refine Later.set ?_ (by (simp; try omega)) _))⟩
  · show Calls Try.prog 11 _ w fun e w' => e = .returned (.int .i64 (if (5 : Int) < 0 ∨ 7 < (5 : Int) ∨ p5 ≤ 0 then none else min p5 9999)) ∧ Later w w'
    by_cases g : p5 ≤ 0
    · rw [if_pos (.inr (.inr g))]
      have d3 : decide (p5 ≤ 0) = true := decide_eq_true g
      (go_enter Try.func11, Try.ntmps11; go_wp2_with (fail))
      go_ret
      exact ⟨rfl, by repeat (first | (with_reducible exact Later.refl _) | with_reducible apply Later.latr | with_reducible apply Later.alloc | with_reducible apply Later.drew | (with_reducible refine Later.set ?_ (by (simp; try omega)) _))⟩
    · rw [if_neg (by omega)]
      have d3 : decide (p5 ≤ 0) = false := decide_eq_false g
      (go_enter Try.func11, Try.ntmps11; go_wp2_with (fail))
      go_ret
      exact ⟨rfl, by repeat (first | (with_reducible exact Later.refl _) | with_reducible apply Later.latr | with_reducible apply Later.alloc | with_reducible apply Later.drew | (with_reducible refine Later.set ?_ (by (simp; try omega)) _))⟩
  · show Calls Try.prog 11 _ w fun e w' => e = .returned (.int .i64 (if (6 : Int) < 0 ∨ 7 < (6 : Int) ∨ p6 ≤ 0 then none else min p6 9999)) ∧ Later w w'
    by_cases g : p6 ≤ 0
    · rw [if_pos (.inr (.inr g))]
      have d3 : decide (p6 ≤ 0) = true := decide_eq_true g
      (go_enter Try.func11, Try.ntmps11; go_wp2_with (fail))
      go_ret
      exact ⟨rfl, by repeat (first | (with_reducible exact Later.refl _) | with_reducible apply Later.latr | with_reducible apply Later.alloc | with_reducible apply Later.drew | (with_reducible refine Later.set ?_ (by (simp; try omega)) _))⟩
    · rw [if_neg (by omega)]
      have d3 : decide (p6 ≤ 0) = false := decide_eq_false g
      (go_enter Try.func11, Try.ntmps11; go_wp2_with (fail))
      go_ret
      exact ⟨rfl, by repeat (first | (with_reducible exact Later.refl _) | with_reducible apply Later.latr | with_reducible apply Later.alloc | with_reducible apply Later.drew | (with_reducible refine Later.set ?_ (by (simp; try omega)) _))⟩
  · show Calls Try.prog 11 _ w fun e w' => e = .returned (.int .i64 (if (7 : Int) < 0 ∨ 7 < (7 : Int) ∨ p7 ≤ 0 then none else min p7 9999)) ∧ Later w w'
    by_cases g : p7 ≤ 0
    · rw [if_pos (.inr (.inr g))]
      have d3 : decide (p7 ≤ 0) = true := decide_eq_true g
      (go_enter Try.func11, Try.ntmps11; go_wp2_with (fail))
      go_ret
      exact ⟨rfl, by repeat (first | (with_reducible exact Later.refl _) | with_reducible apply Later.latr | with_reducible apply Later.alloc | with_reducible apply Later.drew | (with_reducible refine Later.set ?_ (by (simp; try omega)) _))⟩
    · rw [if_neg (by omega)]
      have d3 : decide (p7 ≤ 0) = false := decide_eq_false g
      (go_enter Try.func11, Try.ntmps11; go_wp2_with (fail))
      go_ret
      exact ⟨rfl, by repeat (first | (with_reducible exact Later.refl _) | with_reducible apply Later.latr | with_reducible apply Later.alloc | with_reducible apply Later.drew | (with_reducible refine Later.set ?_ (by (simp; try omega)) _))⟩
set_option maxRecDepth 100000 in
set_option maxHeartbeats 8000000 in
theorem param12 (a : Ac) (i none : Int) (w : World) : Gives Try.prog 12 #[av a, .int .i64 i, .int .i64 none] w (.int .i64 (paramA a i none)) := by
  apply gives_of
  unfold paramA
  by_cases g1 : i < 0
  · rw [if_pos (.inl g1)]
    have d1 : decide (i < 0) = true := decide_eq_true g1
    (go_enter Try.func12, Try.ntmps12; go_wp2_with (fail))
    go_ret
    exact ⟨rfl, by repeat (first | (with_reducible exact Later.refl _) | with_reducible apply Later.latr | with_reducible apply Later.alloc | with_reducible apply Later.drew | (with_reducible refine Later.set ?_ (by (simp; try omega)) _))⟩
  by_cases g2 : 7 < i
  · rw [if_pos (.inr (.inl g2))]
    have d1 : decide (i < 0) = false := decide_eq_false g1
    have d2 : decide (7 < i) = true := decide_eq_true (by omega)
    (go_enter Try.func12, Try.ntmps12; go_wp2_with (fail))
    go_ret
    exact ⟨rfl, by repeat (first | (with_reducible exact Later.refl _) | with_reducible apply Later.latr | with_reducible apply Later.alloc | with_reducible apply Later.drew | (with_reducible refine Later.set ?_ (by (simp; try omega)) _))⟩
  have hk : i = 0 ∨ i = 1 ∨ i = 2 ∨ i = 3 ∨ i = 4 ∨ i = 5 ∨ i = 6 ∨ i = 7 := by omega
  obtain ⟨kind, rune, mark, many, p0, p1, p2, p3, p4, p5, p6, p7⟩ := a
  rcases hk with rfl | rfl | rfl | rfl | rfl | rfl | rfl | rfl
  · show Calls Try.prog 12 _ w fun e w' => e = .returned (.int .i64 (if (0 : Int) < 0 ∨ 7 < (0 : Int) ∨ p0 ≤ 0 then none else min p0 9999)) ∧ Later w w'
    by_cases g : p0 ≤ 0
    · rw [if_pos (.inr (.inr g))]
      have d3 : decide (p0 ≤ 0) = true := decide_eq_true g
      (go_enter Try.func12, Try.ntmps12; go_wp2_with (fail))
      go_ret
      exact ⟨rfl, by repeat (first | (with_reducible exact Later.refl _) | with_reducible apply Later.latr | with_reducible apply Later.alloc | with_reducible apply Later.drew | (with_reducible refine Later.set ?_ (by (simp; try omega)) _))⟩
    · rw [if_neg (by omega)]
      have d3 : decide (p0 ≤ 0) = false := decide_eq_false g
      (go_enter Try.func12, Try.ntmps12; go_wp2_with (fail))
      go_ret
      exact ⟨rfl, by repeat (first | (with_reducible exact Later.refl _) | with_reducible apply Later.latr | with_reducible apply Later.alloc | with_reducible apply Later.drew | (with_reducible refine Later.set ?_ (by (simp; try omega)) _))⟩
  · show Calls Try.prog 12 _ w fun e w' => e = .returned (.int .i64 (if (1 : Int) < 0 ∨ 7 < (1 : Int) ∨ p1 ≤ 0 then none else min p1 9999)) ∧ Later w w'
    by_cases g : p1 ≤ 0
    · rw [if_pos (.inr (.inr g))]
      have d3 : decide (p1 ≤ 0) = true := decide_eq_true g
      (go_enter Try.func12, Try.ntmps12; go_wp2_with (fail))
      go_ret
      exact ⟨rfl, by repeat (first | (with_reducible exact Later.refl _) | with_reducible apply Later.latr | with_reducible apply Later.alloc | with_reducible apply Later.drew | (with_reducible refine Later.set ?_ (by (simp; try omega)) _))⟩
    · rw [if_neg (by omega)]
      have d3 : decide (p1 ≤ 0) = false := decide_eq_false g
      (go_enter Try.func12, Try.ntmps12; go_wp2_with (fail))
      go_ret
      exact ⟨rfl, by repeat (first | (with_reducible exact Later.refl _) | with_reducible apply Later.latr | with_reducible apply Later.alloc | with_reducible apply Later.drew | (with_reducible refine Later.set ?_ (by (simp; try omega)) _))⟩
  · show Calls Try.prog 12 _ w fun e w' => e = .returned (.int .i64 (if (2 : Int) < 0 ∨ 7 < (2 : Int) ∨ p2 ≤ 0 then none else min p2 9999)) ∧ Later w w'
    by_cases g : p2 ≤ 0
    · rw [if_pos (.inr (.inr g))]
      have d3 : decide (p2 ≤ 0) = true := decide_eq_true g
      (go_enter Try.func12, Try.ntmps12; go_wp2_with (fail))
      go_ret
      exact ⟨rfl, by repeat (first | (with_reducible exact Later.refl _) | with_reducible apply Later.latr | with_reducible apply Later.alloc | with_reducible apply Later.drew | (with_reducible refine Later.set ?_ (by (simp; try omega)) _))⟩
    · rw [if_neg (by omega)]
      have d3 : decide (p2 ≤ 0) = false := decide_eq_false g
      (go_enter Try.func12, Try.ntmps12; go_wp2_with (fail))
      go_ret
      exact ⟨rfl, by repeat (first | (with_reducible exact Later.refl _) | with_reducible apply Later.latr | with_reducible apply Later.alloc | with_reducible apply Later.drew | (with_reducible refine Later.set ?_ (by (simp; try omega)) _))⟩
  · show Calls Try.prog 12 _ w fun e w' => e = .returned (.int .i64 (if (3 : Int) < 0 ∨ 7 < (3 : Int) ∨ p3 ≤ 0 then none else min p3 9999)) ∧ Later w w'
    by_cases g : p3 ≤ 0
    · rw [if_pos (.inr (.inr g))]
      have d3 : decide (p3 ≤ 0) = true := decide_eq_true g
      (go_enter Try.func12, Try.ntmps12; go_wp2_with (fail))
      go_ret
      exact ⟨rfl, by repeat (first | (with_reducible exact Later.refl _) | with_reducible apply Later.latr | with_reducible apply Later.alloc | with_reducible apply Later.drew | (with_reducible refine Later.set ?_ (by (simp; try omega)) _))⟩
    · rw [if_neg (by omega)]
      have d3 : decide (p3 ≤ 0) = false := decide_eq_false g
      (go_enter Try.func12, Try.ntmps12; go_wp2_with (fail))
      go_ret
      exact ⟨rfl, by repeat (first | (with_reducible exact Later.refl _) | with_reducible apply Later.latr | with_reducible apply Later.alloc | with_reducible apply Later.drew | (with_reducible refine Later.set ?_ (by (simp; try omega)) _))⟩
  · show Calls Try.prog 12 _ w fun e w' => e = .returned (.int .i64 (if (4 : Int) < 0 ∨ 7 < (4 : Int) ∨ p4 ≤ 0 then none else min p4 9999)) ∧ Later w w'
    by_cases g : p4 ≤ 0
    · rw [if_pos (.inr (.inr g))]
      have d3 : decide (p4 ≤ 0) = true := decide_eq_true g
      (go_enter Try.func12, Try.ntmps12; go_wp2_with (fail))
      go_ret
      exact ⟨rfl, by repeat (first | (with_reducible exact Later.refl _) | with_reducible apply Later.latr | with_reducible apply Later.alloc | with_reducible apply Later.drew | (with_reducible refine Later.set ?_ (by (simp; try omega)) _))⟩
    · rw [if_neg (by omega)]
      have d3 : decide (p4 ≤ 0) = false := decide_eq_false g
      (go_enter Try.func12, Try.ntmps12; go_wp2_with (fail))
      go_ret
      exact ⟨rfl, by repeat (first | (with_reducible exact Later.refl _) | with_reducible apply Later.latr | with_reducible apply Later.alloc | with_reducible apply Later.drew | (with_reducible refine Later.set ?_ (by (simp; try omega)) _))⟩
  · show Calls Try.prog 12 _ w fun e w' => e = .returned (.int .i64 (if (5 : Int) < 0 ∨ 7 < (5 : Int) ∨ p5 ≤ 0 then none else min p5 9999)) ∧ Later w w'
    by_cases g : p5 ≤ 0
    · rw [if_pos (.inr (.inr g))]
      have d3 : decide (p5 ≤ 0) = true := decide_eq_true g
      (go_enter Try.func12, Try.ntmps12; go_wp2_with (fail))
      go_ret
      exact ⟨rfl, by repeat (first | (with_reducible exact Later.refl _) | with_reducible apply Later.latr | with_reducible apply Later.alloc | with_reducible apply Later.drew | (with_reducible refine Later.set ?_ (by (simp; try omega)) _))⟩
    · rw [if_neg (by omega)]
      have d3 : decide (p5 ≤ 0) = false := decide_eq_false g
      (go_enter Try.func12, Try.ntmps12; go_wp2_with (fail))
      go_ret
      exact ⟨rfl, by repeat (first | (with_reducible exact Later.refl _) | with_reducible apply Later.latr | with_reducible apply Later.alloc | with_reducible apply Later.drew | (with_reducible refine Later.set ?_ (by (simp; try omega)) _))⟩
  · show Calls Try.prog 12 _ w fun e w' => e = .returned (.int .i64 (if (6 : Int) < 0 ∨ 7 < (6 : Int) ∨ p6 ≤ 0 then none else min p6 9999)) ∧ Later w w'
    by_cases g : p6 ≤ 0
    · rw [if_pos (.inr (.inr g))]
      have d3 : decide (p6 ≤ 0) = true := decide_eq_true g
      (go_enter Try.func12, Try.ntmps12; go_wp2_with (fail))
      go_ret
      exact ⟨rfl, by repeat (first | (with_reducible exact Later.refl _) | with_reducible apply Later.latr | with_reducible apply Later.alloc | with_reducible apply Later.drew | (with_reducible refine Later.set ?_ (by (simp; try omega)) _))⟩
    · rw [if_neg (by omega)]
      have d3 : decide (p6 ≤ 0) = false := decide_eq_false g
      (go_enter Try.func12, Try.ntmps12; go_wp2_with (fail))
      go_ret
      exact ⟨rfl, by repeat (first | (with_reducible exact Later.refl _) | with_reducible apply Later.latr | with_reducible apply Later.alloc | with_reducible apply Later.drew | (with_reducible refine Later.set ?_ (by (simp; try omega)) _))⟩
  · show Calls Try.prog 12 _ w fun e w' => e = .returned (.int .i64 (if (7 : Int) < 0 ∨ 7 < (7 : Int) ∨ p7 ≤ 0 then none else min p7 9999)) ∧ Later w w'
    by_cases g : p7 ≤ 0
    · rw [if_pos (.inr (.inr g))]
      have d3 : decide (p7 ≤ 0) = true := decide_eq_true g
      (go_enter Try.func12, Try.ntmps12; go_wp2_with (fail))
      go_ret
      exact ⟨rfl, by repeat (first | (with_reducible exact Later.refl _) | with_reducible apply Later.latr | with_reducible apply Later.alloc | with_reducible apply Later.drew | (with_reducible refine Later.set ?_ (by (simp; try omega)) _))⟩
    · rw [if_neg (by omega)]
      have d3 : decide (p7 ≤ 0) = false := decide_eq_false g
      (go_enter Try.func12, Try.ntmps12; go_wp2_with (fail))
      go_ret
      exact ⟨rfl, by repeat (first | (with_reducible exact Later.refl _) | with_reducible apply Later.latr | with_reducible apply Later.alloc | with_reducible apply Later.drew | (with_reducible refine Later.set ?_ (by (simp; try omega)) _))⟩
end Go.Proofs.Ytjgaljnojhkimaa
