/- The walks of package cong's functions, and the reference's: each gives what the plain function gives. No condition. -/
import Derived.Test.YtkmffpgejnafaaaTail
import Derived.Test.YtkmffpgejnafaaaPlain
namespace Go.Proofs.Ytkmffpgejnafaaa
open Go.RowKit
attribute [local go_sem] ite_max ite_min

theorem ret_bool {a b : Bool} (h : a = b) : Ending.returned (.bool a) = .returned (.bool b) := by rw [h]
/-- a window, as a value; a packet -/
abbrev rc (r : Rn) : Array Value := #[.int .i64 r.w, .int .i64 r.s, .int .i64 r.c, .int .i64 r.r]
abbrev rv (r : Rn) : Value := .agg #[.int .i64 r.w, .int .i64 r.s, .int .i64 r.c, .int .i64 r.r]
abbrev sv (s : Snt) : Value := .agg #[.int .i64 s.k, .int .i64 s.t, .int .i64 s.z, .bool s.e, .bool s.p]

set_option maxHeartbeats 400000 in
theorem within27 (n a b : Int) (w : World) : Gives Try.prog 27 #[.int .i64 n, .int .i64 a, .int .i64 b] w (.bool (inB n a b)) := by
  apply gives_of
  by_cases h1 : a ≤ n
  · by_cases h2 : n ≤ b
    · rw [inB_true.2 ⟨h1, h2⟩]
      (go_enter Try.func27, Try.ntmps27; go_wp2_with (fail))
      go_ret
      exact ⟨rfl, Later.refl _⟩
    · rw [inB_false.2 (fun _ => by omega)]
      (go_enter Try.func27, Try.ntmps27; go_wp2_with (fail))
      go_ret
      exact ⟨rfl, Later.refl _⟩
  · rw [inB_false.2 (fun h => absurd h h1)]
    (go_enter Try.func27, Try.ntmps27; go_wp2_with (fail))
    go_ret
    exact ⟨rfl, Later.refl _⟩
set_option maxHeartbeats 400000 in
theorem time25 (n : Int) (w : World) : Gives Try.prog 25 #[.int .i64 n] w (.int .i64 (clT n)) := by
  apply gives_of
  go_enter Try.func25, Try.ntmps25
  go_wp2
  go_ret
  exact ⟨rfl, Later.refl _⟩
set_option maxHeartbeats 400000 in
theorem start10 (w : World) : Gives Try.prog 10 #[] w (rv start) := by
  apply gives_of
  (go_enter Try.func10, Try.ntmps10; go_wp2_with (fail))
  go_returns
  exact ⟨rfl, by repeat (first | (with_reducible exact Later.refl _) | with_reducible apply Later.latr | with_reducible apply Later.alloc | with_reducible apply Later.drew | (with_reducible refine Later.set ?_ (by (simp; try omega)) _))⟩
set_option maxHeartbeats 400000 in
theorem start30 (w : World) : Gives Try.prog 30 #[] w (rv start) := by
  apply gives_of
  (go_enter Try.func30, Try.ntmps30; go_wp2_with (fail))
  go_returns
  exact ⟨rfl, by repeat (first | (with_reducible exact Later.refl _) | with_reducible apply Later.latr | with_reducible apply Later.alloc | with_reducible apply Later.drew | (with_reducible refine Later.set ?_ (by (simp; try omega)) _))⟩

set_option maxHeartbeats 1000000 in
theorem check14 (r : Rn) (w : World) : Gives Try.prog 14 #[rv r] w (.bool (chk r)) := by
  apply gives_of
  obtain ⟨a, s, c, t⟩ := r
  unfold chk
  dsimp only
  have h1 := within27 a 512 96000
  have h2 := within27 s 512 96000
  have h3 := within27 c 0 95999
  have h4 := within27 t (-1) 1099511627776
  generalize inB a 512 96000 = b1 at *
  generalize inB s 512 96000 = b2 at *
  generalize inB c 0 95999 = b3 at *
  generalize inB t (-1) 1099511627776 = b4 at *
  have H1 := hid h1
  have H2 := hid h2
  have H3 := hid h3
  have H4 := hid h4
  clear h1 h2 h3 h4
  cases b1
  · (go_enter Try.func14, Try.ntmps14; go_wp2_with (fail))
    (refine (H1.out _).mono ?_; rintro e w1 ⟨rfl, x1, rfl⟩; go_wp2_with (fail))
    go_ret
    exact ⟨rfl, by repeat (first | (with_reducible exact Later.refl _) | with_reducible apply Later.latr | with_reducible apply Later.alloc | with_reducible apply Later.drew | (with_reducible refine Later.set ?_ (by (simp; try omega)) _))⟩
  cases b2
  · (go_enter Try.func14, Try.ntmps14; go_wp2_with (fail))
    (refine (H1.out _).mono ?_; rintro e w1 ⟨rfl, x1, rfl⟩; go_wp2_with (fail))
    (refine (H2.out _).mono ?_; rintro e w1 ⟨rfl, x1, rfl⟩; go_wp2_with (fail))
    go_ret
    exact ⟨rfl, by repeat (first | (with_reducible exact Later.refl _) | with_reducible apply Later.latr | with_reducible apply Later.alloc | with_reducible apply Later.drew | (with_reducible refine Later.set ?_ (by (simp; try omega)) _))⟩
  cases b3
  · (go_enter Try.func14, Try.ntmps14; go_wp2_with (fail))
    (refine (H1.out _).mono ?_; rintro e w1 ⟨rfl, x1, rfl⟩; go_wp2_with (fail))
    (refine (H2.out _).mono ?_; rintro e w1 ⟨rfl, x1, rfl⟩; go_wp2_with (fail))
    (refine (H3.out _).mono ?_; rintro e w1 ⟨rfl, x1, rfl⟩; go_wp2_with (fail))
    go_ret
    exact ⟨rfl, by repeat (first | (with_reducible exact Later.refl _) | with_reducible apply Later.latr | with_reducible apply Later.alloc | with_reducible apply Later.drew | (with_reducible refine Later.set ?_ (by (simp; try omega)) _))⟩
  (go_enter Try.func14, Try.ntmps14; go_wp2_with (fail))
  (refine (H1.out _).mono ?_; rintro e w1 ⟨rfl, x1, rfl⟩; go_wp2_with (fail))
  (refine (H2.out _).mono ?_; rintro e w1 ⟨rfl, x1, rfl⟩; go_wp2_with (fail))
  (refine (H3.out _).mono ?_; rintro e w1 ⟨rfl, x1, rfl⟩; go_wp2_with (fail))
  (refine (H4.out _).mono ?_; rintro e w1 ⟨rfl, x1, rfl⟩; go_wp2_with (fail))
  go_ret
  exact ⟨rfl, by repeat (first | (with_reducible exact Later.refl _) | with_reducible apply Later.latr | with_reducible apply Later.alloc | with_reducible apply Later.drew | (with_reducible refine Later.set ?_ (by (simp; try omega)) _))⟩

set_option maxHeartbeats 4000000 in
theorem check15 (r : Rn) (w : World) : Gives Try.prog 15 #[rv r] w (.bool (chk r)) := by
  apply gives_of
  obtain ⟨a, s, c, t⟩ := r
  have hc : chk ⟨a, s, c, t⟩ = ((decide (512 ≤ a) && decide (a ≤ 96000)) && (decide (512 ≤ s) && decide (s ≤ 96000)) && (decide (0 ≤ c) && decide (c < 96000)) && (decide (-1 ≤ t) && decide (t ≤ 1099511627776))) := by
    unfold chk inB
    rw [show decide (c ≤ 95999) = decide (c < 96000) by apply decide_eq_decide.2; omega]
  rw [hc]
  clear hc
  cases a1 : decide (512 ≤ a)
  · cases s1 : decide (512 ≤ s)
    · (go_enter Try.func15, Try.ntmps15; go_wp2_with (fail))
      go_ret
      exact ⟨rfl, by repeat (first | (with_reducible exact Later.refl _) | with_reducible apply Later.latr | with_reducible apply Later.alloc | with_reducible apply Later.drew | (with_reducible refine Later.set ?_ (by (simp; try omega)) _))⟩
    · cases s2 : decide (s ≤ 96000)
      · (go_enter Try.func15, Try.ntmps15; go_wp2_with (fail))
        go_ret
        exact ⟨rfl, by repeat (first | (with_reducible exact Later.refl _) | with_reducible apply Later.latr | with_reducible apply Later.alloc | with_reducible apply Later.drew | (with_reducible refine Later.set ?_ (by (simp; try omega)) _))⟩
      · (go_enter Try.func15, Try.ntmps15; go_wp2_with (fail))
        go_ret
        exact ⟨rfl, by repeat (first | (with_reducible exact Later.refl _) | with_reducible apply Later.latr | with_reducible apply Later.alloc | with_reducible apply Later.drew | (with_reducible refine Later.set ?_ (by (simp; try omega)) _))⟩
  · cases a2 : decide (a ≤ 96000)
    · cases s1 : decide (512 ≤ s)
      · (go_enter Try.func15, Try.ntmps15; go_wp2_with (fail))
        go_ret
        exact ⟨rfl, by repeat (first | (with_reducible exact Later.refl _) | with_reducible apply Later.latr | with_reducible apply Later.alloc | with_reducible apply Later.drew | (with_reducible refine Later.set ?_ (by (simp; try omega)) _))⟩
      · cases s2 : decide (s ≤ 96000)
        · (go_enter Try.func15, Try.ntmps15; go_wp2_with (fail))
          go_ret
          exact ⟨rfl, by repeat (first | (with_reducible exact Later.refl _) | with_reducible apply Later.latr | with_reducible apply Later.alloc | with_reducible apply Later.drew | (with_reducible refine Later.set ?_ (by (simp; try omega)) _))⟩
        · (go_enter Try.func15, Try.ntmps15; go_wp2_with (fail))
          go_ret
          exact ⟨rfl, by repeat (first | (with_reducible exact Later.refl _) | with_reducible apply Later.latr | with_reducible apply Later.alloc | with_reducible apply Later.drew | (with_reducible refine Later.set ?_ (by (simp; try omega)) _))⟩
    · cases s1 : decide (512 ≤ s)
      · (go_enter Try.func15, Try.ntmps15; go_wp2_with (fail))
        go_ret
        exact ⟨rfl, by repeat (first | (with_reducible exact Later.refl _) | with_reducible apply Later.latr | with_reducible apply Later.alloc | with_reducible apply Later.drew | (with_reducible refine Later.set ?_ (by (simp; try omega)) _))⟩
      · cases s2 : decide (s ≤ 96000)
        · (go_enter Try.func15, Try.ntmps15; go_wp2_with (fail))
          go_ret
          exact ⟨rfl, by repeat (first | (with_reducible exact Later.refl _) | with_reducible apply Later.latr | with_reducible apply Later.alloc | with_reducible apply Later.drew | (with_reducible refine Later.set ?_ (by (simp; try omega)) _))⟩
        · cases c1 : decide (0 ≤ c)
          · (go_enter Try.func15, Try.ntmps15; go_wp2_with (fail))
            go_ret
            exact ⟨rfl, by repeat (first | (with_reducible exact Later.refl _) | with_reducible apply Later.latr | with_reducible apply Later.alloc | with_reducible apply Later.drew | (with_reducible refine Later.set ?_ (by (simp; try omega)) _))⟩
          · cases c2 : decide (c < 96000)
            · (go_enter Try.func15, Try.ntmps15; go_wp2_with (fail))
              go_ret
              exact ⟨rfl, by repeat (first | (with_reducible exact Later.refl _) | with_reducible apply Later.latr | with_reducible apply Later.alloc | with_reducible apply Later.drew | (with_reducible refine Later.set ?_ (by (simp; try omega)) _))⟩
            · cases t1 : decide (-1 ≤ t)
              · (go_enter Try.func15, Try.ntmps15; go_wp2_with (fail))
                go_ret
                exact ⟨rfl, by repeat (first | (with_reducible exact Later.refl _) | with_reducible apply Later.latr | with_reducible apply Later.alloc | with_reducible apply Later.drew | (with_reducible refine Later.set ?_ (by (simp; try omega)) _))⟩
              · cases t2 : decide (t ≤ 1099511627776)
                · (go_enter Try.func15, Try.ntmps15; go_wp2_with (fail))
                  go_ret
                  exact ⟨rfl, by repeat (first | (with_reducible exact Later.refl _) | with_reducible apply Later.latr | with_reducible apply Later.alloc | with_reducible apply Later.drew | (with_reducible refine Later.set ?_ (by (simp; try omega)) _))⟩
                · (go_enter Try.func15, Try.ntmps15; go_wp2_with (fail))
                  go_ret
                  exact ⟨rfl, by repeat (first | (with_reducible exact Later.refl _) | with_reducible apply Later.latr | with_reducible apply Later.alloc | with_reducible apply Later.drew | (with_reducible refine Later.set ?_ (by (simp; try omega)) _))⟩

set_option maxHeartbeats 1000000 in
theorem of28 (r : Rn) (w : World) : Gives Try.prog 28 #[rv r] w (rv (ofR r)) := by
  apply gives_of
  have h := check15 r
  unfold ofR
  generalize chk r = b at *
  have H := hid h
  clear h
  have S := hid start30
  obtain ⟨a, s, c, t⟩ := r
  cases b
  · rw [if_neg (by decide)]
    (go_enter Try.func28, Try.ntmps28; go_wp2_with (fail))
    (refine (H.out _).mono ?_; rintro e w1 ⟨rfl, x1, rfl⟩; go_wp2_with (fail))
    (refine (S.out _).mono ?_; rintro e w1 ⟨rfl, x1, rfl⟩; go_wp2_with (fail))
    go_returns
    exact ⟨rfl, by repeat (first | (with_reducible exact Later.refl _) | with_reducible apply Later.latr | with_reducible apply Later.alloc | with_reducible apply Later.drew | (with_reducible refine Later.set ?_ (by (simp; try omega)) _))⟩
  · rw [if_pos rfl]
    (go_enter Try.func28, Try.ntmps28; go_wp2_with (fail))
    (refine (H.out _).mono ?_; rintro e w1 ⟨rfl, x1, rfl⟩; go_wp2_with (fail))
    go_returns
    exact ⟨rfl, by repeat (first | (with_reducible exact Later.refl _) | with_reducible apply Later.latr | with_reducible apply Later.alloc | with_reducible apply Later.drew | (with_reducible refine Later.set ?_ (by (simp; try omega)) _))⟩

end Go.Proofs.Ytkmffpgejnafaaa
