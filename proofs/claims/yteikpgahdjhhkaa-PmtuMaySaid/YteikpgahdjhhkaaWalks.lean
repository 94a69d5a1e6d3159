/- The walks of package pmtu's small functions, and the reference's: each gives what the plain function gives. No condition. -/
import Derived.Test.YteikpgahdjhhkaaWr
import Derived.Test.YteikpgahdjhhkaaSizes
import Derived.Test.YteikpgahdjhhkaaPlain
namespace Go.Proofs.Yteikpgahdjhhkaa
open Go.RowKit
attribute [local go_sem] ite_max ite_min
attribute [local go_sem] h_lt1 h_lt2 h_lt3 h_lt4 h_lt5 h_lt6 h_eq1 h_qe1 h_eq2 h_qe2 h_eq3 h_qe3 h_eq4 h_qe4 h_eq5 h_qe5 h_eq6 h_qe6

abbrev pc (q : Pt) : Array Value := #[.int .i64 q.z, .int .i64 q.h, .int .i64 q.a, .int .i64 q.f, .int .i64 q.b]
abbrev pv (q : Pt) : Value := .agg #[.int .i64 q.z, .int .i64 q.h, .int .i64 q.a, .int .i64 q.f, .int .i64 q.b]
abbrev sv (s : Snt) : Value := .agg #[.int .i64 s.k, .int .i64 s.t, .int .i64 s.z, .bool s.e, .bool s.p]
set_option maxHeartbeats 400000 in
theorem start21 (w : World) : Gives Try.prog 21 #[] w (pv start) := by
  apply gives_of
  (go_enter Try.func21, Try.ntmps21; go_wp2_with (fail))
  go_returns
  exact ⟨rfl, by repeat (first | (with_reducible exact Later.refl _) | with_reducible apply Later.latr | with_reducible apply Later.alloc | with_reducible apply Later.drew | (with_reducible refine Later.set ?_ (by (simp; try omega)) _))⟩
set_option maxHeartbeats 400000 in
theorem start26 (w : World) : Gives Try.prog 26 #[] w (pv start) := by
  apply gives_of
  (go_enter Try.func26, Try.ntmps26; go_wp2_with (fail))
  go_returns
  exact ⟨rfl, by repeat (first | (with_reducible exact Later.refl _) | with_reducible apply Later.latr | with_reducible apply Later.alloc | with_reducible apply Later.drew | (with_reducible refine Later.set ?_ (by (simp; try omega)) _))⟩

set_option maxHeartbeats 8000000 in
theorem check9 (q : Pt) (w : World) : Gives Try.prog 9 #[pv q] w (.bool (chk q)) := by
  apply gives_of
  obtain ⟨z, h, a, ff, b⟩ := q
  unfold chk sizes asked
  dsimp only
  cases s1 : decide (256 ≤ z)
  · cases a0 : decide (a = 0)
    · have a0' : (a == 0) = false := by simpa using a0
      cases g1 : decide (z < a)
      · (go_enter Try.func9, Try.ntmps9; go_wp2_with (fail))
        go_ret
        exact ⟨rfl, by repeat (first | (with_reducible exact Later.refl _) | with_reducible apply Later.latr | with_reducible apply Later.alloc | with_reducible apply Later.drew | (with_reducible refine Later.set ?_ (by (simp; try omega)) _))⟩
      · cases g2 : decide (a ≤ h)
        · (go_enter Try.func9, Try.ntmps9; go_wp2_with (fail))
          go_ret
          exact ⟨rfl, by repeat (first | (with_reducible exact Later.refl _) | with_reducible apply Later.latr | with_reducible apply Later.alloc | with_reducible apply Later.drew | (with_reducible refine Later.set ?_ (by (simp; try omega)) _))⟩
        · (go_enter Try.func9, Try.ntmps9; go_wp2_with (fail))
          go_ret
          exact ⟨rfl, by repeat (first | (with_reducible exact Later.refl _) | with_reducible apply Later.latr | with_reducible apply Later.alloc | with_reducible apply Later.drew | (with_reducible refine Later.set ?_ (by (simp; try omega)) _))⟩
    · have a0' : (a == 0) = true := by simpa using a0
      (go_enter Try.func9, Try.ntmps9; go_wp2_with (fail))
      go_ret
      exact ⟨rfl, by repeat (first | (with_reducible exact Later.refl _) | with_reducible apply Later.latr | with_reducible apply Later.alloc | with_reducible apply Later.drew | (with_reducible refine Later.set ?_ (by (simp; try omega)) _))⟩
  · cases s2 : decide (z ≤ h)
    · cases a0 : decide (a = 0)
      · have a0' : (a == 0) = false := by simpa using a0
        cases g1 : decide (z < a)
        · (go_enter Try.func9, Try.ntmps9; go_wp2_with (fail))
          go_ret
          exact ⟨rfl, by repeat (first | (with_reducible exact Later.refl _) | with_reducible apply Later.latr | with_reducible apply Later.alloc | with_reducible apply Later.drew | (with_reducible refine Later.set ?_ (by (simp; try omega)) _))⟩
        · cases g2 : decide (a ≤ h)
          · (go_enter Try.func9, Try.ntmps9; go_wp2_with (fail))
            go_ret
            exact ⟨rfl, by repeat (first | (with_reducible exact Later.refl _) | with_reducible apply Later.latr | with_reducible apply Later.alloc | with_reducible apply Later.drew | (with_reducible refine Later.set ?_ (by (simp; try omega)) _))⟩
          · (go_enter Try.func9, Try.ntmps9; go_wp2_with (fail))
            go_ret
            exact ⟨rfl, by repeat (first | (with_reducible exact Later.refl _) | with_reducible apply Later.latr | with_reducible apply Later.alloc | with_reducible apply Later.drew | (with_reducible refine Later.set ?_ (by (simp; try omega)) _))⟩
      · have a0' : (a == 0) = true := by simpa using a0
        (go_enter Try.func9, Try.ntmps9; go_wp2_with (fail))
        go_ret
        exact ⟨rfl, by repeat (first | (with_reducible exact Later.refl _) | with_reducible apply Later.latr | with_reducible apply Later.alloc | with_reducible apply Later.drew | (with_reducible refine Later.set ?_ (by (simp; try omega)) _))⟩
    · cases s3 : decide (h ≤ 1500)
      · cases a0 : decide (a = 0)
        · have a0' : (a == 0) = false := by simpa using a0
          cases g1 : decide (z < a)
          · (go_enter Try.func9, Try.ntmps9; go_wp2_with (fail))
            go_ret
            exact ⟨rfl, by repeat (first | (with_reducible exact Later.refl _) | with_reducible apply Later.latr | with_reducible apply Later.alloc | with_reducible apply Later.drew | (with_reducible refine Later.set ?_ (by (simp; try omega)) _))⟩
          · cases g2 : decide (a ≤ h)
            · (go_enter Try.func9, Try.ntmps9; go_wp2_with (fail))
              go_ret
              exact ⟨rfl, by repeat (first | (with_reducible exact Later.refl _) | with_reducible apply Later.latr | with_reducible apply Later.alloc | with_reducible apply Later.drew | (with_reducible refine Later.set ?_ (by (simp; try omega)) _))⟩
            · (go_enter Try.func9, Try.ntmps9; go_wp2_with (fail))
              go_ret
              exact ⟨rfl, by repeat (first | (with_reducible exact Later.refl _) | with_reducible apply Later.latr | with_reducible apply Later.alloc | with_reducible apply Later.drew | (with_reducible refine Later.set ?_ (by (simp; try omega)) _))⟩
        · have a0' : (a == 0) = true := by simpa using a0
          (go_enter Try.func9, Try.ntmps9; go_wp2_with (fail))
          go_ret
          exact ⟨rfl, by repeat (first | (with_reducible exact Later.refl _) | with_reducible apply Later.latr | with_reducible apply Later.alloc | with_reducible apply Later.drew | (with_reducible refine Later.set ?_ (by (simp; try omega)) _))⟩
      · cases a0 : decide (a = 0)
        · have a0' : (a == 0) = false := by simpa using a0
          cases g1 : decide (z < a)
          · (go_enter Try.func9, Try.ntmps9; go_wp2_with (fail))
            go_ret
            exact ⟨rfl, by repeat (first | (with_reducible exact Later.refl _) | with_reducible apply Later.latr | with_reducible apply Later.alloc | with_reducible apply Later.drew | (with_reducible refine Later.set ?_ (by (simp; try omega)) _))⟩
          · cases g2 : decide (a ≤ h)
            · (go_enter Try.func9, Try.ntmps9; go_wp2_with (fail))
              go_ret
              exact ⟨rfl, by repeat (first | (with_reducible exact Later.refl _) | with_reducible apply Later.latr | with_reducible apply Later.alloc | with_reducible apply Later.drew | (with_reducible refine Later.set ?_ (by (simp; try omega)) _))⟩
            · cases c1 : decide (0 ≤ ff)
              · (go_enter Try.func9, Try.ntmps9; go_wp2_with (fail))
                go_ret
                exact ⟨rfl, by repeat (first | (with_reducible exact Later.refl _) | with_reducible apply Later.latr | with_reducible apply Later.alloc | with_reducible apply Later.drew | (with_reducible refine Later.set ?_ (by (simp; try omega)) _))⟩
              · cases c2 : decide (ff < 3)
                · (go_enter Try.func9, Try.ntmps9; go_wp2_with (fail))
                  go_ret
                  exact ⟨rfl, by repeat (first | (with_reducible exact Later.refl _) | with_reducible apply Later.latr | with_reducible apply Later.alloc | with_reducible apply Later.drew | (with_reducible refine Later.set ?_ (by (simp; try omega)) _))⟩
                · cases c3 : decide (0 ≤ b)
                  · (go_enter Try.func9, Try.ntmps9; go_wp2_with (fail))
                    go_ret
                    exact ⟨rfl, by repeat (first | (with_reducible exact Later.refl _) | with_reducible apply Later.latr | with_reducible apply Later.alloc | with_reducible apply Later.drew | (with_reducible refine Later.set ?_ (by (simp; try omega)) _))⟩
                  · cases c4 : decide (b < 6)
                    · (go_enter Try.func9, Try.ntmps9; go_wp2_with (fail))
                      go_ret
                      exact ⟨rfl, by repeat (first | (with_reducible exact Later.refl _) | with_reducible apply Later.latr | with_reducible apply Later.alloc | with_reducible apply Later.drew | (with_reducible refine Later.set ?_ (by (simp; try omega)) _))⟩
                    · (go_enter Try.func9, Try.ntmps9; go_wp2_with (fail))
                      go_ret
                      exact ⟨rfl, by repeat (first | (with_reducible exact Later.refl _) | with_reducible apply Later.latr | with_reducible apply Later.alloc | with_reducible apply Later.drew | (with_reducible refine Later.set ?_ (by (simp; try omega)) _))⟩
        · have a0' : (a == 0) = true := by simpa using a0
          cases c1 : decide (0 ≤ ff)
          · (go_enter Try.func9, Try.ntmps9; go_wp2_with (fail))
            go_ret
            exact ⟨rfl, by repeat (first | (with_reducible exact Later.refl _) | with_reducible apply Later.latr | with_reducible apply Later.alloc | with_reducible apply Later.drew | (with_reducible refine Later.set ?_ (by (simp; try omega)) _))⟩
          · cases c2 : decide (ff < 3)
            · (go_enter Try.func9, Try.ntmps9; go_wp2_with (fail))
              go_ret
              exact ⟨rfl, by repeat (first | (with_reducible exact Later.refl _) | with_reducible apply Later.latr | with_reducible apply Later.alloc | with_reducible apply Later.drew | (with_reducible refine Later.set ?_ (by (simp; try omega)) _))⟩
            · cases c3 : decide (0 ≤ b)
              · (go_enter Try.func9, Try.ntmps9; go_wp2_with (fail))
                go_ret
                exact ⟨rfl, by repeat (first | (with_reducible exact Later.refl _) | with_reducible apply Later.latr | with_reducible apply Later.alloc | with_reducible apply Later.drew | (with_reducible refine Later.set ?_ (by (simp; try omega)) _))⟩
              · cases c4 : decide (b < 6)
                · (go_enter Try.func9, Try.ntmps9; go_wp2_with (fail))
                  go_ret
                  exact ⟨rfl, by repeat (first | (with_reducible exact Later.refl _) | with_reducible apply Later.latr | with_reducible apply Later.alloc | with_reducible apply Later.drew | (with_reducible refine Later.set ?_ (by (simp; try omega)) _))⟩
                · (go_enter Try.func9, Try.ntmps9; go_wp2_with (fail))
                  go_ret
                  exact ⟨rfl, by repeat (first | (with_reducible exact Later.refl _) | with_reducible apply Later.latr | with_reducible apply Later.alloc | with_reducible apply Later.drew | (with_reducible refine Later.set ?_ (by (simp; try omega)) _))⟩

set_option maxHeartbeats 8000000 in
theorem check10 (q : Pt) (w : World) : Gives Try.prog 10 #[pv q] w (.bool (chk q)) := by
  apply gives_of
  obtain ⟨z, h, a, ff, b⟩ := q
  unfold chk sizes asked
  dsimp only
  cases s1 : decide (256 ≤ z)
  · cases a0 : decide (a = 0)
    · have a0' : (a == 0) = false := by simpa using a0
      cases g1 : decide (z < a)
      · (go_enter Try.func10, Try.ntmps10; go_wp2_with (fail))
        go_ret
        exact ⟨rfl, by repeat (first | (with_reducible exact Later.refl _) | with_reducible apply Later.latr | with_reducible apply Later.alloc | with_reducible apply Later.drew | (with_reducible refine Later.set ?_ (by (simp; try omega)) _))⟩
      · cases g2 : decide (a ≤ h)
        · (go_enter Try.func10, Try.ntmps10; go_wp2_with (fail))
          go_ret
          exact ⟨rfl, by repeat (first | (with_reducible exact Later.refl _) | with_reducible apply Later.latr | with_reducible apply Later.alloc | with_reducible apply Later.drew | (with_reducible refine Later.set ?_ (by (simp; try omega)) _))⟩
        · (go_enter Try.func10, Try.ntmps10; go_wp2_with (fail))
          go_ret
          exact ⟨rfl, by repeat (first | (with_reducible exact Later.refl _) | with_reducible apply Later.latr | with_reducible apply Later.alloc | with_reducible apply Later.drew | (with_reducible refine Later.set ?_ (by (simp; try omega)) _))⟩
    · have a0' : (a == 0) = true := by simpa using a0
      (go_enter Try.func10, Try.ntmps10; go_wp2_with (fail))
      go_ret
      exact ⟨rfl, by repeat (first | (with_reducible exact Later.refl _) | with_reducible apply Later.latr | with_reducible apply Later.alloc | with_reducible apply Later.drew | (with_reducible refine Later.set ?_ (by (simp; try omega)) _))⟩
  · cases s2 : decide (z ≤ h)
    · cases a0 : decide (a = 0)
      · have a0' : (a == 0) = false := by simpa using a0
        cases g1 : decide (z < a)
        · (go_enter Try.func10, Try.ntmps10; go_wp2_with (fail))
          go_ret
          exact ⟨rfl, by repeat (first | (with_reducible exact Later.refl _) | with_reducible apply Later.latr | with_reducible apply Later.alloc | with_reducible apply Later.drew | (with_reducible refine Later.set ?_ (by (simp; try omega)) _))⟩
        · cases g2 : decide (a ≤ h)
          · (go_enter Try.func10, Try.ntmps10; go_wp2_with (fail))
            go_ret
            exact ⟨rfl, by repeat (first | (with_reducible exact Later.refl _) | with_reducible apply Later.latr | with_reducible apply Later.alloc | with_reducible apply Later.drew | (with_reducible refine Later.set ?_ (by (simp; try omega)) _))⟩
          · (go_enter Try.func10, Try.ntmps10; go_wp2_with (fail))
            go_ret
            exact ⟨rfl, by repeat (first | (with_reducible exact Later.refl _) | with_reducible apply Later.latr | with_reducible apply Later.alloc | with_reducible apply Later.drew | (with_reducible refine Later.set ?_ (by (simp; try omega)) _))⟩
      · have a0' : (a == 0) = true := by simpa using a0
        (go_enter Try.func10, Try.ntmps10; go_wp2_with (fail))
        go_ret
        exact ⟨rfl, by repeat (first | (with_reducible exact Later.refl _) | with_reducible apply Later.latr | with_reducible apply Later.alloc | with_reducible apply Later.drew | (with_reducible refine Later.set ?_ (by (simp; try omega)) _))⟩
    · cases s3 : decide (h ≤ 1500)
      · cases a0 : decide (a = 0)
        · have a0' : (a == 0) = false := by simpa using a0
          cases g1 : decide (z < a)
          · (go_enter Try.func10, Try.ntmps10; go_wp2_with (fail))
            go_ret
            exact ⟨rfl, by repeat (first | (with_reducible exact Later.refl _) | with_reducible apply Later.latr | with_reducible apply Later.alloc | with_reducible apply Later.drew | (with_reducible refine Later.set ?_ (by (simp; try omega)) _))⟩
          · cases g2 : decide (a ≤ h)
            · (go_enter Try.func10, Try.ntmps10; go_wp2_with (fail))
              go_ret
              exact ⟨rfl, by repeat (first | (with_reducible exact Later.refl _) | with_reducible apply Later.latr | with_reducible apply Later.alloc | with_reducible apply Later.drew | (with_reducible refine Later.set ?_ (by (simp; try omega)) _))⟩
            · (go_enter Try.func10, Try.ntmps10; go_wp2_with (fail))
              go_ret
              exact ⟨rfl, by repeat (first | (with_reducible exact Later.refl _) | with_reducible apply Later.latr | with_reducible apply Later.alloc | with_reducible apply Later.drew | (with_reducible refine Later.set ?_ (by (simp; try omega)) _))⟩
        · have a0' : (a == 0) = true := by simpa using a0
          (go_enter Try.func10, Try.ntmps10; go_wp2_with (fail))
          go_ret
          exact ⟨rfl, by repeat (first | (with_reducible exact Later.refl _) | with_reducible apply Later.latr | with_reducible apply Later.alloc | with_reducible apply Later.drew | (with_reducible refine Later.set ?_ (by (simp; try omega)) _))⟩
      · cases a0 : decide (a = 0)
        · have a0' : (a == 0) = false := by simpa using a0
          cases g1 : decide (z < a)
          · (go_enter Try.func10, Try.ntmps10; go_wp2_with (fail))
            go_ret
            exact ⟨rfl, by repeat (first | (with_reducible exact Later.refl _) | with_reducible apply Later.latr | with_reducible apply Later.alloc | with_reducible apply Later.drew | (with_reducible refine Later.set ?_ (by (simp; try omega)) _))⟩
          · cases g2 : decide (a ≤ h)
            · (go_enter Try.func10, Try.ntmps10; go_wp2_with (fail))
              go_ret
              exact ⟨rfl, by repeat (first | (with_reducible exact Later.refl _) | with_reducible apply Later.latr | with_reducible apply Later.alloc | with_reducible apply Later.drew | (with_reducible refine Later.set ?_ (by (simp; try omega)) _))⟩
            · cases c1 : decide (0 ≤ ff)
              · (go_enter Try.func10, Try.ntmps10; go_wp2_with (fail))
                go_ret
                exact ⟨rfl, by repeat (first | (with_reducible exact Later.refl _) | with_reducible apply Later.latr | with_reducible apply Later.alloc | with_reducible apply Later.drew | (with_reducible refine Later.set ?_ (by (simp; try omega)) _))⟩
              · cases c2 : decide (ff < 3)
                · (go_enter Try.func10, Try.ntmps10; go_wp2_with (fail))
                  go_ret
                  exact ⟨rfl, by repeat (first | (with_reducible exact Later.refl _) | with_reducible apply Later.latr | with_reducible apply Later.alloc | with_reducible apply Later.drew | (with_reducible refine Later.set ?_ (by (simp; try omega)) _))⟩
                · cases c3 : decide (0 ≤ b)
                  · (go_enter Try.func10, Try.ntmps10; go_wp2_with (fail))
                    go_ret
                    exact ⟨rfl, by repeat (first | (with_reducible exact Later.refl _) | with_reducible apply Later.latr | with_reducible apply Later.alloc | with_reducible apply Later.drew | (with_reducible refine Later.set ?_ (by (simp; try omega)) _))⟩
                  · cases c4 : decide (b < 6)
                    · (go_enter Try.func10, Try.ntmps10; go_wp2_with (fail))
                      go_ret
                      exact ⟨rfl, by repeat (first | (with_reducible exact Later.refl _) | with_reducible apply Later.latr | with_reducible apply Later.alloc | with_reducible apply Later.drew | (with_reducible refine Later.set ?_ (by (simp; try omega)) _))⟩
                    · (go_enter Try.func10, Try.ntmps10; go_wp2_with (fail))
                      go_ret
                      exact ⟨rfl, by repeat (first | (with_reducible exact Later.refl _) | with_reducible apply Later.latr | with_reducible apply Later.alloc | with_reducible apply Later.drew | (with_reducible refine Later.set ?_ (by (simp; try omega)) _))⟩
        · have a0' : (a == 0) = true := by simpa using a0
          cases c1 : decide (0 ≤ ff)
          · (go_enter Try.func10, Try.ntmps10; go_wp2_with (fail))
            go_ret
            exact ⟨rfl, by repeat (first | (with_reducible exact Later.refl _) | with_reducible apply Later.latr | with_reducible apply Later.alloc | with_reducible apply Later.drew | (with_reducible refine Later.set ?_ (by (simp; try omega)) _))⟩
          · cases c2 : decide (ff < 3)
            · (go_enter Try.func10, Try.ntmps10; go_wp2_with (fail))
              go_ret
              exact ⟨rfl, by repeat (first | (with_reducible exact Later.refl _) | with_reducible apply Later.latr | with_reducible apply Later.alloc | with_reducible apply Later.drew | (with_reducible refine Later.set ?_ (by (simp; try omega)) _))⟩
            · cases c3 : decide (0 ≤ b)
              · (go_enter Try.func10, Try.ntmps10; go_wp2_with (fail))
                go_ret
                exact ⟨rfl, by repeat (first | (with_reducible exact Later.refl _) | with_reducible apply Later.latr | with_reducible apply Later.alloc | with_reducible apply Later.drew | (with_reducible refine Later.set ?_ (by (simp; try omega)) _))⟩
              · cases c4 : decide (b < 6)
                · (go_enter Try.func10, Try.ntmps10; go_wp2_with (fail))
                  go_ret
                  exact ⟨rfl, by repeat (first | (with_reducible exact Later.refl _) | with_reducible apply Later.latr | with_reducible apply Later.alloc | with_reducible apply Later.drew | (with_reducible refine Later.set ?_ (by (simp; try omega)) _))⟩
                · (go_enter Try.func10, Try.ntmps10; go_wp2_with (fail))
                  go_ret
                  exact ⟨rfl, by repeat (first | (with_reducible exact Later.refl _) | with_reducible apply Later.latr | with_reducible apply Later.alloc | with_reducible apply Later.drew | (with_reducible refine Later.set ?_ (by (simp; try omega)) _))⟩

set_option maxHeartbeats 2000000 in
theorem of22 (q : Pt) (w : World) : Gives Try.prog 22 #[pv q] w (pv (ofP q)) := by
  apply gives_of
  have h := check9 q
  unfold ofP
  generalize chk q = b at *
  have H := hid h
  clear h
  have S := hid start21
  obtain ⟨z, hh, a, ff, bb⟩ := q
  cases b
  · rw [if_neg (by decide)]
    (go_enter Try.func22, Try.ntmps22; go_wp2_with (fail))
    (refine (H.out _).mono ?_; rintro e w1 ⟨rfl, x1, rfl⟩; go_wp2_with (fail))
    (refine (S.out _).mono ?_; rintro e w1 ⟨rfl, x1, rfl⟩; go_wp2_with (fail))
    go_returns
    exact ⟨rfl, by repeat (first | (with_reducible exact Later.refl _) | with_reducible apply Later.latr | with_reducible apply Later.alloc | with_reducible apply Later.drew | (with_reducible refine Later.set ?_ (by (simp; try omega)) _))⟩
  · rw [if_pos rfl]
    (go_enter Try.func22, Try.ntmps22; go_wp2_with (fail))
    (refine (H.out _).mono ?_; rintro e w1 ⟨rfl, x1, rfl⟩; go_wp2_with (fail))
    go_returns
    exact ⟨rfl, by repeat (first | (with_reducible exact Later.refl _) | with_reducible apply Later.latr | with_reducible apply Later.alloc | with_reducible apply Later.drew | (with_reducible refine Later.set ?_ (by (simp; try omega)) _))⟩
set_option maxHeartbeats 2000000 in
theorem of23 (q : Pt) (w : World) : Gives Try.prog 23 #[pv q] w (pv (ofP q)) := by
  apply gives_of
  have h := check10 q
  unfold ofP
  generalize chk q = b at *
  have H := hid h
  clear h
  have S := hid start26
  obtain ⟨z, hh, a, ff, bb⟩ := q
  cases b
  · rw [if_neg (by decide)]
    (go_enter Try.func23, Try.ntmps23; go_wp2_with (fail))
    (refine (H.out _).mono ?_; rintro e w1 ⟨rfl, x1, rfl⟩; go_wp2_with (fail))
    (refine (S.out _).mono ?_; rintro e w1 ⟨rfl, x1, rfl⟩; go_wp2_with (fail))
    go_returns
    exact ⟨rfl, by repeat (first | (with_reducible exact Later.refl _) | with_reducible apply Later.latr | with_reducible apply Later.alloc | with_reducible apply Later.drew | (with_reducible refine Later.set ?_ (by (simp; try omega)) _))⟩
  · rw [if_pos rfl]
    (go_enter Try.func23, Try.ntmps23; go_wp2_with (fail))
    (refine (H.out _).mono ?_; rintro e w1 ⟨rfl, x1, rfl⟩; go_wp2_with (fail))
    go_returns
    exact ⟨rfl, by repeat (first | (with_reducible exact Later.refl _) | with_reducible apply Later.latr | with_reducible apply Later.alloc | with_reducible apply Later.drew | (with_reducible refine Later.set ?_ (by (simp; try omega)) _))⟩
set_option maxHeartbeats 4000000 in
theorem next11 (q : Pt) (w : World) : Gives Try.prog 11 #[pv q] w (.int .i64 (next (ofP q))) := by
  apply gives_of
  have h := of22 q
  obtain ⟨b1, b2, b3, _⟩ := ok_of q
  generalize ofP q = r at *
  have H := hid h
  clear h
  obtain ⟨z, hh, a, ff, bb⟩ := r
  dsimp only at *
  unfold next
  dsimp only
  by_cases h1 : a = 0
  · have e1 : (a == 0) = true := by simpa using h1
    have e2 : decide (a = 0) = true := decide_eq_true h1
    have e3 : (a != 0) = false := by simpa using h1
    by_cases h2 : hh - z < 16
    · rw [if_pos (.inr h2)]
      have e4 : decide (hh - z < 16) = true := decide_eq_true h2
      clear h1
      (go_enter Try.func11, Try.ntmps11; go_wp2_with (fail))
      (refine (H.out _).mono ?_; rintro e w1 ⟨rfl, x1, rfl⟩; go_wp2_with (fail))
      go_ret
      exact ⟨rfl, by repeat (first | (with_reducible exact Later.refl _) | with_reducible apply Later.latr | with_reducible apply Later.alloc | with_reducible apply Later.drew | (with_reducible refine Later.set ?_ (by (simp; try omega)) _))⟩
    · rw [if_neg (by omega)]
      have e4 : decide (hh - z < 16) = false := decide_eq_false h2
      clear h1
      (go_enter Try.func11, Try.ntmps11; go_wp2_with (fail))
      (refine (H.out _).mono ?_; rintro e w1 ⟨rfl, x1, rfl⟩; go_wp2_with (fail))
      go_ret
      exact ⟨rfl, by repeat (first | (with_reducible exact Later.refl _) | with_reducible apply Later.latr | with_reducible apply Later.alloc | with_reducible apply Later.drew | (with_reducible refine Later.set ?_ (by (simp; try omega)) _))⟩
  · rw [if_pos (.inl h1)]
    have e1 : (a == 0) = false := by simpa using h1
    have e2 : decide (a = 0) = false := decide_eq_false h1
    have e3 : (a != 0) = true := by simpa using h1
    clear h1
    (go_enter Try.func11, Try.ntmps11; go_wp2_with (fail))
    (refine (H.out _).mono ?_; rintro e w1 ⟨rfl, x1, rfl⟩; go_wp2_with (fail))
    go_ret
    exact ⟨rfl, by repeat (first | (with_reducible exact Later.refl _) | with_reducible apply Later.latr | with_reducible apply Later.alloc | with_reducible apply Later.drew | (with_reducible refine Later.set ?_ (by (simp; try omega)) _))⟩
set_option maxHeartbeats 4000000 in
theorem next12 (q : Pt) (w : World) : Gives Try.prog 12 #[pv q] w (.int .i64 (next (ofP q))) := by
  apply gives_of
  have h := of23 q
  obtain ⟨b1, b2, b3, _⟩ := ok_of q
  generalize ofP q = r at *
  have H := hid h
  clear h
  obtain ⟨z, hh, a, ff, bb⟩ := r
  dsimp only at *
  unfold next
  dsimp only
  by_cases h1 : a = 0
  · have e1 : (a == 0) = true := by simpa using h1
    have e2 : decide (a = 0) = true := decide_eq_true h1
    have e3 : (a != 0) = false := by simpa using h1
    by_cases h2 : hh - z < 16
    · rw [if_pos (.inr h2)]
      have e4 : decide (hh - z < 16) = true := decide_eq_true h2
      clear h1
      (go_enter Try.func12, Try.ntmps12; go_wp2_with (fail))
      (refine (H.out _).mono ?_; rintro e w1 ⟨rfl, x1, rfl⟩; go_wp2_with (fail))
      go_ret
      exact ⟨rfl, by repeat (first | (with_reducible exact Later.refl _) | with_reducible apply Later.latr | with_reducible apply Later.alloc | with_reducible apply Later.drew | (with_reducible refine Later.set ?_ (by (simp; try omega)) _))⟩
    · rw [if_neg (by omega)]
      have e4 : decide (hh - z < 16) = false := decide_eq_false h2
      clear h1
      (go_enter Try.func12, Try.ntmps12; go_wp2_with (fail))
      (refine (H.out _).mono ?_; rintro e w1 ⟨rfl, x1, rfl⟩; go_wp2_with (fail))
      go_ret
      exact ⟨rfl, by repeat (first | (with_reducible exact Later.refl _) | with_reducible apply Later.latr | with_reducible apply Later.alloc | with_reducible apply Later.drew | (with_reducible refine Later.set ?_ (by (simp; try omega)) _))⟩
  · rw [if_pos (.inl h1)]
    have e1 : (a == 0) = false := by simpa using h1
    have e2 : decide (a = 0) = false := decide_eq_false h1
    have e3 : (a != 0) = true := by simpa using h1
    clear h1
    (go_enter Try.func12, Try.ntmps12; go_wp2_with (fail))
    (refine (H.out _).mono ?_; rintro e w1 ⟨rfl, x1, rfl⟩; go_wp2_with (fail))
    go_ret
    exact ⟨rfl, by repeat (first | (with_reducible exact Later.refl _) | with_reducible apply Later.latr | with_reducible apply Later.alloc | with_reducible apply Later.drew | (with_reducible refine Later.set ?_ (by (simp; try omega)) _))⟩
end Go.Proofs.Yteikpgahdjhhkaa
