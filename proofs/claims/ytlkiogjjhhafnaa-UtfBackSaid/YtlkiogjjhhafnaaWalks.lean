/- The walks of package utf's small functions, and the reference's. No condition. -/
import Derived.Test.YtlkiogjjhhafnaaWr
import Derived.Test.YtlkiogjjhhafnaaSizes
import Derived.Test.YtlkiogjjhhafnaaPlain
namespace Go.Proofs.Ytlkiogjjhhafnaa
open Go.RowKit
attribute [local go_sem] ite_max ite_min
attribute [local go_sem] h_lt1 h_lt2 h_lt3 h_lt4 h_lt5 h_lt6 h_eq1 h_qe1 h_eq2 h_qe2 h_eq3 h_qe3 h_eq4 h_qe4 h_eq5 h_qe5 h_eq6 h_qe6

abbrev uc (q : Ut) : Array Value := #[.int .i64 q.need, .int .i64 q.val, .int .i64 q.least]
abbrev uv (q : Ut) : Value := .agg #[.int .i64 q.need, .int .i64 q.val, .int .i64 q.least]
abbrev iv (n : Int) : Value := .int .i64 n
set_option maxHeartbeats 4000000 in
theorem is16 (n : Int) (w : World) : Gives Try.prog 16 #[.int .i64 n] w (.bool (isR n)) := by
  apply gives_of
  unfold isR
  cases s1 : decide (0 ≤ n)
  · (go_enter Try.func16, Try.ntmps16; go_wp2_with (fail))
    go_ret
    exact ⟨rfl, by repeat (first | (with_reducible exact Later.refl _) | with_reducible apply Later.latr | with_reducible apply Later.alloc | with_reducible apply Later.drew | (with_reducible refine Later.set ?_ (by (simp; try omega)) _))⟩
  · cases s2 : decide (n ≤ 1114111)
    · (go_enter Try.func16, Try.ntmps16; go_wp2_with (fail))
      go_ret
      exact ⟨rfl, by repeat (first | (with_reducible exact Later.refl _) | with_reducible apply Later.latr | with_reducible apply Later.alloc | with_reducible apply Later.drew | (with_reducible refine Later.set ?_ (by (simp; try omega)) _))⟩
    · cases s3 : decide (n < 55296)
      · cases s4 : decide (57343 < n)
        · (go_enter Try.func16, Try.ntmps16; go_wp2_with (fail))
          go_ret
          exact ⟨rfl, by repeat (first | (with_reducible exact Later.refl _) | with_reducible apply Later.latr | with_reducible apply Later.alloc | with_reducible apply Later.drew | (with_reducible refine Later.set ?_ (by (simp; try omega)) _))⟩
        · (go_enter Try.func16, Try.ntmps16; go_wp2_with (fail))
          go_ret
          exact ⟨rfl, by repeat (first | (with_reducible exact Later.refl _) | with_reducible apply Later.latr | with_reducible apply Later.alloc | with_reducible apply Later.drew | (with_reducible refine Later.set ?_ (by (simp; try omega)) _))⟩
      · (go_enter Try.func16, Try.ntmps16; go_wp2_with (fail))
        go_ret
        exact ⟨rfl, by repeat (first | (with_reducible exact Later.refl _) | with_reducible apply Later.latr | with_reducible apply Later.alloc | with_reducible apply Later.drew | (with_reducible refine Later.set ?_ (by (simp; try omega)) _))⟩
set_option maxHeartbeats 4000000 in
theorem is19 (n : Int) (w : World) : Gives Try.prog 19 #[.int .i64 n] w (.bool (isR n)) := by
  apply gives_of
  unfold isR
  cases s1 : decide (0 ≤ n)
  · (go_enter Try.func19, Try.ntmps19; go_wp2_with (fail))
    go_ret
    exact ⟨rfl, by repeat (first | (with_reducible exact Later.refl _) | with_reducible apply Later.latr | with_reducible apply Later.alloc | with_reducible apply Later.drew | (with_reducible refine Later.set ?_ (by (simp; try omega)) _))⟩
  · cases s2 : decide (n ≤ 1114111)
    · (go_enter Try.func19, Try.ntmps19; go_wp2_with (fail))
      go_ret
      exact ⟨rfl, by repeat (first | (with_reducible exact Later.refl _) | with_reducible apply Later.latr | with_reducible apply Later.alloc | with_reducible apply Later.drew | (with_reducible refine Later.set ?_ (by (simp; try omega)) _))⟩
    · cases s3 : decide (n < 55296)
      · cases s4 : decide (57343 < n)
        · (go_enter Try.func19, Try.ntmps19; go_wp2_with (fail))
          go_ret
          exact ⟨rfl, by repeat (first | (with_reducible exact Later.refl _) | with_reducible apply Later.latr | with_reducible apply Later.alloc | with_reducible apply Later.drew | (with_reducible refine Later.set ?_ (by (simp; try omega)) _))⟩
        · (go_enter Try.func19, Try.ntmps19; go_wp2_with (fail))
          go_ret
          exact ⟨rfl, by repeat (first | (with_reducible exact Later.refl _) | with_reducible apply Later.latr | with_reducible apply Later.alloc | with_reducible apply Later.drew | (with_reducible refine Later.set ?_ (by (simp; try omega)) _))⟩
      · (go_enter Try.func19, Try.ntmps19; go_wp2_with (fail))
        go_ret
        exact ⟨rfl, by repeat (first | (with_reducible exact Later.refl _) | with_reducible apply Later.latr | with_reducible apply Later.alloc | with_reducible apply Later.drew | (with_reducible refine Later.set ?_ (by (simp; try omega)) _))⟩
set_option maxHeartbeats 8000000 in
theorem goes14 (q : Ut) (w : World) : Gives Try.prog 14 #[uv q] w (.bool (goesU q)) := by
  apply gives_of
  obtain ⟨z, h, a⟩ := q
  unfold goesU
  dsimp only
  cases s1 : decide (1 ≤ z)
  · (go_enter Try.func14, Try.ntmps14; go_wp2_with (fail))
    go_ret
    exact ⟨rfl, by repeat (first | (with_reducible exact Later.refl _) | with_reducible apply Later.latr | with_reducible apply Later.alloc | with_reducible apply Later.drew | (with_reducible refine Later.set ?_ (by (simp; try omega)) _))⟩
  · cases s2 : decide (z ≤ 3)
    · (go_enter Try.func14, Try.ntmps14; go_wp2_with (fail))
      go_ret
      exact ⟨rfl, by repeat (first | (with_reducible exact Later.refl _) | with_reducible apply Later.latr | with_reducible apply Later.alloc | with_reducible apply Later.drew | (with_reducible refine Later.set ?_ (by (simp; try omega)) _))⟩
    · cases s3 : decide (0 ≤ h)
      · (go_enter Try.func14, Try.ntmps14; go_wp2_with (fail))
        go_ret
        exact ⟨rfl, by repeat (first | (with_reducible exact Later.refl _) | with_reducible apply Later.latr | with_reducible apply Later.alloc | with_reducible apply Later.drew | (with_reducible refine Later.set ?_ (by (simp; try omega)) _))⟩
      · cases s4 : decide (h ≤ 32767)
        · (go_enter Try.func14, Try.ntmps14; go_wp2_with (fail))
          go_ret
          exact ⟨rfl, by repeat (first | (with_reducible exact Later.refl _) | with_reducible apply Later.latr | with_reducible apply Later.alloc | with_reducible apply Later.drew | (with_reducible refine Later.set ?_ (by (simp; try omega)) _))⟩
        · cases t1 : decide (a = 128)
          · have t1' : (a == 128) = false := by simpa using t1
            cases t2 : decide (a = 2048)
            · have t2' : (a == 2048) = false := by simpa using t2
              cases t3 : decide (a = 65536)
              · have t3' : (a == 65536) = false := by simpa using t3
                (go_enter Try.func14, Try.ntmps14; go_wp2_with (fail))
                go_ret
                exact ⟨rfl, by repeat (first | (with_reducible exact Later.refl _) | with_reducible apply Later.latr | with_reducible apply Later.alloc | with_reducible apply Later.drew | (with_reducible refine Later.set ?_ (by (simp; try omega)) _))⟩
              · have t3' : (a == 65536) = true := by simpa using t3
                (go_enter Try.func14, Try.ntmps14; go_wp2_with (fail))
                go_ret
                exact ⟨rfl, by repeat (first | (with_reducible exact Later.refl _) | with_reducible apply Later.latr | with_reducible apply Later.alloc | with_reducible apply Later.drew | (with_reducible refine Later.set ?_ (by (simp; try omega)) _))⟩
            · have t2' : (a == 2048) = true := by simpa using t2
              (go_enter Try.func14, Try.ntmps14; go_wp2_with (fail))
              go_ret
              exact ⟨rfl, by repeat (first | (with_reducible exact Later.refl _) | with_reducible apply Later.latr | with_reducible apply Later.alloc | with_reducible apply Later.drew | (with_reducible refine Later.set ?_ (by (simp; try omega)) _))⟩
          · have t1' : (a == 128) = true := by simpa using t1
            (go_enter Try.func14, Try.ntmps14; go_wp2_with (fail))
            go_ret
            exact ⟨rfl, by repeat (first | (with_reducible exact Later.refl _) | with_reducible apply Later.latr | with_reducible apply Later.alloc | with_reducible apply Later.drew | (with_reducible refine Later.set ?_ (by (simp; try omega)) _))⟩
set_option maxHeartbeats 8000000 in
theorem goes17 (q : Ut) (w : World) : Gives Try.prog 17 #[uv q] w (.bool (goesU q)) := by
  apply gives_of
  obtain ⟨z, h, a⟩ := q
  unfold goesU
  dsimp only
  cases s1 : decide (1 ≤ z)
  · (go_enter Try.func17, Try.ntmps17; go_wp2_with (fail))
    go_ret
    exact ⟨rfl, by repeat (first | (with_reducible exact Later.refl _) | with_reducible apply Later.latr | with_reducible apply Later.alloc | with_reducible apply Later.drew | (with_reducible refine Later.set ?_ (by (simp; try omega)) _))⟩
  · cases s2 : decide (z ≤ 3)
    · (go_enter Try.func17, Try.ntmps17; go_wp2_with (fail))
      go_ret
      exact ⟨rfl, by repeat (first | (with_reducible exact Later.refl _) | with_reducible apply Later.latr | with_reducible apply Later.alloc | with_reducible apply Later.drew | (with_reducible refine Later.set ?_ (by (simp; try omega)) _))⟩
    · cases s3 : decide (0 ≤ h)
      · (go_enter Try.func17, Try.ntmps17; go_wp2_with (fail))
        go_ret
        exact ⟨rfl, by repeat (first | (with_reducible exact Later.refl _) | with_reducible apply Later.latr | with_reducible apply Later.alloc | with_reducible apply Later.drew | (with_reducible refine Later.set ?_ (by (simp; try omega)) _))⟩
      · cases s4 : decide (h ≤ 32767)
        · (go_enter Try.func17, Try.ntmps17; go_wp2_with (fail))
          go_ret
          exact ⟨rfl, by repeat (first | (with_reducible exact Later.refl _) | with_reducible apply Later.latr | with_reducible apply Later.alloc | with_reducible apply Later.drew | (with_reducible refine Later.set ?_ (by (simp; try omega)) _))⟩
        · cases t1 : decide (a = 128)
          · have t1' : (a == 128) = false := by simpa using t1
            cases t2 : decide (a = 2048)
            · have t2' : (a == 2048) = false := by simpa using t2
              cases t3 : decide (a = 65536)
              · have t3' : (a == 65536) = false := by simpa using t3
                (go_enter Try.func17, Try.ntmps17; go_wp2_with (fail))
                go_ret
                exact ⟨rfl, by repeat (first | (with_reducible exact Later.refl _) | with_reducible apply Later.latr | with_reducible apply Later.alloc | with_reducible apply Later.drew | (with_reducible refine Later.set ?_ (by (simp; try omega)) _))⟩
              · have t3' : (a == 65536) = true := by simpa using t3
                (go_enter Try.func17, Try.ntmps17; go_wp2_with (fail))
                go_ret
                exact ⟨rfl, by repeat (first | (with_reducible exact Later.refl _) | with_reducible apply Later.latr | with_reducible apply Later.alloc | with_reducible apply Later.drew | (with_reducible refine Later.set ?_ (by (simp; try omega)) _))⟩
            · have t2' : (a == 2048) = true := by simpa using t2
              (go_enter Try.func17, Try.ntmps17; go_wp2_with (fail))
              go_ret
              exact ⟨rfl, by repeat (first | (with_reducible exact Later.refl _) | with_reducible apply Later.latr | with_reducible apply Later.alloc | with_reducible apply Later.drew | (with_reducible refine Later.set ?_ (by (simp; try omega)) _))⟩
          · have t1' : (a == 128) = true := by simpa using t1
            (go_enter Try.func17, Try.ntmps17; go_wp2_with (fail))
            go_ret
            exact ⟨rfl, by repeat (first | (with_reducible exact Later.refl _) | with_reducible apply Later.latr | with_reducible apply Later.alloc | with_reducible apply Later.drew | (with_reducible refine Later.set ?_ (by (simp; try omega)) _))⟩
end Go.Proofs.Ytlkiogjjhhafnaa
