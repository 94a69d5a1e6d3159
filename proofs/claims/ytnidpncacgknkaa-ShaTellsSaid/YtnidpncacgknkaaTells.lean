/- The walk of ShaTells: it answers true. Of any text. -/
import Derived.Test.YtnidpncacgknkaaRsum
import Derived.Test.YtnidpncacgknkaaAwake
namespace Go.Proofs.Ytnidpncacgknkaa
open Go.RowKit
attribute [local go_sem] ite_max ite_min
attribute [local go_sem] h_lt1 h_lt2 h_lt3 h_lt4 h_lt5 h_lt6 h_eq1 h_qe1 h_eq2 h_qe2 h_eq3 h_qe3 h_eq4 h_qe4 h_eq5 h_qe5 h_eq6 h_qe6
set_option maxRecDepth 100000 in
set_option maxHeartbeats 4000000 in
theorem shaTells5 (v : Value) (l : List B8) (w : World) (hv : Arr w 1 v l.length (bl l)) (hsh : Shape v) : Gives Try.prog 5 #[v] w (.bool true) := by
  apply gives_of
  have HV := hid hv
  have la := sha_len l
  obtain ⟨_, a, cap, rfl, _⟩ := hv
  by_cases h3 : 300 < l.length
  · have d1 : decide (300 < (l.length : Int)) = true := decide_eq_true (by omega)
    (go_enter Try.func5, Try.ntmps5; go_wp2_with (fail))
    (refine (awake16 _).mono ?_; rintro e w1 ⟨rfl, x1, rfl⟩; go_wp2_with (fail))
    go_ret
    exact ⟨rfl, by repeat (first | (with_reducible exact Later.refl _) | with_reducible apply Later.latr | with_reducible apply Later.alloc | with_reducible apply Later.drew | (with_reducible refine Later.set ?_ (by (simp; try omega)) _))⟩
  have d1 : decide (300 < (l.length : Int)) = false := decide_eq_false (by omega)
  (go_enter Try.func5, Try.ntmps5; go_wp2_with (fail))
  (refine (awake16 _).mono ?_; rintro e w1 ⟨rfl, x1, rfl⟩; go_wp2_with (fail))
  refine (sum17 _ l _ (HV.out.later (by repeat (first | (with_reducible exact Later.refl _) | with_reducible apply Later.latr | with_reducible apply Later.alloc | with_reducible apply Later.drew | (with_reducible refine Later.set ?_ (by (simp; try omega)) _)))) hsh (by omega)).later.mono ?_
  rintro e W1 ⟨rfl, hl1⟩
  have hL1 : Later w W1 := Later.trans (a := w) (by repeat (first | (with_reducible exact Later.refl _) | with_reducible apply Later.latr | with_reducible apply Later.alloc | with_reducible apply Later.drew | (with_reducible refine Later.set ?_ (by (simp; try omega)) _))) hl1
  go_wp2_with (fail)
  refine (refsum18 _ l _ (HV.out.later hL1) hsh (by omega)).later.mono ?_
  rintro e W2 ⟨rfl, hl2⟩
  go_wp2_with (fail)
  go_ret
  exact ⟨rfl, hL1.trans hl2⟩
end Go.Proofs.Ytnidpncacgknkaa
