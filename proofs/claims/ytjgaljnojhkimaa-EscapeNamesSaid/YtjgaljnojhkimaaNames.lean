/- The walk of EscapeNames: it answers true. No condition. -/
import Derived.Test.YtjgaljnojhkimaaAwake
namespace Go.Proofs.Ytjgaljnojhkimaa
open Go.RowKit
theorem names3 (w : World) : Calls Try.prog 3 #[] w fun e w' => e = .returned (.bool true) ∧ Later w w' := by
  (go_enter Try.func3, Try.ntmps3; go_wp2_with (fail))
  (refine (awake8 _).mono ?_; rintro e w1 ⟨rfl, x1, rfl⟩; go_wp2_with (fail))
  go_ret
  exact ⟨rfl, by repeat (first | (with_reducible exact Later.refl _) | with_reducible apply Later.latr | with_reducible apply Later.alloc | with_reducible apply Later.drew | (with_reducible refine Later.set ?_ (by (simp; try omega)) _))⟩
end Go.Proofs.Ytjgaljnojhkimaa
