/- An array's element by a literal index; cells behind a draw. No condition. -/
import Derived.Test.YtjgaljnojhkimaaWalks
namespace Go.Proofs.Ytjgaljnojhkimaa
open Go.RowKit
attribute [local go_sem] ite_max ite_min
attribute [local go_sem] h_lt1 h_lt2 h_lt3 h_lt4 h_lt5 h_lt6 h_eq1 h_qe1 h_eq2 h_qe2 h_eq3 h_qe3 h_eq4 h_qe4 h_eq5 h_qe5 h_eq6 h_qe6

@[go_sem] theorem cellsAt_drew (w : World) (g o n : Nat) : cellsAt w.drew g o n = cellsAt w g o n := rfl
@[go_sem] theorem idx23_0 {w : World} (a0 a1 a2 a3 a4 a5 a6 a7 : Int) : (Instr.index 23 (.agg #[.int .i64 a0, .int .i64 a1, .int .i64 a2, .int .i64 a3, .int .i64 a4, .int .i64 a5, .int .i64 a6, .int .i64 a7]) (.int .i64 0)).run Try.prog w = .ok (.int .i64 a0) w := by
  have u3 := Try.underlying3
  have a3' := Try.isAgg3
  have z3 := Try.sizeOf3
  have u23 := Try.underlying23
  unfold Instr.index
  go_simp
@[go_sem] theorem idx23_1 {w : World} (a0 a1 a2 a3 a4 a5 a6 a7 : Int) : (Instr.index 23 (.agg #[.int .i64 a0, .int .i64 a1, .int .i64 a2, .int .i64 a3, .int .i64 a4, .int .i64 a5, .int .i64 a6, .int .i64 a7]) (.int .i64 1)).run Try.prog w = .ok (.int .i64 a1) w := by
  have u3 := Try.underlying3
  have a3' := Try.isAgg3
  have z3 := Try.sizeOf3
  have u23 := Try.underlying23
  unfold Instr.index
  go_simp
@[go_sem] theorem idx23_2 {w : World} (a0 a1 a2 a3 a4 a5 a6 a7 : Int) : (Instr.index 23 (.agg #[.int .i64 a0, .int .i64 a1, .int .i64 a2, .int .i64 a3, .int .i64 a4, .int .i64 a5, .int .i64 a6, .int .i64 a7]) (.int .i64 2)).run Try.prog w = .ok (.int .i64 a2) w := by
  have u3 := Try.underlying3
  have a3' := Try.isAgg3
  have z3 := Try.sizeOf3
  have u23 := Try.underlying23
  unfold Instr.index
  go_simp
@[go_sem] theorem idx23_3 {w : World} (a0 a1 a2 a3 a4 a5 a6 a7 : Int) : (Instr.index 23 (.agg #[.int .i64 a0, .int .i64 a1, .int .i64 a2, .int .i64 a3, .int .i64 a4, .int .i64 a5, .int .i64 a6, .int .i64 a7]) (.int .i64 3)).run Try.prog w = .ok (.int .i64 a3) w := by
  have u3 := Try.underlying3
  have a3' := Try.isAgg3
  have z3 := Try.sizeOf3
  have u23 := Try.underlying23
  unfold Instr.index
  go_simp
@[go_sem] theorem idx23_4 {w : World} (a0 a1 a2 a3 a4 a5 a6 a7 : Int) : (Instr.index 23 (.agg #[.int .i64 a0, .int .i64 a1, .int .i64 a2, .int .i64 a3, .int .i64 a4, .int .i64 a5, .int .i64 a6, .int .i64 a7]) (.int .i64 4)).run Try.prog w = .ok (.int .i64 a4) w := by
  have u3 := Try.underlying3
  have a3' := Try.isAgg3
  have z3 := Try.sizeOf3
  have u23 := Try.underlying23
  unfold Instr.index
  go_simp
@[go_sem] theorem idx23_5 {w : World} (a0 a1 a2 a3 a4 a5 a6 a7 : Int) : (Instr.index 23 (.agg #[.int .i64 a0, .int .i64 a1, .int .i64 a2, .int .i64 a3, .int .i64 a4, .int .i64 a5, .int .i64 a6, .int .i64 a7]) (.int .i64 5)).run Try.prog w = .ok (.int .i64 a5) w := by
  have u3 := Try.underlying3
  have a3' := Try.isAgg3
  have z3 := Try.sizeOf3
  have u23 := Try.underlying23
  unfold Instr.index
  go_simp
@[go_sem] theorem idx23_6 {w : World} (a0 a1 a2 a3 a4 a5 a6 a7 : Int) : (Instr.index 23 (.agg #[.int .i64 a0, .int .i64 a1, .int .i64 a2, .int .i64 a3, .int .i64 a4, .int .i64 a5, .int .i64 a6, .int .i64 a7]) (.int .i64 6)).run Try.prog w = .ok (.int .i64 a6) w := by
  have u3 := Try.underlying3
  have a3' := Try.isAgg3
  have z3 := Try.sizeOf3
  have u23 := Try.underlying23
  unfold Instr.index
  go_simp
@[go_sem] theorem idx23_7 {w : World} (a0 a1 a2 a3 a4 a5 a6 a7 : Int) : (Instr.index 23 (.agg #[.int .i64 a0, .int .i64 a1, .int .i64 a2, .int .i64 a3, .int .i64 a4, .int .i64 a5, .int .i64 a6, .int .i64 a7]) (.int .i64 7)).run Try.prog w = .ok (.int .i64 a7) w := by
  have u3 := Try.underlying3
  have a3' := Try.isAgg3
  have z3 := Try.sizeOf3
  have u23 := Try.underlying23
  unfold Instr.index
  go_simp
end Go.Proofs.Ytjgaljnojhkimaa
