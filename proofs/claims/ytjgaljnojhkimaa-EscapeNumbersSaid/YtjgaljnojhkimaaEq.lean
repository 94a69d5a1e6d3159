/- Equality of acts, and of parsers. No condition. -/
import Derived.Test.YtjgaljnojhkimaaBig
namespace Go.Proofs.Ytjgaljnojhkimaa
open Go.RowKit
def eqA (a b : Ac) : Bool := decide (a = b)
def eqP (a b : Pa) : Bool := decide (a = b)
@[go_sem] theorem eqA_self (a : Ac) : eqA a a = true := by simp [eqA]
@[go_sem] theorem eqP_self (a : Pa) : eqP a a = true := by simp [eqP]
set_option maxRecDepth 100000 in
set_option maxHeartbeats 4000000 in
theorem run_eq23 {w : World} (d : Nat) (a0 a1 a2 a3 a4 a5 a6 a7 b0 b1 b2 b3 b4 b5 b6 b7 : Int) :
    (Op.equalIn (d + 2) 23 (.agg #[.int .i64 a0, .int .i64 a1, .int .i64 a2, .int .i64 a3, .int .i64 a4, .int .i64 a5, .int .i64 a6, .int .i64 a7])
      (.agg #[.int .i64 b0, .int .i64 b1, .int .i64 b2, .int .i64 b3, .int .i64 b4, .int .i64 b5, .int .i64 b6, .int .i64 b7])).run Try.prog w =
      .ok (decide (a0 = b0 ∧ a1 = b1 ∧ a2 = b2 ∧ a3 = b3 ∧ a4 = b4 ∧ a5 = b5 ∧ a6 = b6 ∧ a7 = b7)) w := by
  have u3 := Try.underlying3
  have a3' := Try.isAgg3
  have z3 := Try.sizeOf3
  rw [Op.equalIn]
  simp only [Sem.run_bind, run_underlying Try.underlying23, Result.andThen_ok]
  simp only [Std.Legacy.Range.forIn_eq_forIn_range', Std.Legacy.Range.size, Nat.sub_zero, Nat.add_sub_cancel, Nat.div_one, List.range'_succ, List.range'_zero, List.forIn_cons, List.forIn_nil]
  go_simp
  by_cases h0 : a0 = b0
  · by_cases h1 : a1 = b1
    · by_cases h2 : a2 = b2
      · by_cases h3 : a3 = b3
        · by_cases h4 : a4 = b4
          · by_cases h5 : a5 = b5
            · by_cases h6 : a6 = b6
              · by_cases h7 : a7 = b7
                · simp [h0, h1, h2, h3, h4, h5, h6, h7]
                · simp [h0, h1, h2, h3, h4, h5, h6, h7]
              · simp [h0, h1, h2, h3, h4, h5, h6]
            · simp [h0, h1, h2, h3, h4, h5]
          · simp [h0, h1, h2, h3, h4]
        · simp [h0, h1, h2, h3]
      · simp [h0, h1, h2]
    · simp [h0, h1]
  · simp [h0]
set_option maxRecDepth 100000 in
theorem run_eq25' {w : World} (a b : Ac) : (Op.equalIn 10000 25 (av a) (av b)).run Try.prog w = .ok (eqA a b) w := by
  obtain ⟨a0, a1, a2, a3, a4, a5, a6, a7, a8, a9, a10, a11⟩ := a
  obtain ⟨b0, b1, b2, b3, b4, b5, b6, b7, b8, b9, b10, b11⟩ := b
  have e := run_eq23 (w := w) 9997 a4 a5 a6 a7 a8 a9 a10 a11 b4 b5 b6 b7 b8 b9 b10 b11
  unfold eqA
  have hS : Try.prog.underlying 25 = some (.struct (Try.prog.fieldsOf 25)) := by kernel_rfl
  have hp : Try.prog.stoodInHeld 25 = false := by kernel_rfl
  rw [show (10000 : Nat) = 9999 + 1 from rfl, run_equalIn_agg w 9999 25 _ _ hS hp]
  simp only [Program.fieldsOf, Try.underlying25]
  go_simp
  by_cases h0 : a0 = b0
  · by_cases h1 : a1 = b1
    · by_cases h2 : a2 = b2
      · by_cases h3 : a3 = b3
        · simp only [h0, h1, h2, h3, if_true]
          simp only [decide_true, Bool.true_and]
          generalize (decide (a4 = b4) && _) = c
          cases c <;> rfl
        · simp [h0, h1, h2, h3]
      · simp [h0, h1, h2]
    · simp [h0, h1]
  · simp [h0]
set_option maxRecDepth 100000 in
theorem run_eq27 {w : World} (a b : Pa) : (Op.equalIn 10000 27 (pv a) (pv b)).run Try.prog w = .ok (eqP a b) w := by
  obtain ⟨a0, a1, a2, a3, a4, a5, a6, a7, a8, a9, a10, a11, a12⟩ := a
  obtain ⟨b0, b1, b2, b3, b4, b5, b6, b7, b8, b9, b10, b11, b12⟩ := b
  have e := run_eq23 (w := w) 9996 a5 a6 a7 a8 a9 a10 a11 a12 b5 b6 b7 b8 b9 b10 b11 b12
  unfold eqP
  have hS : Try.prog.underlying 27 = some (.struct (Try.prog.fieldsOf 27)) := by kernel_rfl
  have hp : Try.prog.stoodInHeld 27 = false := by kernel_rfl
  rw [show (10000 : Nat) = 9999 + 1 from rfl, run_equalIn_agg w 9999 27 _ _ hS hp]
  simp only [Program.fieldsOf, Try.underlying27]
  go_simp
  by_cases h0 : a0 = b0
  · by_cases h1 : a1 = b1
    · by_cases h2 : a2 = b2
      · by_cases h3 : a3 = b3
        · by_cases h4 : a4 = b4
          · simp only [h0, h1, h2, h3, h4, if_true]
            simp only [decide_true, Bool.true_and]
            generalize (decide (a5 = b5) && _) = c
            cases c <;> rfl
          · simp [h0, h1, h2, h3, h4]
        · simp [h0, h1, h2, h3]
      · simp [h0, h1, h2]
    · simp [h0, h1]
  · simp [h0]
/-- equality of acts, of parsers: by one word each -/
@[go_sem ↓] theorem bin_eq25 {w : World} (a0 a1 a3 a4 a5 a6 a7 a8 a9 a10 a11 b0 b1 b3 b4 b5 b6 b7 b8 b9 b10 b11 : Int) (a2 b2 : Bool) :
    (binOp .eql 25 (.agg #[.int .i64 a0, .int .i64 a1, .bool a2, .int .i64 a3, .int .i64 a4, .int .i64 a5, .int .i64 a6, .int .i64 a7, .int .i64 a8, .int .i64 a9, .int .i64 a10, .int .i64 a11])
      (.agg #[.int .i64 b0, .int .i64 b1, .bool b2, .int .i64 b3, .int .i64 b4, .int .i64 b5, .int .i64 b6, .int .i64 b7, .int .i64 b8, .int .i64 b9, .int .i64 b10, .int .i64 b11])).run Try.prog w =
      .ok (.bool (eqA ⟨a0, a1, a2, a3, a4, a5, a6, a7, a8, a9, a10, a11⟩ ⟨b0, b1, b2, b3, b4, b5, b6, b7, b8, b9, b10, b11⟩)) w := by
  rw [run_eql_struct, run_eq25' (w := w) ⟨a0, a1, a2, a3, a4, a5, a6, a7, a8, a9, a10, a11⟩ ⟨b0, b1, b2, b3, b4, b5, b6, b7, b8, b9, b10, b11⟩]
  rfl
@[go_sem ↓] theorem bin_ne25 {w : World} (a0 a1 a3 a4 a5 a6 a7 a8 a9 a10 a11 b0 b1 b3 b4 b5 b6 b7 b8 b9 b10 b11 : Int) (a2 b2 : Bool) :
    (binOp .neq 25 (.agg #[.int .i64 a0, .int .i64 a1, .bool a2, .int .i64 a3, .int .i64 a4, .int .i64 a5, .int .i64 a6, .int .i64 a7, .int .i64 a8, .int .i64 a9, .int .i64 a10, .int .i64 a11])
      (.agg #[.int .i64 b0, .int .i64 b1, .bool b2, .int .i64 b3, .int .i64 b4, .int .i64 b5, .int .i64 b6, .int .i64 b7, .int .i64 b8, .int .i64 b9, .int .i64 b10, .int .i64 b11])).run Try.prog w =
      .ok (.bool (!eqA ⟨a0, a1, a2, a3, a4, a5, a6, a7, a8, a9, a10, a11⟩ ⟨b0, b1, b2, b3, b4, b5, b6, b7, b8, b9, b10, b11⟩)) w := by
  rw [run_neq_struct, run_eq25' (w := w) ⟨a0, a1, a2, a3, a4, a5, a6, a7, a8, a9, a10, a11⟩ ⟨b0, b1, b2, b3, b4, b5, b6, b7, b8, b9, b10, b11⟩]
  rfl
@[go_sem ↓] theorem bin_eq27 {w : World} (s a0 a1 a3 a4 a5 a6 a7 a8 a9 a10 a11 t b0 b1 b3 b4 b5 b6 b7 b8 b9 b10 b11 : Int) (a2 b2 : Bool) :
    (binOp .eql 27 (.agg #[.int .i64 s, .int .i64 a0, .int .i64 a1, .bool a2, .int .i64 a3, .int .i64 a4, .int .i64 a5, .int .i64 a6, .int .i64 a7, .int .i64 a8, .int .i64 a9, .int .i64 a10, .int .i64 a11])
      (.agg #[.int .i64 t, .int .i64 b0, .int .i64 b1, .bool b2, .int .i64 b3, .int .i64 b4, .int .i64 b5, .int .i64 b6, .int .i64 b7, .int .i64 b8, .int .i64 b9, .int .i64 b10, .int .i64 b11])).run Try.prog w =
      .ok (.bool (eqP ⟨s, ⟨a0, a1, a2, a3, a4, a5, a6, a7, a8, a9, a10, a11⟩⟩ ⟨t, ⟨b0, b1, b2, b3, b4, b5, b6, b7, b8, b9, b10, b11⟩⟩)) w := by
  rw [run_eql_struct, run_eq27 (w := w) ⟨s, ⟨a0, a1, a2, a3, a4, a5, a6, a7, a8, a9, a10, a11⟩⟩ ⟨t, ⟨b0, b1, b2, b3, b4, b5, b6, b7, b8, b9, b10, b11⟩⟩]
  rfl
@[go_sem ↓] theorem bin_ne27 {w : World} (s a0 a1 a3 a4 a5 a6 a7 a8 a9 a10 a11 t b0 b1 b3 b4 b5 b6 b7 b8 b9 b10 b11 : Int) (a2 b2 : Bool) :
    (binOp .neq 27 (.agg #[.int .i64 s, .int .i64 a0, .int .i64 a1, .bool a2, .int .i64 a3, .int .i64 a4, .int .i64 a5, .int .i64 a6, .int .i64 a7, .int .i64 a8, .int .i64 a9, .int .i64 a10, .int .i64 a11])
      (.agg #[.int .i64 t, .int .i64 b0, .int .i64 b1, .bool b2, .int .i64 b3, .int .i64 b4, .int .i64 b5, .int .i64 b6, .int .i64 b7, .int .i64 b8, .int .i64 b9, .int .i64 b10, .int .i64 b11])).run Try.prog w =
      .ok (.bool (!eqP ⟨s, ⟨a0, a1, a2, a3, a4, a5, a6, a7, a8, a9, a10, a11⟩⟩ ⟨t, ⟨b0, b1, b2, b3, b4, b5, b6, b7, b8, b9, b10, b11⟩⟩)) w := by
  rw [run_neq_struct, run_eq27 (w := w) ⟨s, ⟨a0, a1, a2, a3, a4, a5, a6, a7, a8, a9, a10, a11⟩⟩ ⟨t, ⟨b0, b1, b2, b3, b4, b5, b6, b7, b8, b9, b10, b11⟩⟩]
  rfl
end Go.Proofs.Ytjgaljnojhkimaa
