/- Blocks of a text, one behind the other: plain laws. No condition. -/
import Derived.Test.YtnidpncacgknkaaPlain
namespace Go.Proofs.Ytnidpncacgknkaa
theorem blocks_add (a b : Nat) (h : S8) (l : List B8) : blocks (a + b) h l = blocks b (blocks a h l) (l.drop (64 * a)) := by
  induction a generalizing h l with
  | zero => simp [blocks]
  | succ a ih =>
    rw [show a + 1 + b = (a + b) + 1 by omega, blocks, ih, blocks, List.drop_drop, show 64 + 64 * a = 64 * (a + 1) by omega]
theorem blocks_snoc (j : Nat) (h : S8) (l : List B8) : blocks (j + 1) h l = mix (blocks j h l) ((l.drop (64 * j)).take 64) := by
  rw [blocks_add j 1]
  rfl
theorem blocks_app (a : Nat) (h : S8) (l m : List B8) (hl : 64 * a ≤ l.length) : blocks a h (l ++ m) = blocks a h l := by
  induction a generalizing h l with
  | zero => rfl
  | succ a ih =>
    rw [blocks, blocks, List.take_append_of_le_length (by omega), List.drop_append_of_le_length (by omega), ih _ _ (by simp; omega)]
/-- what is left of a text behind its whole blocks -/
def left (t : List B8) : List B8 := t.drop (64 * (t.length / 64))
theorem left_len (t : List B8) : (left t).length = t.length % 64 := by
  unfold left
  rw [List.length_drop]
  omega
theorem left_len' (t : List B8) : (left t).length = t.length - 64 * (t.length / 64) := by unfold left; rw [List.length_drop]
theorem left_append (t l : List B8) : left (t ++ l) = left (left t ++ l) ∧ state (t ++ l) = blocks ((left t ++ l).length / 64) (state t) (left t ++ l) := by
  have h1 := left_len t
  have h2 : (t ++ l).drop (64 * (t.length / 64)) = left t ++ l := by
    unfold left
    rw [List.drop_append_of_le_length (by omega)]
  have h3 : (t ++ l).length / 64 = t.length / 64 + (left t ++ l).length / 64 := by
    rw [List.length_append, List.length_append, h1]
    omega
  constructor
  · have : left (t ++ l) = ((t ++ l).drop (64 * (t.length / 64))).drop (64 * ((left t ++ l).length / 64)) := by
      rw [List.drop_drop, ← Nat.mul_add, ← h3]
      rfl
    rw [this, h2]
    rfl
  · unfold state
    rw [h3, blocks_add, h2, blocks_app (t.length / 64) first8 t l (by omega)]
end Go.Proofs.Ytnidpncacgknkaa
