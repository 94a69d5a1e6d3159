/- The words of a block, one behind the other: the plain law. Of sixteen words. -/
import Derived.Test.YtnidpncacgknkaaPlain
namespace Go.Proofs.Ytnidpncacgknkaa
theorem win_len (m : List W32) (h : m.length = 16) : ∀ i, (win m i).length = 16
  | 0 => h
  | i + 1 => by simp [win, win_len m h i]
theorem win_step (m : List W32) (h : m.length = 16) (i j : Nat) (hj : j < 15) : (win m (i + 1)).getD j 0 = (win m i).getD (j + 1) 0 := by
  have hl := win_len m h i
  simp only [win, List.getD_eq_getElem?_getD]
  rw [List.getElem?_append_left (by simp [hl]; omega), List.getElem?_drop, Nat.add_comm 1 j]
theorem win_at (m : List W32) (h : m.length = 16) : ∀ (j i : Nat), j < 16 → (win m i).getD j 0 = sched m (i + j)
  | 0, i, _ => rfl
  | j + 1, i, hj => by
    rw [← win_step m h i j (by omega), win_at m h j (i + 1) (by omega), show i + 1 + j = i + (j + 1) by omega]
theorem win_last (m : List W32) (h : m.length = 16) (i : Nat) : (win m (i + 1)).getD 15 0 = (win m i).getD 0 0 + (win m i).getD 9 0 + sg0 ((win m i).getD 1 0) + sg1 ((win m i).getD 14 0) := by
  have hl := win_len m h i
  generalize hw : win m i = q at *
  have e : win m (i + 1) = q.drop 1 ++ [q.getD 0 0 + q.getD 9 0 + sg0 (q.getD 1 0) + sg1 (q.getD 14 0)] := by rw [win, hw]
  rw [e, List.getD_eq_getElem?_getD, List.getElem?_append_right (by simp [hl])]
  simp [hl]
theorem sched_low (m : List W32) (h : m.length = 16) (k : Nat) (hk : k < 16) : sched m k = m.getD k 0 := by
  have := win_at m h k 0 hk
  rw [Nat.zero_add] at this
  exact this.symm
theorem sched_high (m : List W32) (h : m.length = 16) (k : Nat) (hk : 16 ≤ k) : sched m k = sched m (k - 16) + sched m (k - 7) + sg0 (sched m (k - 15)) + sg1 (sched m (k - 2)) := by
  obtain ⟨i, rfl⟩ : ∃ i, k = i + 16 := ⟨k - 16, by omega⟩
  have e := win_at m h 15 (i + 1) (by omega)
  rw [show i + 1 + 15 = i + 16 by omega, win_last m h i, win_at m h 0 i (by omega), win_at m h 9 i (by omega), win_at m h 1 i (by omega), win_at m h 14 i (by omega)] at e
  rw [← e, show i + 16 - 16 = i + 0 by omega, show i + 16 - 7 = i + 9 by omega, show i + 16 - 15 = i + 1 by omega, show i + 16 - 2 = i + 14 by omega]
theorem words_at (b : List B8) (k : Nat) (hk : k < 16) : (words b).getD k 0 = word (b.getD (4 * k) 0) (b.getD (4 * k + 1) 0) (b.getD (4 * k + 2) 0) (b.getD (4 * k + 3) 0) := by
  simp [words, List.getD_eq_getElem?_getD, hk]
end Go.Proofs.Ytnidpncacgknkaa
