/- Plain laws of keys and tags, and of the reference's words. No condition but those of each. -/
import Derived.Test.YtnidpncacgknkaaPlain
namespace Go.Proofs.Ytnidpncacgknkaa
theorem ch_or (e f g : W32) : e &&& f ||| (e ^^^ BitVec.allOnes 32) &&& g = ch e f g := by
  unfold ch
  apply BitVec.eq_of_getLsbD_eq
  intro i hi
  simp only [BitVec.getLsbD_or, BitVec.getLsbD_and, BitVec.getLsbD_xor, BitVec.getLsbD_not, BitVec.getLsbD_allOnes, hi, decide_true]
  cases e.getLsbD i <;> cases f.getLsbD i <;> cases g.getLsbD i <;> rfl
theorem mj_or (a b c : W32) : a &&& b ||| a &&& c ||| b &&& c = mj a b c := by
  unfold mj
  apply BitVec.eq_of_getLsbD_eq
  intro i hi
  simp only [BitVec.getLsbD_or, BitVec.getLsbD_and, BitVec.getLsbD_xor]
  cases a.getLsbD i <;> cases b.getLsbD i <;> cases c.getLsbD i <;> rfl
theorem word_add (c0 c1 c2 c3 : B8) : c0.setWidth 32 <<< 24 + c1.setWidth 32 <<< 16 + c2.setWidth 32 <<< 8 + c3.setWidth 32 = word c0 c1 c2 c3 := by
  unfold word
  have h1 : c0.setWidth 32 <<< 24 &&& c1.setWidth 32 <<< 16 = 0#32 := by
    apply BitVec.eq_of_getLsbD_eq
    intro i hi
    have h := c1.getLsbD_of_ge (i - 16)
    simp only [BitVec.getLsbD_and, BitVec.getLsbD_shiftLeft, BitVec.getLsbD_setWidth, BitVec.getLsbD_zero]
    rcases Nat.lt_or_ge i 24 with h24 | h24
    · simp [h24]
    · rw [h (by omega)]; simp
  rw [BitVec.add_eq_or_of_and_eq_zero _ _ h1]
  have h2 : (c0.setWidth 32 <<< 24 ||| c1.setWidth 32 <<< 16) &&& c2.setWidth 32 <<< 8 = 0#32 := by
    apply BitVec.eq_of_getLsbD_eq
    intro i hi
    have h := c2.getLsbD_of_ge (i - 8)
    simp only [BitVec.getLsbD_and, BitVec.getLsbD_or, BitVec.getLsbD_shiftLeft, BitVec.getLsbD_setWidth, BitVec.getLsbD_zero]
    rcases Nat.lt_or_ge i 16 with h16 | h16
    · have : i < 24 := by omega
      simp [h16, this]
    · rw [h (by omega)]; simp
  rw [BitVec.add_eq_or_of_and_eq_zero _ _ h2]
  have h3 : (c0.setWidth 32 <<< 24 ||| c1.setWidth 32 <<< 16 ||| c2.setWidth 32 <<< 8) &&& c3.setWidth 32 = 0#32 := by
    apply BitVec.eq_of_getLsbD_eq
    intro i hi
    have h := c3.getLsbD_of_ge i
    simp only [BitVec.getLsbD_and, BitVec.getLsbD_or, BitVec.getLsbD_shiftLeft, BitVec.getLsbD_setWidth, BitVec.getLsbD_zero]
    rcases Nat.lt_or_ge i 8 with h8 | h8
    · have a1 : i < 24 := by omega
      have a2 : i < 16 := by omega
      simp [h8, a1, a2]
    · rw [h (by omega)]; simp
  rw [BitVec.add_eq_or_of_and_eq_zero _ _ h3]
theorem set_same (a : List B8) (i : Nat) (x : B8) (hi : i < a.length) : (a = a.set i (a.getD i 0 ^^^ x)) ↔ x = 0#8 := by
  constructor
  · intro h
    have h2 := congrArg (fun l : List B8 => l.getD i 0) h
    simp only [List.getD_eq_getElem?_getD, List.getElem?_set_self hi, Option.getD_some] at h2
    have h3 := congrArg (fun y => a[i]?.getD 0 ^^^ y) h2
    simp only [BitVec.xor_self, ← BitVec.xor_assoc, BitVec.zero_xor] at h3
    exact h3.symm
  · rintro rfl
    rw [BitVec.xor_zero]
    apply List.ext_getElem?
    intro j
    by_cases hj : i = j
    · subst hj
      rw [List.getElem?_set_self hi, List.getD_eq_getElem?_getD, List.getElem?_eq_getElem hi]
      rfl
    · rw [List.getElem?_set_ne hj]
end Go.Proofs.Ytnidpncacgknkaa
