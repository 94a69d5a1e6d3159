/- Equality of rows of bytes. Of as many bytes as their types have. -/
import Derived.Test.YtnidpncacgknkaaBig
import Derived.ChangeKeysEq
namespace Go.Proofs.Ytnidpncacgknkaa
open Go.RowKit
theorem plain5 : Try.prog.plainKey 5 = true := by kernel_rfl
theorem bn_beq (x y : B8) : (bn x == bn y) = (x == y) := by
  by_cases hh : x = y
  · rw [hh, beq_self_eq_true, beq_self_eq_true]
  · rw [beq_eq_false_iff_ne.2 hh, beq_eq_false_iff_ne.2 fun e => hh (bn_inj e)]
theorem items_eq {w : World} (l l' : List B8) : ∀ (is : List Nat), (∀ i ∈ is, i < l.length ∧ i < l'.length) →
    (Op.eqItems 9999 5 1 (bl l).toArray (bl l').toArray is).run Try.prog w = .ok (is.all fun i => l.getD i 0 == l'.getD i 0) w
  | [], _ => by simp [Op.eqItems]
  | i :: is, h => by
    obtain ⟨h1, h2⟩ := h i (by simp)
    have ih := items_eq (w := w) l l' is (fun j hj => h j (by simp [hj]))
    have p1 : (part 5 (bl l).toArray (i * 1)).run Try.prog w = .ok (bb (l.getD i 0)) w := run_part_plain w plain5 (by simp [bl, h1])
    have p2 : (part 5 (bl l').toArray (i * 1)).run Try.prog w = .ok (bb (l'.getD i 0)) w := run_part_plain w plain5 (by simp [bl, h2])
    have u5 := Try.underlying5
    have e : (Op.equalIn 9999 5 (bb (l.getD i 0)) (bb (l'.getD i 0))).run Try.prog w = .ok (l.getD i 0 == l'.getD i 0) w := by
      rw [show (9999 : Nat) = 9998 + 1 from rfl, run_equalIn_int (d := 9998) (t := 5) (h := u5)]
      rw [bn_beq]
    simp only [Op.eqItems, Sem.run_bind, p1, p2, e, Result.andThen_ok, List.all_cons]
    cases l.getD i 0 == l'.getD i 0
    · simp
    · simpa using ih
theorem all_range (l l' : List B8) (n : Nat) (h : l.length = n) (h' : l'.length = n) : ((List.range n).all fun i => l.getD i 0 == l'.getD i 0) = decide (l = l') := by
  by_cases he : l = l'
  · subst he
    simp
  · rw [decide_eq_false he]
    rw [Bool.eq_false_iff]
    intro ha
    rw [List.all_eq_true] at ha
    apply he
    apply List.ext_getElem (by omega)
    intro i h1 h2
    have := ha i (by simp; omega)
    simpa [List.getD_eq_getElem?_getD, h1, h2] using this
theorem eq_row {w : World} (t : TypeId) (n : Nat) (hu : Try.prog.underlying t = some (.array n 5)) (l l' : List B8) (h : l.length = n) (h' : l'.length = n) :
    (binOp .eql t (bagg l) (bagg l')).run Try.prog w = .ok (.bool (decide (l = l'))) w := by
  obtain ⟨i, hi, hs⟩ : ∃ i, Try.prog.info? 5 = some i ∧ Try.prog.cellsOf 5 = 1 := ⟨_, rfl, by kernel_rfl⟩
  unfold bagg
  rw [run_eql_struct, show (10000 : Nat) = 9999 + 1 from rfl, run_equalIn_array (w := w) (d := 9999) _ _ hu hi, hs, items_eq l l' (List.range n) (fun j hj => by simp at hj; omega), all_range l l' n h h']
  rfl
theorem ne_row {w : World} (t : TypeId) (n : Nat) (hu : Try.prog.underlying t = some (.array n 5)) (l l' : List B8) (h : l.length = n) (h' : l'.length = n) :
    (binOp .neq t (bagg l) (bagg l')).run Try.prog w = .ok (.bool (!decide (l = l'))) w := by
  obtain ⟨i, hi, hs⟩ : ∃ i, Try.prog.info? 5 = some i ∧ Try.prog.cellsOf 5 = 1 := ⟨_, rfl, by kernel_rfl⟩
  unfold bagg
  rw [run_neq_struct, show (10000 : Nat) = 9999 + 1 from rfl, run_equalIn_array (w := w) (d := 9999) _ _ hu hi, hs, items_eq l l' (List.range n) (fun j hj => by simp at hj; omega), all_range l l' n h h']
  rfl
/-- are they the same bytes? -/
def same (l l' : List B8) : Bool := decide (l = l')
@[go_sem ↓] theorem eq24 {w : World} (l l' : List B8) (h : l.length = 32) (h' : l'.length = 32) : (binOp .eql 24 (bagg l) (bagg l')).run Try.prog w = .ok (.bool (same l l')) w := eq_row 24 32 Try.underlying24 l l' h h'
@[go_sem ↓] theorem eq26 {w : World} (l l' : List B8) (h : l.length = 16) (h' : l'.length = 16) : (binOp .eql 26 (bagg l) (bagg l')).run Try.prog w = .ok (.bool (same l l')) w := eq_row 26 16 Try.underlying26 l l' h h'
@[go_sem ↓] theorem ne24 {w : World} (l l' : List B8) (h : l.length = 32) (h' : l'.length = 32) : (binOp .neq 24 (bagg l) (bagg l')).run Try.prog w = .ok (.bool (!same l l')) w := ne_row 24 32 Try.underlying24 l l' h h'
@[go_sem] theorem same_self (l : List B8) : same l l = true := by simp [same]
end Go.Proofs.Ytnidpncacgknkaa
