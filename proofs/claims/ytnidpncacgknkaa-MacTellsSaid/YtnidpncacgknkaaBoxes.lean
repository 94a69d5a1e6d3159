/- Boxes of a hash and of half a code; bytes as a string; equality of rows that are written out. No condition. -/
import Derived.Test.YtnidpncacgknkaaSum
import Derived.Laws.BytesArg
namespace Go.Proofs.Ytnidpncacgknkaa
open Go.RowKit
/-- a box, its operand known -/
def bigBox39 (dst : Option Tmp) (v : Value) (a : Act) (w : World) (K : Act → World → Prop) (Q : Exit → Act → World → Prop) : Prop := Oper.wp Try.prog { dst := dst, op := .box 39 (.const v), type := 0, pos := "", after := #[], guard := none } a w K Q
@[go_sem ↓] theorem wp_bx39 (dst : Option Tmp) (x : Operand) (ty : TypeId) (pos : String) (after : Array _) (guard : Option _) (a : Act) (w : World) (K : Act → World → Prop) (Q : Exit → Act → World → Prop) :
    Oper.wp Try.prog { dst := dst, op := .box 39 x, type := ty, pos := pos, after := after, guard := guard } a w K Q = bigBox39 dst (a.eval x) a w K Q := rfl
@[go_sem] theorem bx39 (dst : Option Tmp) (a : Act) (w : World) (K : Act → World → Prop) (Q : Exit → Act → World → Prop) :
    bigBox39 dst (hagg zero8 (.slice none 0 0) 0 false) a w K Q = K (a.put dst (.pointer (some ⟨w.heap.size, 0, none⟩))) (w.alloc (.cells z39 39)) := by kernel_rfl
def bigBox26 (dst : Option Tmp) (v : Value) (a : Act) (w : World) (K : Act → World → Prop) (Q : Exit → Act → World → Prop) : Prop := Oper.wp Try.prog { dst := dst, op := .box 26 (.const v), type := 0, pos := "", after := #[], guard := none } a w K Q
@[go_sem ↓] theorem wp_bx26 (dst : Option Tmp) (x : Operand) (ty : TypeId) (pos : String) (after : Array _) (guard : Option _) (a : Act) (w : World) (K : Act → World → Prop) (Q : Exit → Act → World → Prop) :
    Oper.wp Try.prog { dst := dst, op := .box 26 x, type := ty, pos := pos, after := after, guard := guard } a w K Q = bigBox26 dst (a.eval x) a w K Q := rfl
@[go_sem] theorem bx26 (dst : Option Tmp) (l : List B8) (a : Act) (w : World) (K : Act → World → Prop) (Q : Exit → Act → World → Prop) :
    bigBox26 dst (bagg l) a w K Q = K (a.put dst (.pointer (some ⟨w.heap.size, 0, none⟩))) (w.alloc (.cells (bl l).toArray 26)) := by kernel_rfl
theorem hm24 : Try.prog.eqGuardType Try.prog.depth 24 = false := by kernel_rfl
theorem hm26 : Try.prog.eqGuardType Try.prog.depth 26 = false := by kernel_rfl
@[go_sem] theorem eqg24 {w : World} (op : BinOp) (x y : Operand) (l l' : List B8) : (eqGuard op 24 x y (bagg l) (bagg l')).run Try.prog w = .ok () w := by unfold bagg; exact run_eqGuard_agg (w := w) (op := op) (t := 24) (x := x) (y := y) (hm := hm24) (xs := _) (ys := _)
@[go_sem] theorem eqg26 {w : World} (op : BinOp) (x y : Operand) (l l' : List B8) : (eqGuard op 26 x y (bagg l) (bagg l')).run Try.prog w = .ok () w := by unfold bagg; exact run_eqGuard_agg (w := w) (op := op) (t := 26) (x := x) (y := y) (hm := hm26) (xs := _) (ys := _)
/-- bytes, as a string -/
def strB (l : List B8) : ByteArray := strOfNums (l.map bn)
theorem conv_arr {w : World} {v : Value} {l : List B8} (h : Arr w 1 v l.length (bl l)) : (convert 22 9 v).run Try.prog w = .ok (.string (strB l)) w := by
  obtain ⟨_, a, cap, rfl, _, _, hc⟩ := h
  cases l with
  | nil =>
    rw [run_convert_bytes_string w 22 9 5 _ _ _ Try.underlying22 Try.underlying5 Try.underlying9]
    cases a with
    | none => rw [← run_convert_bytes_string w 22 9 5 _ _ _ Try.underlying22 Try.underlying5 Try.underlying9]; exact run_convert_bytes_nil w 22 5 Try.underlying22 Try.underlying5 _ _ 9 Try.underlying9
    | some ad => exact run_bytesToString w ad 0 cap [] (by simp [loadCells, loadCellsFrom, Sem.run_pure])
  | cons x l =>
    obtain ⟨b, off, rfl, hb, hcell⟩ := hc (by simp)
    have := run_convert_bytes_arg w 22 5 Try.underlying22 Try.underlying5 b off (((x :: l).map bn).length) cap ((x :: l).map bn) rfl (fun i hi => by
      refine hcell i _ ?_
      have hi' : i < (x :: l).length := by simpa using hi
      have hj : i < ((x :: l).map bn).length := by simpa using hi'
      rw [List.getD, List.getElem?_eq_getElem hj, List.getElem_map]
      unfold bl
      rw [getElem?_map_of bb (x :: l) i hi']
      rfl) 9 Try.underlying9
    rw [List.length_map] at this
    exact this
end Go.Proofs.Ytnidpncacgknkaa
