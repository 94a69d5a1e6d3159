/- Single operations of a region: a move; the equality of two rows of bytes. No condition but those of each. -/
import Derived.Test.YtnidpncacgknkaaPred
import Derived.Test.YtnidpncacgknkaaBoxes
namespace Go.Proofs.Ytnidpncacgknkaa
open Go.RowKit
theorem wp_eq24 {dst : Option Tmp} {x y : Operand} {k t' : TypeId} {pos : String} {after : Array Edge} {guard : Option (Nat × Bool)} {a : Act} {w : World} {K : Act → World → Prop} {Q : Exit → Act → World → Prop} (l l' : List B8) (hx : a.eval x = bagg l) (hy : a.eval y = bagg l')
    (h : l.length = 32) (h' : l'.length = 32) (hK : K (a.put dst (.bool (same l l'))) w) : Oper.wp Try.prog { dst := dst, op := .binOp .eql 24 x y k, type := t', pos := pos, after := after, guard := guard } a w K Q := by
  unfold Oper.wp
  simp only [execOp, hx, hy, Sem.run_bind, eqg24, eq24 _ _ h h', Result.andThen_ok, Sem.run_pure, Oper.upon_value]
  exact hK
theorem wp_eq26 {dst : Option Tmp} {x y : Operand} {k t' : TypeId} {pos : String} {after : Array Edge} {guard : Option (Nat × Bool)} {a : Act} {w : World} {K : Act → World → Prop} {Q : Exit → Act → World → Prop} (l l' : List B8) (hx : a.eval x = bagg l) (hy : a.eval y = bagg l')
    (h : l.length = 16) (h' : l'.length = 16) (hK : K (a.put dst (.bool (same l l'))) w) : Oper.wp Try.prog { dst := dst, op := .binOp .eql 26 x y k, type := t', pos := pos, after := after, guard := guard } a w K Q := by
  unfold Oper.wp
  simp only [execOp, hx, hy, Sem.run_bind, eqg26, eq26 _ _ h h', Result.andThen_ok, Sem.run_pure, Oper.upon_value]
  exact hK
theorem list_on {P : Program} {ops : Array Oper} {o : Oper} {rest : List Oper} {a : Act} {Q : Exit → Act → World → Prop} {w : World} (hw : Region.wanted o (yielded ops a.tmps) = true) (h : o.wp P a w (wpList P ops Q rest) Q) : wpList P ops Q (o :: rest) a w := by
  unfold wpList
  rw [if_pos hw]
  exact .inl h
theorem wp_mv {P : Program} {dst : Option Tmp} {x : Operand} {t' : TypeId} {pos : String} {after : Array Edge} {guard : Option (Nat × Bool)} {a : Act} {w : World} {K : Act → World → Prop} {Q : Exit → Act → World → Prop}
    (hK : K (a.put dst (a.eval x)) w) : Oper.wp P { dst := dst, op := .move x, type := t', pos := pos, after := after, guard := guard } a w K Q := by
  unfold Oper.wp
  simp only [execOp, Sem.run_pure, Oper.upon_value]
  exact hK
end Go.Proofs.Ytnidpncacgknkaa
