/-
  No cell of these rows narrows 'for every input' (looked for: loops, veiled, ifaces, maps, wideKeys, modest, calm, conditions, laid).
  DERIVED. THE GIVEN ROWS OF THIS SEAT. 6 by the template 'for every input the law returns true; each argument reads behind the call as it read before'; 0 by the template 'total and deterministic' (their statements: YtkmffpgejnafaaaTotals.lean).
  GIVEN WITH THE SEED: the statements are not yours to turn. If you find one false, say at which input.
  Laid BY PROGRAM, IN A SANDBOX (cutbox-rows.mjs): the forced cells as the released guide's own fill.sh prints them over the translation 76ecdc51c636f5e4… (all of the seat's roots in one cut). By AI agents, Wed Nov 11 2026. No macro, syntax, notation, axiom, sorry.
-/
import Derived.Test.YtkmffpgejnafaaaChecked
import GoSem.Claim
import GoSem.ClaimJoined
import GoSem.ClaimMapViews
import Derived.JoinedTies
import Derived.KernelRfl
namespace Go.Proofs.Ytkmffpgejnafaaa
/- THE CELL 'sum', in the pinned program and in every row, IS THE sha256 OF THE DUMP (.gsa) THAT YtkmffpgejnafaaaProg.lean LOADS. Nothing in Lean hashes anything: it is a label: what it is worth is what the hold of that sum in a sandbox is worth. -/
noncomputable def Try.pinned : Pinned := { name := "ytkmffpgejnafaaa", sum := "76ecdc51c636f5e49bb0a8365ed6784470b9a55d35c6ff04bc209c51c4068efe", checked := Try.checked }
namespace Rows
def none {H : Type} : Left H := { results := [], args := [] }

/-- 'bobstaylaw12.CongNames': WHATEVER THE INPUT: true; the input reads as it did. -/
def congNamesSpec : ChangeSpec := { name := "congNames", fn := fun _ => fun
  | [] => { results := [.lit (.bool true)], args := [] }
  | _ => none }
def congNamesRow : OpenClaim := { program := "ytkmffpgejnafaaa", sum := "76ecdc51c636f5e49bb0a8365ed6784470b9a55d35c6ff04bc209c51c4068efe", func := "bobstay/bobstaylaw12.CongNames", spec := "congNames", apart := false }
def CongNamesSaid : Prop := congNamesRow.holds Try.pinned (OpenSpec.ofChange congNamesSpec)

/-- ITS FALSE NEIGHBOUR: 'it returns false'. Refute it at one input. -/
def congNamesWrong : ChangeSpec := { name := "congNames", fn := fun _ => fun
  | [] => { results := [.lit (.bool false)], args := [] }
  | _ => none }
def CongNamesWrongFalsely : Prop := congNamesRow.holds Try.pinned (OpenSpec.ofChange congNamesWrong)

/-- 'bobstaylaw12.CongMay': WHATEVER THE INPUT: true; the input reads as it did. -/
def congMaySpec : ChangeSpec := { name := "congMay", fn := fun _ => fun
  | [d] => { results := [.lit (.bool true)], args := [d] }
  | _ => none }
def congMayRow : OpenClaim := { program := "ytkmffpgejnafaaa", sum := "76ecdc51c636f5e49bb0a8365ed6784470b9a55d35c6ff04bc209c51c4068efe", func := "bobstay/bobstaylaw12.CongMay", spec := "congMay", apart := false }
def CongMaySaid : Prop := congMayRow.holds Try.pinned (OpenSpec.ofChange congMaySpec)

/-- ITS FALSE NEIGHBOUR: 'it returns false'. Refute it at one input. -/
def congMayWrong : ChangeSpec := { name := "congMay", fn := fun _ => fun
  | [d] => { results := [.lit (.bool false)], args := [d] }
  | _ => none }
def CongMayWrongFalsely : Prop := congMayRow.holds Try.pinned (OpenSpec.ofChange congMayWrong)

/-- 'bobstaylaw12.CongOnce': WHATEVER THE INPUT: true; the input reads as it did. -/
def congOnceSpec : ChangeSpec := { name := "congOnce", fn := fun _ => fun
  | [d1, d2, d3, d4] => { results := [.lit (.bool true)], args := [d1, d2, d3, d4] }
  | _ => none }
def congOnceRow : OpenClaim := { program := "ytkmffpgejnafaaa", sum := "76ecdc51c636f5e49bb0a8365ed6784470b9a55d35c6ff04bc209c51c4068efe", func := "bobstay/bobstaylaw12.CongOnce", spec := "congOnce", apart := false }
def CongOnceSaid : Prop := congOnceRow.holds Try.pinned (OpenSpec.ofChange congOnceSpec)

/-- ITS FALSE NEIGHBOUR: 'it returns false'. Refute it at one input. -/
def congOnceWrong : ChangeSpec := { name := "congOnce", fn := fun _ => fun
  | [d1, d2, d3, d4] => { results := [.lit (.bool false)], args := [d1, d2, d3, d4] }
  | _ => none }
def CongOnceWrongFalsely : Prop := congOnceRow.holds Try.pinned (OpenSpec.ofChange congOnceWrong)

/-- 'bobstaylaw12.CongParts': WHATEVER THE INPUT: true; the input reads as it did. -/
def congPartsSpec : ChangeSpec := { name := "congParts", fn := fun _ => fun
  | [d1, d2, d3] => { results := [.lit (.bool true)], args := [d1, d2, d3] }
  | _ => none }
def congPartsRow : OpenClaim := { program := "ytkmffpgejnafaaa", sum := "76ecdc51c636f5e49bb0a8365ed6784470b9a55d35c6ff04bc209c51c4068efe", func := "bobstay/bobstaylaw12.CongParts", spec := "congParts", apart := false }
def CongPartsSaid : Prop := congPartsRow.holds Try.pinned (OpenSpec.ofChange congPartsSpec)

/-- ITS FALSE NEIGHBOUR: 'it returns false'. Refute it at one input. -/
def congPartsWrong : ChangeSpec := { name := "congParts", fn := fun _ => fun
  | [d1, d2, d3] => { results := [.lit (.bool false)], args := [d1, d2, d3] }
  | _ => none }
def CongPartsWrongFalsely : Prop := congPartsRow.holds Try.pinned (OpenSpec.ofChange congPartsWrong)

/-- 'bobstaylaw12.CongTells': WHATEVER THE INPUT: true; the input reads as it did. -/
def congTellsSpec : ChangeSpec := { name := "congTells", fn := fun _ => fun
  | [d1, d2, d3, d4, d5, d6] => { results := [.lit (.bool true)], args := [d1, d2, d3, d4, d5, d6] }
  | _ => none }
def congTellsRow : OpenClaim := { program := "ytkmffpgejnafaaa", sum := "76ecdc51c636f5e49bb0a8365ed6784470b9a55d35c6ff04bc209c51c4068efe", func := "bobstay/bobstaylaw12.CongTells", spec := "congTells", apart := false }
def CongTellsSaid : Prop := congTellsRow.holds Try.pinned (OpenSpec.ofChange congTellsSpec)

/-- ITS FALSE NEIGHBOUR: 'it returns false'. Refute it at one input. -/
def congTellsWrong : ChangeSpec := { name := "congTells", fn := fun _ => fun
  | [d1, d2, d3, d4, d5, d6] => { results := [.lit (.bool false)], args := [d1, d2, d3, d4, d5, d6] }
  | _ => none }
def CongTellsWrongFalsely : Prop := congTellsRow.holds Try.pinned (OpenSpec.ofChange congTellsWrong)

/-- 'bobstaylaw12.CongLong': WHATEVER THE INPUT: true; the input reads as it did. -/
def congLongSpec : ChangeSpec := { name := "congLong", fn := fun _ => fun
  | [d1, d2, d3, d4, d5] => { results := [.lit (.bool true)], args := [d1, d2, d3, d4, d5] }
  | _ => none }
def congLongRow : OpenClaim := { program := "ytkmffpgejnafaaa", sum := "76ecdc51c636f5e49bb0a8365ed6784470b9a55d35c6ff04bc209c51c4068efe", func := "bobstay/bobstaylaw12.CongLong", spec := "congLong", apart := false }
def CongLongSaid : Prop := congLongRow.holds Try.pinned (OpenSpec.ofChange congLongSpec)

/-- ITS FALSE NEIGHBOUR: 'it returns false'. Refute it at one input. -/
def congLongWrong : ChangeSpec := { name := "congLong", fn := fun _ => fun
  | [d1, d2, d3, d4, d5] => { results := [.lit (.bool false)], args := [d1, d2, d3, d4, d5] }
  | _ => none }
def CongLongWrongFalsely : Prop := congLongRow.holds Try.pinned (OpenSpec.ofChange congLongWrong)

/- THE SECOND FORM. 'bulk': how many values and letters a reading holds, each counted each time it is reached (what is shared counts as often as it is met; a slice's spare places count too). A statement '..UptoSaid' is the law's where the arguments, and the package variables that the reading takes, are together of bulk at most 1048576: NARROWER than '..Said'. Prove '..Said' where nothing that the law and all that it calls make is longer than what came in: it says more and counts as full. Else prove '..UptoSaid'. A law counts once. -/
mutual
def uptoBulk {H : Type} : DataW H → Nat
  | .lit (.string bytes) => bytes.length + 1
  | .lit _ => 1
  | .nil => 1
  | .ptr d => uptoBulk d + 1
  | .slice elems spare => uptoBulkAll elems + uptoBulkAll spare + 1
  | .agg parts => uptoBulkAll parts + 1
  | .iface _ d => uptoBulk d + 1
  | .map entries => uptoBulkEntries entries + 1
  | .held _ => 1
def uptoBulkAll {H : Type} : List (DataW H) → Nat
  | [] => 0
  | d :: r => uptoBulk d + uptoBulkAll r
def uptoBulkEntries {H : Type} : List (Lit × DataW H) → Nat
  | [] => 0
  | x :: r => uptoBulkEntry x + uptoBulkEntries r
def uptoBulkEntry {H : Type} : Lit × DataW H → Nat
  | (.string bytes, d) => bytes.length + uptoBulk d + 1
  | (_, d) => uptoBulk d + 1
 end
def uptoSmall : (H : Type) → List (DataW H) → Bool := fun _ ds => decide (uptoBulkAll ds ≤ 1048576)
def OpenSpec.upto (s : _root_.Go.ChangeSpec) : _root_.Go.OpenSpec := { _root_.Go.OpenSpec.ofChange s with cond := some uptoSmall }

/-- 'bobstaylaw12.CongNames', WHERE WHAT IT READS IS OF BULK AT MOST 1048576: true; the input reads as it did. -/
def congNamesUptoRow : OpenClaim := { program := "ytkmffpgejnafaaa", sum := "76ecdc51c636f5e49bb0a8365ed6784470b9a55d35c6ff04bc209c51c4068efe", func := "bobstay/bobstaylaw12.CongNames", spec := "congNames", apart := false, narrowed := true }
def CongNamesUptoSaid : Prop := congNamesUptoRow.holds Try.pinned (OpenSpec.upto congNamesSpec)

/-- 'bobstaylaw12.CongMay', WHERE WHAT IT READS IS OF BULK AT MOST 1048576: true; the input reads as it did. -/
def congMayUptoRow : OpenClaim := { program := "ytkmffpgejnafaaa", sum := "76ecdc51c636f5e49bb0a8365ed6784470b9a55d35c6ff04bc209c51c4068efe", func := "bobstay/bobstaylaw12.CongMay", spec := "congMay", apart := false, narrowed := true }
def CongMayUptoSaid : Prop := congMayUptoRow.holds Try.pinned (OpenSpec.upto congMaySpec)

/-- 'bobstaylaw12.CongOnce', WHERE WHAT IT READS IS OF BULK AT MOST 1048576: true; the input reads as it did. -/
def congOnceUptoRow : OpenClaim := { program := "ytkmffpgejnafaaa", sum := "76ecdc51c636f5e49bb0a8365ed6784470b9a55d35c6ff04bc209c51c4068efe", func := "bobstay/bobstaylaw12.CongOnce", spec := "congOnce", apart := false, narrowed := true }
def CongOnceUptoSaid : Prop := congOnceUptoRow.holds Try.pinned (OpenSpec.upto congOnceSpec)

/-- 'bobstaylaw12.CongParts', WHERE WHAT IT READS IS OF BULK AT MOST 1048576: true; the input reads as it did. -/
def congPartsUptoRow : OpenClaim := { program := "ytkmffpgejnafaaa", sum := "76ecdc51c636f5e49bb0a8365ed6784470b9a55d35c6ff04bc209c51c4068efe", func := "bobstay/bobstaylaw12.CongParts", spec := "congParts", apart := false, narrowed := true }
def CongPartsUptoSaid : Prop := congPartsUptoRow.holds Try.pinned (OpenSpec.upto congPartsSpec)

/-- 'bobstaylaw12.CongTells', WHERE WHAT IT READS IS OF BULK AT MOST 1048576: true; the input reads as it did. -/
def congTellsUptoRow : OpenClaim := { program := "ytkmffpgejnafaaa", sum := "76ecdc51c636f5e49bb0a8365ed6784470b9a55d35c6ff04bc209c51c4068efe", func := "bobstay/bobstaylaw12.CongTells", spec := "congTells", apart := false, narrowed := true }
def CongTellsUptoSaid : Prop := congTellsUptoRow.holds Try.pinned (OpenSpec.upto congTellsSpec)

/-- 'bobstaylaw12.CongLong', WHERE WHAT IT READS IS OF BULK AT MOST 1048576: true; the input reads as it did. -/
def congLongUptoRow : OpenClaim := { program := "ytkmffpgejnafaaa", sum := "76ecdc51c636f5e49bb0a8365ed6784470b9a55d35c6ff04bc209c51c4068efe", func := "bobstay/bobstaylaw12.CongLong", spec := "congLong", apart := false, narrowed := true }
def CongLongUptoSaid : Prop := congLongUptoRow.holds Try.pinned (OpenSpec.upto congLongSpec)

end Rows
end Go.Proofs.Ytkmffpgejnafaaa
