/-
  No cell of these rows narrows 'for every input' (looked for: loops, veiled, ifaces, maps, wideKeys, modest, calm, conditions, laid).
  DERIVED. THE GIVEN ROWS OF THIS SEAT. 5 by the template 'for every input the law returns true; each argument reads behind the call as it read before'; 0 by the template 'total and deterministic' (their statements: YtjgaljnojhkimaaTotals.lean).
  GIVEN WITH THE SEED: the statements are not yours to turn. If you find one false, say at which input.
  Laid BY PROGRAM, IN A SANDBOX (cutbox-rows.mjs): the forced cells as the released guide's own fill.sh prints them over the translation dddb06f559c29018… (all of the seat's roots in one cut). By AI agents, Wed Nov 11 2026. No macro, syntax, notation, axiom, sorry.
-/
import Derived.Test.YtjgaljnojhkimaaChecked
import GoSem.Claim
import GoSem.ClaimJoined
import GoSem.ClaimMapViews
import Derived.JoinedTies
import Derived.KernelRfl
namespace Go.Proofs.Ytjgaljnojhkimaa
/- THE CELL 'sum', in the pinned program and in every row, IS THE sha256 OF THE DUMP (.gsa) THAT YtjgaljnojhkimaaProg.lean LOADS. Nothing in Lean hashes anything: it is a label: what it is worth is what the hold of that sum in a sandbox is worth. -/
noncomputable def Try.pinned : Pinned := { name := "ytjgaljnojhkimaa", sum := "dddb06f559c290184098afadfc27f270f07ca73195a26b45a3a2fb93e884a47b", checked := Try.checked }
namespace Rows
def none {H : Type} : Left H := { results := [], args := [] }

/-- 'bobstaylaw16.EscapeNames': WHATEVER THE INPUT: true; the input reads as it did. -/
def escapeNamesSpec : ChangeSpec := { name := "escapeNames", fn := fun _ => fun
  | [] => { results := [.lit (.bool true)], args := [] }
  | _ => none }
def escapeNamesRow : OpenClaim := { program := "ytjgaljnojhkimaa", sum := "dddb06f559c290184098afadfc27f270f07ca73195a26b45a3a2fb93e884a47b", func := "bobstay/bobstaylaw16.EscapeNames", spec := "escapeNames", unfollowed := true, recurses := true, apart := false }
def EscapeNamesSaid : Prop := escapeNamesRow.holds Try.pinned (OpenSpec.ofChange escapeNamesSpec)

/-- ITS FALSE NEIGHBOUR: 'it returns false'. Refute it at one input. -/
def escapeNamesWrong : ChangeSpec := { name := "escapeNames", fn := fun _ => fun
  | [] => { results := [.lit (.bool false)], args := [] }
  | _ => none }
def EscapeNamesWrongFalsely : Prop := escapeNamesRow.holds Try.pinned (OpenSpec.ofChange escapeNamesWrong)

/-- 'bobstaylaw16.EscapeTells': WHATEVER THE INPUT: true; the input reads as it did. -/
def escapeTellsSpec : ChangeSpec := { name := "escapeTells", fn := fun _ => fun
  | [d1, d2, d3, d4] => { results := [.lit (.bool true)], args := [d1, d2, d3, d4] }
  | _ => none }
def escapeTellsRow : OpenClaim := { program := "ytjgaljnojhkimaa", sum := "dddb06f559c290184098afadfc27f270f07ca73195a26b45a3a2fb93e884a47b", func := "bobstay/bobstaylaw16.EscapeTells", spec := "escapeTells", unfollowed := true, recurses := true, apart := false }
def EscapeTellsSaid : Prop := escapeTellsRow.holds Try.pinned (OpenSpec.ofChange escapeTellsSpec)

/-- ITS FALSE NEIGHBOUR: 'it returns false'. Refute it at one input. -/
def escapeTellsWrong : ChangeSpec := { name := "escapeTells", fn := fun _ => fun
  | [d1, d2, d3, d4] => { results := [.lit (.bool false)], args := [d1, d2, d3, d4] }
  | _ => none }
def EscapeTellsWrongFalsely : Prop := escapeTellsRow.holds Try.pinned (OpenSpec.ofChange escapeTellsWrong)

/-- 'bobstaylaw16.EscapeParts': WHATEVER THE INPUT: true; the input reads as it did. -/
def escapePartsSpec : ChangeSpec := { name := "escapeParts", fn := fun _ => fun
  | [d1, d2] => { results := [.lit (.bool true)], args := [d1, d2] }
  | _ => none }
def escapePartsRow : OpenClaim := { program := "ytjgaljnojhkimaa", sum := "dddb06f559c290184098afadfc27f270f07ca73195a26b45a3a2fb93e884a47b", func := "bobstay/bobstaylaw16.EscapeParts", spec := "escapeParts", unfollowed := true, recurses := true, apart := false }
def EscapePartsSaid : Prop := escapePartsRow.holds Try.pinned (OpenSpec.ofChange escapePartsSpec)

/-- ITS FALSE NEIGHBOUR: 'it returns false'. Refute it at one input. -/
def escapePartsWrong : ChangeSpec := { name := "escapeParts", fn := fun _ => fun
  | [d1, d2] => { results := [.lit (.bool false)], args := [d1, d2] }
  | _ => none }
def EscapePartsWrongFalsely : Prop := escapePartsRow.holds Try.pinned (OpenSpec.ofChange escapePartsWrong)

/-- 'bobstaylaw16.EscapePlain': WHATEVER THE INPUT: true; the input reads as it did. -/
def escapePlainSpec : ChangeSpec := { name := "escapePlain", fn := fun _ => fun
  | [d1, d2] => { results := [.lit (.bool true)], args := [d1, d2] }
  | _ => none }
def escapePlainRow : OpenClaim := { program := "ytjgaljnojhkimaa", sum := "dddb06f559c290184098afadfc27f270f07ca73195a26b45a3a2fb93e884a47b", func := "bobstay/bobstaylaw16.EscapePlain", spec := "escapePlain", unfollowed := true, recurses := true, apart := false }
def EscapePlainSaid : Prop := escapePlainRow.holds Try.pinned (OpenSpec.ofChange escapePlainSpec)

/-- ITS FALSE NEIGHBOUR: 'it returns false'. Refute it at one input. -/
def escapePlainWrong : ChangeSpec := { name := "escapePlain", fn := fun _ => fun
  | [d1, d2] => { results := [.lit (.bool false)], args := [d1, d2] }
  | _ => none }
def EscapePlainWrongFalsely : Prop := escapePlainRow.holds Try.pinned (OpenSpec.ofChange escapePlainWrong)

/-- 'bobstaylaw16.EscapeNumbers': WHATEVER THE INPUT: true; the input reads as it did. -/
def escapeNumbersSpec : ChangeSpec := { name := "escapeNumbers", fn := fun _ => fun
  | [d1, d2, d3] => { results := [.lit (.bool true)], args := [d1, d2, d3] }
  | _ => none }
def escapeNumbersRow : OpenClaim := { program := "ytjgaljnojhkimaa", sum := "dddb06f559c290184098afadfc27f270f07ca73195a26b45a3a2fb93e884a47b", func := "bobstay/bobstaylaw16.EscapeNumbers", spec := "escapeNumbers", unfollowed := true, recurses := true, apart := false }
def EscapeNumbersSaid : Prop := escapeNumbersRow.holds Try.pinned (OpenSpec.ofChange escapeNumbersSpec)

/-- ITS FALSE NEIGHBOUR: 'it returns false'. Refute it at one input. -/
def escapeNumbersWrong : ChangeSpec := { name := "escapeNumbers", fn := fun _ => fun
  | [d1, d2, d3] => { results := [.lit (.bool false)], args := [d1, d2, d3] }
  | _ => none }
def EscapeNumbersWrongFalsely : Prop := escapeNumbersRow.holds Try.pinned (OpenSpec.ofChange escapeNumbersWrong)

/- THE SECOND FORM. 'bulk': how many values and letters a reading holds, each counted each time it is reached (what is shared counts as often as it is met; a slice's spare places count too). A statement '..UptoSaid' is the law's where the arguments, and the package variables that the reading takes, are together of bulk at most 1048576: NARROWER than '..Said'. Prove '..Said' where nothing that the law and all that it calls make is longer than what came in: it says more and counts as full. Else prove '..UptoSaid'. A law counts once. -/
mutual
def uptoBulk {H : Type} : DataW H → Nat
  | .lit (.string bytes) => bytes.length + 1
  | .lit _ => 1
  | .nil => 1
  | .ptr d => uptoBulk d + 1
  | .slice elems spare => uptoBulkAll elems + uptoBulkAll spare + 1
  | .agg parts => uptoBulkAll parts + 1
  | .iface _ d => uptoBulk d + 1
  | .map entries => uptoBulkEntries entries + 1
  | .held _ => 1
def uptoBulkAll {H : Type} : List (DataW H) → Nat
  | [] => 0
  | d :: r => uptoBulk d + uptoBulkAll r
def uptoBulkEntries {H : Type} : List (Lit × DataW H) → Nat
  | [] => 0
  | x :: r => uptoBulkEntry x + uptoBulkEntries r
def uptoBulkEntry {H : Type} : Lit × DataW H → Nat
  | (.string bytes, d) => bytes.length + uptoBulk d + 1
  | (_, d) => uptoBulk d + 1
 end
def uptoSmall : (H : Type) → List (DataW H) → Bool := fun _ ds => decide (uptoBulkAll ds ≤ 1048576)
def OpenSpec.upto (s : _root_.Go.ChangeSpec) : _root_.Go.OpenSpec := { _root_.Go.OpenSpec.ofChange s with cond := some uptoSmall }

/-- 'bobstaylaw16.EscapeNames', WHERE WHAT IT READS IS OF BULK AT MOST 1048576: true; the input reads as it did. -/
def escapeNamesUptoRow : OpenClaim := { program := "ytjgaljnojhkimaa", sum := "dddb06f559c290184098afadfc27f270f07ca73195a26b45a3a2fb93e884a47b", func := "bobstay/bobstaylaw16.EscapeNames", spec := "escapeNames", unfollowed := true, recurses := true, apart := false, narrowed := true }
def EscapeNamesUptoSaid : Prop := escapeNamesUptoRow.holds Try.pinned (OpenSpec.upto escapeNamesSpec)

/-- 'bobstaylaw16.EscapeTells', WHERE WHAT IT READS IS OF BULK AT MOST 1048576: true; the input reads as it did. -/
def escapeTellsUptoRow : OpenClaim := { program := "ytjgaljnojhkimaa", sum := "dddb06f559c290184098afadfc27f270f07ca73195a26b45a3a2fb93e884a47b", func := "bobstay/bobstaylaw16.EscapeTells", spec := "escapeTells", unfollowed := true, recurses := true, apart := false, narrowed := true }
def EscapeTellsUptoSaid : Prop := escapeTellsUptoRow.holds Try.pinned (OpenSpec.upto escapeTellsSpec)

/-- 'bobstaylaw16.EscapeParts', WHERE WHAT IT READS IS OF BULK AT MOST 1048576: true; the input reads as it did. -/
def escapePartsUptoRow : OpenClaim := { program := "ytjgaljnojhkimaa", sum := "dddb06f559c290184098afadfc27f270f07ca73195a26b45a3a2fb93e884a47b", func := "bobstay/bobstaylaw16.EscapeParts", spec := "escapeParts", unfollowed := true, recurses := true, apart := false, narrowed := true }
def EscapePartsUptoSaid : Prop := escapePartsUptoRow.holds Try.pinned (OpenSpec.upto escapePartsSpec)

/-- 'bobstaylaw16.EscapePlain', WHERE WHAT IT READS IS OF BULK AT MOST 1048576: true; the input reads as it did. -/
def escapePlainUptoRow : OpenClaim := { program := "ytjgaljnojhkimaa", sum := "dddb06f559c290184098afadfc27f270f07ca73195a26b45a3a2fb93e884a47b", func := "bobstay/bobstaylaw16.EscapePlain", spec := "escapePlain", unfollowed := true, recurses := true, apart := false, narrowed := true }
def EscapePlainUptoSaid : Prop := escapePlainUptoRow.holds Try.pinned (OpenSpec.upto escapePlainSpec)

/-- 'bobstaylaw16.EscapeNumbers', WHERE WHAT IT READS IS OF BULK AT MOST 1048576: true; the input reads as it did. -/
def escapeNumbersUptoRow : OpenClaim := { program := "ytjgaljnojhkimaa", sum := "dddb06f559c290184098afadfc27f270f07ca73195a26b45a3a2fb93e884a47b", func := "bobstay/bobstaylaw16.EscapeNumbers", spec := "escapeNumbers", unfollowed := true, recurses := true, apart := false, narrowed := true }
def EscapeNumbersUptoSaid : Prop := escapeNumbersUptoRow.holds Try.pinned (OpenSpec.upto escapeNumbersSpec)

end Rows
end Go.Proofs.Ytjgaljnojhkimaa
