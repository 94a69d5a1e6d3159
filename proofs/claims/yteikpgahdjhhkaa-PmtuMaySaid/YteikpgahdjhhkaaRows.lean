/-
  No cell of these rows narrows 'for every input' (looked for: loops, veiled, ifaces, maps, wideKeys, modest, calm, conditions, laid).
  DERIVED. THE GIVEN ROWS OF THIS SEAT. 5 by the template 'for every input the law returns true; each argument reads behind the call as it read before'; 0 by the template 'total and deterministic' (their statements: YteikpgahdjhhkaaTotals.lean).
  GIVEN WITH THE SEED: the statements are not yours to turn. If you find one false, say at which input.
  Laid BY PROGRAM, IN A SANDBOX (cutbox-rows.mjs): the forced cells as the released guide's own fill.sh prints them over the translation 0726538aea0ad14f… (all of the seat's roots in one cut). By AI agents, Wed Nov 11 2026. No macro, syntax, notation, axiom, sorry.
-/
import Derived.Test.YteikpgahdjhhkaaChecked
import GoSem.Claim
import GoSem.ClaimJoined
import GoSem.ClaimMapViews
import Derived.JoinedTies
import Derived.KernelRfl
namespace Go.Proofs.Yteikpgahdjhhkaa
/- THE CELL 'sum', in the pinned program and in every row, IS THE sha256 OF THE DUMP (.gsa) THAT YteikpgahdjhhkaaProg.lean LOADS. Nothing in Lean hashes anything: it is a label: what it is worth is what the hold of that sum in a sandbox is worth. -/
noncomputable def Try.pinned : Pinned := { name := "yteikpgahdjhhkaa", sum := "0726538aea0ad14f95922ab98e19aaec265c9e5af8132c5dec1a2784435d9ee5", checked := Try.checked }
namespace Rows
def none {H : Type} : Left H := { results := [], args := [] }

/-- 'bobstaylaw14.PmtuTells': WHATEVER THE INPUT: true; the input reads as it did. -/
def pmtuTellsSpec : ChangeSpec := { name := "pmtuTells", fn := fun _ => fun
  | [d1, d2] => { results := [.lit (.bool true)], args := [d1, d2] }
  | _ => none }
def pmtuTellsRow : OpenClaim := { program := "yteikpgahdjhhkaa", sum := "0726538aea0ad14f95922ab98e19aaec265c9e5af8132c5dec1a2784435d9ee5", func := "bobstay/bobstaylaw14.PmtuTells", spec := "pmtuTells", apart := false }
def PmtuTellsSaid : Prop := pmtuTellsRow.holds Try.pinned (OpenSpec.ofChange pmtuTellsSpec)

/-- ITS FALSE NEIGHBOUR: 'it returns false'. Refute it at one input. -/
def pmtuTellsWrong : ChangeSpec := { name := "pmtuTells", fn := fun _ => fun
  | [d1, d2] => { results := [.lit (.bool false)], args := [d1, d2] }
  | _ => none }
def PmtuTellsWrongFalsely : Prop := pmtuTellsRow.holds Try.pinned (OpenSpec.ofChange pmtuTellsWrong)

/-- 'bobstaylaw14.PmtuSearches': WHATEVER THE INPUT: true; the input reads as it did. -/
def pmtuSearchesSpec : ChangeSpec := { name := "pmtuSearches", fn := fun _ => fun
  | [d] => { results := [.lit (.bool true)], args := [d] }
  | _ => none }
def pmtuSearchesRow : OpenClaim := { program := "yteikpgahdjhhkaa", sum := "0726538aea0ad14f95922ab98e19aaec265c9e5af8132c5dec1a2784435d9ee5", func := "bobstay/bobstaylaw14.PmtuSearches", spec := "pmtuSearches", apart := false }
def PmtuSearchesSaid : Prop := pmtuSearchesRow.holds Try.pinned (OpenSpec.ofChange pmtuSearchesSpec)

/-- ITS FALSE NEIGHBOUR: 'it returns false'. Refute it at one input. -/
def pmtuSearchesWrong : ChangeSpec := { name := "pmtuSearches", fn := fun _ => fun
  | [d] => { results := [.lit (.bool false)], args := [d] }
  | _ => none }
def PmtuSearchesWrongFalsely : Prop := pmtuSearchesRow.holds Try.pinned (OpenSpec.ofChange pmtuSearchesWrong)

/-- 'bobstaylaw14.PmtuMay': WHATEVER THE INPUT: true; the input reads as it did. -/
def pmtuMaySpec : ChangeSpec := { name := "pmtuMay", fn := fun _ => fun
  | [d] => { results := [.lit (.bool true)], args := [d] }
  | _ => none }
def pmtuMayRow : OpenClaim := { program := "yteikpgahdjhhkaa", sum := "0726538aea0ad14f95922ab98e19aaec265c9e5af8132c5dec1a2784435d9ee5", func := "bobstay/bobstaylaw14.PmtuMay", spec := "pmtuMay", apart := false }
def PmtuMaySaid : Prop := pmtuMayRow.holds Try.pinned (OpenSpec.ofChange pmtuMaySpec)

/-- ITS FALSE NEIGHBOUR: 'it returns false'. Refute it at one input. -/
def pmtuMayWrong : ChangeSpec := { name := "pmtuMay", fn := fun _ => fun
  | [d] => { results := [.lit (.bool false)], args := [d] }
  | _ => none }
def PmtuMayWrongFalsely : Prop := pmtuMayRow.holds Try.pinned (OpenSpec.ofChange pmtuMayWrong)

/-- 'bobstaylaw14.PmtuBlack': WHATEVER THE INPUT: true; the input reads as it did. -/
def pmtuBlackSpec : ChangeSpec := { name := "pmtuBlack", fn := fun _ => fun
  | [d1, d2, d3] => { results := [.lit (.bool true)], args := [d1, d2, d3] }
  | _ => none }
def pmtuBlackRow : OpenClaim := { program := "yteikpgahdjhhkaa", sum := "0726538aea0ad14f95922ab98e19aaec265c9e5af8132c5dec1a2784435d9ee5", func := "bobstay/bobstaylaw14.PmtuBlack", spec := "pmtuBlack", apart := false }
def PmtuBlackSaid : Prop := pmtuBlackRow.holds Try.pinned (OpenSpec.ofChange pmtuBlackSpec)

/-- ITS FALSE NEIGHBOUR: 'it returns false'. Refute it at one input. -/
def pmtuBlackWrong : ChangeSpec := { name := "pmtuBlack", fn := fun _ => fun
  | [d1, d2, d3] => { results := [.lit (.bool false)], args := [d1, d2, d3] }
  | _ => none }
def PmtuBlackWrongFalsely : Prop := pmtuBlackRow.holds Try.pinned (OpenSpec.ofChange pmtuBlackWrong)

/-- 'bobstaylaw14.PmtuAsks': WHATEVER THE INPUT: true; the input reads as it did. -/
def pmtuAsksSpec : ChangeSpec := { name := "pmtuAsks", fn := fun _ => fun
  | [d] => { results := [.lit (.bool true)], args := [d] }
  | _ => none }
def pmtuAsksRow : OpenClaim := { program := "yteikpgahdjhhkaa", sum := "0726538aea0ad14f95922ab98e19aaec265c9e5af8132c5dec1a2784435d9ee5", func := "bobstay/bobstaylaw14.PmtuAsks", spec := "pmtuAsks", apart := false }
def PmtuAsksSaid : Prop := pmtuAsksRow.holds Try.pinned (OpenSpec.ofChange pmtuAsksSpec)

/-- ITS FALSE NEIGHBOUR: 'it returns false'. Refute it at one input. -/
def pmtuAsksWrong : ChangeSpec := { name := "pmtuAsks", fn := fun _ => fun
  | [d] => { results := [.lit (.bool false)], args := [d] }
  | _ => none }
def PmtuAsksWrongFalsely : Prop := pmtuAsksRow.holds Try.pinned (OpenSpec.ofChange pmtuAsksWrong)

/- THE SECOND FORM. 'bulk': how many values and letters a reading holds, each counted each time it is reached (what is shared counts as often as it is met; a slice's spare places count too). A statement '..UptoSaid' is the law's where the arguments, and the package variables that the reading takes, are together of bulk at most 1048576: NARROWER than '..Said'. Prove '..Said' where nothing that the law and all that it calls make is longer than what came in: it says more and counts as full. Else prove '..UptoSaid'. A law counts once. -/
mutual
def uptoBulk {H : Type} : DataW H → Nat
  | .lit (.string bytes) => bytes.length + 1
  | .lit _ => 1
  | .nil => 1
  | .ptr d => uptoBulk d + 1
  | .slice elems spare => uptoBulkAll elems + uptoBulkAll spare + 1
  | .agg parts => uptoBulkAll parts + 1
  | .iface _ d => uptoBulk d + 1
  | .map entries => uptoBulkEntries entries + 1
  | .held _ => 1
def uptoBulkAll {H : Type} : List (DataW H) → Nat
  | [] => 0
  | d :: r => uptoBulk d + uptoBulkAll r
def uptoBulkEntries {H : Type} : List (Lit × DataW H) → Nat
  | [] => 0
  | x :: r => uptoBulkEntry x + uptoBulkEntries r
def uptoBulkEntry {H : Type} : Lit × DataW H → Nat
  | (.string bytes, d) => bytes.length + uptoBulk d + 1
  | (_, d) => uptoBulk d + 1
 end
def uptoSmall : (H : Type) → List (DataW H) → Bool := fun _ ds => decide (uptoBulkAll ds ≤ 1048576)
def OpenSpec.upto (s : _root_.Go.ChangeSpec) : _root_.Go.OpenSpec := { _root_.Go.OpenSpec.ofChange s with cond := some uptoSmall }

/-- 'bobstaylaw14.PmtuTells', WHERE WHAT IT READS IS OF BULK AT MOST 1048576: true; the input reads as it did. -/
def pmtuTellsUptoRow : OpenClaim := { program := "yteikpgahdjhhkaa", sum := "0726538aea0ad14f95922ab98e19aaec265c9e5af8132c5dec1a2784435d9ee5", func := "bobstay/bobstaylaw14.PmtuTells", spec := "pmtuTells", apart := false, narrowed := true }
def PmtuTellsUptoSaid : Prop := pmtuTellsUptoRow.holds Try.pinned (OpenSpec.upto pmtuTellsSpec)

/-- 'bobstaylaw14.PmtuSearches', WHERE WHAT IT READS IS OF BULK AT MOST 1048576: true; the input reads as it did. -/
def pmtuSearchesUptoRow : OpenClaim := { program := "yteikpgahdjhhkaa", sum := "0726538aea0ad14f95922ab98e19aaec265c9e5af8132c5dec1a2784435d9ee5", func := "bobstay/bobstaylaw14.PmtuSearches", spec := "pmtuSearches", apart := false, narrowed := true }
def PmtuSearchesUptoSaid : Prop := pmtuSearchesUptoRow.holds Try.pinned (OpenSpec.upto pmtuSearchesSpec)

/-- 'bobstaylaw14.PmtuMay', WHERE WHAT IT READS IS OF BULK AT MOST 1048576: true; the input reads as it did. -/
def pmtuMayUptoRow : OpenClaim := { program := "yteikpgahdjhhkaa", sum := "0726538aea0ad14f95922ab98e19aaec265c9e5af8132c5dec1a2784435d9ee5", func := "bobstay/bobstaylaw14.PmtuMay", spec := "pmtuMay", apart := false, narrowed := true }
def PmtuMayUptoSaid : Prop := pmtuMayUptoRow.holds Try.pinned (OpenSpec.upto pmtuMaySpec)

/-- 'bobstaylaw14.PmtuBlack', WHERE WHAT IT READS IS OF BULK AT MOST 1048576: true; the input reads as it did. -/
def pmtuBlackUptoRow : OpenClaim := { program := "yteikpgahdjhhkaa", sum := "0726538aea0ad14f95922ab98e19aaec265c9e5af8132c5dec1a2784435d9ee5", func := "bobstay/bobstaylaw14.PmtuBlack", spec := "pmtuBlack", apart := false, narrowed := true }
def PmtuBlackUptoSaid : Prop := pmtuBlackUptoRow.holds Try.pinned (OpenSpec.upto pmtuBlackSpec)

/-- 'bobstaylaw14.PmtuAsks', WHERE WHAT IT READS IS OF BULK AT MOST 1048576: true; the input reads as it did. -/
def pmtuAsksUptoRow : OpenClaim := { program := "yteikpgahdjhhkaa", sum := "0726538aea0ad14f95922ab98e19aaec265c9e5af8132c5dec1a2784435d9ee5", func := "bobstay/bobstaylaw14.PmtuAsks", spec := "pmtuAsks", apart := false, narrowed := true }
def PmtuAsksUptoSaid : Prop := pmtuAsksUptoRow.holds Try.pinned (OpenSpec.upto pmtuAsksSpec)

end Rows
end Go.Proofs.Yteikpgahdjhhkaa
