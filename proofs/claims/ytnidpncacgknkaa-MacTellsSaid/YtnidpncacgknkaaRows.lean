/-
  No cell of these rows narrows 'for every input' (looked for: loops, veiled, ifaces, maps, wideKeys, modest, calm, conditions, laid).
  DERIVED. THE GIVEN ROWS OF THIS SEAT. 8 by the template 'for every input the law returns true; each argument reads behind the call as it read before'; 0 by the template 'total and deterministic' (their statements: YtnidpncacgknkaaTotals.lean).
  GIVEN WITH THE SEED: the statements are not yours to turn. If you find one false, say at which input.
  Laid BY PROGRAM, IN A SANDBOX (cutbox-rows.mjs): the forced cells as the released guide's own fill.sh prints them over the translation 985508bbc8c6d1bd… (all of the seat's roots in one cut). By AI agents, Wed Nov 11 2026. No macro, syntax, notation, axiom, sorry.
-/
import Derived.Test.YtnidpncacgknkaaChecked
import GoSem.Claim
import GoSem.ClaimJoined
import GoSem.ClaimMapViews
import Derived.JoinedTies
import Derived.KernelRfl
namespace Go.Proofs.Ytnidpncacgknkaa
/- THE CELL 'sum', in the pinned program and in every row, IS THE sha256 OF THE DUMP (.gsa) THAT YtnidpncacgknkaaProg.lean LOADS. Nothing in Lean hashes anything: it is a label: what it is worth is what the hold of that sum in a sandbox is worth. -/
noncomputable def Try.pinned : Pinned := { name := "ytnidpncacgknkaa", sum := "985508bbc8c6d1bd1adc31e484511751396c5787fa77dbfcce524eb71197cdf1", checked := Try.checked }
namespace Rows
def none {H : Type} : Left H := { results := [], args := [] }

/-- 'bobstaylaw05.MacNames': WHATEVER THE INPUT: true; the input reads as it did. -/
def macNamesSpec : ChangeSpec := { name := "macNames", fn := fun _ => fun
  | [d1, d2, d3] => { results := [.lit (.bool true)], args := [d1, d2, d3] }
  | _ => none }
def macNamesRow : OpenClaim := { program := "ytnidpncacgknkaa", sum := "985508bbc8c6d1bd1adc31e484511751396c5787fa77dbfcce524eb71197cdf1", func := "bobstay/bobstaylaw05.MacNames", spec := "macNames", unfollowed := true, recurses := true, apart := false }
def MacNamesSaid : Prop := macNamesRow.holds Try.pinned (OpenSpec.ofChange macNamesSpec)

/-- ITS FALSE NEIGHBOUR: 'it returns false'. Refute it at one input. -/
def macNamesWrong : ChangeSpec := { name := "macNames", fn := fun _ => fun
  | [d1, d2, d3] => { results := [.lit (.bool false)], args := [d1, d2, d3] }
  | _ => none }
def MacNamesWrongFalsely : Prop := macNamesRow.holds Try.pinned (OpenSpec.ofChange macNamesWrong)

/-- 'bobstaylaw05.MacEqual': WHATEVER THE INPUT: true; the input reads as it did. -/
def macEqualSpec : ChangeSpec := { name := "macEqual", fn := fun _ => fun
  | [d1, d2, d3, d4] => { results := [.lit (.bool true)], args := [d1, d2, d3, d4] }
  | _ => none }
def macEqualRow : OpenClaim := { program := "ytnidpncacgknkaa", sum := "985508bbc8c6d1bd1adc31e484511751396c5787fa77dbfcce524eb71197cdf1", func := "bobstay/bobstaylaw05.MacEqual", spec := "macEqual", unfollowed := true, recurses := true, apart := false }
def MacEqualSaid : Prop := macEqualRow.holds Try.pinned (OpenSpec.ofChange macEqualSpec)

/-- ITS FALSE NEIGHBOUR: 'it returns false'. Refute it at one input. -/
def macEqualWrong : ChangeSpec := { name := "macEqual", fn := fun _ => fun
  | [d1, d2, d3, d4] => { results := [.lit (.bool false)], args := [d1, d2, d3, d4] }
  | _ => none }
def MacEqualWrongFalsely : Prop := macEqualRow.holds Try.pinned (OpenSpec.ofChange macEqualWrong)

/-- 'bobstaylaw04.ShaTells': WHATEVER THE INPUT: true; the input reads as it did. -/
def shaTellsSpec : ChangeSpec := { name := "shaTells", fn := fun _ => fun
  | [d] => { results := [.lit (.bool true)], args := [d] }
  | _ => none }
def shaTellsRow : OpenClaim := { program := "ytnidpncacgknkaa", sum := "985508bbc8c6d1bd1adc31e484511751396c5787fa77dbfcce524eb71197cdf1", func := "bobstay/bobstaylaw04.ShaTells", spec := "shaTells", apart := false }
def ShaTellsSaid : Prop := shaTellsRow.holds Try.pinned (OpenSpec.ofChange shaTellsSpec)

/-- ITS FALSE NEIGHBOUR: 'it returns false'. Refute it at one input. -/
def shaTellsWrong : ChangeSpec := { name := "shaTells", fn := fun _ => fun
  | [d] => { results := [.lit (.bool false)], args := [d] }
  | _ => none }
def ShaTellsWrongFalsely : Prop := shaTellsRow.holds Try.pinned (OpenSpec.ofChange shaTellsWrong)

/-- 'bobstaylaw04.ShaParts': WHATEVER THE INPUT: true; the input reads as it did. -/
def shaPartsSpec : ChangeSpec := { name := "shaParts", fn := fun _ => fun
  | [d] => { results := [.lit (.bool true)], args := [d] }
  | _ => none }
def shaPartsRow : OpenClaim := { program := "ytnidpncacgknkaa", sum := "985508bbc8c6d1bd1adc31e484511751396c5787fa77dbfcce524eb71197cdf1", func := "bobstay/bobstaylaw04.ShaParts", spec := "shaParts", apart := false }
def ShaPartsSaid : Prop := shaPartsRow.holds Try.pinned (OpenSpec.ofChange shaPartsSpec)

/-- ITS FALSE NEIGHBOUR: 'it returns false'. Refute it at one input. -/
def shaPartsWrong : ChangeSpec := { name := "shaParts", fn := fun _ => fun
  | [d] => { results := [.lit (.bool false)], args := [d] }
  | _ => none }
def ShaPartsWrongFalsely : Prop := shaPartsRow.holds Try.pinned (OpenSpec.ofChange shaPartsWrong)

/-- 'bobstaylaw04.ShaZeros': WHATEVER THE INPUT: true; the input reads as it did. -/
def shaZerosSpec : ChangeSpec := { name := "shaZeros", fn := fun _ => fun
  | [] => { results := [.lit (.bool true)], args := [] }
  | _ => none }
def shaZerosRow : OpenClaim := { program := "ytnidpncacgknkaa", sum := "985508bbc8c6d1bd1adc31e484511751396c5787fa77dbfcce524eb71197cdf1", func := "bobstay/bobstaylaw04.ShaZeros", spec := "shaZeros", apart := false }
def ShaZerosSaid : Prop := shaZerosRow.holds Try.pinned (OpenSpec.ofChange shaZerosSpec)

/-- ITS FALSE NEIGHBOUR: 'it returns false'. Refute it at one input. -/
def shaZerosWrong : ChangeSpec := { name := "shaZeros", fn := fun _ => fun
  | [] => { results := [.lit (.bool false)], args := [] }
  | _ => none }
def ShaZerosWrongFalsely : Prop := shaZerosRow.holds Try.pinned (OpenSpec.ofChange shaZerosWrong)

/-- 'bobstaylaw05.MacTells': WHATEVER THE INPUT: true; the input reads as it did. -/
def macTellsSpec : ChangeSpec := { name := "macTells", fn := fun _ => fun
  | [d1, d2, d3] => { results := [.lit (.bool true)], args := [d1, d2, d3] }
  | _ => none }
def macTellsRow : OpenClaim := { program := "ytnidpncacgknkaa", sum := "985508bbc8c6d1bd1adc31e484511751396c5787fa77dbfcce524eb71197cdf1", func := "bobstay/bobstaylaw05.MacTells", spec := "macTells", unfollowed := true, recurses := true, apart := false }
def MacTellsSaid : Prop := macTellsRow.holds Try.pinned (OpenSpec.ofChange macTellsSpec)

/-- ITS FALSE NEIGHBOUR: 'it returns false'. Refute it at one input. -/
def macTellsWrong : ChangeSpec := { name := "macTells", fn := fun _ => fun
  | [d1, d2, d3] => { results := [.lit (.bool false)], args := [d1, d2, d3] }
  | _ => none }
def MacTellsWrongFalsely : Prop := macTellsRow.holds Try.pinned (OpenSpec.ofChange macTellsWrong)

/-- 'bobstaylaw05.MacCut': WHATEVER THE INPUT: true; the input reads as it did. -/
def macCutSpec : ChangeSpec := { name := "macCut", fn := fun _ => fun
  | [d1, d2, d3] => { results := [.lit (.bool true)], args := [d1, d2, d3] }
  | _ => none }
def macCutRow : OpenClaim := { program := "ytnidpncacgknkaa", sum := "985508bbc8c6d1bd1adc31e484511751396c5787fa77dbfcce524eb71197cdf1", func := "bobstay/bobstaylaw05.MacCut", spec := "macCut", unfollowed := true, recurses := true, apart := false }
def MacCutSaid : Prop := macCutRow.holds Try.pinned (OpenSpec.ofChange macCutSpec)

/-- ITS FALSE NEIGHBOUR: 'it returns false'. Refute it at one input. -/
def macCutWrong : ChangeSpec := { name := "macCut", fn := fun _ => fun
  | [d1, d2, d3] => { results := [.lit (.bool false)], args := [d1, d2, d3] }
  | _ => none }
def MacCutWrongFalsely : Prop := macCutRow.holds Try.pinned (OpenSpec.ofChange macCutWrong)

/-- 'bobstaylaw05.MacKeys': WHATEVER THE INPUT: true; the input reads as it did. -/
def macKeysSpec : ChangeSpec := { name := "macKeys", fn := fun _ => fun
  | [d1, d2, d3, d4, d5, d6] => { results := [.lit (.bool true)], args := [d1, d2, d3, d4, d5, d6] }
  | _ => none }
def macKeysRow : OpenClaim := { program := "ytnidpncacgknkaa", sum := "985508bbc8c6d1bd1adc31e484511751396c5787fa77dbfcce524eb71197cdf1", func := "bobstay/bobstaylaw05.MacKeys", spec := "macKeys", unfollowed := true, recurses := true, apart := false }
def MacKeysSaid : Prop := macKeysRow.holds Try.pinned (OpenSpec.ofChange macKeysSpec)

/-- ITS FALSE NEIGHBOUR: 'it returns false'. Refute it at one input. -/
def macKeysWrong : ChangeSpec := { name := "macKeys", fn := fun _ => fun
  | [d1, d2, d3, d4, d5, d6] => { results := [.lit (.bool false)], args := [d1, d2, d3, d4, d5, d6] }
  | _ => none }
def MacKeysWrongFalsely : Prop := macKeysRow.holds Try.pinned (OpenSpec.ofChange macKeysWrong)

/- THE SECOND FORM. 'bulk': how many values and letters a reading holds, each counted each time it is reached (what is shared counts as often as it is met; a slice's spare places count too). A statement '..UptoSaid' is the law's where the arguments, and the package variables that the reading takes, are together of bulk at most 1048576: NARROWER than '..Said'. Prove '..Said' where nothing that the law and all that it calls make is longer than what came in: it says more and counts as full. Else prove '..UptoSaid'. A law counts once. -/
mutual
def uptoBulk {H : Type} : DataW H → Nat
  | .lit (.string bytes) => bytes.length + 1
  | .lit _ => 1
  | .nil => 1
  | .ptr d => uptoBulk d + 1
  | .slice elems spare => uptoBulkAll elems + uptoBulkAll spare + 1
  | .agg parts => uptoBulkAll parts + 1
  | .iface _ d => uptoBulk d + 1
  | .map entries => uptoBulkEntries entries + 1
  | .held _ => 1
def uptoBulkAll {H : Type} : List (DataW H) → Nat
  | [] => 0
  | d :: r => uptoBulk d + uptoBulkAll r
def uptoBulkEntries {H : Type} : List (Lit × DataW H) → Nat
  | [] => 0
  | x :: r => uptoBulkEntry x + uptoBulkEntries r
def uptoBulkEntry {H : Type} : Lit × DataW H → Nat
  | (.string bytes, d) => bytes.length + uptoBulk d + 1
  | (_, d) => uptoBulk d + 1
 end
def uptoSmall : (H : Type) → List (DataW H) → Bool := fun _ ds => decide (uptoBulkAll ds ≤ 1048576)
def OpenSpec.upto (s : _root_.Go.ChangeSpec) : _root_.Go.OpenSpec := { _root_.Go.OpenSpec.ofChange s with cond := some uptoSmall }

/-- 'bobstaylaw05.MacNames', WHERE WHAT IT READS IS OF BULK AT MOST 1048576: true; the input reads as it did. -/
def macNamesUptoRow : OpenClaim := { program := "ytnidpncacgknkaa", sum := "985508bbc8c6d1bd1adc31e484511751396c5787fa77dbfcce524eb71197cdf1", func := "bobstay/bobstaylaw05.MacNames", spec := "macNames", unfollowed := true, recurses := true, apart := false, narrowed := true }
def MacNamesUptoSaid : Prop := macNamesUptoRow.holds Try.pinned (OpenSpec.upto macNamesSpec)

/-- 'bobstaylaw05.MacEqual', WHERE WHAT IT READS IS OF BULK AT MOST 1048576: true; the input reads as it did. -/
def macEqualUptoRow : OpenClaim := { program := "ytnidpncacgknkaa", sum := "985508bbc8c6d1bd1adc31e484511751396c5787fa77dbfcce524eb71197cdf1", func := "bobstay/bobstaylaw05.MacEqual", spec := "macEqual", unfollowed := true, recurses := true, apart := false, narrowed := true }
def MacEqualUptoSaid : Prop := macEqualUptoRow.holds Try.pinned (OpenSpec.upto macEqualSpec)

/-- 'bobstaylaw04.ShaTells', WHERE WHAT IT READS IS OF BULK AT MOST 1048576: true; the input reads as it did. -/
def shaTellsUptoRow : OpenClaim := { program := "ytnidpncacgknkaa", sum := "985508bbc8c6d1bd1adc31e484511751396c5787fa77dbfcce524eb71197cdf1", func := "bobstay/bobstaylaw04.ShaTells", spec := "shaTells", apart := false, narrowed := true }
def ShaTellsUptoSaid : Prop := shaTellsUptoRow.holds Try.pinned (OpenSpec.upto shaTellsSpec)

/-- 'bobstaylaw04.ShaParts', WHERE WHAT IT READS IS OF BULK AT MOST 1048576: true; the input reads as it did. -/
def shaPartsUptoRow : OpenClaim := { program := "ytnidpncacgknkaa", sum := "985508bbc8c6d1bd1adc31e484511751396c5787fa77dbfcce524eb71197cdf1", func := "bobstay/bobstaylaw04.ShaParts", spec := "shaParts", apart := false, narrowed := true }
def ShaPartsUptoSaid : Prop := shaPartsUptoRow.holds Try.pinned (OpenSpec.upto shaPartsSpec)

/-- 'bobstaylaw04.ShaZeros', WHERE WHAT IT READS IS OF BULK AT MOST 1048576: true; the input reads as it did. -/
def shaZerosUptoRow : OpenClaim := { program := "ytnidpncacgknkaa", sum := "985508bbc8c6d1bd1adc31e484511751396c5787fa77dbfcce524eb71197cdf1", func := "bobstay/bobstaylaw04.ShaZeros", spec := "shaZeros", apart := false, narrowed := true }
def ShaZerosUptoSaid : Prop := shaZerosUptoRow.holds Try.pinned (OpenSpec.upto shaZerosSpec)

/-- 'bobstaylaw05.MacTells', WHERE WHAT IT READS IS OF BULK AT MOST 1048576: true; the input reads as it did. -/
def macTellsUptoRow : OpenClaim := { program := "ytnidpncacgknkaa", sum := "985508bbc8c6d1bd1adc31e484511751396c5787fa77dbfcce524eb71197cdf1", func := "bobstay/bobstaylaw05.MacTells", spec := "macTells", unfollowed := true, recurses := true, apart := false, narrowed := true }
def MacTellsUptoSaid : Prop := macTellsUptoRow.holds Try.pinned (OpenSpec.upto macTellsSpec)

/-- 'bobstaylaw05.MacCut', WHERE WHAT IT READS IS OF BULK AT MOST 1048576: true; the input reads as it did. -/
def macCutUptoRow : OpenClaim := { program := "ytnidpncacgknkaa", sum := "985508bbc8c6d1bd1adc31e484511751396c5787fa77dbfcce524eb71197cdf1", func := "bobstay/bobstaylaw05.MacCut", spec := "macCut", unfollowed := true, recurses := true, apart := false, narrowed := true }
def MacCutUptoSaid : Prop := macCutUptoRow.holds Try.pinned (OpenSpec.upto macCutSpec)

/-- 'bobstaylaw05.MacKeys', WHERE WHAT IT READS IS OF BULK AT MOST 1048576: true; the input reads as it did. -/
def macKeysUptoRow : OpenClaim := { program := "ytnidpncacgknkaa", sum := "985508bbc8c6d1bd1adc31e484511751396c5787fa77dbfcce524eb71197cdf1", func := "bobstay/bobstaylaw05.MacKeys", spec := "macKeys", unfollowed := true, recurses := true, apart := false, narrowed := true }
def MacKeysUptoSaid : Prop := macKeysUptoRow.holds Try.pinned (OpenSpec.upto macKeysSpec)

end Rows
end Go.Proofs.Ytnidpncacgknkaa
