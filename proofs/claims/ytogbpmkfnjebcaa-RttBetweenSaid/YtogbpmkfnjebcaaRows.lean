/-
  No cell of these rows narrows 'for every input' (looked for: loops, veiled, ifaces, maps, wideKeys, modest, calm, conditions, laid).
  DERIVED. THE GIVEN ROWS OF THIS SEAT. 5 by the template 'for every input the law returns true; each argument reads behind the call as it read before'; 0 by the template 'total and deterministic' (their statements: YtogbpmkfnjebcaaTotals.lean).
  GIVEN WITH THE SEED: the statements are not yours to turn. If you find one false, say at which input.
  Laid BY PROGRAM, IN A SANDBOX (cutbox-rows.mjs): the forced cells as the released guide's own fill.sh prints them over the translation 9c8f7cb5f35df939… (all of the seat's roots in one cut). By AI agents, Wed Nov 11 2026. No macro, syntax, notation, axiom, sorry.
-/
import Derived.Test.YtogbpmkfnjebcaaChecked
import GoSem.Claim
import GoSem.ClaimJoined
import GoSem.ClaimMapViews
import Derived.JoinedTies
import Derived.KernelRfl
namespace Go.Proofs.Ytogbpmkfnjebcaa
/- THE CELL 'sum', in the pinned program and in every row, IS THE sha256 OF THE DUMP (.gsa) THAT YtogbpmkfnjebcaaProg.lean LOADS. Nothing in Lean hashes anything: it is a label: what it is worth is what the hold of that sum in a sandbox is worth. -/
noncomputable def Try.pinned : Pinned := { name := "ytogbpmkfnjebcaa", sum := "9c8f7cb5f35df9390064a0e8a3fe2cce07705f096a37e5c62df4d5f038851fa6", checked := Try.checked }
namespace Rows
def none {H : Type} : Left H := { results := [], args := [] }

/-- 'bobstaylaw10.RttTells': WHATEVER THE INPUT: true; the input reads as it did. -/
def rttTellsSpec : ChangeSpec := { name := "rttTells", fn := fun _ => fun
  | [d1, d2, d3, d4] => { results := [.lit (.bool true)], args := [d1, d2, d3, d4] }
  | _ => none }
def rttTellsRow : OpenClaim := { program := "ytogbpmkfnjebcaa", sum := "9c8f7cb5f35df9390064a0e8a3fe2cce07705f096a37e5c62df4d5f038851fa6", func := "bobstay/bobstaylaw10.RttTells", spec := "rttTells", unfollowed := true, recurses := true, apart := false }
def RttTellsSaid : Prop := rttTellsRow.holds Try.pinned (OpenSpec.ofChange rttTellsSpec)

/-- ITS FALSE NEIGHBOUR: 'it returns false'. Refute it at one input. -/
def rttTellsWrong : ChangeSpec := { name := "rttTells", fn := fun _ => fun
  | [d1, d2, d3, d4] => { results := [.lit (.bool false)], args := [d1, d2, d3, d4] }
  | _ => none }
def RttTellsWrongFalsely : Prop := rttTellsRow.holds Try.pinned (OpenSpec.ofChange rttTellsWrong)

/-- 'bobstaylaw10.RttRuns': WHATEVER THE INPUT: true; the input reads as it did. -/
def rttRunsSpec : ChangeSpec := { name := "rttRuns", fn := fun _ => fun
  | [d] => { results := [.lit (.bool true)], args := [d] }
  | _ => none }
def rttRunsRow : OpenClaim := { program := "ytogbpmkfnjebcaa", sum := "9c8f7cb5f35df9390064a0e8a3fe2cce07705f096a37e5c62df4d5f038851fa6", func := "bobstay/bobstaylaw10.RttRuns", spec := "rttRuns", unfollowed := true, recurses := true, apart := false }
def RttRunsSaid : Prop := rttRunsRow.holds Try.pinned (OpenSpec.ofChange rttRunsSpec)

/-- ITS FALSE NEIGHBOUR: 'it returns false'. Refute it at one input. -/
def rttRunsWrong : ChangeSpec := { name := "rttRuns", fn := fun _ => fun
  | [d] => { results := [.lit (.bool false)], args := [d] }
  | _ => none }
def RttRunsWrongFalsely : Prop := rttRunsRow.holds Try.pinned (OpenSpec.ofChange rttRunsWrong)

/-- 'bobstaylaw10.RttBetween': WHATEVER THE INPUT: true; the input reads as it did. -/
def rttBetweenSpec : ChangeSpec := { name := "rttBetween", fn := fun _ => fun
  | [d] => { results := [.lit (.bool true)], args := [d] }
  | _ => none }
def rttBetweenRow : OpenClaim := { program := "ytogbpmkfnjebcaa", sum := "9c8f7cb5f35df9390064a0e8a3fe2cce07705f096a37e5c62df4d5f038851fa6", func := "bobstay/bobstaylaw10.RttBetween", spec := "rttBetween", unfollowed := true, recurses := true, apart := false }
def RttBetweenSaid : Prop := rttBetweenRow.holds Try.pinned (OpenSpec.ofChange rttBetweenSpec)

/-- ITS FALSE NEIGHBOUR: 'it returns false'. Refute it at one input. -/
def rttBetweenWrong : ChangeSpec := { name := "rttBetween", fn := fun _ => fun
  | [d] => { results := [.lit (.bool false)], args := [d] }
  | _ => none }
def RttBetweenWrongFalsely : Prop := rttBetweenRow.holds Try.pinned (OpenSpec.ofChange rttBetweenWrong)

/-- 'bobstaylaw10.RttWaits': WHATEVER THE INPUT: true; the input reads as it did. -/
def rttWaitsSpec : ChangeSpec := { name := "rttWaits", fn := fun _ => fun
  | [d1, d2, d3] => { results := [.lit (.bool true)], args := [d1, d2, d3] }
  | _ => none }
def rttWaitsRow : OpenClaim := { program := "ytogbpmkfnjebcaa", sum := "9c8f7cb5f35df9390064a0e8a3fe2cce07705f096a37e5c62df4d5f038851fa6", func := "bobstay/bobstaylaw10.RttWaits", spec := "rttWaits", unfollowed := true, recurses := true, apart := false }
def RttWaitsSaid : Prop := rttWaitsRow.holds Try.pinned (OpenSpec.ofChange rttWaitsSpec)

/-- ITS FALSE NEIGHBOUR: 'it returns false'. Refute it at one input. -/
def rttWaitsWrong : ChangeSpec := { name := "rttWaits", fn := fun _ => fun
  | [d1, d2, d3] => { results := [.lit (.bool false)], args := [d1, d2, d3] }
  | _ => none }
def RttWaitsWrongFalsely : Prop := rttWaitsRow.holds Try.pinned (OpenSpec.ofChange rttWaitsWrong)

/-- 'bobstaylaw10.RttSame': WHATEVER THE INPUT: true; the input reads as it did. -/
def rttSameSpec : ChangeSpec := { name := "rttSame", fn := fun _ => fun
  | [d1, d2] => { results := [.lit (.bool true)], args := [d1, d2] }
  | _ => none }
def rttSameRow : OpenClaim := { program := "ytogbpmkfnjebcaa", sum := "9c8f7cb5f35df9390064a0e8a3fe2cce07705f096a37e5c62df4d5f038851fa6", func := "bobstay/bobstaylaw10.RttSame", spec := "rttSame", unfollowed := true, recurses := true, apart := false }
def RttSameSaid : Prop := rttSameRow.holds Try.pinned (OpenSpec.ofChange rttSameSpec)

/-- ITS FALSE NEIGHBOUR: 'it returns false'. Refute it at one input. -/
def rttSameWrong : ChangeSpec := { name := "rttSame", fn := fun _ => fun
  | [d1, d2] => { results := [.lit (.bool false)], args := [d1, d2] }
  | _ => none }
def RttSameWrongFalsely : Prop := rttSameRow.holds Try.pinned (OpenSpec.ofChange rttSameWrong)

/- THE SECOND FORM. 'bulk': how many values and letters a reading holds, each counted each time it is reached (what is shared counts as often as it is met; a slice's spare places count too). A statement '..UptoSaid' is the law's where the arguments, and the package variables that the reading takes, are together of bulk at most 1048576: NARROWER than '..Said'. Prove '..Said' where nothing that the law and all that it calls make is longer than what came in: it says more and counts as full. Else prove '..UptoSaid'. A law counts once. -/
mutual
def uptoBulk {H : Type} : DataW H → Nat
  | .lit (.string bytes) => bytes.length + 1
  | .lit _ => 1
  | .nil => 1
  | .ptr d => uptoBulk d + 1
  | .slice elems spare => uptoBulkAll elems + uptoBulkAll spare + 1
  | .agg parts => uptoBulkAll parts + 1
  | .iface _ d => uptoBulk d + 1
  | .map entries => uptoBulkEntries entries + 1
  | .held _ => 1
def uptoBulkAll {H : Type} : List (DataW H) → Nat
  | [] => 0
  | d :: r => uptoBulk d + uptoBulkAll r
def uptoBulkEntries {H : Type} : List (Lit × DataW H) → Nat
  | [] => 0
  | x :: r => uptoBulkEntry x + uptoBulkEntries r
def uptoBulkEntry {H : Type} : Lit × DataW H → Nat
  | (.string bytes, d) => bytes.length + uptoBulk d + 1
  | (_, d) => uptoBulk d + 1
 end
def uptoSmall : (H : Type) → List (DataW H) → Bool := fun _ ds => decide (uptoBulkAll ds ≤ 1048576)
def OpenSpec.upto (s : _root_.Go.ChangeSpec) : _root_.Go.OpenSpec := { _root_.Go.OpenSpec.ofChange s with cond := some uptoSmall }

/-- 'bobstaylaw10.RttTells', WHERE WHAT IT READS IS OF BULK AT MOST 1048576: true; the input reads as it did. -/
def rttTellsUptoRow : OpenClaim := { program := "ytogbpmkfnjebcaa", sum := "9c8f7cb5f35df9390064a0e8a3fe2cce07705f096a37e5c62df4d5f038851fa6", func := "bobstay/bobstaylaw10.RttTells", spec := "rttTells", unfollowed := true, recurses := true, apart := false, narrowed := true }
def RttTellsUptoSaid : Prop := rttTellsUptoRow.holds Try.pinned (OpenSpec.upto rttTellsSpec)

/-- 'bobstaylaw10.RttRuns', WHERE WHAT IT READS IS OF BULK AT MOST 1048576: true; the input reads as it did. -/
def rttRunsUptoRow : OpenClaim := { program := "ytogbpmkfnjebcaa", sum := "9c8f7cb5f35df9390064a0e8a3fe2cce07705f096a37e5c62df4d5f038851fa6", func := "bobstay/bobstaylaw10.RttRuns", spec := "rttRuns", unfollowed := true, recurses := true, apart := false, narrowed := true }
def RttRunsUptoSaid : Prop := rttRunsUptoRow.holds Try.pinned (OpenSpec.upto rttRunsSpec)

/-- 'bobstaylaw10.RttBetween', WHERE WHAT IT READS IS OF BULK AT MOST 1048576: true; the input reads as it did. -/
def rttBetweenUptoRow : OpenClaim := { program := "ytogbpmkfnjebcaa", sum := "9c8f7cb5f35df9390064a0e8a3fe2cce07705f096a37e5c62df4d5f038851fa6", func := "bobstay/bobstaylaw10.RttBetween", spec := "rttBetween", unfollowed := true, recurses := true, apart := false, narrowed := true }
def RttBetweenUptoSaid : Prop := rttBetweenUptoRow.holds Try.pinned (OpenSpec.upto rttBetweenSpec)

/-- 'bobstaylaw10.RttWaits', WHERE WHAT IT READS IS OF BULK AT MOST 1048576: true; the input reads as it did. -/
def rttWaitsUptoRow : OpenClaim := { program := "ytogbpmkfnjebcaa", sum := "9c8f7cb5f35df9390064a0e8a3fe2cce07705f096a37e5c62df4d5f038851fa6", func := "bobstay/bobstaylaw10.RttWaits", spec := "rttWaits", unfollowed := true, recurses := true, apart := false, narrowed := true }
def RttWaitsUptoSaid : Prop := rttWaitsUptoRow.holds Try.pinned (OpenSpec.upto rttWaitsSpec)

/-- 'bobstaylaw10.RttSame', WHERE WHAT IT READS IS OF BULK AT MOST 1048576: true; the input reads as it did. -/
def rttSameUptoRow : OpenClaim := { program := "ytogbpmkfnjebcaa", sum := "9c8f7cb5f35df9390064a0e8a3fe2cce07705f096a37e5c62df4d5f038851fa6", func := "bobstay/bobstaylaw10.RttSame", spec := "rttSame", unfollowed := true, recurses := true, apart := false, narrowed := true }
def RttSameUptoSaid : Prop := rttSameUptoRow.holds Try.pinned (OpenSpec.upto rttSameSpec)

end Rows
end Go.Proofs.Ytogbpmkfnjebcaa
