/-
  No cell of these rows narrows 'for every input' (looked for: loops, veiled, ifaces, maps, wideKeys, modest, calm, conditions, laid).
  DERIVED. THE GIVEN ROWS OF THIS SEAT. 4 by the template 'for every input the law returns true; each argument reads behind the call as it read before'; 0 by the template 'total and deterministic' (their statements: YtfjofifkepmdfaaTotals.lean).
  GIVEN WITH THE SEED: the statements are not yours to turn. If you find one false, say at which input.
  Laid BY PROGRAM, IN A SANDBOX (cutbox-rows.mjs): the forced cells as the released guide's own fill.sh prints them over the translation ebca35312a886729… (all of the seat's roots in one cut). By AI agents, Wed Nov 11 2026. No macro, syntax, notation, axiom, sorry.
-/
import Derived.Test.YtfjofifkepmdfaaChecked
import GoSem.Claim
import GoSem.ClaimJoined
import GoSem.ClaimMapViews
import Derived.JoinedTies
import Derived.KernelRfl
namespace Go.Proofs.Ytfjofifkepmdfaa
/- THE CELL 'sum', in the pinned program and in every row, IS THE sha256 OF THE DUMP (.gsa) THAT YtfjofifkepmdfaaProg.lean LOADS. Nothing in Lean hashes anything: it is a label: what it is worth is what the hold of that sum in a sandbox is worth. -/
noncomputable def Try.pinned : Pinned := { name := "ytfjofifkepmdfaa", sum := "ebca35312a88672920be903574f16e4428b511b459767baa97a0132085a32e72", checked := Try.checked }
namespace Rows
def none {H : Type} : Left H := { results := [], args := [] }

/-- 'bobstaylaw13.PaceSends': WHATEVER THE INPUT: true; the input reads as it did. -/
def paceSendsSpec : ChangeSpec := { name := "paceSends", fn := fun _ => fun
  | [d1, d2, d3] => { results := [.lit (.bool true)], args := [d1, d2, d3] }
  | _ => none }
def paceSendsRow : OpenClaim := { program := "ytfjofifkepmdfaa", sum := "ebca35312a88672920be903574f16e4428b511b459767baa97a0132085a32e72", func := "bobstay/bobstaylaw13.PaceSends", spec := "paceSends", unfollowed := true, recurses := true, apart := false }
def PaceSendsSaid : Prop := paceSendsRow.holds Try.pinned (OpenSpec.ofChange paceSendsSpec)

/-- ITS FALSE NEIGHBOUR: 'it returns false'. Refute it at one input. -/
def paceSendsWrong : ChangeSpec := { name := "paceSends", fn := fun _ => fun
  | [d1, d2, d3] => { results := [.lit (.bool false)], args := [d1, d2, d3] }
  | _ => none }
def PaceSendsWrongFalsely : Prop := paceSendsRow.holds Try.pinned (OpenSpec.ofChange paceSendsWrong)

/-- 'bobstaylaw13.PaceBound': WHATEVER THE INPUT: true; the input reads as it did. -/
def paceBoundSpec : ChangeSpec := { name := "paceBound", fn := fun _ => fun
  | [d1, d2, d3] => { results := [.lit (.bool true)], args := [d1, d2, d3] }
  | _ => none }
def paceBoundRow : OpenClaim := { program := "ytfjofifkepmdfaa", sum := "ebca35312a88672920be903574f16e4428b511b459767baa97a0132085a32e72", func := "bobstay/bobstaylaw13.PaceBound", spec := "paceBound", unfollowed := true, recurses := true, apart := false }
def PaceBoundSaid : Prop := paceBoundRow.holds Try.pinned (OpenSpec.ofChange paceBoundSpec)

/-- ITS FALSE NEIGHBOUR: 'it returns false'. Refute it at one input. -/
def paceBoundWrong : ChangeSpec := { name := "paceBound", fn := fun _ => fun
  | [d1, d2, d3] => { results := [.lit (.bool false)], args := [d1, d2, d3] }
  | _ => none }
def PaceBoundWrongFalsely : Prop := paceBoundRow.holds Try.pinned (OpenSpec.ofChange paceBoundWrong)

/-- 'bobstaylaw13.PaceWhen': WHATEVER THE INPUT: true; the input reads as it did. -/
def paceWhenSpec : ChangeSpec := { name := "paceWhen", fn := fun _ => fun
  | [d1, d2, d3, d4] => { results := [.lit (.bool true)], args := [d1, d2, d3, d4] }
  | _ => none }
def paceWhenRow : OpenClaim := { program := "ytfjofifkepmdfaa", sum := "ebca35312a88672920be903574f16e4428b511b459767baa97a0132085a32e72", func := "bobstay/bobstaylaw13.PaceWhen", spec := "paceWhen", unfollowed := true, recurses := true, apart := false }
def PaceWhenSaid : Prop := paceWhenRow.holds Try.pinned (OpenSpec.ofChange paceWhenSpec)

/-- ITS FALSE NEIGHBOUR: 'it returns false'. Refute it at one input. -/
def paceWhenWrong : ChangeSpec := { name := "paceWhen", fn := fun _ => fun
  | [d1, d2, d3, d4] => { results := [.lit (.bool false)], args := [d1, d2, d3, d4] }
  | _ => none }
def PaceWhenWrongFalsely : Prop := paceWhenRow.holds Try.pinned (OpenSpec.ofChange paceWhenWrong)

/-- 'bobstaylaw13.PaceFull': WHATEVER THE INPUT: true; the input reads as it did. -/
def paceFullSpec : ChangeSpec := { name := "paceFull", fn := fun _ => fun
  | [d1, d2, d3, d4, d5] => { results := [.lit (.bool true)], args := [d1, d2, d3, d4, d5] }
  | _ => none }
def paceFullRow : OpenClaim := { program := "ytfjofifkepmdfaa", sum := "ebca35312a88672920be903574f16e4428b511b459767baa97a0132085a32e72", func := "bobstay/bobstaylaw13.PaceFull", spec := "paceFull", unfollowed := true, recurses := true, apart := false }
def PaceFullSaid : Prop := paceFullRow.holds Try.pinned (OpenSpec.ofChange paceFullSpec)

/-- ITS FALSE NEIGHBOUR: 'it returns false'. Refute it at one input. -/
def paceFullWrong : ChangeSpec := { name := "paceFull", fn := fun _ => fun
  | [d1, d2, d3, d4, d5] => { results := [.lit (.bool false)], args := [d1, d2, d3, d4, d5] }
  | _ => none }
def PaceFullWrongFalsely : Prop := paceFullRow.holds Try.pinned (OpenSpec.ofChange paceFullWrong)

/- THE SECOND FORM. 'bulk': how many values and letters a reading holds, each counted each time it is reached (what is shared counts as often as it is met; a slice's spare places count too). A statement '..UptoSaid' is the law's where the arguments, and the package variables that the reading takes, are together of bulk at most 1048576: NARROWER than '..Said'. Prove '..Said' where nothing that the law and all that it calls make is longer than what came in: it says more and counts as full. Else prove '..UptoSaid'. A law counts once. -/
mutual
def uptoBulk {H : Type} : DataW H → Nat
  | .lit (.string bytes) => bytes.length + 1
  | .lit _ => 1
  | .nil => 1
  | .ptr d => uptoBulk d + 1
  | .slice elems spare => uptoBulkAll elems + uptoBulkAll spare + 1
  | .agg parts => uptoBulkAll parts + 1
  | .iface _ d => uptoBulk d + 1
  | .map entries => uptoBulkEntries entries + 1
  | .held _ => 1
def uptoBulkAll {H : Type} : List (DataW H) → Nat
  | [] => 0
  | d :: r => uptoBulk d + uptoBulkAll r
def uptoBulkEntries {H : Type} : List (Lit × DataW H) → Nat
  | [] => 0
  | x :: r => uptoBulkEntry x + uptoBulkEntries r
def uptoBulkEntry {H : Type} : Lit × DataW H → Nat
  | (.string bytes, d) => bytes.length + uptoBulk d + 1
  | (_, d) => uptoBulk d + 1
 end
def uptoSmall : (H : Type) → List (DataW H) → Bool := fun _ ds => decide (uptoBulkAll ds ≤ 1048576)
def OpenSpec.upto (s : _root_.Go.ChangeSpec) : _root_.Go.OpenSpec := { _root_.Go.OpenSpec.ofChange s with cond := some uptoSmall }

/-- 'bobstaylaw13.PaceSends', WHERE WHAT IT READS IS OF BULK AT MOST 1048576: true; the input reads as it did. -/
def paceSendsUptoRow : OpenClaim := { program := "ytfjofifkepmdfaa", sum := "ebca35312a88672920be903574f16e4428b511b459767baa97a0132085a32e72", func := "bobstay/bobstaylaw13.PaceSends", spec := "paceSends", unfollowed := true, recurses := true, apart := false, narrowed := true }
def PaceSendsUptoSaid : Prop := paceSendsUptoRow.holds Try.pinned (OpenSpec.upto paceSendsSpec)

/-- 'bobstaylaw13.PaceBound', WHERE WHAT IT READS IS OF BULK AT MOST 1048576: true; the input reads as it did. -/
def paceBoundUptoRow : OpenClaim := { program := "ytfjofifkepmdfaa", sum := "ebca35312a88672920be903574f16e4428b511b459767baa97a0132085a32e72", func := "bobstay/bobstaylaw13.PaceBound", spec := "paceBound", unfollowed := true, recurses := true, apart := false, narrowed := true }
def PaceBoundUptoSaid : Prop := paceBoundUptoRow.holds Try.pinned (OpenSpec.upto paceBoundSpec)

/-- 'bobstaylaw13.PaceWhen', WHERE WHAT IT READS IS OF BULK AT MOST 1048576: true; the input reads as it did. -/
def paceWhenUptoRow : OpenClaim := { program := "ytfjofifkepmdfaa", sum := "ebca35312a88672920be903574f16e4428b511b459767baa97a0132085a32e72", func := "bobstay/bobstaylaw13.PaceWhen", spec := "paceWhen", unfollowed := true, recurses := true, apart := false, narrowed := true }
def PaceWhenUptoSaid : Prop := paceWhenUptoRow.holds Try.pinned (OpenSpec.upto paceWhenSpec)

/-- 'bobstaylaw13.PaceFull', WHERE WHAT IT READS IS OF BULK AT MOST 1048576: true; the input reads as it did. -/
def paceFullUptoRow : OpenClaim := { program := "ytfjofifkepmdfaa", sum := "ebca35312a88672920be903574f16e4428b511b459767baa97a0132085a32e72", func := "bobstay/bobstaylaw13.PaceFull", spec := "paceFull", unfollowed := true, recurses := true, apart := false, narrowed := true }
def PaceFullUptoSaid : Prop := paceFullUptoRow.holds Try.pinned (OpenSpec.upto paceFullSpec)

end Rows
end Go.Proofs.Ytfjofifkepmdfaa
