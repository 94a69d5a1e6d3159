/- The statement RttRuns: the row round its walk. No condition. -/
import Derived.Test.YtogbpmkfnjebcaaRuns
import Derived.Test.YtogbpmkfnjebcaaFrame
import Derived.ProofKit
import Derived.OpenShut
import Derived.ShutString
import Derived.ChangeOld
import Derived.Below
import Derived.Lib.SmallJoins
namespace Go.Proofs.Ytogbpmkfnjebcaa
open Go.ChangeShapes Go.WideShapes Go.ChangeAt Go.RowKit Go.Joins
open Go.ChangeMaps (open_string shut_string)

set_option maxRecDepth 100000 in
theorem rttRuns_lifted (os : Os) (started : os.Started) (H : Type) (enc : TypeId × Value → H) :
    ReturnsInHanded {} Try.checked os 4 .any (Rows.rttRunsSpec.pre6 enc Try.prog Try.f4 Rows.rttRunsRow.domain false) (Rows.rttRunsSpec.post enc Try.prog Try.f4 false true false false) := by
  refine returnsInHanded_of_change (C := Try.checked) own started (by kernel_rfl) Try.func4
    (ChangeSpec.witness6 (enc := enc) (C := Try.checked) false ⟨#[], #[.slice none 0 0], []⟩ 8 (by kernel_rfl) (by kernel_rfl) (by kernel_rfl) (by kernel_rfl)) ?_
  intro W base args ds gs before hval0 hW hcnd _
  have hval : ∀ (j : Nat) t v, Try.f4.params[j]? = some t → args[j]? = some v → Value.okWide Try.prog W .any base t v := hval0
  have hW' := hW
  obtain ⟨p, q, hA0, hV, rfl, hfz, hnd⟩ := hW
  have hA : DataW.TrodAll enc Try.prog W 0 (fun _ => true) true Try.f4.params.toList args.toList ds p := hA0
  rw [Try.params4] at hA hval
  obtain ⟨v0, vs0, d0, ds0, p0, q0, hargs, rfl, rfl, h0, r0⟩ := trodAll_cons hA
  obtain ⟨rfl, rfl, rfl⟩ := trodAll_nil r0
  obtain rfl : args = #[v0] := by cases args; simp_all
  obtain ⟨rfl, rfl⟩ := trodVars_none hV
  obtain ⟨x0, len0, cap0, rfl⟩ := okWide_slice Try.underlying28 (hval 0 28 v0 rfl rfl)
  have k0 := h0
  have lt0 : ∀ x ∈ p0, x.block < W.heap.size := by obtain ⟨m, hm⟩ := k0; exact DataW.trod_lt m _ _ _ hm
  obtain ⟨z0, wf0, hR0, n0⟩ : ∃ ps : List (Int × Int), (∀ a ∈ ps, (Lit.int .i64 a.1).wf = true ∧ (Lit.int .i64 a.2).wf = true) ∧ Arr W 2 (.slice x0 len0 cap0) ps.length (ps.flatMap fun a => [.int .i64 a.1, .int .i64 a.2]) ∧ len0 = ps.length := by
    obtain ⟨fuel, hf⟩ := h0
    exact arr_of_slice (fun a : Int × Int => (Lit.int .i64 a.1).wf = true ∧ (Lit.int .i64 a.2).wf = true) (fun a : Int × Int => [.int .i64 a.1, .int .i64 a.2]) 2 (fun _ => rfl) (by decide) (by kernel_rfl) Try.underlying28 hf (pair_of_array Try.underlying29 Try.underlying3 (by kernel_rfl) (by kernel_rfl))
  clear hA0 hval0
  subst n0
  refine (runs4 _ z0 W hR0).mono fun e W' ⟨he, bel⟩ => ?_
  subst he
  exact ⟨_, rfl, _, _, _, [], _, [], hW', trodAll_mk1 (shut_bool Try.underlying4 _), (trodAll_cons_mk (Below.trod laidOut (by kernel_rfl) (of_decide_eq_true (by kernel_rfl)) k0 bel lt0) trodAll_mk0), rfl, bel.frame _, fun h => by cases h⟩

theorem rttRuns_over : Rows.rttRunsRow.holds Try.pinned (OpenSpec.ofChange Rows.rttRunsSpec) :=
  OpenClaim.holds_of_wide 4 Try.f4 rfl rfl rfl rfl rfl rfl rfl ⟨rfl, rfl, rfl, rfl, rfl⟩ rfl rfl rfl rfl rfl (by kernel_rfl) Try.func4 (by kernel_rfl)
    (of_decide_eq_true (by kernel_rfl)) (by unfold Func.isWrapper; first | (rw [if_pos (by decide +kernel)]; kernel_rfl) | (rw [if_neg (by decide +kernel)]; exact ⟨rfl, rfl⟩))
    (fun os started H enc _ => rttRuns_lifted os started H enc)

theorem rttRuns_proved : Rows.RttRunsSaid := rttRuns_over
#print axioms rttRuns_proved
end Go.Proofs.Ytogbpmkfnjebcaa
