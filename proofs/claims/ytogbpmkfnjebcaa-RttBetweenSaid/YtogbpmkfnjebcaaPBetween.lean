/- The statement RttBetween: the row round its walk. No condition. -/
import Derived.Test.YtogbpmkfnjebcaaBetween
import Derived.Test.YtogbpmkfnjebcaaFrame
import Derived.ProofKit
import Derived.OpenShut
import Derived.ShutString
import Derived.ChangeOld
import Derived.Below
import Derived.Lib.SmallJoins
namespace Go.Proofs.Ytogbpmkfnjebcaa
open Go.ChangeShapes Go.WideShapes Go.ChangeAt Go.RowKit Go.Joins
open Go.ChangeMaps (open_string shut_string)

set_option maxRecDepth 100000 in
theorem rttBetween_lifted (os : Os) (started : os.Started) (H : Type) (enc : TypeId × Value → H) :
    ReturnsInHanded {} Try.checked os 5 .any (Rows.rttBetweenSpec.pre6 enc Try.prog Try.f5 Rows.rttBetweenRow.domain false) (Rows.rttBetweenSpec.post enc Try.prog Try.f5 false true false false) := by
  refine returnsInHanded_of_change (C := Try.checked) own started (by kernel_rfl) Try.func5
    (ChangeSpec.witness6 (enc := enc) (C := Try.checked) false ⟨#[], #[.slice none 0 0], []⟩ 8 (by kernel_rfl) (by kernel_rfl) (by kernel_rfl) (by kernel_rfl)) ?_
  intro W base args ds gs before hval0 hW hcnd _
  have hval : ∀ (j : Nat) t v, Try.f5.params[j]? = some t → args[j]? = some v → Value.okWide Try.prog W .any base t v := hval0
  have hW' := hW
  obtain ⟨p, q, hA0, hV, rfl, hfz, hnd⟩ := hW
  have hA : DataW.TrodAll enc Try.prog W 0 (fun _ => true) true Try.f5.params.toList args.toList ds p := hA0
  rw [Try.params5] at hA hval
  obtain ⟨v0, vs0, d0, ds0, p0, q0, hargs, rfl, rfl, h0, r0⟩ := trodAll_cons hA
  obtain ⟨rfl, rfl, rfl⟩ := trodAll_nil r0
  obtain rfl : args = #[v0] := by cases args; simp_all
  obtain ⟨rfl, rfl⟩ := trodVars_none hV
  obtain ⟨x0, len0, cap0, rfl⟩ := okWide_slice Try.underlying32 (hval 0 32 v0 rfl rfl)
  have k0 := h0
  have lt0 : ∀ x ∈ p0, x.block < W.heap.size := by obtain ⟨m, hm⟩ := k0; exact DataW.trod_lt m _ _ _ hm
  obtain ⟨z0, wf0, hR0, n0⟩ : ∃ ps : List (Int × Int), (∀ a ∈ ps, (Lit.int .u16 a.1).wf = true ∧ (Lit.int .u16 a.2).wf = true) ∧ Arr W 2 (.slice x0 len0 cap0) ps.length (ps.flatMap fun a => [.int .u16 a.1, .int .u16 a.2]) ∧ len0 = ps.length := by
    obtain ⟨fuel, hf⟩ := h0
    exact arr_of_slice (fun a : Int × Int => (Lit.int .u16 a.1).wf = true ∧ (Lit.int .u16 a.2).wf = true) (fun a : Int × Int => [.int .u16 a.1, .int .u16 a.2]) 2 (fun _ => rfl) (by decide) (by kernel_rfl) Try.underlying32 hf (pair_of_array Try.underlying34 Try.underlying33 (by kernel_rfl) (by kernel_rfl))
  clear hA0 hval0
  subst n0
  refine (between5 _ z0 W hR0 (fun p hp => ⟨u16_of_wf (wf0 p hp).1, u16_of_wf (wf0 p hp).2⟩)).mono fun e W' ⟨he, bel⟩ => ?_
  subst he
  exact ⟨_, rfl, _, _, _, [], _, [], hW', trodAll_mk1 (shut_bool Try.underlying4 _), (trodAll_cons_mk (Below.trod laidOut (by kernel_rfl) (of_decide_eq_true (by kernel_rfl)) k0 bel lt0) trodAll_mk0), rfl, bel.frame _, fun h => by cases h⟩

theorem rttBetween_over : Rows.rttBetweenRow.holds Try.pinned (OpenSpec.ofChange Rows.rttBetweenSpec) :=
  OpenClaim.holds_of_wide 5 Try.f5 rfl rfl rfl rfl rfl rfl rfl ⟨rfl, rfl, rfl, rfl, rfl⟩ rfl rfl rfl rfl rfl (by kernel_rfl) Try.func5 (by kernel_rfl)
    (of_decide_eq_true (by kernel_rfl)) (by unfold Func.isWrapper; first | (rw [if_pos (by decide +kernel)]; kernel_rfl) | (rw [if_neg (by decide +kernel)]; exact ⟨rfl, rfl⟩))
    (fun os started H enc _ => rttBetween_lifted os started H enc)

theorem rttBetween_proved : Rows.RttBetweenSaid := rttBetween_over
#print axioms rttBetween_proved
end Go.Proofs.Ytogbpmkfnjebcaa
