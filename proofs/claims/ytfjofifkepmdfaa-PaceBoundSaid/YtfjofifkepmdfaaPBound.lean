/- The statement PaceBound: the row round its walk. No condition. -/
import Derived.Test.YtfjofifkepmdfaaBound
import Derived.Test.YtfjofifkepmdfaaFrame
import Derived.ProofKit
import Derived.OpenShut
import Derived.ShutString
import Derived.ChangeOld
import Derived.Below
import Derived.Lib.SmallJoins
namespace Go.Proofs.Ytfjofifkepmdfaa
open Go.ChangeShapes Go.WideShapes Go.ChangeAt Go.RowKit Go.Joins
open Go.ChangeMaps (open_string shut_string)

set_option maxRecDepth 100000 in
theorem paceBound_lifted (os : Os) (started : os.Started) (H : Type) (enc : TypeId × Value → H) :
    ReturnsInHanded {} Try.checked os 4 .any (Rows.paceBoundSpec.pre6 enc Try.prog Try.f4 Rows.paceBoundRow.domain false) (Rows.paceBoundSpec.post enc Try.prog Try.f4 false true false false) := by
  refine returnsInHanded_of_change (C := Try.checked) own started (by kernel_rfl) Try.func4
    (ChangeSpec.witness6 (enc := enc) (C := Try.checked) false ⟨#[], #[.int .u16 0, .int .u16 0, .slice none 0 0], []⟩ 8 (by kernel_rfl) (by kernel_rfl) (by kernel_rfl) (by kernel_rfl)) ?_
  intro W base args ds gs before hval0 hW hcnd _
  have hval : ∀ (j : Nat) t v, Try.f4.params[j]? = some t → args[j]? = some v → Value.okWide Try.prog W .any base t v := hval0
  have hW' := hW
  obtain ⟨p, q, hA0, hV, rfl, hfz, hnd⟩ := hW
  have hA : DataW.TrodAll enc Try.prog W 0 (fun _ => true) true Try.f4.params.toList args.toList ds p := hA0
  rw [Try.params4] at hA hval
  obtain ⟨v0, vs0, d0, ds0, p0, q0, hargs, rfl, rfl, h0, r0⟩ := trodAll_cons hA
  obtain ⟨v1, vs1, d1, ds1, p1, q1, rfl, rfl, rfl, h1, r1⟩ := trodAll_cons r0
  obtain ⟨v2, vs2, d2, ds2, p2, q2, rfl, rfl, rfl, h2, r2⟩ := trodAll_cons r1
  obtain ⟨rfl, rfl, rfl⟩ := trodAll_nil r2
  obtain rfl : args = #[v0, v1, v2] := by cases args; simp_all
  obtain ⟨rfl, rfl⟩ := trodVars_none hV
  obtain ⟨a0, rfl, rfl, rfl, w0⟩ := open_int Try.underlying33 (hval 0 33 v0 rfl rfl) h0
  obtain ⟨a1, rfl, rfl, rfl, w1⟩ := open_int Try.underlying33 (hval 1 33 v1 rfl rfl) h1
  obtain ⟨x2, len2, cap2, rfl⟩ := okWide_slice Try.underlying34 (hval 2 34 v2 rfl rfl)
  have k2 := h2
  have lt2 : ∀ x ∈ p2, x.block < W.heap.size := by obtain ⟨m, hm⟩ := k2; exact DataW.trod_lt m _ _ _ hm
  obtain ⟨z2, wf2, hR2, n2⟩ : ∃ ps : List (Int × Int), (∀ a ∈ ps, (Lit.int .u16 a.1).wf = true ∧ (Lit.int .u16 a.2).wf = true) ∧ Arr W 2 (.slice x2 len2 cap2) ps.length (ps.flatMap fun a => [.int .u16 a.1, .int .u16 a.2]) ∧ len2 = ps.length := by
    obtain ⟨fuel, hf⟩ := h2
    exact arr_of_slice (fun a : Int × Int => (Lit.int .u16 a.1).wf = true ∧ (Lit.int .u16 a.2).wf = true) (fun a : Int × Int => [.int .u16 a.1, .int .u16 a.2]) 2 (fun _ => rfl) (by decide) (by kernel_rfl) Try.underlying34 hf (pair_of_array Try.underlying35 Try.underlying33 (by kernel_rfl) (by kernel_rfl))
  clear hA0 hval0
  subst n2
  refine (bound4 (.slice x2 z2.length cap2) a0 a1 z2 W hR2 (fun x hx => ⟨u16_of_wf (wf2 x hx).1, u16_of_wf (wf2 x hx).2⟩) (u16_of_wf w0).1 (u16_of_wf w0).2 (u16_of_wf w1).1 (u16_of_wf w1).2).mono fun e W' ⟨he, bel⟩ => ?_
  subst he
  exact ⟨_, rfl, _, _, _, [], _, [], hW', trodAll_mk1 (shut_bool Try.underlying4 _), (trodAll_cons_mk (shut_int Try.underlying33 w0) (trodAll_cons_mk (shut_int Try.underlying33 w1) (trodAll_cons_mk (Below.trod laidOut (by kernel_rfl) (of_decide_eq_true (by kernel_rfl)) k2 bel lt2) trodAll_mk0))), rfl, bel.frame _, fun h => by cases h⟩

theorem paceBound_over : Rows.paceBoundRow.holds Try.pinned (OpenSpec.ofChange Rows.paceBoundSpec) :=
  OpenClaim.holds_of_wide 4 Try.f4 rfl rfl rfl rfl rfl rfl rfl ⟨rfl, rfl, rfl, rfl, rfl⟩ rfl rfl rfl rfl rfl (by kernel_rfl) Try.func4 (by kernel_rfl)
    (of_decide_eq_true (by kernel_rfl)) (by unfold Func.isWrapper; first | (rw [if_pos (by decide +kernel)]; kernel_rfl) | (rw [if_neg (by decide +kernel)]; exact ⟨rfl, rfl⟩))
    (fun os started H enc _ => paceBound_lifted os started H enc)

theorem paceBound_proved : Rows.PaceBoundSaid := paceBound_over
#print axioms paceBound_proved
end Go.Proofs.Ytfjofifkepmdfaa
