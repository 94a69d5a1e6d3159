/- Paths, packets, and slices of packets that came in. No condition. -/
import Derived.Test.YteikpgahdjhhkaaStruct
import Derived.Test.YteikpgahdjhhkaaCame
namespace Go.Proofs.Yteikpgahdjhhkaa
open Go.ChangeShapes Go.WideShapes Go.ChangeAt Go.RowKit Go.Deep

section
variable {H : Type} {enc : TypeId × Value → H} {w : World} {base : Nat} {spare : Nat → Bool} {held : Bool}
theorem pt_of_cells {n : Nat} {cs : List Value} {y : DataW H × List MemPlace} (h : DataW.trod enc Try.prog w base spare held n 23 cs = some y) : ∃ q : Pt, cs = [.int .i64 q.z, .int .i64 q.h, .int .i64 q.a, .int .i64 q.f, .int .i64 q.b] := by
  obtain ⟨hl, hf⟩ := fields_of Try.underlying23 (by kernel_rfl) (by kernel_rfl) h
  match cs, hl with
  | [c0, c1, c2, c3, c4], _ =>
    obtain ⟨_, _, h0⟩ := hf 0 _ c0 rfl rfl
    obtain ⟨_, _, h1⟩ := hf 1 _ c1 rfl rfl
    obtain ⟨_, _, h2⟩ := hf 2 _ c2 rfl rfl
    obtain ⟨_, _, h3⟩ := hf 3 _ c3 rfl rfl
    obtain ⟨_, _, h4⟩ := hf 4 _ c4 rfl rfl
    obtain ⟨a0, e0, _⟩ := DataW.trod_int Try.underlying3 h0
    obtain ⟨a1, e1, _⟩ := DataW.trod_int Try.underlying3 h1
    obtain ⟨a2, e2, _⟩ := DataW.trod_int Try.underlying3 h2
    obtain ⟨a3, e3, _⟩ := DataW.trod_int Try.underlying3 h3
    obtain ⟨a4, e4, _⟩ := DataW.trod_int Try.underlying3 h4
    simp at e0 e1 e2 e3 e4
    exact ⟨⟨a0, a1, a2, a3, a4⟩, by rw [e0, e1, e2, e3, e4]⟩
theorem snt_of_cells (n : Nat) (cs : List Value) (y : DataW H × List MemPlace) (h : DataW.trod enc Try.prog w base spare held n 40 cs = some y) : ∃ s : Snt, True ∧ cs = sc s := by
  obtain ⟨hl, hf⟩ := fields_of Try.underlying40 (by kernel_rfl) (by kernel_rfl) h
  match cs, hl with
  | [c0, c1, c2, c3, c4], _ =>
    obtain ⟨_, _, h0⟩ := hf 0 _ c0 rfl rfl
    obtain ⟨_, _, h1⟩ := hf 1 _ c1 rfl rfl
    obtain ⟨_, _, h2⟩ := hf 2 _ c2 rfl rfl
    obtain ⟨_, _, h3⟩ := hf 3 _ c3 rfl rfl
    obtain ⟨_, _, h4⟩ := hf 4 _ c4 rfl rfl
    obtain ⟨a0, e0, _⟩ := DataW.trod_int Try.underlying3 h0
    obtain ⟨a1, e1, _⟩ := DataW.trod_int Try.underlying3 h1
    obtain ⟨a2, e2, _⟩ := DataW.trod_int Try.underlying3 h2
    obtain ⟨a3, e3, _⟩ := DataW.trod_bool Try.underlying4 h3
    obtain ⟨a4, e4, _⟩ := DataW.trod_bool Try.underlying4 h4
    simp at e0 e1 e2 e3 e4
    exact ⟨⟨a0, a1, a2, a3, a4⟩, trivial, by rw [e0, e1, e2, e3, e4]; rfl⟩
theorem pt_of {r : Reach} {b0 : Nat} {v : Value} {d : DataW H} {p : List MemPlace} (hv : Value.okWide Try.prog w r b0 23 v) (h : DataW.Trod enc Try.prog w base spare held 23 v d p) : ∃ q : Pt, v = pv q := by
  obtain ⟨cs, n, y, rfl, hf⟩ := agg_of Try.underlying23 hv h
  obtain ⟨q, rfl⟩ := pt_of_cells hf
  exact ⟨q, rfl⟩
theorem snts_of {fuel len cap : Nat} {x : Option Addr} {y : DataW H × List MemPlace} (h : DataW.trod enc Try.prog w base spare held fuel 24 [.slice x len cap] = some y) :
    ∃ l : List Snt, (∀ a ∈ l, True) ∧ Arr w 5 (.slice x len cap) l.length (l.flatMap sc) ∧ len = l.length :=
  arr_of_slice (fun _ => True) sc 5 (fun _ => rfl) (by decide) (by kernel_rfl) Try.underlying24 h snt_of_cells
end
end Go.Proofs.Yteikpgahdjhhkaa
