/- Structs of one-cell fields that came in: each field reads as its type says. No condition. -/
import Derived.Test.YtnidpncacgknkaaFrame
import Derived.Deep.Fields
import Derived.ChangeArms
import Derived.WideShapes
namespace Go.Proofs.Ytnidpncacgknkaa
open Go.ChangeShapes Go.WideShapes Go.ChangeAt Go.RowKit Go.Deep

section
variable {H : Type} {enc : TypeId × Value → H} {P : Program} {w : World} {base : Nat} {spare : Nat → Bool} {held : Bool}
theorem fields_of {t : TypeId} {fs : Array Field} {fuel : Nat} {cs : List Value} {x : DataW H × List MemPlace} (hs : P.underlying t = some (.struct fs)) (hone : oneCellFields P fs = true) (hC : P.cellsOf t = fs.size)
    (h : DataW.trod enc P w base spare held fuel t cs = some x) :
    cs.length = fs.size ∧ ∀ (j : Nat) (f : Field) (c : Value), fs[j]? = some f → cs[j]? = some c → ∃ (m : Nat) (y : DataW H × List MemPlace), DataW.trod enc P w base spare held m f.type [c] = some y := by
  obtain ⟨xs, n, _, _, hl, hlen, hf⟩ := DataW.trod_struct hs h
  refine ⟨hl.trans hC, fun j f c hj hc => ?_⟩
  have h1 := hf j f hj
  obtain ⟨ho, hk⟩ := hone_of hone j f hj
  rw [ho, hk] at h1
  obtain ⟨hjl, hce⟩ := List.getElem?_eq_some_iff.1 hc
  have e : (cs.drop j).take 1 = [c] := by
    rw [List.drop_eq_getElem_cons hjl, hce]
    rfl
  rw [e] at h1
  have hx : xs[j]? = some (xs[j]'(by rw [hlen]; exact (Array.getElem?_eq_some_iff.1 hj).1)) := List.getElem?_eq_getElem _
  exact ⟨n, _, h1.trans hx⟩
/-- a struct that came in by value -/
theorem agg_of {r : Reach} {b0 : Nat} {t : TypeId} {fs : Array Field} {v : Value} {d : DataW H} {p : List MemPlace} (hs : P.underlying t = some (.struct fs)) (hv : Value.okWide P w r b0 t v) (h : DataW.Trod enc P w base spare held t v d p) :
    ∃ (cs : List Value) (fuel : Nat) (x : DataW H × List MemPlace), v = .agg cs.toArray ∧ DataW.trod enc P w base spare held fuel t cs = some x := by
  obtain ⟨cs, rfl, _⟩ := okWide_struct hs hv
  obtain ⟨l⟩ := cs
  obtain ⟨fuel, hf⟩ := h
  exact ⟨l, fuel, _, rfl, hf⟩
end
end Go.Proofs.Ytnidpncacgknkaa
