/- Bytes, texts and tags that came in: each reads as a list. No condition. -/
import Derived.Test.YtnidpncacgknkaaStruct
import Derived.Test.YtnidpncacgknkaaMac
namespace Go.Proofs.Ytnidpncacgknkaa
open Go.ChangeShapes Go.WideShapes Go.ChangeAt Go.RowKit Go.Deep
theorem bb_of {x : Int} (h : (Lit.int .u8 x).wf = true) : Value.int .u8 x = bb (BitVec.ofNat 8 x.toNat) := by
  have := u8_of_wf h
  unfold bb bn
  rw [BitVec.toNat_ofNat]
  congr 1
  omega
section
variable {H : Type} {enc : TypeId × Value → H} {w : World} {base : Nat} {spare : Nat → Bool} {held : Bool}
theorem flat_bl (l : List B8) : (l.flatMap fun b => [bb b]) = bl l := by
  induction l with
  | nil => rfl
  | cons a l ih => rw [List.flatMap_cons, ih]; rfl
theorem byte_in (n : Nat) (cs : List Value) (y : DataW H × List MemPlace) (h : DataW.trod enc Try.prog w base spare held n 5 cs = some y) : ∃ b : B8, True ∧ cs = [bb b] := by
  obtain ⟨x, hx, _, wx⟩ := DataW.trod_int Try.underlying5 h
  exact ⟨_, trivial, by rw [hx, bb_of wx]⟩
theorem bytes_in {fuel len cap : Nat} {x : Option Addr} {y : DataW H × List MemPlace} (h : DataW.trod enc Try.prog w base spare held fuel 22 [.slice x len cap] = some y) :
    ∃ l : List B8, Shape (.slice x len cap) ∧ Arr w 1 (.slice x len cap) l.length (bl l) ∧ len = l.length := by
  obtain ⟨l, _, h2, h3⟩ := arr_of_slice (fun _ : B8 => True) (fun b => [bb b]) 1 (fun _ => rfl) (by decide) (by kernel_rfl) Try.underlying22 h byte_in
  rw [flat_bl] at h2
  exact ⟨l, shape_of Try.underlying22 h, h2, h3⟩
theorem text_in (n : Nat) (cs : List Value) (y : DataW H × List MemPlace) (h : DataW.trod enc Try.prog w base spare held n 22 cs = some y) :
    ∃ a : Value × List B8, (Arr w 1 a.1 a.2.length (bl a.2) ∧ Shape a.1) ∧ cs = [a.1] := by
  rcases Go.Deep.open_slice Try.underlying22 h with ⟨rfl, _⟩ | ⟨a, l, c, m, n', D, Pl, rfl, _⟩
  · obtain ⟨z, h1, h2, _⟩ := bytes_in h
    exact ⟨(_, z), ⟨h2, h1⟩, rfl⟩
  · obtain ⟨z, h1, h2, _⟩ := bytes_in h
    exact ⟨(_, z), ⟨h2, h1⟩, rfl⟩
theorem flat_one {α β : Type} (l : List (α × β)) : (l.flatMap fun a => [a.1]) = l.map (·.1) := by
  induction l with
  | nil => rfl
  | cons a l ih => rw [List.flatMap_cons, ih]; rfl
theorem texts_in {fuel len cap : Nat} {x : Option Addr} {y : DataW H × List MemPlace} (h : DataW.trod enc Try.prog w base spare held fuel 34 [.slice x len cap] = some y) :
    ∃ ts : List (List B8), Shape (.slice x len cap) ∧ Texts w (.slice x len cap) ts ∧ len = ts.length := by
  obtain ⟨ps, h1, h2, h3⟩ := arr_of_slice (fun a : Value × List B8 => Arr w 1 a.1 a.2.length (bl a.2) ∧ Shape a.1) (fun a => [a.1]) 1 (fun _ => rfl) (by decide) (by kernel_rfl) Try.underlying34 h text_in
  rw [flat_one] at h2
  refine ⟨ps.map (·.2), shape_of Try.underlying34 h, ⟨ps.map (·.1), by simp, by simpa using h2, fun i v t hv ht => ?_⟩, by simpa using h3⟩
  rw [List.getElem?_map] at hv ht
  cases hp : ps[i]? with
  | none => rw [hp] at hv; simp at hv
  | some a =>
    rw [hp] at hv ht
    simp at hv ht
    subst hv ht
    exact h1 a (List.mem_of_getElem? hp)
/-- sixteen bytes that came in -/
theorem tag_in {fuel : Nat} {cs : List Value} {y : DataW H × List MemPlace} (h : DataW.trod enc Try.prog w base spare held fuel 26 cs = some y) : ∃ l : List B8, l.length = 16 ∧ cs = bl l := by
  obtain ⟨xs, m, _, _, hl, hx, hat⟩ := DataW.trod_array Try.underlying26 h
  have c26 : Try.prog.cellsOf 26 = 16 := by kernel_rfl
  have c5 : Try.prog.cellsOf 5 = 1 := by kernel_rfl
  rw [c26] at hl
  rw [c5] at hat
  obtain ⟨l, hll, hlq⟩ := exists_list (q := fun i b => cs[i]? = some (bb b)) 16 fun i hi => by
    obtain ⟨b, _, hb⟩ := byte_in _ _ _ ((hat i (by omega)).trans (List.getElem?_eq_getElem (show i < xs.length by omega)))
    have hic : i < cs.length := by omega
    rw [Nat.mul_one, List.drop_eq_getElem_cons hic] at hb
    simp only [List.take_succ_cons, List.take_zero, List.cons.injEq, and_true] at hb
    exact ⟨b, by rw [List.getElem?_eq_getElem (by omega)]; exact congrArg some hb⟩
  refine ⟨l, hll, List.ext_getElem? fun i => ?_⟩
  by_cases hi : i < 16
  · rw [hlq i (by omega)]
    simp [bl, hll, hi]
  · rw [List.getElem?_eq_none (by omega), List.getElem?_eq_none (by simp [bl]; omega)]
theorem tag_of {r : Reach} {b0 : Nat} {v : Value} {d : DataW H} {p : List MemPlace} (hv : Value.okWide Try.prog w r b0 26 v) (h : DataW.Trod enc Try.prog w base spare held 26 v d p) : ∃ l : List B8, v = bagg l ∧ l.length = 16 := by
  simp only [Value.okWide, Try.underlying26] at hv
  obtain ⟨cs, rfl, _⟩ := hv
  obtain ⟨c⟩ := cs
  obtain ⟨fuel, hf⟩ := h
  obtain ⟨l, hl, he⟩ := tag_in hf
  refine ⟨l, ?_, hl⟩
  unfold bagg
  simp only [Value.cells] at he
  rw [← he]
end
end Go.Proofs.Ytnidpncacgknkaa
