/- Structs of many cells: what was stored whole; what a call returns of its two result cells. No condition. -/
import Derived.Test.YtjgaljnojhkimaaWr
import Derived.Test.YtjgaljnojhkimaaPlain
import Derived.Deep.MidRow
namespace Go.Proofs.Ytjgaljnojhkimaa
open Go.RowKit

theorem sets_at {g : Nat} {t : TypeId} : ∀ (vs : List Value) (o : Nat) (cs : Array Value) (W : World), Blk W g t cs →
    ∃ cs', Blk (W.setCells g o vs) g t cs' ∧ cs'.size = cs.size ∧ ∀ j, j < cs.size → cs'[j]? = if o ≤ j ∧ j < o + vs.length then vs[j - o]? else cs[j]?
  | [], o, cs, W, h => ⟨cs, h, rfl, fun j _ => by rw [if_neg (by simp)]⟩
  | v :: r, o, cs, W, h => by
    obtain ⟨cs', h1, h2, h3⟩ := sets_at r (o + 1) _ _ (h.set_ o v)
    refine ⟨cs', h1, by rw [h2]; simp, fun j hj => ?_⟩
    rw [h3 j (by simpa using hj)]
    by_cases h4 : o + 1 ≤ j ∧ j < o + 1 + r.length
    · rw [if_pos h4, if_pos (by simp only [List.length_cons]; omega), show j - o = (j - (o + 1)) + 1 by omega]
      rfl
    · rw [if_neg h4]
      by_cases h5 : j = o
      · subst h5
        rw [if_pos (by simp only [List.length_cons]; omega), Array.getElem?_setIfInBounds_self_of_lt hj, Nat.sub_self]
        rfl
      · rw [if_neg (by simp only [List.length_cons]; omega), Array.getElem?_setIfInBounds_ne (by omega)]
theorem blk_sets {W : World} {g : Nat} {t : TypeId} {cs : Array Value} {vs : List Value} (h : Blk W g t cs) (hs : cs.size = vs.length) : Blk (W.setCells g 0 vs) g t vs.toArray := by
  obtain ⟨cs', h1, h2, h3⟩ := sets_at vs 0 cs W h
  refine h1.cast (Array.ext_getElem? fun j => ?_)
  by_cases hj : j < cs.size
  · rw [h3 j hj, if_pos (by omega)]
    simp
  · rw [Array.getElem?_eq_none (by omega)]
    simp
    omega
theorem far_sets {W : World} {g g' : Nat} {t : TypeId} {cs : Array Value} (h : Blk W g t cs) (hne : g ≠ g') : ∀ (vs : List Value) (o : Nat), Blk (W.setCells g' o vs) g t cs := by
  intro vs
  induction vs generalizing W with
  | nil => intro o; exact h
  | cons v r ih => intro o; exact ih (h.far (p := ⟨g', o, none⟩) hne v) (o + 1)
theorem later_sets {a W : World} {g : Nat} (h : Later a W) (hg : a.heap.size ≤ g) : ∀ (vs : List Value) (o : Nat), Later a (W.setCells g o vs) := by
  intro vs
  induction vs generalizing W with
  | nil => intro o; exact h
  | cons v r ih => intro o; exact ih (h.set (p := ⟨g, o, none⟩) hg v) (o + 1)
theorem Blk.range {W : World} {g : Nat} {t : TypeId} {cs : List Value} (h : Blk W g t cs.toArray) : W.rangeAt g 0 cs := fun j v hv => by
  rw [Nat.zero_add, h.cell j]
  simpa using hv

theorem Blk.at12 {w : World} {g : Nat} {t : TypeId} {a0 a1 a2 a3 a4 a5 a6 a7 a8 a9 a10 a11 : Value} (h : Blk w g t #[a0, a1, a2, a3, a4, a5, a6, a7, a8, a9, a10, a11]) : w.cell? ⟨g, 0, none⟩ = some a0 ∧ w.cell? ⟨g, 1, none⟩ = some a1 ∧ w.cell? ⟨g, 2, none⟩ = some a2 ∧ w.cell? ⟨g, 3, none⟩ = some a3 ∧ w.cell? ⟨g, 4, none⟩ = some a4 ∧ w.cell? ⟨g, 5, none⟩ = some a5 ∧ w.cell? ⟨g, 6, none⟩ = some a6 ∧ w.cell? ⟨g, 7, none⟩ = some a7 ∧ w.cell? ⟨g, 8, none⟩ = some a8 ∧ w.cell? ⟨g, 9, none⟩ = some a9 ∧ w.cell? ⟨g, 10, none⟩ = some a10 ∧ w.cell? ⟨g, 11, none⟩ = some a11 ∧ w.frozen? ⟨g, 0, none⟩ = false ∧ w.frozen? ⟨g, 1, none⟩ = false ∧ w.frozen? ⟨g, 2, none⟩ = false ∧ w.frozen? ⟨g, 3, none⟩ = false ∧ w.frozen? ⟨g, 4, none⟩ = false ∧ w.frozen? ⟨g, 5, none⟩ = false ∧ w.frozen? ⟨g, 6, none⟩ = false ∧ w.frozen? ⟨g, 7, none⟩ = false ∧ w.frozen? ⟨g, 8, none⟩ = false ∧ w.frozen? ⟨g, 9, none⟩ = false ∧ w.frozen? ⟨g, 10, none⟩ = false ∧ w.frozen? ⟨g, 11, none⟩ = false ∧ g < w.heap.size :=
  ⟨h.cell 0, h.cell 1, h.cell 2, h.cell 3, h.cell 4, h.cell 5, h.cell 6, h.cell 7, h.cell 8, h.cell 9, h.cell 10, h.cell 11, h.frozen 0, h.frozen 1, h.frozen 2, h.frozen 3, h.frozen 4, h.frozen 5, h.frozen 6, h.frozen 7, h.frozen 8, h.frozen 9, h.frozen 10, h.frozen 11, h.lt⟩
theorem Blk.at13 {w : World} {g : Nat} {t : TypeId} {a0 a1 a2 a3 a4 a5 a6 a7 a8 a9 a10 a11 a12 : Value} (h : Blk w g t #[a0, a1, a2, a3, a4, a5, a6, a7, a8, a9, a10, a11, a12]) : w.cell? ⟨g, 0, none⟩ = some a0 ∧ w.cell? ⟨g, 1, none⟩ = some a1 ∧ w.cell? ⟨g, 2, none⟩ = some a2 ∧ w.cell? ⟨g, 3, none⟩ = some a3 ∧ w.cell? ⟨g, 4, none⟩ = some a4 ∧ w.cell? ⟨g, 5, none⟩ = some a5 ∧ w.cell? ⟨g, 6, none⟩ = some a6 ∧ w.cell? ⟨g, 7, none⟩ = some a7 ∧ w.cell? ⟨g, 8, none⟩ = some a8 ∧ w.cell? ⟨g, 9, none⟩ = some a9 ∧ w.cell? ⟨g, 10, none⟩ = some a10 ∧ w.cell? ⟨g, 11, none⟩ = some a11 ∧ w.cell? ⟨g, 12, none⟩ = some a12 ∧ w.frozen? ⟨g, 0, none⟩ = false ∧ w.frozen? ⟨g, 1, none⟩ = false ∧ w.frozen? ⟨g, 2, none⟩ = false ∧ w.frozen? ⟨g, 3, none⟩ = false ∧ w.frozen? ⟨g, 4, none⟩ = false ∧ w.frozen? ⟨g, 5, none⟩ = false ∧ w.frozen? ⟨g, 6, none⟩ = false ∧ w.frozen? ⟨g, 7, none⟩ = false ∧ w.frozen? ⟨g, 8, none⟩ = false ∧ w.frozen? ⟨g, 9, none⟩ = false ∧ w.frozen? ⟨g, 10, none⟩ = false ∧ w.frozen? ⟨g, 11, none⟩ = false ∧ w.frozen? ⟨g, 12, none⟩ = false ∧ g < w.heap.size :=
  ⟨h.cell 0, h.cell 1, h.cell 2, h.cell 3, h.cell 4, h.cell 5, h.cell 6, h.cell 7, h.cell 8, h.cell 9, h.cell 10, h.cell 11, h.cell 12, h.frozen 0, h.frozen 1, h.frozen 2, h.frozen 3, h.frozen 4, h.frozen 5, h.frozen 6, h.frozen 7, h.frozen 8, h.frozen 9, h.frozen 10, h.frozen 11, h.frozen 12, h.lt⟩
abbrev iv (n : Int) : Value := .int .i64 n
abbrev al (a : Ac) : List Value := [.int .i64 a.kind, .int .i64 a.rune, .bool a.mark, .int .i64 a.many, .int .i64 a.p0, .int .i64 a.p1, .int .i64 a.p2, .int .i64 a.p3, .int .i64 a.p4, .int .i64 a.p5, .int .i64 a.p6, .int .i64 a.p7]
abbrev av (a : Ac) : Value := .agg #[.int .i64 a.kind, .int .i64 a.rune, .bool a.mark, .int .i64 a.many, .int .i64 a.p0, .int .i64 a.p1, .int .i64 a.p2, .int .i64 a.p3, .int .i64 a.p4, .int .i64 a.p5, .int .i64 a.p6, .int .i64 a.p7]
abbrev ac (a : Ac) : Array Value := #[.int .i64 a.kind, .int .i64 a.rune, .bool a.mark, .int .i64 a.many, .int .i64 a.p0, .int .i64 a.p1, .int .i64 a.p2, .int .i64 a.p3, .int .i64 a.p4, .int .i64 a.p5, .int .i64 a.p6, .int .i64 a.p7]
abbrev pl (p : Pa) : List Value := [.int .i64 p.st, .int .i64 p.a.kind, .int .i64 p.a.rune, .bool p.a.mark, .int .i64 p.a.many, .int .i64 p.a.p0, .int .i64 p.a.p1, .int .i64 p.a.p2, .int .i64 p.a.p3, .int .i64 p.a.p4, .int .i64 p.a.p5, .int .i64 p.a.p6, .int .i64 p.a.p7]
abbrev pv (p : Pa) : Value := .agg #[.int .i64 p.st, .int .i64 p.a.kind, .int .i64 p.a.rune, .bool p.a.mark, .int .i64 p.a.many, .int .i64 p.a.p0, .int .i64 p.a.p1, .int .i64 p.a.p2, .int .i64 p.a.p3, .int .i64 p.a.p4, .int .i64 p.a.p5, .int .i64 p.a.p6, .int .i64 p.a.p7]
abbrev pc (p : Pa) : Array Value := #[.int .i64 p.st, .int .i64 p.a.kind, .int .i64 p.a.rune, .bool p.a.mark, .int .i64 p.a.many, .int .i64 p.a.p0, .int .i64 p.a.p1, .int .i64 p.a.p2, .int .i64 p.a.p3, .int .i64 p.a.p4, .int .i64 p.a.p5, .int .i64 p.a.p6, .int .i64 p.a.p7]

theorem und27 : ∃ d, Try.prog.underlying 27 = some d ∧ d.isRow = true := ⟨_, Try.underlying27, rfl⟩
theorem und25 : ∃ d, Try.prog.underlying 25 = some d ∧ d.isRow = true := ⟨_, Try.underlying25, rfl⟩
theorem size27 : (Try.prog.info? 27).map (·.size) = some 13 := by kernel_rfl
theorem size25 : (Try.prog.info? 25).map (·.size) = some 12 := by kernel_rfl
theorem und44 : ∃ d, Try.prog.underlying 44 = some d ∧ d.isRow = true := ⟨_, Try.underlying44, rfl⟩
theorem size44 : (Try.prog.info? 44).map (·.size) = some 13 := by kernel_rfl
theorem load44 {W : World} {g : Nat} {t : TypeId} (p : Pa) (h : Blk W g t (pc p)) : (loadVar 44 ⟨g, 0, none⟩).run Try.prog W = .ok (pv p) W := by
  obtain ⟨d, h1, h2⟩ := und44
  exact run_loadVar_mid W g 0 44 (pl p) d (Blk.range h) h1 h2 size44
theorem load27 {W : World} {g : Nat} (p : Pa) (h : Blk W g 27 (pc p)) : (loadVar 27 ⟨g, 0, none⟩).run Try.prog W = .ok (pv p) W := by
  obtain ⟨d, h1, h2⟩ := und27
  exact run_loadVar_mid W g 0 27 (pl p) d (Blk.range h) h1 h2 size27
theorem load25 {W : World} {g : Nat} (a : Ac) (h : Blk W g 25 (ac a)) : (loadVar 25 ⟨g, 0, none⟩).run Try.prog W = .ok (av a) W := by
  obtain ⟨d, h1, h2⟩ := und25
  exact run_loadVar_mid W g 0 25 (al a) d (Blk.range h) h1 h2 size25

/-- cells, as they stand -/
def cellsAt (w : World) (g o n : Nat) : Array Value := ((List.range n).map fun j => (w.cell? ⟨g, o + j, none⟩).getD undef).toArray
theorem cellsAt_of {w : World} {g o n : Nat} {cs : List Value} (h : w.rangeAt g o cs) (hn : cs.length = n) : cellsAt w g o n = cs.toArray := by
  unfold cellsAt
  congr 1
  apply List.ext_getElem?
  intro j
  by_cases hj : j < n
  · rw [List.getElem?_map, List.getElem?_range hj]
    have := h j cs[j] (by simp [hn, hj])
    simp [this, hn, hj]
  · rw [List.getElem?_eq_none (by simp; omega), List.getElem?_eq_none (by omega)]
theorem range_cells {w : World} {g o n : Nat} (h : w.there g o n) : w.rangeAt g o (cellsAt w g o n).toList := by
  intro j v hv
  unfold cellsAt at hv
  simp only [List.getElem?_map] at hv
  by_cases hj : j < n
  · rw [List.getElem?_range hj] at hv
    obtain ⟨u, hu⟩ := Option.isSome_iff_exists.1 (h j hj).1
    simp only [Option.map_some, Option.some.injEq] at hv
    rw [hu] at hv ⊢
    simpa using hv
  · rw [List.getElem?_eq_none (by simp; omega)] at hv
    cases hv
theorem cellsAt_len (w : World) (g o n : Nat) : (cellsAt w g o n).toList.length = n := by simp [cellsAt]
theorem Blk.there {W : World} {g : Nat} {t : TypeId} {cs : Array Value} (h : Blk W g t cs) {o n : Nat} (hn : o + n ≤ cs.size) : W.there g o n := fun j hj =>
  ⟨by rw [h.cell, Array.getElem?_eq_getElem (by omega)]; rfl, h.frozen _⟩
theorem Blk.cells {W : World} {g : Nat} {t : TypeId} {cs : Array Value} (h : Blk W g t cs) (o n : Nat) (vs : List Value) (hv : (cs.extract o (o + n)).toList = vs) (hn : vs.length = n) : cellsAt W g o n = vs.toArray :=
  cellsAt_of (by rw [← hv]; exact World.rangeAt_of_block h o n) hn
@[go_sem] theorem there_sets {W : World} {b' o' n : Nat} (b o : Nat) (vs : List Value) (h : W.there b' o' n) : (W.setCells b o vs).there b' o' n = True := by
  simp only [eq_iff_iff, iff_true]
  exact World.there_setCells h b o vs
@[go_sem] theorem cell_sets_far {W : World} (b o : Nat) (vs : List Value) (b' j : Nat) (h : b' ≠ b) : (W.setCells b o vs).cell? ⟨b', j, none⟩ = W.cell? ⟨b', j, none⟩ :=
  World.cell?_setCells_out b vs o W ⟨b', j, none⟩ (fun hb _ => absurd hb h)
@[go_sem] theorem cells_sets_far {W : World} (b o : Nat) (vs : List Value) (b' j n : Nat) (h : b' ≠ b) : cellsAt (W.setCells b o vs) b' j n = cellsAt W b' j n := by
  unfold cellsAt
  simp only [cell_sets_far b o vs b' _ h]
@[go_sem] theorem size_sets {W : World} (b : Nat) : ∀ (vs : List Value) (o : Nat), (W.setCells b o vs).heap.size = W.heap.size := by
  intro vs
  induction vs generalizing W with
  | nil => intro o; rfl
  | cons v r ih => intro o; exact (ih (W := W.setCell ⟨b, o, none⟩ v) (o + 1)).trans (by simp)
theorem ld27 {W : World} (g o : Nat) (h : W.there g o 13) : (Instr.loadAt 27 (.pointer (some ⟨g, o, none⟩))).run Try.prog W = .ok (.agg (cellsAt W g o 13)) W := by
  obtain ⟨d, h1, h2⟩ := und27
  have := run_loadAt_mid (P := Try.prog) W g o 27 (cellsAt W g o 13).toList d (range_cells h) h1 h2 (by rw [cellsAt_len]; exact size27)
  simpa using this
theorem st27 {W : World} (g o : Nat) (a0 a1 a2 a4 a5 a6 a7 a8 a9 a10 a11 a12 : Int) (a3 : Bool) (h : W.there g o 13) : (Instr.storeAt 27 (.pointer (some ⟨g, o, none⟩)) (.agg #[.int .i64 a0, .int .i64 a1, .int .i64 a2, .bool a3, .int .i64 a4, .int .i64 a5, .int .i64 a6, .int .i64 a7, .int .i64 a8, .int .i64 a9, .int .i64 a10, .int .i64 a11, .int .i64 a12])).run Try.prog W = .ok () (W.setCells g o [.int .i64 a0, .int .i64 a1, .int .i64 a2, .bool a3, .int .i64 a4, .int .i64 a5, .int .i64 a6, .int .i64 a7, .int .i64 a8, .int .i64 a9, .int .i64 a10, .int .i64 a11, .int .i64 a12]) := by
  have := run_storeAt_mid (P := Try.prog) W g o 27 #[.int .i64 a0, .int .i64 a1, .int .i64 a2, .bool a3, .int .i64 a4, .int .i64 a5, .int .i64 a6, .int .i64 a7, .int .i64 a8, .int .i64 a9, .int .i64 a10, .int .i64 a11, .int .i64 a12] h size27 (by simp [Value.oneCell'])
  simpa using this
theorem ld44 {W : World} (g o : Nat) (h : W.there g o 13) : (Instr.loadAt 44 (.pointer (some ⟨g, o, none⟩))).run Try.prog W = .ok (.agg (cellsAt W g o 13)) W := by
  obtain ⟨d, h1, h2⟩ := und44
  have := run_loadAt_mid (P := Try.prog) W g o 44 (cellsAt W g o 13).toList d (range_cells h) h1 h2 (by rw [cellsAt_len]; exact size44)
  simpa using this
theorem st44 {W : World} (g o : Nat) (a0 a1 a2 a4 a5 a6 a7 a8 a9 a10 a11 a12 : Int) (a3 : Bool) (h : W.there g o 13) : (Instr.storeAt 44 (.pointer (some ⟨g, o, none⟩)) (.agg #[.int .i64 a0, .int .i64 a1, .int .i64 a2, .bool a3, .int .i64 a4, .int .i64 a5, .int .i64 a6, .int .i64 a7, .int .i64 a8, .int .i64 a9, .int .i64 a10, .int .i64 a11, .int .i64 a12])).run Try.prog W = .ok () (W.setCells g o [.int .i64 a0, .int .i64 a1, .int .i64 a2, .bool a3, .int .i64 a4, .int .i64 a5, .int .i64 a6, .int .i64 a7, .int .i64 a8, .int .i64 a9, .int .i64 a10, .int .i64 a11, .int .i64 a12]) := by
  have := run_storeAt_mid (P := Try.prog) W g o 44 #[.int .i64 a0, .int .i64 a1, .int .i64 a2, .bool a3, .int .i64 a4, .int .i64 a5, .int .i64 a6, .int .i64 a7, .int .i64 a8, .int .i64 a9, .int .i64 a10, .int .i64 a11, .int .i64 a12] h size44 (by simp [Value.oneCell'])
  simpa using this
theorem ld25 {W : World} (g o : Nat) (h : W.there g o 12) : (Instr.loadAt 25 (.pointer (some ⟨g, o, none⟩))).run Try.prog W = .ok (.agg (cellsAt W g o 12)) W := by
  obtain ⟨d, h1, h2⟩ := und25
  have := run_loadAt_mid (P := Try.prog) W g o 25 (cellsAt W g o 12).toList d (range_cells h) h1 h2 (by rw [cellsAt_len]; exact size25)
  simpa using this
theorem st25 {W : World} (g o : Nat) (a0 a1 a3 a4 a5 a6 a7 a8 a9 a10 a11 : Int) (a2 : Bool) (h : W.there g o 12) : (Instr.storeAt 25 (.pointer (some ⟨g, o, none⟩)) (.agg #[.int .i64 a0, .int .i64 a1, .bool a2, .int .i64 a3, .int .i64 a4, .int .i64 a5, .int .i64 a6, .int .i64 a7, .int .i64 a8, .int .i64 a9, .int .i64 a10, .int .i64 a11])).run Try.prog W = .ok () (W.setCells g o [.int .i64 a0, .int .i64 a1, .bool a2, .int .i64 a3, .int .i64 a4, .int .i64 a5, .int .i64 a6, .int .i64 a7, .int .i64 a8, .int .i64 a9, .int .i64 a10, .int .i64 a11]) := by
  have := run_storeAt_mid (P := Try.prog) W g o 25 #[.int .i64 a0, .int .i64 a1, .bool a2, .int .i64 a3, .int .i64 a4, .int .i64 a5, .int .i64 a6, .int .i64 a7, .int .i64 a8, .int .i64 a9, .int .i64 a10, .int .i64 a11] h size25 (by simp [Value.oneCell'])
  simpa using this
theorem ldv27 {W : World} (g o : Nat) (h : W.there g o 13) : (loadVar 27 ⟨g, o, none⟩).run Try.prog W = .ok (.agg (cellsAt W g o 13)) W := by
  obtain ⟨d, h1, h2⟩ := und27
  have := run_loadVar_mid (P := Try.prog) W g o 27 (cellsAt W g o 13).toList d (range_cells h) h1 h2 (by rw [cellsAt_len]; exact size27)
  simpa using this
theorem stv27 {W : World} (g o : Nat) (a0 a1 a2 a4 a5 a6 a7 a8 a9 a10 a11 a12 : Int) (a3 : Bool) (h : W.there g o 13) : (storeVar 27 ⟨g, o, none⟩ (.agg #[.int .i64 a0, .int .i64 a1, .int .i64 a2, .bool a3, .int .i64 a4, .int .i64 a5, .int .i64 a6, .int .i64 a7, .int .i64 a8, .int .i64 a9, .int .i64 a10, .int .i64 a11, .int .i64 a12])).run Try.prog W = .ok () (W.setCells g o [.int .i64 a0, .int .i64 a1, .int .i64 a2, .bool a3, .int .i64 a4, .int .i64 a5, .int .i64 a6, .int .i64 a7, .int .i64 a8, .int .i64 a9, .int .i64 a10, .int .i64 a11, .int .i64 a12]) := by
  have := run_storeVar_mid (P := Try.prog) W g o 27 #[.int .i64 a0, .int .i64 a1, .int .i64 a2, .bool a3, .int .i64 a4, .int .i64 a5, .int .i64 a6, .int .i64 a7, .int .i64 a8, .int .i64 a9, .int .i64 a10, .int .i64 a11, .int .i64 a12] h size27 (by simp [Value.oneCell'])
  simpa using this
theorem ldv44 {W : World} (g o : Nat) (h : W.there g o 13) : (loadVar 44 ⟨g, o, none⟩).run Try.prog W = .ok (.agg (cellsAt W g o 13)) W := by
  obtain ⟨d, h1, h2⟩ := und44
  have := run_loadVar_mid (P := Try.prog) W g o 44 (cellsAt W g o 13).toList d (range_cells h) h1 h2 (by rw [cellsAt_len]; exact size44)
  simpa using this
theorem stv44 {W : World} (g o : Nat) (a0 a1 a2 a4 a5 a6 a7 a8 a9 a10 a11 a12 : Int) (a3 : Bool) (h : W.there g o 13) : (storeVar 44 ⟨g, o, none⟩ (.agg #[.int .i64 a0, .int .i64 a1, .int .i64 a2, .bool a3, .int .i64 a4, .int .i64 a5, .int .i64 a6, .int .i64 a7, .int .i64 a8, .int .i64 a9, .int .i64 a10, .int .i64 a11, .int .i64 a12])).run Try.prog W = .ok () (W.setCells g o [.int .i64 a0, .int .i64 a1, .int .i64 a2, .bool a3, .int .i64 a4, .int .i64 a5, .int .i64 a6, .int .i64 a7, .int .i64 a8, .int .i64 a9, .int .i64 a10, .int .i64 a11, .int .i64 a12]) := by
  have := run_storeVar_mid (P := Try.prog) W g o 44 #[.int .i64 a0, .int .i64 a1, .int .i64 a2, .bool a3, .int .i64 a4, .int .i64 a5, .int .i64 a6, .int .i64 a7, .int .i64 a8, .int .i64 a9, .int .i64 a10, .int .i64 a11, .int .i64 a12] h size44 (by simp [Value.oneCell'])
  simpa using this
theorem ldv25 {W : World} (g o : Nat) (h : W.there g o 12) : (loadVar 25 ⟨g, o, none⟩).run Try.prog W = .ok (.agg (cellsAt W g o 12)) W := by
  obtain ⟨d, h1, h2⟩ := und25
  have := run_loadVar_mid (P := Try.prog) W g o 25 (cellsAt W g o 12).toList d (range_cells h) h1 h2 (by rw [cellsAt_len]; exact size25)
  simpa using this
theorem stv25 {W : World} (g o : Nat) (a0 a1 a3 a4 a5 a6 a7 a8 a9 a10 a11 : Int) (a2 : Bool) (h : W.there g o 12) : (storeVar 25 ⟨g, o, none⟩ (.agg #[.int .i64 a0, .int .i64 a1, .bool a2, .int .i64 a3, .int .i64 a4, .int .i64 a5, .int .i64 a6, .int .i64 a7, .int .i64 a8, .int .i64 a9, .int .i64 a10, .int .i64 a11])).run Try.prog W = .ok () (W.setCells g o [.int .i64 a0, .int .i64 a1, .bool a2, .int .i64 a3, .int .i64 a4, .int .i64 a5, .int .i64 a6, .int .i64 a7, .int .i64 a8, .int .i64 a9, .int .i64 a10, .int .i64 a11]) := by
  have := run_storeVar_mid (P := Try.prog) W g o 25 #[.int .i64 a0, .int .i64 a1, .bool a2, .int .i64 a3, .int .i64 a4, .int .i64 a5, .int .i64 a6, .int .i64 a7, .int .i64 a8, .int .i64 a9, .int .i64 a10, .int .i64 a11] h size25 (by simp [Value.oneCell'])
  simpa using this

/-- a store of a struct, its operands known -/
def bigStore (o : Oper) (t : TypeId) (x v : Value) (a : Act) (w : World) (K : Act → World → Prop) (Q : Exit → Act → World → Prop) : Prop := Oper.upon Try.prog o a K Q (Sem.run Try.prog (do Instr.storeAt t x v; pure Next.skip) w)
/-- a load of one -/
def bigLoad (o : Oper) (t : TypeId) (x : Value) (a : Act) (w : World) (K : Act → World → Prop) (Q : Exit → Act → World → Prop) : Prop := Oper.upon Try.prog o a K Q (Sem.run Try.prog (do let v ← Instr.loadAt t x; pure (Next.value v)) w)
@[go_sem low] theorem bigStore_low (o : Oper) (t : TypeId) (x v : Value) (a : Act) (w : World) (K : Act → World → Prop) (Q : Exit → Act → World → Prop) :
    bigStore o t x v a w K Q = Oper.upon Try.prog o a K Q (Sem.run Try.prog (do Instr.storeAt t x v; pure Next.skip) w) := rfl
@[go_sem low] theorem bigLoad_low (o : Oper) (t : TypeId) (x : Value) (a : Act) (w : World) (K : Act → World → Prop) (Q : Exit → Act → World → Prop) :
    bigLoad o t x a w K Q = Oper.upon Try.prog o a K Q (Sem.run Try.prog (do let v ← Instr.loadAt t x; pure (Next.value v)) w) := rfl
@[go_sem ↓] theorem wp_bs27 (dst : Option Tmp) (x y : Operand) (ty : TypeId) (pos : String) (after : Array _) (guard : Option _) (a : Act) (w : World) (K : Act → World → Prop) (Q : Exit → Act → World → Prop) :
    Oper.wp Try.prog { dst := dst, op := .store 27 x y, type := ty, pos := pos, after := after, guard := guard } a w K Q = bigStore { dst := dst, op := .move x, type := ty, pos := pos, after := #[], guard := none } 27 (a.eval x) (a.eval y) a w K Q := rfl
@[go_sem ↓] theorem wp_bl27 (dst : Option Tmp) (x : Operand) (ty : TypeId) (pos : String) (after : Array _) (guard : Option _) (a : Act) (w : World) (K : Act → World → Prop) (Q : Exit → Act → World → Prop) :
    Oper.wp Try.prog { dst := dst, op := .load 27 x, type := ty, pos := pos, after := after, guard := guard } a w K Q = bigLoad { dst := dst, op := .move x, type := ty, pos := pos, after := #[], guard := none } 27 (a.eval x) a w K Q := rfl
@[go_sem high] theorem bs27 {w : World} (o : Oper) (g i : Nat) (a0 a1 a2 a4 a5 a6 a7 a8 a9 a10 a11 a12 : Int) (a3 : Bool) (a : Act) (K : Act → World → Prop) (Q : Exit → Act → World → Prop) (h : w.there g i 13) :
    bigStore o 27 (.pointer (some ⟨g, i, none⟩)) (.agg #[.int .i64 a0, .int .i64 a1, .int .i64 a2, .bool a3, .int .i64 a4, .int .i64 a5, .int .i64 a6, .int .i64 a7, .int .i64 a8, .int .i64 a9, .int .i64 a10, .int .i64 a11, .int .i64 a12]) a w K Q = K (a.put o.dst undef) (w.setCells g i [.int .i64 a0, .int .i64 a1, .int .i64 a2, .bool a3, .int .i64 a4, .int .i64 a5, .int .i64 a6, .int .i64 a7, .int .i64 a8, .int .i64 a9, .int .i64 a10, .int .i64 a11, .int .i64 a12]) := by
  unfold bigStore
  simp only [Sem.run_bind, st27 g i _ _ _ _ _ _ _ _ _ _ _ _ _ h, Result.andThen_ok, Sem.run_pure, Oper.upon_skip]
@[go_sem high] theorem bl27 {w : World} (o : Oper) (g i : Nat) (a : Act) (K : Act → World → Prop) (Q : Exit → Act → World → Prop) (h : w.there g i 13) :
    bigLoad o 27 (.pointer (some ⟨g, i, none⟩)) a w K Q = K (a.put o.dst (.agg (cellsAt w g i 13))) w := by
  unfold bigLoad
  simp only [Sem.run_bind, ld27 g i h, Result.andThen_ok, Sem.run_pure, Oper.upon_value]
@[go_sem ↓] theorem wp_bs44 (dst : Option Tmp) (x y : Operand) (ty : TypeId) (pos : String) (after : Array _) (guard : Option _) (a : Act) (w : World) (K : Act → World → Prop) (Q : Exit → Act → World → Prop) :
    Oper.wp Try.prog { dst := dst, op := .store 44 x y, type := ty, pos := pos, after := after, guard := guard } a w K Q = bigStore { dst := dst, op := .move x, type := ty, pos := pos, after := #[], guard := none } 44 (a.eval x) (a.eval y) a w K Q := rfl
@[go_sem ↓] theorem wp_bl44 (dst : Option Tmp) (x : Operand) (ty : TypeId) (pos : String) (after : Array _) (guard : Option _) (a : Act) (w : World) (K : Act → World → Prop) (Q : Exit → Act → World → Prop) :
    Oper.wp Try.prog { dst := dst, op := .load 44 x, type := ty, pos := pos, after := after, guard := guard } a w K Q = bigLoad { dst := dst, op := .move x, type := ty, pos := pos, after := #[], guard := none } 44 (a.eval x) a w K Q := rfl
@[go_sem high] theorem bs44 {w : World} (o : Oper) (g i : Nat) (a0 a1 a2 a4 a5 a6 a7 a8 a9 a10 a11 a12 : Int) (a3 : Bool) (a : Act) (K : Act → World → Prop) (Q : Exit → Act → World → Prop) (h : w.there g i 13) :
    bigStore o 44 (.pointer (some ⟨g, i, none⟩)) (.agg #[.int .i64 a0, .int .i64 a1, .int .i64 a2, .bool a3, .int .i64 a4, .int .i64 a5, .int .i64 a6, .int .i64 a7, .int .i64 a8, .int .i64 a9, .int .i64 a10, .int .i64 a11, .int .i64 a12]) a w K Q = K (a.put o.dst undef) (w.setCells g i [.int .i64 a0, .int .i64 a1, .int .i64 a2, .bool a3, .int .i64 a4, .int .i64 a5, .int .i64 a6, .int .i64 a7, .int .i64 a8, .int .i64 a9, .int .i64 a10, .int .i64 a11, .int .i64 a12]) := by
  unfold bigStore
  simp only [Sem.run_bind, st44 g i _ _ _ _ _ _ _ _ _ _ _ _ _ h, Result.andThen_ok, Sem.run_pure, Oper.upon_skip]
@[go_sem high] theorem bl44 {w : World} (o : Oper) (g i : Nat) (a : Act) (K : Act → World → Prop) (Q : Exit → Act → World → Prop) (h : w.there g i 13) :
    bigLoad o 44 (.pointer (some ⟨g, i, none⟩)) a w K Q = K (a.put o.dst (.agg (cellsAt w g i 13))) w := by
  unfold bigLoad
  simp only [Sem.run_bind, ld44 g i h, Result.andThen_ok, Sem.run_pure, Oper.upon_value]
@[go_sem ↓] theorem wp_bs25 (dst : Option Tmp) (x y : Operand) (ty : TypeId) (pos : String) (after : Array _) (guard : Option _) (a : Act) (w : World) (K : Act → World → Prop) (Q : Exit → Act → World → Prop) :
    Oper.wp Try.prog { dst := dst, op := .store 25 x y, type := ty, pos := pos, after := after, guard := guard } a w K Q = bigStore { dst := dst, op := .move x, type := ty, pos := pos, after := #[], guard := none } 25 (a.eval x) (a.eval y) a w K Q := rfl
@[go_sem ↓] theorem wp_bl25 (dst : Option Tmp) (x : Operand) (ty : TypeId) (pos : String) (after : Array _) (guard : Option _) (a : Act) (w : World) (K : Act → World → Prop) (Q : Exit → Act → World → Prop) :
    Oper.wp Try.prog { dst := dst, op := .load 25 x, type := ty, pos := pos, after := after, guard := guard } a w K Q = bigLoad { dst := dst, op := .move x, type := ty, pos := pos, after := #[], guard := none } 25 (a.eval x) a w K Q := rfl
@[go_sem high] theorem bs25 {w : World} (o : Oper) (g i : Nat) (a0 a1 a3 a4 a5 a6 a7 a8 a9 a10 a11 : Int) (a2 : Bool) (a : Act) (K : Act → World → Prop) (Q : Exit → Act → World → Prop) (h : w.there g i 12) :
    bigStore o 25 (.pointer (some ⟨g, i, none⟩)) (.agg #[.int .i64 a0, .int .i64 a1, .bool a2, .int .i64 a3, .int .i64 a4, .int .i64 a5, .int .i64 a6, .int .i64 a7, .int .i64 a8, .int .i64 a9, .int .i64 a10, .int .i64 a11]) a w K Q = K (a.put o.dst undef) (w.setCells g i [.int .i64 a0, .int .i64 a1, .bool a2, .int .i64 a3, .int .i64 a4, .int .i64 a5, .int .i64 a6, .int .i64 a7, .int .i64 a8, .int .i64 a9, .int .i64 a10, .int .i64 a11]) := by
  unfold bigStore
  simp only [Sem.run_bind, st25 g i _ _ _ _ _ _ _ _ _ _ _ _ h, Result.andThen_ok, Sem.run_pure, Oper.upon_skip]
@[go_sem high] theorem bl25 {w : World} (o : Oper) (g i : Nat) (a : Act) (K : Act → World → Prop) (Q : Exit → Act → World → Prop) (h : w.there g i 12) :
    bigLoad o 25 (.pointer (some ⟨g, i, none⟩)) a w K Q = K (a.put o.dst (.agg (cellsAt w g i 12))) w := by
  unfold bigLoad
  simp only [Sem.run_bind, ld25 g i h, Result.andThen_ok, Sem.run_pure, Oper.upon_value]

/-- three results: a parser and an act out of their cells, and whether -/
theorem fin_three {fn : Func} {r4 r5 r6 : Tmp} (hf : fn.results = #[.cell r4 27, .cell r5 25, .tmp r6]) {Post : Ending → World → Prop} {a : Act} {V : World} {g4 g5 : Nat} (p : Pa) (q : Ac) (b : Bool)
    (h4 : a.tmps[r4]?.getD undef = .pointer (some ⟨g4, 0, none⟩)) (h5 : a.tmps[r5]?.getD undef = .pointer (some ⟨g5, 0, none⟩)) (h6 : a.tmps[r6]?.getD undef = .bool b) (hd : a.defers = [])
    (B4 : Blk V g4 27 (pc p)) (B5 : Blk V g5 25 (ac q)) (hp : Post (.returned (.tuple #[pv p, av q, .bool b])) V) : bodyPost Try.prog fn Post .ret a V := by
  refine bodyPost_ret ?_ hd hp
  simp [results, hf, h4, h5, h6, load27 p B4, load25 q B5, asAddr]
theorem fin_sets {fn : Func} {r4 r5 r6 : Tmp} (hf : fn.results = #[.cell r4 27, .cell r5 25, .tmp r6]) {Post : Ending → World → Prop} {a : Act} {W : World} {g4 g5 : Nat} {c4 c5 : Array Value}
    (B4 : Blk W g4 27 c4) (hs4 : c4.size = 13) (B5 : Blk W g5 25 c5) (hs5 : c5.size = 12) (hne : g4 ≠ g5) (p : Pa) (q : Ac) (b : Bool)
    (h4 : a.tmps[r4]?.getD undef = .pointer (some ⟨g4, 0, none⟩)) (h5 : a.tmps[r5]?.getD undef = .pointer (some ⟨g5, 0, none⟩)) (h6 : a.tmps[r6]?.getD undef = .bool b) (hd : a.defers = [])
    (hp : Post (.returned (.tuple #[pv p, av q, .bool b])) ((W.setCells g4 0 (pl p)).setCells g5 0 (al q))) : bodyPost Try.prog fn Post .ret a ((W.setCells g4 0 (pl p)).setCells g5 0 (al q)) :=
  fin_three hf p q b h4 h5 h6 hd (far_sets (blk_sets (vs := pl p) B4 hs4) hne (al q) 0) (blk_sets (vs := al q) (far_sets B5 hne.symm (pl p) 0) hs5) hp
/-- one result out of its cell -/
theorem fin_cell {fn : Func} {t : TypeId} {r : Tmp} (hf : fn.results = #[.cell r t]) {Post : Ending → World → Prop} {a : Act} {V : World} {g : Nat} {v : Value}
    (h2 : a.tmps[r]?.getD undef = .pointer (some ⟨g, 0, none⟩)) (hd : a.defers = []) (hl : (loadVar t ⟨g, 0, none⟩).run Try.prog V = .ok v V) (hp : Post (.returned v) V) : bodyPost Try.prog fn Post .ret a V := by
  refine bodyPost_ret ?_ hd hp
  simp [results, hf, h2, hl, asAddr]
end Go.Proofs.Ytjgaljnojhkimaa
