/- Rows and structs of many cells: loaded and stored whole; their equality. No condition. -/
import Derived.Test.YtnidpncacgknkaaBits
import Derived.Deep.MidRow
namespace Go.Proofs.Ytnidpncacgknkaa
open Go.RowKit

theorem sets_at {g : Nat} {t : TypeId} : ∀ (vs : List Value) (o : Nat) (cs : Array Value) (W : World), Blk W g t cs →
    ∃ cs', Blk (W.setCells g o vs) g t cs' ∧ cs'.size = cs.size ∧ ∀ j, j < cs.size → cs'[j]? = if o ≤ j ∧ j < o + vs.length then vs[j - o]? else cs[j]?
  | [], o, cs, W, h => ⟨cs, h, rfl, fun j _ => by rw [if_neg (by simp)]⟩
  | v :: r, o, cs, W, h => by
    obtain ⟨cs', h1, h2, h3⟩ := sets_at r (o + 1) _ _ (h.set_ o v)
    refine ⟨cs', h1, by rw [h2]; simp, fun j hj => ?_⟩
    rw [h3 j (by simpa using hj)]
    by_cases h4 : o + 1 ≤ j ∧ j < o + 1 + r.length
    · rw [if_pos h4, if_pos (by simp only [List.length_cons]; omega), show j - o = (j - (o + 1)) + 1 by omega]
      rfl
    · rw [if_neg h4]
      by_cases h5 : j = o
      · subst h5
        rw [if_pos (by simp only [List.length_cons]; omega), Array.getElem?_setIfInBounds_self_of_lt hj, Nat.sub_self]
        rfl
      · rw [if_neg (by simp only [List.length_cons]; omega), Array.getElem?_setIfInBounds_ne (by omega)]
theorem blk_sets {W : World} {g : Nat} {t : TypeId} {cs : Array Value} {vs : List Value} (h : Blk W g t cs) (hs : cs.size = vs.length) : Blk (W.setCells g 0 vs) g t vs.toArray := by
  obtain ⟨cs', h1, h2, h3⟩ := sets_at vs 0 cs W h
  refine h1.cast (Array.ext_getElem? fun j => ?_)
  by_cases hj : j < cs.size
  · rw [h3 j hj, if_pos (by omega)]
    simp
  · rw [Array.getElem?_eq_none (by omega)]
    simp
    omega
theorem far_sets {W : World} {g g' : Nat} {t : TypeId} {cs : Array Value} (h : Blk W g t cs) (hne : g ≠ g') : ∀ (vs : List Value) (o : Nat), Blk (W.setCells g' o vs) g t cs := by
  intro vs
  induction vs generalizing W with
  | nil => intro o; exact h
  | cons v r ih => intro o; exact ih (h.far (p := ⟨g', o, none⟩) hne v) (o + 1)
theorem later_sets {a W : World} {g : Nat} (h : Later a W) (hg : a.heap.size ≤ g) : ∀ (vs : List Value) (o : Nat), Later a (W.setCells g o vs) := by
  intro vs
  induction vs generalizing W with
  | nil => intro o; exact h
  | cons v r ih => intro o; exact ih (h.set (p := ⟨g, o, none⟩) hg v) (o + 1)
theorem Blk.range {W : World} {g : Nat} {t : TypeId} {cs : List Value} (h : Blk W g t cs.toArray) : W.rangeAt g 0 cs := fun j v hv => by
  rw [Nat.zero_add, h.cell j]
  simpa using hv

/-- cells, as they stand -/
def cellsAt (w : World) (g o n : Nat) : Array Value := ((List.range n).map fun j => (w.cell? ⟨g, o + j, none⟩).getD undef).toArray
theorem cellsAt_of {w : World} {g o n : Nat} {cs : List Value} (h : w.rangeAt g o cs) (hn : cs.length = n) : cellsAt w g o n = cs.toArray := by
  unfold cellsAt
  congr 1
  apply List.ext_getElem?
  intro j
  by_cases hj : j < n
  · rw [List.getElem?_map, List.getElem?_range hj]
    have := h j cs[j] (by simp [hn, hj])
    simp [this, hn, hj]
  · rw [List.getElem?_eq_none (by simp; omega), List.getElem?_eq_none (by omega)]
theorem range_cells {w : World} {g o n : Nat} (h : w.there g o n) : w.rangeAt g o (cellsAt w g o n).toList := by
  intro j v hv
  unfold cellsAt at hv
  simp only [List.getElem?_map] at hv
  by_cases hj : j < n
  · rw [List.getElem?_range hj] at hv
    obtain ⟨u, hu⟩ := Option.isSome_iff_exists.1 (h j hj).1
    simp only [Option.map_some, Option.some.injEq] at hv
    rw [hu] at hv ⊢
    simpa using hv
  · rw [List.getElem?_eq_none (by simp; omega)] at hv
    cases hv
theorem cellsAt_len (w : World) (g o n : Nat) : (cellsAt w g o n).toList.length = n := by simp [cellsAt]
theorem Blk.there {W : World} {g : Nat} {t : TypeId} {cs : Array Value} (h : Blk W g t cs) {o n : Nat} (hn : o + n ≤ cs.size) : W.there g o n := fun j hj =>
  ⟨by rw [h.cell, Array.getElem?_eq_getElem (by omega)]; rfl, h.frozen _⟩
theorem Blk.cells {W : World} {g : Nat} {t : TypeId} {cs : Array Value} (h : Blk W g t cs) (o n : Nat) (vs : List Value) (hv : (cs.extract o (o + n)).toList = vs) (hn : vs.length = n) : cellsAt W g o n = vs.toArray :=
  cellsAt_of (by rw [← hv]; exact World.rangeAt_of_block h o n) hn
@[go_sem] theorem there_sets {W : World} {b' o' n : Nat} (b o : Nat) (vs : List Value) (h : W.there b' o' n) : (W.setCells b o vs).there b' o' n = True := by
  simp only [eq_iff_iff, iff_true]
  exact World.there_setCells h b o vs
@[go_sem] theorem cell_sets_far {W : World} (b o : Nat) (vs : List Value) (b' j : Nat) (h : b' ≠ b) : (W.setCells b o vs).cell? ⟨b', j, none⟩ = W.cell? ⟨b', j, none⟩ :=
  World.cell?_setCells_out b vs o W ⟨b', j, none⟩ (fun hb _ => absurd hb h)
@[go_sem] theorem cells_sets_far {W : World} (b o : Nat) (vs : List Value) (b' j n : Nat) (h : b' ≠ b) : cellsAt (W.setCells b o vs) b' j n = cellsAt W b' j n := by
  unfold cellsAt
  simp only [cell_sets_far b o vs b' _ h]
@[go_sem] theorem size_sets {W : World} (b : Nat) : ∀ (vs : List Value) (o : Nat), (W.setCells b o vs).heap.size = W.heap.size := by
  intro vs
  induction vs generalizing W with
  | nil => intro o; rfl
  | cons v r ih => intro o; exact (ih (W := W.setCell ⟨b, o, none⟩ v) (o + 1)).trans (by simp)

def aggAt (w : World) (g o n : Nat) : Value := .agg (cellsAt w g o n)
/-- bytes, words, eight words, a hash, as one value each, and their cells -/
def bl (l : List B8) : List Value := l.map bb
def wl (l : List W32) : List Value := l.map uv
def sl (s : S8) : List Value := [uv s.a, uv s.b, uv s.c, uv s.d, uv s.e, uv s.f, uv s.g, uv s.h]
def hl (s : S8) (v : Value) (n : Int) (g : Bool) : List Value := [uv s.a, uv s.b, uv s.c, uv s.d, uv s.e, uv s.f, uv s.g, uv s.h, v, .int .i64 n, .bool g]
def bagg (l : List B8) : Value := .agg (bl l).toArray
def wagg (l : List W32) : Value := .agg (wl l).toArray
def sagg (s : S8) : Value := .agg (sl s).toArray
def hagg (s : S8) (v : Value) (n : Int) (g : Bool) : Value := .agg (hl s v n g).toArray
theorem bl_one (l : List B8) : ∀ u ∈ bl l, u.oneCell' = true := by
  intro u hu
  obtain ⟨x, _, rfl⟩ := List.mem_map.1 hu
  rfl
theorem wl_one (l : List W32) : ∀ u ∈ wl l, u.oneCell' = true := by
  intro u hu
  obtain ⟨x, _, rfl⟩ := List.mem_map.1 hu
  rfl
theorem sl_one (s : S8) : ∀ u ∈ sl s, u.oneCell' = true := by
  intro u hu
  simp only [sl, List.mem_cons, List.not_mem_nil, or_false] at hu
  rcases hu with rfl | rfl | rfl | rfl | rfl | rfl | rfl | rfl <;> rfl
theorem hl_one (s : S8) (x : Option Addr) (m c : Nat) (n : Int) (g : Bool) : ∀ u ∈ hl s (.slice x m c) n g, u.oneCell' = true := by
  intro u hu
  simp only [hl, List.mem_cons, List.not_mem_nil, or_false] at hu
  rcases hu with rfl | rfl | rfl | rfl | rfl | rfl | rfl | rfl | rfl | rfl | rfl <;> rfl
theorem bl_len (l : List B8) : (bl l).length = l.length := List.length_map ..
theorem wl_len (l : List W32) : (wl l).length = l.length := List.length_map ..
theorem Blk.agg {W : World} {g : Nat} {t : TypeId} {cs : List Value} (h : Blk W g t cs.toArray) (n : Nat) (hn : cs.length = n) : aggAt W g 0 n = .agg cs.toArray := by
  unfold aggAt
  rw [h.cells 0 n cs (by simp [← hn]) hn]
theorem Blk.there0 {W : World} {g : Nat} {t : TypeId} {cs : List Value} (h : Blk W g t cs.toArray) (n : Nat) (hn : cs.length = n) : W.there g 0 n := h.there (by simp [hn])
/-- a store of a row or a struct, its operands known -/
def bigStore (o : Oper) (t : TypeId) (x v : Value) (a : Act) (w : World) (K : Act → World → Prop) (Q : Exit → Act → World → Prop) : Prop := Oper.upon Try.prog o a K Q (Sem.run Try.prog (do Instr.storeAt t x v; pure Next.skip) w)
/-- a load of one -/
def bigLoad (o : Oper) (t : TypeId) (x : Value) (a : Act) (w : World) (K : Act → World → Prop) (Q : Exit → Act → World → Prop) : Prop := Oper.upon Try.prog o a K Q (Sem.run Try.prog (do let v ← Instr.loadAt t x; pure (Next.value v)) w)
@[go_sem low] theorem bigStore_low (o : Oper) (t : TypeId) (x v : Value) (a : Act) (w : World) (K : Act → World → Prop) (Q : Exit → Act → World → Prop) :
    bigStore o t x v a w K Q = Oper.upon Try.prog o a K Q (Sem.run Try.prog (do Instr.storeAt t x v; pure Next.skip) w) := rfl
@[go_sem low] theorem bigLoad_low (o : Oper) (t : TypeId) (x : Value) (a : Act) (w : World) (K : Act → World → Prop) (Q : Exit → Act → World → Prop) :
    bigLoad o t x a w K Q = Oper.upon Try.prog o a K Q (Sem.run Try.prog (do let v ← Instr.loadAt t x; pure (Next.value v)) w) := rfl

theorem und37 : ∃ d, Try.prog.underlying 37 = some d ∧ d.isRow = true := ⟨_, Try.underlying37, rfl⟩
theorem size37 : (Try.prog.info? 37).map (·.size) = some 8 := by kernel_rfl
theorem ld37 {W : World} (g o : Nat) (h : W.there g o 8) : (Instr.loadAt 37 (.pointer (some ⟨g, o, none⟩))).run Try.prog W = .ok (aggAt W g o 8) W := by
  obtain ⟨d, h1, h2⟩ := und37
  have := run_loadAt_mid (P := Try.prog) W g o 37 (cellsAt W g o 8).toList d (range_cells h) h1 h2 (by rw [cellsAt_len]; exact size37)
  simpa [aggAt] using this
theorem ldv37 {W : World} (g o : Nat) (h : W.there g o 8) : (loadVar 37 ⟨g, o, none⟩).run Try.prog W = .ok (aggAt W g o 8) W := by
  obtain ⟨d, h1, h2⟩ := und37
  have := run_loadVar_mid (P := Try.prog) W g o 37 (cellsAt W g o 8).toList d (range_cells h) h1 h2 (by rw [cellsAt_len]; exact size37)
  simpa [aggAt] using this
theorem st37 {W : World} (g o : Nat) (s : S8) (h : W.there g o 8) : (Instr.storeAt 37 (.pointer (some ⟨g, o, none⟩)) (sagg s)).run Try.prog W = .ok () (W.setCells g o (sl s)) := by
  have e : (sl s).toArray.size = 8 := rfl
  have := run_storeAt_mid (P := Try.prog) W g o 37 (sl s).toArray (by rw [e]; exact h) (by rw [e]; exact size37) (by rw [Array.all_eq_true_iff_forall_mem]; intro u hu; exact sl_one s u (by simpa using hu))
  simpa [sagg] using this
@[go_sem ↓] theorem wp_bs37 (dst : Option Tmp) (x y : Operand) (ty : TypeId) (pos : String) (after : Array _) (guard : Option _) (a : Act) (w : World) (K : Act → World → Prop) (Q : Exit → Act → World → Prop) :
    Oper.wp Try.prog { dst := dst, op := .store 37 x y, type := ty, pos := pos, after := after, guard := guard } a w K Q = bigStore { dst := dst, op := .move x, type := ty, pos := pos, after := #[], guard := none } 37 (a.eval x) (a.eval y) a w K Q := rfl
@[go_sem ↓] theorem wp_bl37 (dst : Option Tmp) (x : Operand) (ty : TypeId) (pos : String) (after : Array _) (guard : Option _) (a : Act) (w : World) (K : Act → World → Prop) (Q : Exit → Act → World → Prop) :
    Oper.wp Try.prog { dst := dst, op := .load 37 x, type := ty, pos := pos, after := after, guard := guard } a w K Q = bigLoad { dst := dst, op := .move x, type := ty, pos := pos, after := #[], guard := none } 37 (a.eval x) a w K Q := rfl
@[go_sem high] theorem bs37 {w : World} (o : Oper) (g i : Nat) (s : S8) (a : Act) (K : Act → World → Prop) (Q : Exit → Act → World → Prop) (h : w.there g i 8) :
    bigStore o 37 (.pointer (some ⟨g, i, none⟩)) (sagg s) a w K Q = K (a.put o.dst undef) (w.setCells g i (sl s)) := by
  unfold bigStore
  simp only [Sem.run_bind, st37 g i _ h, Result.andThen_ok, Sem.run_pure, Oper.upon_skip]
@[go_sem high] theorem bl37 {w : World} (o : Oper) (g i : Nat) (a : Act) (K : Act → World → Prop) (Q : Exit → Act → World → Prop) (h : w.there g i 8) :
    bigLoad o 37 (.pointer (some ⟨g, i, none⟩)) a w K Q = K (a.put o.dst (aggAt w g i 8)) w := by
  unfold bigLoad
  simp only [Sem.run_bind, ld37 g i h, Result.andThen_ok, Sem.run_pure, Oper.upon_value]

theorem und39 : ∃ d, Try.prog.underlying 39 = some d ∧ d.isRow = true := ⟨_, Try.underlying39, rfl⟩
theorem size39 : (Try.prog.info? 39).map (·.size) = some 11 := by kernel_rfl
theorem ld39 {W : World} (g o : Nat) (h : W.there g o 11) : (Instr.loadAt 39 (.pointer (some ⟨g, o, none⟩))).run Try.prog W = .ok (aggAt W g o 11) W := by
  obtain ⟨d, h1, h2⟩ := und39
  have := run_loadAt_mid (P := Try.prog) W g o 39 (cellsAt W g o 11).toList d (range_cells h) h1 h2 (by rw [cellsAt_len]; exact size39)
  simpa [aggAt] using this
theorem ldv39 {W : World} (g o : Nat) (h : W.there g o 11) : (loadVar 39 ⟨g, o, none⟩).run Try.prog W = .ok (aggAt W g o 11) W := by
  obtain ⟨d, h1, h2⟩ := und39
  have := run_loadVar_mid (P := Try.prog) W g o 39 (cellsAt W g o 11).toList d (range_cells h) h1 h2 (by rw [cellsAt_len]; exact size39)
  simpa [aggAt] using this
theorem st39 {W : World} (g o : Nat) (s : S8) (x : Option Addr) (m c : Nat) (n : Int) (b : Bool) (h : W.there g o 11) : (Instr.storeAt 39 (.pointer (some ⟨g, o, none⟩)) (hagg s (.slice x m c) n b)).run Try.prog W = .ok () (W.setCells g o (hl s (.slice x m c) n b)) := by
  have e : (hl s (.slice x m c) n b).toArray.size = 11 := rfl
  have := run_storeAt_mid (P := Try.prog) W g o 39 (hl s (.slice x m c) n b).toArray (by rw [e]; exact h) (by rw [e]; exact size39) (by rw [Array.all_eq_true_iff_forall_mem]; intro u hu; exact hl_one s x m c n b u (by simpa using hu))
  simpa [hagg] using this
@[go_sem ↓] theorem wp_bs39 (dst : Option Tmp) (x y : Operand) (ty : TypeId) (pos : String) (after : Array _) (guard : Option _) (a : Act) (w : World) (K : Act → World → Prop) (Q : Exit → Act → World → Prop) :
    Oper.wp Try.prog { dst := dst, op := .store 39 x y, type := ty, pos := pos, after := after, guard := guard } a w K Q = bigStore { dst := dst, op := .move x, type := ty, pos := pos, after := #[], guard := none } 39 (a.eval x) (a.eval y) a w K Q := rfl
@[go_sem ↓] theorem wp_bl39 (dst : Option Tmp) (x : Operand) (ty : TypeId) (pos : String) (after : Array _) (guard : Option _) (a : Act) (w : World) (K : Act → World → Prop) (Q : Exit → Act → World → Prop) :
    Oper.wp Try.prog { dst := dst, op := .load 39 x, type := ty, pos := pos, after := after, guard := guard } a w K Q = bigLoad { dst := dst, op := .move x, type := ty, pos := pos, after := #[], guard := none } 39 (a.eval x) a w K Q := rfl
@[go_sem high] theorem bs39 {w : World} (o : Oper) (g i : Nat) (s : S8) (x : Option Addr) (m c : Nat) (n : Int) (b : Bool) (a : Act) (K : Act → World → Prop) (Q : Exit → Act → World → Prop) (h : w.there g i 11) :
    bigStore o 39 (.pointer (some ⟨g, i, none⟩)) (hagg s (.slice x m c) n b) a w K Q = K (a.put o.dst undef) (w.setCells g i (hl s (.slice x m c) n b)) := by
  unfold bigStore
  simp only [Sem.run_bind, st39 g i _ _ _ _ _ _ h, Result.andThen_ok, Sem.run_pure, Oper.upon_skip]
@[go_sem high] theorem bl39 {w : World} (o : Oper) (g i : Nat) (a : Act) (K : Act → World → Prop) (Q : Exit → Act → World → Prop) (h : w.there g i 11) :
    bigLoad o 39 (.pointer (some ⟨g, i, none⟩)) a w K Q = K (a.put o.dst (aggAt w g i 11)) w := by
  unfold bigLoad
  simp only [Sem.run_bind, ld39 g i h, Result.andThen_ok, Sem.run_pure, Oper.upon_value]

theorem und51 : ∃ d, Try.prog.underlying 51 = some d ∧ d.isRow = true := ⟨_, Try.underlying51, rfl⟩
theorem size51 : (Try.prog.info? 51).map (·.size) = some 64 := by kernel_rfl
theorem ld51 {W : World} (g o : Nat) (h : W.there g o 64) : (Instr.loadAt 51 (.pointer (some ⟨g, o, none⟩))).run Try.prog W = .ok (aggAt W g o 64) W := by
  obtain ⟨d, h1, h2⟩ := und51
  have := run_loadAt_mid (P := Try.prog) W g o 51 (cellsAt W g o 64).toList d (range_cells h) h1 h2 (by rw [cellsAt_len]; exact size51)
  simpa [aggAt] using this
theorem ldv51 {W : World} (g o : Nat) (h : W.there g o 64) : (loadVar 51 ⟨g, o, none⟩).run Try.prog W = .ok (aggAt W g o 64) W := by
  obtain ⟨d, h1, h2⟩ := und51
  have := run_loadVar_mid (P := Try.prog) W g o 51 (cellsAt W g o 64).toList d (range_cells h) h1 h2 (by rw [cellsAt_len]; exact size51)
  simpa [aggAt] using this
theorem st51 {W : World} (g o : Nat) (l : List W32) (hl : l.length = 64) (h : W.there g o 64) : (Instr.storeAt 51 (.pointer (some ⟨g, o, none⟩)) (wagg l)).run Try.prog W = .ok () (W.setCells g o (wl l)) := by
  have e : (wl l).toArray.size = 64 := ((wl_len l).trans hl)
  have := run_storeAt_mid (P := Try.prog) W g o 51 (wl l).toArray (by rw [e]; exact h) (by rw [e]; exact size51) (by rw [Array.all_eq_true_iff_forall_mem]; intro u hu; exact wl_one l u (by simpa using hu))
  simpa [wagg] using this
@[go_sem ↓] theorem wp_bs51 (dst : Option Tmp) (x y : Operand) (ty : TypeId) (pos : String) (after : Array _) (guard : Option _) (a : Act) (w : World) (K : Act → World → Prop) (Q : Exit → Act → World → Prop) :
    Oper.wp Try.prog { dst := dst, op := .store 51 x y, type := ty, pos := pos, after := after, guard := guard } a w K Q = bigStore { dst := dst, op := .move x, type := ty, pos := pos, after := #[], guard := none } 51 (a.eval x) (a.eval y) a w K Q := rfl
@[go_sem ↓] theorem wp_bl51 (dst : Option Tmp) (x : Operand) (ty : TypeId) (pos : String) (after : Array _) (guard : Option _) (a : Act) (w : World) (K : Act → World → Prop) (Q : Exit → Act → World → Prop) :
    Oper.wp Try.prog { dst := dst, op := .load 51 x, type := ty, pos := pos, after := after, guard := guard } a w K Q = bigLoad { dst := dst, op := .move x, type := ty, pos := pos, after := #[], guard := none } 51 (a.eval x) a w K Q := rfl
@[go_sem high] theorem bs51 {w : World} (o : Oper) (g i : Nat) (l : List W32) (a : Act) (K : Act → World → Prop) (Q : Exit → Act → World → Prop) (hl : l.length = 64) (h : w.there g i 64) :
    bigStore o 51 (.pointer (some ⟨g, i, none⟩)) (wagg l) a w K Q = K (a.put o.dst undef) (w.setCells g i (wl l)) := by
  unfold bigStore
  simp only [Sem.run_bind, st51 g i _ hl h, Result.andThen_ok, Sem.run_pure, Oper.upon_skip]
@[go_sem high] theorem bl51 {w : World} (o : Oper) (g i : Nat) (a : Act) (K : Act → World → Prop) (Q : Exit → Act → World → Prop) (h : w.there g i 64) :
    bigLoad o 51 (.pointer (some ⟨g, i, none⟩)) a w K Q = K (a.put o.dst (aggAt w g i 64)) w := by
  unfold bigLoad
  simp only [Sem.run_bind, ld51 g i h, Result.andThen_ok, Sem.run_pure, Oper.upon_value]

theorem und24 : ∃ d, Try.prog.underlying 24 = some d ∧ d.isRow = true := ⟨_, Try.underlying24, rfl⟩
theorem size24 : (Try.prog.info? 24).map (·.size) = some 32 := by kernel_rfl
theorem ld24 {W : World} (g o : Nat) (h : W.there g o 32) : (Instr.loadAt 24 (.pointer (some ⟨g, o, none⟩))).run Try.prog W = .ok (aggAt W g o 32) W := by
  obtain ⟨d, h1, h2⟩ := und24
  have := run_loadAt_mid (P := Try.prog) W g o 24 (cellsAt W g o 32).toList d (range_cells h) h1 h2 (by rw [cellsAt_len]; exact size24)
  simpa [aggAt] using this
theorem ldv24 {W : World} (g o : Nat) (h : W.there g o 32) : (loadVar 24 ⟨g, o, none⟩).run Try.prog W = .ok (aggAt W g o 32) W := by
  obtain ⟨d, h1, h2⟩ := und24
  have := run_loadVar_mid (P := Try.prog) W g o 24 (cellsAt W g o 32).toList d (range_cells h) h1 h2 (by rw [cellsAt_len]; exact size24)
  simpa [aggAt] using this
theorem st24 {W : World} (g o : Nat) (l : List B8) (hl : l.length = 32) (h : W.there g o 32) : (Instr.storeAt 24 (.pointer (some ⟨g, o, none⟩)) (bagg l)).run Try.prog W = .ok () (W.setCells g o (bl l)) := by
  have e : (bl l).toArray.size = 32 := ((bl_len l).trans hl)
  have := run_storeAt_mid (P := Try.prog) W g o 24 (bl l).toArray (by rw [e]; exact h) (by rw [e]; exact size24) (by rw [Array.all_eq_true_iff_forall_mem]; intro u hu; exact bl_one l u (by simpa using hu))
  simpa [bagg] using this
@[go_sem ↓] theorem wp_bs24 (dst : Option Tmp) (x y : Operand) (ty : TypeId) (pos : String) (after : Array _) (guard : Option _) (a : Act) (w : World) (K : Act → World → Prop) (Q : Exit → Act → World → Prop) :
    Oper.wp Try.prog { dst := dst, op := .store 24 x y, type := ty, pos := pos, after := after, guard := guard } a w K Q = bigStore { dst := dst, op := .move x, type := ty, pos := pos, after := #[], guard := none } 24 (a.eval x) (a.eval y) a w K Q := rfl
@[go_sem ↓] theorem wp_bl24 (dst : Option Tmp) (x : Operand) (ty : TypeId) (pos : String) (after : Array _) (guard : Option _) (a : Act) (w : World) (K : Act → World → Prop) (Q : Exit → Act → World → Prop) :
    Oper.wp Try.prog { dst := dst, op := .load 24 x, type := ty, pos := pos, after := after, guard := guard } a w K Q = bigLoad { dst := dst, op := .move x, type := ty, pos := pos, after := #[], guard := none } 24 (a.eval x) a w K Q := rfl
@[go_sem high] theorem bs24 {w : World} (o : Oper) (g i : Nat) (l : List B8) (a : Act) (K : Act → World → Prop) (Q : Exit → Act → World → Prop) (hl : l.length = 32) (h : w.there g i 32) :
    bigStore o 24 (.pointer (some ⟨g, i, none⟩)) (bagg l) a w K Q = K (a.put o.dst undef) (w.setCells g i (bl l)) := by
  unfold bigStore
  simp only [Sem.run_bind, st24 g i _ hl h, Result.andThen_ok, Sem.run_pure, Oper.upon_skip]
@[go_sem high] theorem bl24 {w : World} (o : Oper) (g i : Nat) (a : Act) (K : Act → World → Prop) (Q : Exit → Act → World → Prop) (h : w.there g i 32) :
    bigLoad o 24 (.pointer (some ⟨g, i, none⟩)) a w K Q = K (a.put o.dst (aggAt w g i 32)) w := by
  unfold bigLoad
  simp only [Sem.run_bind, ld24 g i h, Result.andThen_ok, Sem.run_pure, Oper.upon_value]

theorem und26 : ∃ d, Try.prog.underlying 26 = some d ∧ d.isRow = true := ⟨_, Try.underlying26, rfl⟩
theorem size26 : (Try.prog.info? 26).map (·.size) = some 16 := by kernel_rfl
theorem ld26 {W : World} (g o : Nat) (h : W.there g o 16) : (Instr.loadAt 26 (.pointer (some ⟨g, o, none⟩))).run Try.prog W = .ok (aggAt W g o 16) W := by
  obtain ⟨d, h1, h2⟩ := und26
  have := run_loadAt_mid (P := Try.prog) W g o 26 (cellsAt W g o 16).toList d (range_cells h) h1 h2 (by rw [cellsAt_len]; exact size26)
  simpa [aggAt] using this
theorem ldv26 {W : World} (g o : Nat) (h : W.there g o 16) : (loadVar 26 ⟨g, o, none⟩).run Try.prog W = .ok (aggAt W g o 16) W := by
  obtain ⟨d, h1, h2⟩ := und26
  have := run_loadVar_mid (P := Try.prog) W g o 26 (cellsAt W g o 16).toList d (range_cells h) h1 h2 (by rw [cellsAt_len]; exact size26)
  simpa [aggAt] using this
theorem st26 {W : World} (g o : Nat) (l : List B8) (hl : l.length = 16) (h : W.there g o 16) : (Instr.storeAt 26 (.pointer (some ⟨g, o, none⟩)) (bagg l)).run Try.prog W = .ok () (W.setCells g o (bl l)) := by
  have e : (bl l).toArray.size = 16 := ((bl_len l).trans hl)
  have := run_storeAt_mid (P := Try.prog) W g o 26 (bl l).toArray (by rw [e]; exact h) (by rw [e]; exact size26) (by rw [Array.all_eq_true_iff_forall_mem]; intro u hu; exact bl_one l u (by simpa using hu))
  simpa [bagg] using this
@[go_sem ↓] theorem wp_bs26 (dst : Option Tmp) (x y : Operand) (ty : TypeId) (pos : String) (after : Array _) (guard : Option _) (a : Act) (w : World) (K : Act → World → Prop) (Q : Exit → Act → World → Prop) :
    Oper.wp Try.prog { dst := dst, op := .store 26 x y, type := ty, pos := pos, after := after, guard := guard } a w K Q = bigStore { dst := dst, op := .move x, type := ty, pos := pos, after := #[], guard := none } 26 (a.eval x) (a.eval y) a w K Q := rfl
@[go_sem ↓] theorem wp_bl26 (dst : Option Tmp) (x : Operand) (ty : TypeId) (pos : String) (after : Array _) (guard : Option _) (a : Act) (w : World) (K : Act → World → Prop) (Q : Exit → Act → World → Prop) :
    Oper.wp Try.prog { dst := dst, op := .load 26 x, type := ty, pos := pos, after := after, guard := guard } a w K Q = bigLoad { dst := dst, op := .move x, type := ty, pos := pos, after := #[], guard := none } 26 (a.eval x) a w K Q := rfl
@[go_sem high] theorem bs26 {w : World} (o : Oper) (g i : Nat) (l : List B8) (a : Act) (K : Act → World → Prop) (Q : Exit → Act → World → Prop) (hl : l.length = 16) (h : w.there g i 16) :
    bigStore o 26 (.pointer (some ⟨g, i, none⟩)) (bagg l) a w K Q = K (a.put o.dst undef) (w.setCells g i (bl l)) := by
  unfold bigStore
  simp only [Sem.run_bind, st26 g i _ hl h, Result.andThen_ok, Sem.run_pure, Oper.upon_skip]
@[go_sem high] theorem bl26 {w : World} (o : Oper) (g i : Nat) (a : Act) (K : Act → World → Prop) (Q : Exit → Act → World → Prop) (h : w.there g i 16) :
    bigLoad o 26 (.pointer (some ⟨g, i, none⟩)) a w K Q = K (a.put o.dst (aggAt w g i 16)) w := by
  unfold bigLoad
  simp only [Sem.run_bind, ld26 g i h, Result.andThen_ok, Sem.run_pure, Oper.upon_value]

def zero8 : S8 := ⟨0, 0, 0, 0, 0, 0, 0, 0⟩
def z37 : Array Value := (sl zero8).toArray
def z39 : Array Value := (hl zero8 (.slice none 0 0) 0 false).toArray
def z51 : Array Value := (wl (List.replicate 64 0#32)).toArray
def z24 : Array Value := (bl (List.replicate 32 0#8)).toArray
def z26 : Array Value := (bl (List.replicate 16 0#8)).toArray
@[go_sem ↓] theorem wp_al37 (dst : Option Tmp) (ty : TypeId) (pos : String) (after : Array _) (guard : Option _) (a : Act) (w : World) (K : Act → World → Prop) (Q : Exit → Act → World → Prop) :
    Oper.wp Try.prog { dst := dst, op := .alloc 37, type := ty, pos := pos, after := after, guard := guard } a w K Q = K (a.put dst (.pointer (some ⟨w.heap.size, 0, none⟩))) (w.alloc (.cells z37 37)) := by kernel_rfl
@[go_sem ↓] theorem wp_al39 (dst : Option Tmp) (ty : TypeId) (pos : String) (after : Array _) (guard : Option _) (a : Act) (w : World) (K : Act → World → Prop) (Q : Exit → Act → World → Prop) :
    Oper.wp Try.prog { dst := dst, op := .alloc 39, type := ty, pos := pos, after := after, guard := guard } a w K Q = K (a.put dst (.pointer (some ⟨w.heap.size, 0, none⟩))) (w.alloc (.cells z39 39)) := by kernel_rfl
@[go_sem ↓] theorem wp_al51 (dst : Option Tmp) (ty : TypeId) (pos : String) (after : Array _) (guard : Option _) (a : Act) (w : World) (K : Act → World → Prop) (Q : Exit → Act → World → Prop) :
    Oper.wp Try.prog { dst := dst, op := .alloc 51, type := ty, pos := pos, after := after, guard := guard } a w K Q = K (a.put dst (.pointer (some ⟨w.heap.size, 0, none⟩))) (w.alloc (.cells z51 51)) := by kernel_rfl
@[go_sem ↓] theorem wp_al24 (dst : Option Tmp) (ty : TypeId) (pos : String) (after : Array _) (guard : Option _) (a : Act) (w : World) (K : Act → World → Prop) (Q : Exit → Act → World → Prop) :
    Oper.wp Try.prog { dst := dst, op := .alloc 24, type := ty, pos := pos, after := after, guard := guard } a w K Q = K (a.put dst (.pointer (some ⟨w.heap.size, 0, none⟩))) (w.alloc (.cells z24 24)) := by kernel_rfl
@[go_sem ↓] theorem wp_al26 (dst : Option Tmp) (ty : TypeId) (pos : String) (after : Array _) (guard : Option _) (a : Act) (w : World) (K : Act → World → Prop) (Q : Exit → Act → World → Prop) :
    Oper.wp Try.prog { dst := dst, op := .alloc 26, type := ty, pos := pos, after := after, guard := guard } a w K Q = K (a.put dst (.pointer (some ⟨w.heap.size, 0, none⟩))) (w.alloc (.cells z26 26)) := by kernel_rfl
@[go_sem ↓] theorem wp_bd51 (dst : Option Tmp) (ty : TypeId) (pos : String) (after : Array _) (guard : Option _) (a : Act) (w : World) (K : Act → World → Prop) (Q : Exit → Act → World → Prop) :
    Oper.wp Try.prog { dst := dst, op := .build 51 #[], type := ty, pos := pos, after := after, guard := guard } a w K Q = K (a.put dst (wagg (List.replicate 64 0#32))) w := by kernel_rfl
@[go_sem ↓] theorem wp_bd24 (dst : Option Tmp) (ty : TypeId) (pos : String) (after : Array _) (guard : Option _) (a : Act) (w : World) (K : Act → World → Prop) (Q : Exit → Act → World → Prop) :
    Oper.wp Try.prog { dst := dst, op := .build 24 #[], type := ty, pos := pos, after := after, guard := guard } a w K Q = K (a.put dst (bagg (List.replicate 32 0#8))) w := by kernel_rfl
@[go_sem ↓] theorem wp_bd39 (dst : Option Tmp) (ty : TypeId) (pos : String) (after : Array _) (guard : Option _) (a : Act) (w : World) (K : Act → World → Prop) (Q : Exit → Act → World → Prop) :
    Oper.wp Try.prog { dst := dst, op := .build 39 #[], type := ty, pos := pos, after := after, guard := guard } a w K Q = K (a.put dst (hagg zero8 (.slice none 0 0) 0 false)) w := by kernel_rfl
@[go_sem ↓] theorem wp_bd26 (dst : Option Tmp) (ty : TypeId) (pos : String) (after : Array _) (guard : Option _) (a : Act) (w : World) (K : Act → World → Prop) (Q : Exit → Act → World → Prop) :
    Oper.wp Try.prog { dst := dst, op := .build 26 #[], type := ty, pos := pos, after := after, guard := guard } a w K Q = K (a.put dst (bagg (List.replicate 16 0#8))) w := by kernel_rfl

theorem z37_size : z37.size = 8 := rfl
theorem z39_size : z39.size = 11 := rfl
theorem z51_size : z51.size = 64 := by simp [z51, wl]
theorem z24_size : z24.size = 32 := by simp [z24, bl]
theorem z26_size : z26.size = 16 := by simp [z26, bl]
theorem len_kays : kays.length = 64 := by decide
theorem set37 {W : World} {g : Nat} {t : TypeId} {cs : Array Value} (s : S8) (h : Blk W g t cs) (hs : cs.size = 8) : Blk (W.setCells g 0 (sl s)) g t (sl s).toArray := blk_sets h (hs.trans rfl)
theorem set39 {W : World} {g : Nat} {t : TypeId} {cs : Array Value} (s : S8) (v : Value) (n : Int) (b : Bool) (h : Blk W g t cs) (hs : cs.size = 11) : Blk (W.setCells g 0 (hl s v n b)) g t (hl s v n b).toArray := blk_sets h (hs.trans rfl)
theorem set51 {W : World} {g : Nat} {t : TypeId} {cs : Array Value} (l : List W32) (hl : l.length = 64) (h : Blk W g t cs) (hs : cs.size = 64) : Blk (W.setCells g 0 (wl l)) g t (wl l).toArray := blk_sets h (hs.trans ((wl_len l).trans hl).symm)
theorem set24 {W : World} {g : Nat} {t : TypeId} {cs : Array Value} (l : List B8) (hl : l.length = 32) (h : Blk W g t cs) (hs : cs.size = 32) : Blk (W.setCells g 0 (bl l)) g t (bl l).toArray := blk_sets h (hs.trans ((bl_len l).trans hl).symm)
theorem set26 {W : World} {g : Nat} {t : TypeId} {cs : Array Value} (l : List B8) (hl : l.length = 16) (h : Blk W g t cs) (hs : cs.size = 16) : Blk (W.setCells g 0 (bl l)) g t (bl l).toArray := blk_sets h (hs.trans ((bl_len l).trans hl).symm)
theorem Blk.thereN {W : World} {g : Nat} {t : TypeId} {cs : Array Value} (h : Blk W g t cs) (n : Nat) (hs : cs.size = n) : W.there g 0 n := h.there (by omega)
@[go_sem ↓] theorem wp_bk51 (dst : Option Tmp) (ty : TypeId) (pos : String) (after : Array _) (guard : Option _) (a : Act) (w : World) (K : Act → World → Prop) (Q : Exit → Act → World → Prop) :
    Oper.wp Try.prog { dst := dst, op := .build 51 #[(0, .const (.int .u32 1116352408)), (1, .const (.int .u32 1899447441)), (2, .const (.int .u32 3049323471)), (3, .const (.int .u32 3921009573)), (4, .const (.int .u32 961987163)), (5, .const (.int .u32 1508970993)), (6, .const (.int .u32 2453635748)), (7, .const (.int .u32 2870763221)), (8, .const (.int .u32 3624381080)), (9, .const (.int .u32 310598401)), (10, .const (.int .u32 607225278)), (11, .const (.int .u32 1426881987)), (12, .const (.int .u32 1925078388)), (13, .const (.int .u32 2162078206)), (14, .const (.int .u32 2614888103)), (15, .const (.int .u32 3248222580)), (16, .const (.int .u32 3835390401)), (17, .const (.int .u32 4022224774)), (18, .const (.int .u32 264347078)), (19, .const (.int .u32 604807628)), (20, .const (.int .u32 770255983)), (21, .const (.int .u32 1249150122)), (22, .const (.int .u32 1555081692)), (23, .const (.int .u32 1996064986)), (24, .const (.int .u32 2554220882)), (25, .const (.int .u32 2821834349)), (26, .const (.int .u32 2952996808)), (27, .const (.int .u32 3210313671)), (28, .const (.int .u32 3336571891)), (29, .const (.int .u32 3584528711)), (30, .const (.int .u32 113926993)), (31, .const (.int .u32 338241895)), (32, .const (.int .u32 666307205)), (33, .const (.int .u32 773529912)), (34, .const (.int .u32 1294757372)), (35, .const (.int .u32 1396182291)), (36, .const (.int .u32 1695183700)), (37, .const (.int .u32 1986661051)), (38, .const (.int .u32 2177026350)), (39, .const (.int .u32 2456956037)), (40, .const (.int .u32 2730485921)), (41, .const (.int .u32 2820302411)), (42, .const (.int .u32 3259730800)), (43, .const (.int .u32 3345764771)), (44, .const (.int .u32 3516065817)), (45, .const (.int .u32 3600352804)), (46, .const (.int .u32 4094571909)), (47, .const (.int .u32 275423344)), (48, .const (.int .u32 430227734)), (49, .const (.int .u32 506948616)), (50, .const (.int .u32 659060556)), (51, .const (.int .u32 883997877)), (52, .const (.int .u32 958139571)), (53, .const (.int .u32 1322822218)), (54, .const (.int .u32 1537002063)), (55, .const (.int .u32 1747873779)), (56, .const (.int .u32 1955562222)), (57, .const (.int .u32 2024104815)), (58, .const (.int .u32 2227730452)), (59, .const (.int .u32 2361852424)), (60, .const (.int .u32 2428436474)), (61, .const (.int .u32 2756734187)), (62, .const (.int .u32 3204031479)), (63, .const (.int .u32 3329325298))], type := ty, pos := pos, after := after, guard := guard } a w K Q = K (a.put dst (wagg kays)) w := by kernel_rfl

/-- a box of eight words, its operand known -/
def bigBox (dst : Option Tmp) (v : Value) (a : Act) (w : World) (K : Act → World → Prop) (Q : Exit → Act → World → Prop) : Prop := Oper.wp Try.prog { dst := dst, op := .box 37 (.const v), type := 0, pos := "", after := #[], guard := none } a w K Q
@[go_sem ↓] theorem wp_bx37 (dst : Option Tmp) (x : Operand) (ty : TypeId) (pos : String) (after : Array _) (guard : Option _) (a : Act) (w : World) (K : Act → World → Prop) (Q : Exit → Act → World → Prop) :
    Oper.wp Try.prog { dst := dst, op := .box 37 x, type := ty, pos := pos, after := after, guard := guard } a w K Q = bigBox dst (a.eval x) a w K Q := rfl
@[go_sem] theorem bx37 (dst : Option Tmp) (s : S8) (a : Act) (w : World) (K : Act → World → Prop) (Q : Exit → Act → World → Prop) :
    bigBox dst (sagg s) a w K Q = K (a.put dst (.pointer (some ⟨w.heap.size, 0, none⟩))) (w.alloc (.cells (sl s).toArray 37)) := by kernel_rfl

theorem wr_sets {w w' : World} {g : Nat} (h : Wr w w' g) : ∀ (vs : List Value) (o : Nat), Wr w (w'.setCells g o vs) g := by
  intro vs
  induction vs generalizing w' with
  | nil => intro o; exact h
  | cons v r ih => intro o; exact ih (h.set o v) (o + 1)

@[go_sem] theorem frozen_sets {W : World} (b : Nat) : ∀ (vs : List Value) (o : Nat) (q : Addr), (W.setCells b o vs).frozen? q = W.frozen? q := by
  intro vs
  induction vs generalizing W with
  | nil => intro o q; rfl
  | cons v r ih => intro o q; exact (ih (W := W.setCell ⟨b, o, none⟩ v) (o + 1) q).trans (by simp)
theorem cell_sets_out {W : World} (b : Nat) (vs : List Value) (o j : Nat) (h : j < o ∨ o + vs.length ≤ j) : (W.setCells b o vs).cell? ⟨b, j, none⟩ = W.cell? ⟨b, j, none⟩ :=
  World.cell?_setCells_out b vs o W ⟨b, j, none⟩ (fun _ _ => h)

@[go_sem] theorem cell_sl_8 {W : World} (b : Nat) (s : S8) : (W.setCells b 0 (sl s)).cell? ⟨b, 8, none⟩ = W.cell? ⟨b, 8, none⟩ := cell_sets_out b (sl s) 0 8 (.inr (Nat.le_refl _))
@[go_sem] theorem cell_sl_9 {W : World} (b : Nat) (s : S8) : (W.setCells b 0 (sl s)).cell? ⟨b, 9, none⟩ = W.cell? ⟨b, 9, none⟩ := cell_sets_out b (sl s) 0 9 (.inr (by simp [sl]))
@[go_sem] theorem cell_sl_10 {W : World} (b : Nat) (s : S8) : (W.setCells b 0 (sl s)).cell? ⟨b, 10, none⟩ = W.cell? ⟨b, 10, none⟩ := cell_sets_out b (sl s) 0 10 (.inr (by simp [sl]))

/-- one result out of its cell -/
theorem fin_cell {fn : Func} {t : TypeId} {r : Tmp} (hf : fn.results = #[.cell r t]) {Post : Ending → World → Prop} {a : Act} {V : World} {g : Nat} {v : Value}
    (h2 : a.tmps[r]?.getD undef = .pointer (some ⟨g, 0, none⟩)) (hd : a.defers = []) (hl : (loadVar t ⟨g, 0, none⟩).run Try.prog V = .ok v V) (hp : Post (.returned v) V) : bodyPost Try.prog fn Post .ret a V := by
  refine bodyPost_ret ?_ hd hp
  simp [results, hf, h2, hl, asAddr]
end Go.Proofs.Ytnidpncacgknkaa
