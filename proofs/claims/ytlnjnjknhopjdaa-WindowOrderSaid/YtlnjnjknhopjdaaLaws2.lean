/- The plain laws of the window behind a row of numbers: a number is fresh just if it may be, and did not come, and is not too old. No program in sight. -/
import Derived.Test.YtlnjnjknhopjdaaLaws
namespace Go.Proofs.Ytlnjnjknhopjdaa

/-- did n come among the first j of l, which r tells? -/
def cameB (l : List Int) (r : List Bool) (n : Int) : Nat → Bool
  | 0 => false
  | j + 1 => cameB l r n j || (l.getD j 0 == n && r.getD j false)

theorem cameB_iff (l : List Int) (r : List Bool) (n : Int) (j : Nat) : cameB l r n j = true ↔ ∃ i, i < j ∧ l.getD i 0 = n ∧ r.getD i false = true := by
  induction j with
  | zero => simp [cameB]
  | succ j ih =>
    simp only [cameB, Bool.or_eq_true, ih, Bool.and_eq_true, beq_iff_eq]
    constructor
    · rintro (⟨i, h1, h2⟩ | ⟨h1, h2⟩)
      · exact ⟨i, by omega, h2⟩
      · exact ⟨j, by omega, h1, h2⟩
    · rintro ⟨i, h1, h2⟩
      by_cases h : i = j
      · subst h; exact .inr h2
      · exact .inl ⟨i, by omega, h2⟩

theorem runB_getD (l : List Int) : ∀ (k : Nat) (nx : Int) (sn : Nat) (h : k < l.length), (runB nx sn l).getD k false = freshB (stN nx sn (l.take k)) (stS nx sn (l.take k)) l[k] := by
  induction l with
  | nil => intro k nx sn h; simp at h
  | cons a l ih =>
    intro k nx sn h
    cases k with
    | zero => rfl
    | succ k => exact ih k _ _ (by simpa using h)

/-- what a window says of what came -/
structure Told (nx : Int) (sn : Nat) (came : Int → Prop) : Prop where
  lo : 0 ≤ nx
  hi : nx ≤ 4611686018427387904
  below : ∀ m, came m → 0 ≤ m ∧ m < nx
  top : 0 < nx → came (nx - 1)
  bits : ∀ i : Nat, i < 64 → (sn.testBit i = true ↔ came (nx - 1 - i))

theorem Told.next {nx : Int} {sn : Nat} {came : Int → Prop} (h : Told nx sn came) : nextOf nx = nx := by have := h.lo; have := h.hi; unfold nextOf; omega

theorem Told.fresh {nx : Int} {sn : Nat} {came : Int → Prop} (h : Told nx sn came) (n : Int) :
    freshB nx sn n = true ↔ 0 ≤ n ∧ n ≤ 4611686018427387903 ∧ ¬ came n ∧ nx - 65 < n := by
  rw [freshB_iff, h.next]
  constructor
  · rintro ⟨h0, h1, h2 | ⟨h2, h3⟩⟩
    · exact ⟨h0, h1, fun hc => by have := (h.below n hc).2; omega, by omega⟩
    · by_cases hn : nx ≤ n
      · exact ⟨h0, h1, fun hc => by have := (h.below n hc).2; omega, by omega⟩
      refine ⟨h0, h1, fun hc => ?_, by omega⟩
      have hb := (h.bits (nx - 1 - n).toNat (by omega)).2 (by rwa [show nx - 1 - ((nx - 1 - n).toNat : Int) = n by omega])
      rw [h3] at hb
      cases hb
  · rintro ⟨h0, h1, h2, h3⟩
    refine ⟨h0, h1, ?_⟩
    by_cases hn : nx ≤ n
    · exact .inl hn
    · refine .inr ⟨by omega, ?_⟩
      cases hb : sn.testBit (nx - 1 - n).toNat with
      | false => rfl
      | true =>
        have := (h.bits (nx - 1 - n).toNat (by omega)).1 hb
        rw [show nx - 1 - ((nx - 1 - n).toNat : Int) = n by omega] at this
        exact absurd this h2

theorem Told.mark {nx : Int} {sn : Nat} {came came' : Int → Prop} (h : Told nx sn came) (n : Int) (hc : ∀ m, came' m ↔ came m ∨ (m = n ∧ freshB nx sn n = true)) :
    Told (markN nx sn n) (markS nx sn n) came' := by
  cases hf : freshB nx sn n with
  | false =>
    rw [(mark_not nx sn n hf).1, (mark_not nx sn n hf).2]
    have e : ∀ m, came' m ↔ came m := fun m => by rw [hc, hf]; simp
    exact ⟨h.lo, h.hi, fun m hm => h.below m ((e m).1 hm), fun h0 => (e _).2 (h.top h0), fun i hi => (h.bits i hi).trans (e _).symm⟩
  | true =>
    have e : ∀ m, came' m ↔ came m ∨ m = n := fun m => by rw [hc, hf]; simp
    obtain ⟨f0, f1, f2, f3⟩ := (h.fresh n).1 hf
    have hx := h.next
    have hlo := h.lo
    have hhi := h.hi
    by_cases hn : n < nx
    · rw [(mark_low nx sn n hf (by omega)).1, (mark_low nx sn n hf (by omega)).2, hx]
      refine ⟨h.lo, h.hi, fun m hm => ?_, fun h0 => (e _).2 (.inl (h.top h0)), fun i hi => ?_⟩
      · rcases (e m).1 hm with hm | rfl
        · exact h.below m hm
        · exact ⟨f0, hn⟩
      · rw [Nat.testBit_or, Bool.or_eq_true, h.bits i hi, e, Nat.testBit_two_pow]
        constructor
        · rintro (h1 | h1)
          · exact .inl h1
          · simp at h1; exact .inr (by omega)
        · rintro (h1 | h1)
          · exact .inl h1
          · exact .inr (by simp; omega)
    · rw [(mark_high nx sn n hf (by omega)).1, (mark_high nx sn n hf (by omega)).2, hx]
      refine ⟨by omega, by omega, fun m hm => ?_, fun _ => (e _).2 (.inr (by omega)), fun i hi => ?_⟩
      · rcases (e m).1 hm with hm | rfl
        · have := h.below m hm; omega
        · omega
      · rw [Nat.testBit_or, Bool.or_eq_true, e]
        have h1 : (Nat.testBit 1 i = true) ↔ i = 0 := by
          cases i with
          | zero => simp
          | succ i => simp [Nat.testBit_succ]
        rw [h1]
        by_cases h64 : (n + 1 - nx).toNat < 64
        · rw [shl64_bit _ _ _ hi h64, Bool.and_eq_true, decide_eq_true_eq]
          constructor
          · rintro (⟨g1, g2⟩ | rfl)
            · have := (h.bits _ (by omega)).1 g2
              refine .inl ?_
              rwa [show n + 1 - 1 - (i : Int) = nx - 1 - ((i - (n + 1 - nx).toNat : Nat) : Int) by omega]
            · exact .inr (by omega)
          · rintro (g | g)
            · have hb := (h.below _ g).2
              refine .inl ⟨by omega, (h.bits _ (by omega)).2 ?_⟩
              rwa [show nx - 1 - ((i - (n + 1 - nx).toNat : Nat) : Int) = n + 1 - 1 - (i : Int) by omega]
            · exact .inr (by omega)
        · rw [shl64_bit0 _ _ _ (by omega)]
          constructor
          · rintro (g | rfl)
            · cases g
            · exact .inr (by omega)
          · rintro (g | g)
            · have hb := (h.below _ g).2
              omega
            · exact .inr (by omega)

theorem told_start : Told 0 0 (fun _ => False) := ⟨by omega, by omega, fun _ h => h.elim, fun h => by omega, fun i _ => by simp⟩

/-- behind the first k numbers the window tells which of them came -/
theorem told (l : List Int) (k : Nat) (hk : k ≤ l.length) : Told (stN 0 0 (l.take k)) (stS 0 0 (l.take k)) (fun m => cameB l (runB 0 0 l) m k = true) := by
  induction k with
  | zero =>
    have : (fun m => cameB l (runB 0 0 l) m 0 = true) = fun _ => False := by funext m; simp [cameB]
    rw [this]
    exact told_start
  | succ k ih =>
    have hlt : k < l.length := by omega
    have hs := st_snoc (l.take k) l[k] 0 0
    rw [← List.take_succ_eq_append_getElem hlt] at hs
    rw [hs.1, hs.2.1]
    refine (ih (by omega)).mark l[k] fun m => ?_
    have hg := runB_getD l k 0 0 hlt
    simp only [cameB, Bool.or_eq_true, Bool.and_eq_true, beq_iff_eq]
    rw [hg, show l.getD k 0 = l[k] by simp [List.getD, hlt]]
    constructor
    · rintro (h | ⟨rfl, h⟩)
      · exact .inl h
      · exact .inr ⟨rfl, h⟩
    · rintro (h | ⟨rfl, h⟩)
      · exact .inl h
      · exact .inr ⟨rfl, h⟩

theorem greatest_next (l : List Int) (k : Nat) (hk : k < l.length) :
    stN 0 0 (l.take (k + 1)) - 1 = if (runB 0 0 l).getD k false = true then max (stN 0 0 (l.take k) - 1) l[k] else stN 0 0 (l.take k) - 1 := by
  have ht := told l k (by omega)
  have hs := st_snoc (l.take k) l[k] 0 0
  rw [← List.take_succ_eq_append_getElem hk] at hs
  rw [hs.1, runB_getD l k 0 0 hk]
  cases hf : freshB (stN 0 0 (l.take k)) (stS 0 0 (l.take k)) l[k] with
  | false => rw [(mark_not _ _ _ hf).1]; simp
  | true =>
    have hx := ht.next
    rw [if_pos rfl]
    by_cases hn : l[k] < nextOf (stN 0 0 (l.take k))
    · rw [(mark_low _ _ _ hf hn).1]; omega
    · rw [(mark_high _ _ _ hf (by omega)).1]; omega
end Go.Proofs.Ytlnjnjknhopjdaa
