/- What runes ask for: plain laws, for EscapePlain. No condition. -/
import Derived.Test.YtjgaljnojhkimaaActs
namespace Go.Proofs.Ytjgaljnojhkimaa
theorem ofP_ok {q : Pa} (h : okP q = true) : ofP q = q := by unfold ofP; rw [if_pos h]
/-- a rune that asks for itself -/
def plainR (n : Int) : Bool := decide (32 ≤ n) && !decide (n = 127)
theorem step_plain {n : Int} (h : plainR n = true) : stepP .zero n = (.zero, .of 1 n, true) := by
  simp only [plainR, Bool.and_eq_true, decide_eq_true_eq, Bool.not_eq_true', decide_eq_false_iff_not] at h
  have hz : ofP .zero = .zero := ofP_ok (by decide)
  unfold stepP
  rw [hz, if_neg (by omega), if_neg (by omega), if_pos rfl, if_neg (by omega)]
theorem acts_plain : ∀ l : List Int, (∀ n ∈ l, plainR n = true) → actsP .zero l = (l.map (Ac.of 1), .zero)
  | [], _ => rfl
  | n :: l, h => by
    have h1 := step_plain (h n (by simp))
    rw [actsP, h1]
    simp only [if_true]
    rw [acts_plain l (fun x hx => h x (by simp [hx]))]
    rfl
/-- behind the last number that was begun all are 0 -/
def Tail (a : Ac) : Prop := ∀ k : Nat, k < 8 → a.many < (k : Int) → a.get k = 0
def Good (a : Ac) : Prop := okA a = true ∧ Tail a
def Inv (p : Pa) : Prop := okP p = true ∧ Tail p.a
theorem good_of (k r : Int) : Good (.of k r) := ⟨rfl, fun j hj _ => by
  match j, hj with
  | 0, _ | 1, _ | 2, _ | 3, _ | 4, _ | 5, _ | 6, _ | 7, _ => rfl
  | n + 8, h => exact absurd h (by omega)⟩
theorem inv_at {s : Int} (h0 : 0 ≤ s) (h3 : s ≤ 3) : Inv (.at s) := by
  refine ⟨?_, (good_of 0 0).2⟩
  have h : okA .zero = true := rfl
  simp [okP, h0, h3, h]
theorem inv_zero : Inv .zero := inv_at (by omega) (by omega)
theorem ok_parts {p : Pa} (h : okP p = true) : 0 ≤ p.st ∧ p.st ≤ 3 ∧ (p.st = 2 ∨ p.a = .zero) ∧ 0 ≤ p.a.many ∧ p.a.many ≤ 7 ∧ p.a.kind = 0 ∧ p.a.rune = 0 ∧ okA p.a = true := by
  simp only [okP, Bool.and_eq_true, Bool.or_eq_true, decide_eq_true_eq] at h
  obtain ⟨⟨⟨⟨⟨⟨⟨h1, h2⟩, h3⟩, h4⟩, h5⟩, h6⟩, h7⟩, h8⟩ := h
  exact ⟨h1, h2, h3, h4, h5, h6, h7, h8⟩
theorem ok_of {p : Pa} (h : 0 ≤ p.st ∧ p.st ≤ 3 ∧ (p.st = 2 ∨ p.a = .zero) ∧ 0 ≤ p.a.many ∧ p.a.many ≤ 7 ∧ p.a.kind = 0 ∧ p.a.rune = 0 ∧ okA p.a = true) : okP p = true := by
  obtain ⟨h1, h2, h3, h4, h5, h6, h7, h8⟩ := h
  simp only [okP, Bool.and_eq_true, Bool.or_eq_true, decide_eq_true_eq]
  exact ⟨⟨⟨⟨⟨⟨⟨h1, h2⟩, h3⟩, h4⟩, h5⟩, h6⟩, h7⟩, h8⟩
theorem okA_iff (a : Ac) : okA a = true ↔ (0 ≤ a.p0 ∧ a.p0 ≤ 9999) ∧ (0 ≤ a.p1 ∧ a.p1 ≤ 9999) ∧ (0 ≤ a.p2 ∧ a.p2 ≤ 9999) ∧ (0 ≤ a.p3 ∧ a.p3 ≤ 9999) ∧ (0 ≤ a.p4 ∧ a.p4 ≤ 9999) ∧ (0 ≤ a.p5 ∧ a.p5 ≤ 9999) ∧ (0 ≤ a.p6 ∧ a.p6 ≤ 9999) ∧ (0 ≤ a.p7 ∧ a.p7 ≤ 9999) := by
  simp [okA, okPar, Ac.par]
theorem tail_iff (a : Ac) : Tail a ↔ (a.many < 0 → a.p0 = 0) ∧ (a.many < 1 → a.p1 = 0) ∧ (a.many < 2 → a.p2 = 0) ∧ (a.many < 3 → a.p3 = 0) ∧ (a.many < 4 → a.p4 = 0) ∧ (a.many < 5 → a.p5 = 0) ∧ (a.many < 6 → a.p6 = 0) ∧ (a.many < 7 → a.p7 = 0) := by
  constructor
  · intro h
    exact ⟨h 0 (by omega), h 1 (by omega), h 2 (by omega), h 3 (by omega), h 4 (by omega), h 5 (by omega), h 6 (by omega), h 7 (by omega)⟩
  · rintro ⟨h0, h1, h2, h3, h4, h5, h6, h7⟩ k hk
    match k, hk with
    | 0, _ => exact h0
    | 1, _ => exact h1
    | 2, _ => exact h2
    | 3, _ => exact h3
    | 4, _ => exact h4
    | 5, _ => exact h5
    | 6, _ => exact h6
    | 7, _ => exact h7
    | n + 8, h => exact absurd h (by omega)
theorem put_good {a : Ac} {x : Int} (h : Good a) (h0 : 0 ≤ a.many) (h7 : a.many ≤ 7) (hx0 : 0 ≤ x) (hx : x ≤ 9999) : Good (a.put a.many.toNat x) := by
  obtain ⟨g1, g2⟩ := h
  rw [okA_iff] at g1
  rw [tail_iff] at g2
  refine ⟨(okA_iff _).2 ?_, (tail_iff _).2 ?_⟩
  · simp only [Ac.put]
    refine ⟨?_, ?_, ?_, ?_, ?_, ?_, ?_, ?_⟩ <;> (split <;> omega)
  · simp only [Ac.put]
    refine ⟨?_, ?_, ?_, ?_, ?_, ?_, ?_, ?_⟩ <;> (intro hm; split <;> omega)
theorem get_ok {a : Ac} (h : okA a = true) (k : Nat) : 0 ≤ a.get k := by
  rw [okA_iff] at h
  match k with
  | 0 => exact h.1.1
  | 1 => exact h.2.1.1
  | 2 => exact h.2.2.1.1
  | 3 => exact h.2.2.2.1.1
  | 4 => exact h.2.2.2.2.1.1
  | 5 => exact h.2.2.2.2.2.1.1
  | 6 => exact h.2.2.2.2.2.2.1.1
  | 7 => exact h.2.2.2.2.2.2.2.1
  | n + 8 => exact Int.le_refl 0
theorem step_inv {p : Pa} (n : Int) (h : Inv p) : Inv (stepP p n).1 ∧ ((stepP p n).2.2 = true → Good (stepP p n).2.1) := by
  obtain ⟨hok, ht⟩ := h
  have ho := ofP_ok hok
  obtain ⟨h1, h2, h3, h4, h5, h6, h7, h8⟩ := ok_parts hok
  have hI : Inv p := ⟨hok, ht⟩
  have F : ∀ a : Ac, (false = true → Good a) := fun _ h => by cases h
  unfold stepP
  rw [ho]
  split
  · exact ⟨inv_at (by omega) (by omega), F _⟩
  split
  · exact ⟨hI, fun _ => good_of _ _⟩
  split
  · split
    · exact ⟨hI, F _⟩
    · exact ⟨hI, fun _ => good_of _ _⟩
  split
  · split
    · exact ⟨inv_at (by omega) (by omega), F _⟩
    split
    · exact ⟨inv_at (by omega) (by omega), F _⟩
    split
    · exact ⟨inv_zero, fun _ => good_of _ _⟩
    · exact ⟨inv_zero, F _⟩
  split
  · rename_i hs
    unfold csiP
    split
    · have hg := get_ok h8 p.a.many.toNat
      obtain ⟨g1, g2⟩ := put_good (x := min (10 * p.a.get p.a.many.toNat + n - 48) 9999) ⟨h8, ht⟩ h4 h5 (by omega) (by omega)
      exact ⟨⟨ok_of ⟨h1, h2, .inl hs, h4, h5, h6, h7, g1⟩, g2⟩, F _⟩
    split
    · refine ⟨⟨ok_of ⟨h1, h2, .inl hs, by simp only []; omega, by simp only []; omega, h6, h7, h8⟩, ?_⟩, F _⟩
      intro k hk hm
      exact ht k hk (by simp only [] at hm; omega)
    split
    · exact ⟨⟨ok_of ⟨h1, h2, .inl hs, h4, h5, h6, h7, h8⟩, ht⟩, F _⟩
    split
    · exact ⟨inv_zero, fun _ => ⟨h8, ht⟩⟩
    · exact ⟨hI, F _⟩
  split
  · exact ⟨inv_zero, F _⟩
  · exact ⟨hI, F _⟩
theorem acts_good (l : List Int) : ∀ p, Inv p → (∀ a ∈ (actsP p l).1, Good a) ∧ Inv (actsP p l).2 := by
  induction l with
  | nil => intro p h; exact ⟨fun a ha => (by cases ha), h⟩
  | cons n l ih =>
    intro p h
    obtain ⟨g1, g2⟩ := step_inv n h
    obtain ⟨g3, g4⟩ := ih _ g1
    refine ⟨fun a ha => ?_, g4⟩
    simp only [actsP, List.mem_append] at ha
    rcases ha with ha | ha
    · split at ha
      · rename_i hh
        simp only [List.mem_singleton] at ha
        rw [ha]
        exact g2 hh
      · cases ha
    · exact g3 a ha
end Go.Proofs.Ytjgaljnojhkimaa
