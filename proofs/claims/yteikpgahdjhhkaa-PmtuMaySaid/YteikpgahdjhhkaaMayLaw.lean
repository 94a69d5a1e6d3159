/- PmtuMay's law, in plain Lean: what a path's size is behind packets that came, or were lost. No program in sight, no condition. -/
import Derived.Test.YteikpgahdjhhkaaPlain
namespace Go.Proofs.Yteikpgahdjhhkaa

/-- some packet is the probe of this size -/
def pr (z a : Int) (l : List Snt) : Bool := l.any fun s => s.p && (decide (s.z = z) && decide (z = a))
theorem pr_snoc (z a : Int) (l : List Snt) (s : Snt) : pr z a (l ++ [s]) = (pr z a l || (s.p && (decide (s.z = z) && decide (z = a)))) := by simp [pr]
theorem came_law {q : Pt} (h : Ok q) (l : List Snt) : (cames l q).z = q.z ∨ (q.a ≠ 0 ∧ (cames l q).z = q.a ∧ q.z < q.a ∧ pr (cames l q).z q.a l = true) := by
  have key : ∀ (l : List Snt) (r : Pt), (r.a = 0 → (cames l r).z = r.z) ∧ (r.a ≠ 0 → (cames l r).z = r.z ∨ ((cames l r).z = r.a ∧ pr r.a r.a l = true)) := by
    intro l
    induction l with
    | nil => intro r; exact ⟨fun _ => rfl, fun _ => .inl rfl⟩
    | cons s l ih =>
      intro r
      show (r.a = 0 → (cames l (came r s)).z = r.z) ∧ (r.a ≠ 0 → (cames l (came r s)).z = r.z ∨ ((cames l (came r s)).z = r.a ∧ pr r.a r.a (s :: l) = true))
      by_cases ha : asks r s = true
      · obtain ⟨h1, h2, h3⟩ := asks_iff.1 ha
        have hc : came r s = hit r := by unfold came; rw [if_pos ha]
        rw [hc]
        refine ⟨fun h0 => absurd h0 h1, fun _ => .inr ⟨?_, ?_⟩⟩
        · rw [(ih (hit r)).1 rfl]; rfl
        · unfold pr
          rw [List.any_cons, h2, decide_eq_true h3, decide_eq_true rfl]
          rfl
      · have hc : (came r s).z = r.z ∧ (came r s).a = r.a := by
          unfold came
          rw [if_neg ha]
          split <;> exact ⟨rfl, rfl⟩
        obtain ⟨i1, i2⟩ := ih (came r s)
        rw [hc.1, hc.2] at i1 i2
        refine ⟨i1, fun h => ?_⟩
        rcases i2 h with i | ⟨i, j⟩
        · exact .inl i
        · refine .inr ⟨i, ?_⟩
          unfold pr at *
          rw [List.any_cons, j]
          simp
  by_cases h0 : q.a = 0
  · exact .inl ((key l q).1 h0)
  · rcases (key l q).2 h0 with i | ⟨i, j⟩
    · exact .inl i
    · refine .inr ⟨h0, i, ?_, by rw [i]; exact j⟩
      obtain ⟨_, _, _, h4, _⟩ := h
      omega
theorem lost_law (l : List Snt) : ∀ (q : Pt), (loses l q).z = q.z ∨ ∃ b, loses l q = { z := 256, h := 1500, a := 0, f := 0, b := b } := by
  have key : ∀ (l : List Snt) (b : Int), ∃ b', loses l { z := 256, h := 1500, a := 0, f := 0, b := b } = { z := 256, h := 1500, a := 0, f := 0, b := b' } := by
    intro l
    induction l with
    | nil => intro b; exact ⟨b, rfl⟩
    | cons s l ih =>
      intro b
      show ∃ b', loses l (lose _ s) = _
      unfold lose
      rw [if_neg (by intro h; exact (asks_iff.1 h).1 rfl)]
      split
      · unfold black
        split
        · exact ih 0
        · exact ih (b + 1)
      · exact ih b
  induction l with
  | nil => intro q; exact .inl rfl
  | cons s l ih =>
    intro q
    show (loses l (lose q s)).z = q.z ∨ ∃ b, loses l (lose q s) = _
    have hs : (lose q s).z = q.z ∨ lose q s = start := by
      unfold lose
      split
      · left; unfold miss; split <;> rfl
      · split
        · unfold black; split
          · right; rfl
          · left; rfl
        · left; rfl
    rcases hs with hs | hs
    · rcases ih (lose q s) with i | i
      · left; rw [i, hs]
      · right; exact i
    · right
      rw [hs]
      exact key l 0
/-- asking, or packets that came, or were lost -/
def go1 (ak gn : Bool) (l : List Snt) (q : Pt) : Pt := if ak = true then ask q else if gn = true then loses l q else cames l q
theorem go1_ok {ak gn : Bool} {l : List Snt} {q : Pt} (h : Ok q) : Ok (go1 ak gn l q) := by
  unfold go1
  split
  · exact ask_ok h
  · split
    · exact loses_ok l h
    · exact cames_ok l h
end Go.Proofs.Yteikpgahdjhhkaa
