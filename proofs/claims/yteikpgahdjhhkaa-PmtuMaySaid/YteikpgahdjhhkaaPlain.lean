/- Paths, in plain Lean: what may be, what is asked, packets that came, or were lost, the search. No program in sight, no condition. -/
namespace Go.Proofs.Yteikpgahdjhhkaa

structure Pt where
  z : Int
  h : Int
  a : Int
  f : Int
  b : Int
structure Snt where
  k : Int
  t : Int
  z : Int
  e : Bool
  p : Bool
def start : Pt := { z := 256, h := 1500, a := 0, f := 0, b := 0 }
def sizes (q : Pt) : Bool := (decide (256 ≤ q.z) && decide (q.z ≤ q.h)) && decide (q.h ≤ 1500)
def asked (q : Pt) : Bool := decide (q.a = 0) || (decide (q.z < q.a) && decide (q.a ≤ q.h))
def chk (q : Pt) : Bool := ((((sizes q && asked q) && decide (0 ≤ q.f)) && decide (q.f < 3)) && decide (0 ≤ q.b)) && decide (q.b < 6)
def Ok (q : Pt) : Prop := 256 ≤ q.z ∧ q.z ≤ q.h ∧ q.h ≤ 1500 ∧ (q.a = 0 ∨ (q.z < q.a ∧ q.a ≤ q.h)) ∧ 0 ≤ q.f ∧ q.f < 3 ∧ 0 ≤ q.b ∧ q.b < 6
theorem chk_iff (q : Pt) : chk q = true ↔ Ok q := by
  unfold chk sizes asked Ok
  simp only [Bool.and_eq_true, Bool.or_eq_true, decide_eq_true_eq]
  omega
def ofP (q : Pt) : Pt := if chk q = true then q else start
theorem ok_start : Ok start := by unfold Ok start; dsimp only; omega
theorem ok_of (q : Pt) : Ok (ofP q) := by
  unfold ofP
  split
  · exact (chk_iff q).1 ‹_›
  · exact ok_start
theorem of_ok {q : Pt} (h : Ok q) : ofP q = q := by unfold ofP; rw [if_pos ((chk_iff q).2 h)]

def next (q : Pt) : Int := if q.a ≠ 0 ∨ q.h - q.z < 16 then 0 else (q.z + q.h + 1) / 2
theorem next_bd {q : Pt} (h : Ok q) : next q = 0 ∨ (q.a = 0 ∧ 16 ≤ q.h - q.z ∧ q.z < next q ∧ next q ≤ q.h) := by
  obtain ⟨h1, h2, h3, h4, h5⟩ := h
  unfold next
  split
  · exact .inl rfl
  · refine .inr ⟨by omega, by omega, by omega, by omega⟩
def ask (q : Pt) : Pt := { z := q.z, h := q.h, a := max q.a (next q), f := q.f, b := q.b }
def ask2 (q : Pt) : Pt := if next q ≠ 0 then { z := q.z, h := q.h, a := next q, f := q.f, b := q.b } else q
theorem ask_same {q : Pt} (h : Ok q) : ask q = ask2 q := by
  have hn := next_bd h
  obtain ⟨h1, h2, h3, h4, h5⟩ := h
  obtain ⟨z, hh, a, f, b⟩ := q
  unfold ask ask2
  dsimp only at *
  split
  · rename_i hne
    have : max a (next { z := z, h := hh, a := a, f := f, b := b }) = next { z := z, h := hh, a := a, f := f, b := b } := by omega
    rw [this]
  · rename_i hne
    have : max a (next { z := z, h := hh, a := a, f := f, b := b }) = a := by omega
    rw [this]
theorem ask_ok {q : Pt} (h : Ok q) : Ok (ask q) := by
  have hn := next_bd h
  obtain ⟨h1, h2, h3, h4, h5⟩ := h
  unfold Ok ask
  dsimp only
  omega

def asks (q : Pt) (s : Snt) : Bool := decide (q.a ≠ 0) && (s.p && decide (s.z = q.a))
def large (s : Snt) : Bool := !s.p && decide (256 < s.z)
def hit (q : Pt) : Pt := { z := q.a, h := q.h, a := 0, f := 0, b := q.b }
def calm (q : Pt) : Pt := { z := q.z, h := q.h, a := q.a, f := q.f, b := 0 }
def came (q : Pt) (s : Snt) : Pt := if asks q s = true then hit q else if large s = true then calm q else q
def miss (q : Pt) : Pt := if q.f + 1 = 3 then { z := q.z, h := q.a - 1, a := 0, f := 0, b := q.b } else { z := q.z, h := q.h, a := 0, f := q.f + 1, b := q.b }
def black (q : Pt) : Pt := if q.b + 1 = 6 then start else { z := q.z, h := q.h, a := q.a, f := q.f, b := q.b + 1 }
def lose (q : Pt) (s : Snt) : Pt := if asks q s = true then miss q else if (large s && s.e) = true then black q else q
def cames : List Snt → Pt → Pt
  | [], q => q
  | s :: l, q => cames l (came q s)
def loses : List Snt → Pt → Pt
  | [], q => q
  | s :: l, q => loses l (lose q s)
theorem cames_snoc (l : List Snt) (s : Snt) : ∀ q, cames (l ++ [s]) q = came (cames l q) s := by
  induction l with
  | nil => intro q; rfl
  | cons a l ih => intro q; exact ih _
theorem loses_snoc (l : List Snt) (s : Snt) : ∀ q, loses (l ++ [s]) q = lose (loses l q) s := by
  induction l with
  | nil => intro q; rfl
  | cons a l ih => intro q; exact ih _
theorem asks_iff {q : Pt} {s : Snt} : asks q s = true ↔ q.a ≠ 0 ∧ s.p = true ∧ s.z = q.a := by
  unfold asks
  simp only [Bool.and_eq_true, decide_eq_true_eq]
theorem came_ok {q : Pt} {s : Snt} (h : Ok q) : Ok (came q s) := by
  unfold came
  split
  · rename_i ha
    obtain ⟨a1, a2, a3⟩ := asks_iff.1 ha
    obtain ⟨h1, h2, h3, h4, h5⟩ := h
    unfold hit Ok
    dsimp only
    omega
  · split
    · obtain ⟨h1, h2, h3, h4, h5⟩ := h
      unfold calm Ok
      dsimp only
      omega
    · exact h
theorem lose_ok {q : Pt} {s : Snt} (h : Ok q) : Ok (lose q s) := by
  unfold lose
  split
  · rename_i ha
    obtain ⟨a1, a2, a3⟩ := asks_iff.1 ha
    obtain ⟨h1, h2, h3, h4, h5⟩ := h
    unfold miss
    split <;> unfold Ok <;> dsimp only <;> omega
  · split
    · unfold black
      split
      · exact ok_start
      · obtain ⟨h1, h2, h3, h4, h5⟩ := h
        unfold Ok
        dsimp only
        omega
    · exact h
theorem cames_ok (l : List Snt) : ∀ {q : Pt}, Ok q → Ok (cames l q) := by
  induction l with
  | nil => intro q h; exact h
  | cons s l ih => intro q h; exact ih (came_ok h)
theorem loses_ok (l : List Snt) : ∀ {q : Pt}, Ok q → Ok (loses l q) := by
  induction l with
  | nil => intro q h; exact h
  | cons s l ih => intro q h; exact ih (lose_ok h)
end Go.Proofs.Yteikpgahdjhhkaa
