/- 'of', joined: the code's and the reference's. No condition. -/
import Derived.Test.YtjgaljnojhkimaaOfA
import Derived.Test.YtjgaljnojhkimaaOfB
import Derived.Test.YtjgaljnojhkimaaOfC
import Derived.Test.YtjgaljnojhkimaaOfRA
import Derived.Test.YtjgaljnojhkimaaOfRB
namespace Go.Proofs.Ytjgaljnojhkimaa
open Go.RowKit

theorem okPar_iff (n : Int) : okPar n = true ↔ 0 ≤ n ∧ n ≤ 9999 := by simp [okPar]
theorem okP_iff (p : Pa) : okP p = true ↔ (0 ≤ p.st ∧ p.st ≤ 3) ∧ (p.st = 2 ∨ p.a = .zero) ∧ (0 ≤ p.a.many ∧ p.a.many ≤ 7) ∧ p.a.kind = 0 ∧ p.a.rune = 0 ∧ okA p.a = true := by
  simp only [okP, Bool.and_eq_true, Bool.or_eq_true, decide_eq_true_eq]
  constructor
  · rintro ⟨⟨⟨⟨⟨⟨⟨a, b⟩, c⟩, d⟩, e⟩, f⟩, g⟩, h⟩; exact ⟨⟨a, b⟩, c, ⟨d, e⟩, f, g, h⟩
  · rintro ⟨⟨a, b⟩, c, ⟨d, e⟩, f, g, h⟩; exact ⟨⟨⟨⟨⟨⟨⟨a, b⟩, c⟩, d⟩, e⟩, f⟩, g⟩, h⟩
theorem ofP_no {p : Pa} (h : ¬ okP p = true) : ofP p = .zero := by unfold ofP; rw [if_neg h]
theorem ofP_ok {p : Pa} (h : okP p = true) : ofP p = p := by unfold ofP; rw [if_pos h]
theorem okP_par {st many p0 p1 p2 p3 p4 p5 p6 p7 : Int} {kind rune : Int} {mark : Bool} (h : okP ⟨st, ⟨kind, rune, mark, many, p0, p1, p2, p3, p4, p5, p6, p7⟩⟩ = true) : (0 ≤ p0 ∧ p0 ≤ 9999) ∧ (0 ≤ p1 ∧ p1 ≤ 9999) ∧ (0 ≤ p2 ∧ p2 ≤ 9999) ∧ (0 ≤ p3 ∧ p3 ≤ 9999) ∧ (0 ≤ p4 ∧ p4 ≤ 9999) ∧ (0 ≤ p5 ∧ p5 ≤ 9999) ∧ (0 ≤ p6 ∧ p6 ≤ 9999) ∧ (0 ≤ p7 ∧ p7 ≤ 9999) := by
  have := ((okP_iff _).1 h).2.2.2.2.2
  simpa [okA, Ac.par, okPar] using this
theorem okP_mk {st many p0 p1 p2 p3 p4 p5 p6 p7 : Int} {mark : Bool} (s : 0 ≤ st ∧ st ≤ 3) (c : st = 2 ∨ (⟨0, 0, mark, many, p0, p1, p2, p3, p4, p5, p6, p7⟩ : Ac) = .zero) (m : 0 ≤ many ∧ many ≤ 7) (u0 : 0 ≤ p0 ∧ p0 ≤ 9999) (u1 : 0 ≤ p1 ∧ p1 ≤ 9999) (u2 : 0 ≤ p2 ∧ p2 ≤ 9999) (u3 : 0 ≤ p3 ∧ p3 ≤ 9999) (u4 : 0 ≤ p4 ∧ p4 ≤ 9999) (u5 : 0 ≤ p5 ∧ p5 ≤ 9999) (u6 : 0 ≤ p6 ∧ p6 ≤ 9999) (u7 : 0 ≤ p7 ∧ p7 ≤ 9999) : okP ⟨st, ⟨0, 0, mark, many, p0, p1, p2, p3, p4, p5, p6, p7⟩⟩ = true :=
  (okP_iff _).2 ⟨s, c, m, rfl, rfl, by simp [okA, Ac.par, okPar]; omega⟩
theorem of16 (p : Pa) (w : World) : Gives Try.prog 16 #[pv p] w (pv (ofP p)) := by
  obtain ⟨st, kind, rune, mark, many, p0, p1, p2, p3, p4, p5, p6, p7⟩ := p
  by_cases s1 : st < 0
  · rw [ofP_no (fun h => by have := ((okP_iff _).1 h).1; dsimp only at this; omega)]
    exact ofA_b1 _ _ _ _ _ _ _ _ _ _ _ _ _ s1 w
  by_cases s2 : 3 < st
  · rw [ofP_no (fun h => by have := ((okP_iff _).1 h).1; dsimp only at this; omega)]
    exact ofA_b2 _ _ _ _ _ _ _ _ _ _ _ _ _ (by omega) s2 w
  have s1' : 0 ≤ st := by omega
  have s2' : st ≤ 3 := by omega
  by_cases m1 : many < 0
  · rw [ofP_no (fun h => by have := ((okP_iff _).1 h).2.2.1; dsimp only at this; omega)]
    exact ofA_b3 _ _ _ _ _ _ _ _ _ _ _ _ _ s1' s2' m1 w
  by_cases m2 : 8 ≤ many
  · rw [ofP_no (fun h => by have := ((okP_iff _).1 h).2.2.1; dsimp only at this; omega)]
    exact ofA_b4 _ _ _ _ _ _ _ _ _ _ _ _ _ s1' s2' m2 w
  have m1' : 0 ≤ many := by omega
  have m2' : many ≤ 7 := by omega
  by_cases k1 : kind = 0
  rotate_left
  · rw [ofP_no (fun h => k1 ((okP_iff _).1 h).2.2.2.1)]
    exact ofA_b5 _ _ _ _ _ _ _ _ _ _ _ _ _ s1' s2' m1' m2' k1 w
  by_cases k2 : rune = 0
  rotate_left
  · rw [ofP_no (fun h => k2 ((okP_iff _).1 h).2.2.2.2.1)]
    subst k1
    exact ofA_b6 _ _ _ _ _ _ _ _ _ _ _ _ s1' s2' m1' m2' k2 w
  subst k1 k2
  by_cases u0 : 0 ≤ p0 ∧ p0 ≤ 9999
  rotate_left
  · by_cases g0 : p0 < 0
    · rw [ofP_no (fun h => u0 (by have := okP_par h; omega))]
      exact ofA_p0l _ _ _ _ _ _ _ _ _ _ _ s1' s2' m1' m2'  g0 w
    · rw [ofP_no (fun h => u0 (by have := okP_par h; omega))]
      exact ofA_p0g _ _ _ _ _ _ _ _ _ _ _ s1' s2' m1' m2'  (by omega) (by omega) w
  by_cases u1 : 0 ≤ p1 ∧ p1 ≤ 9999
  rotate_left
  · by_cases g1 : p1 < 0
    · rw [ofP_no (fun h => u1 (by have := okP_par h; omega))]
      exact ofA_p1l _ _ _ _ _ _ _ _ _ _ _ s1' s2' m1' m2' u0.1 u0.2 g1 w
    · rw [ofP_no (fun h => u1 (by have := okP_par h; omega))]
      exact ofA_p1g _ _ _ _ _ _ _ _ _ _ _ s1' s2' m1' m2' u0.1 u0.2 (by omega) (by omega) w
  by_cases u2 : 0 ≤ p2 ∧ p2 ≤ 9999
  rotate_left
  · by_cases g2 : p2 < 0
    · rw [ofP_no (fun h => u2 (by have := okP_par h; omega))]
      exact ofA_p2l _ _ _ _ _ _ _ _ _ _ _ s1' s2' m1' m2' u0.1 u0.2 u1.1 u1.2 g2 w
    · rw [ofP_no (fun h => u2 (by have := okP_par h; omega))]
      exact ofA_p2g _ _ _ _ _ _ _ _ _ _ _ s1' s2' m1' m2' u0.1 u0.2 u1.1 u1.2 (by omega) (by omega) w
  by_cases u3 : 0 ≤ p3 ∧ p3 ≤ 9999
  rotate_left
  · by_cases g3 : p3 < 0
    · rw [ofP_no (fun h => u3 (by have := okP_par h; omega))]
      exact ofA_p3l _ _ _ _ _ _ _ _ _ _ _ s1' s2' m1' m2' u0.1 u0.2 u1.1 u1.2 u2.1 u2.2 g3 w
    · rw [ofP_no (fun h => u3 (by have := okP_par h; omega))]
      exact ofA_p3g _ _ _ _ _ _ _ _ _ _ _ s1' s2' m1' m2' u0.1 u0.2 u1.1 u1.2 u2.1 u2.2 (by omega) (by omega) w
  by_cases u4 : 0 ≤ p4 ∧ p4 ≤ 9999
  rotate_left
  · by_cases g4 : p4 < 0
    · rw [ofP_no (fun h => u4 (by have := okP_par h; omega))]
      exact ofA_p4l _ _ _ _ _ _ _ _ _ _ _ s1' s2' m1' m2' u0.1 u0.2 u1.1 u1.2 u2.1 u2.2 u3.1 u3.2 g4 w
    · rw [ofP_no (fun h => u4 (by have := okP_par h; omega))]
      exact ofA_p4g _ _ _ _ _ _ _ _ _ _ _ s1' s2' m1' m2' u0.1 u0.2 u1.1 u1.2 u2.1 u2.2 u3.1 u3.2 (by omega) (by omega) w
  by_cases u5 : 0 ≤ p5 ∧ p5 ≤ 9999
  rotate_left
  · by_cases g5 : p5 < 0
    · rw [ofP_no (fun h => u5 (by have := okP_par h; omega))]
      exact ofA_p5l _ _ _ _ _ _ _ _ _ _ _ s1' s2' m1' m2' u0.1 u0.2 u1.1 u1.2 u2.1 u2.2 u3.1 u3.2 u4.1 u4.2 g5 w
    · rw [ofP_no (fun h => u5 (by have := okP_par h; omega))]
      exact ofA_p5g _ _ _ _ _ _ _ _ _ _ _ s1' s2' m1' m2' u0.1 u0.2 u1.1 u1.2 u2.1 u2.2 u3.1 u3.2 u4.1 u4.2 (by omega) (by omega) w
  by_cases u6 : 0 ≤ p6 ∧ p6 ≤ 9999
  rotate_left
  · by_cases g6 : p6 < 0
    · rw [ofP_no (fun h => u6 (by have := okP_par h; omega))]
      exact ofA_p6l _ _ _ _ _ _ _ _ _ _ _ s1' s2' m1' m2' u0.1 u0.2 u1.1 u1.2 u2.1 u2.2 u3.1 u3.2 u4.1 u4.2 u5.1 u5.2 g6 w
    · rw [ofP_no (fun h => u6 (by have := okP_par h; omega))]
      exact ofA_p6g _ _ _ _ _ _ _ _ _ _ _ s1' s2' m1' m2' u0.1 u0.2 u1.1 u1.2 u2.1 u2.2 u3.1 u3.2 u4.1 u4.2 u5.1 u5.2 (by omega) (by omega) w
  by_cases u7 : 0 ≤ p7 ∧ p7 ≤ 9999
  rotate_left
  · by_cases g7 : p7 < 0
    · rw [ofP_no (fun h => u7 (by have := okP_par h; omega))]
      exact ofA_p7l _ _ _ _ _ _ _ _ _ _ _ s1' s2' m1' m2' u0.1 u0.2 u1.1 u1.2 u2.1 u2.2 u3.1 u3.2 u4.1 u4.2 u5.1 u5.2 u6.1 u6.2 g7 w
    · rw [ofP_no (fun h => u7 (by have := okP_par h; omega))]
      exact ofA_p7g _ _ _ _ _ _ _ _ _ _ _ s1' s2' m1' m2' u0.1 u0.2 u1.1 u1.2 u2.1 u2.2 u3.1 u3.2 u4.1 u4.2 u5.1 u5.2 u6.1 u6.2 (by omega) (by omega) w
  by_cases t : st = 2
  · subst t
    rw [ofP_ok (okP_mk ⟨by omega, by omega⟩ (.inl rfl) ⟨m1', m2'⟩ u0 u1 u2 u3 u4 u5 u6 u7)]
    exact ofA_good2 _ _ _ _ _ _ _ _ _ _ m1' m2' u0.1 u0.2 u1.1 u1.2 u2.1 u2.2 u3.1 u3.2 u4.1 u4.2 u5.1 u5.2 u6.1 u6.2 u7.1 u7.2 w
  by_cases z : (⟨0, 0, mark, many, p0, p1, p2, p3, p4, p5, p6, p7⟩ : Ac) = .zero
  · rw [ofP_ok (okP_mk ⟨s1', s2'⟩ (.inr z) ⟨m1', m2'⟩ u0 u1 u2 u3 u4 u5 u6 u7)]
    rw [z]
    exact ofA_goodz st s1' s2' t w
  · rw [ofP_no (fun h => by rcases ((okP_iff _).1 h).2.1 with h' | h'; exact t h'; exact z h')]
    exact ofA_b8 _ _ _ _ _ _ _ _ _ _ _ s1' s2' m1' m2' u0.1 u0.2 u1.1 u1.2 u2.1 u2.2 u3.1 u3.2 u4.1 u4.2 u5.1 u5.2 u6.1 u6.2 u7.1 u7.2 t z w
theorem of22 (p : Pa) (w : World) : Gives Try.prog 22 #[pv p] w (pv (ofP p)) := by
  obtain ⟨st, kind, rune, mark, many, p0, p1, p2, p3, p4, p5, p6, p7⟩ := p
  by_cases s1 : st < 0
  · rw [ofP_no (fun h => by have := ((okP_iff _).1 h).1; dsimp only at this; omega)]
    exact ofR_b1 _ _ _ _ _ _ _ _ _ _ _ _ _ s1 w
  by_cases s2 : 3 < st
  · rw [ofP_no (fun h => by have := ((okP_iff _).1 h).1; dsimp only at this; omega)]
    exact ofR_b2 _ _ _ _ _ _ _ _ _ _ _ _ _ (by omega) s2 w
  have s1' : 0 ≤ st := by omega
  have s2' : st ≤ 3 := by omega
  by_cases t : st = 2
  rotate_left
  · by_cases z : (⟨kind, rune, mark, many, p0, p1, p2, p3, p4, p5, p6, p7⟩ : Ac) = .zero
    · rw [z, ofP_ok ((okP_iff _).2 ⟨⟨s1', s2'⟩, .inr rfl, ⟨Int.le_refl 0, by show (0 : Int) ≤ 7; decide⟩, rfl, rfl, by show okA Ac.zero = true; decide⟩)]
      exact ofR_goodz st s1' s2' t w
    · rw [ofP_no (fun h => by rcases ((okP_iff _).1 h).2.1 with h' | h'; exact t h'; exact z h')]
      exact ofR_b8 _ _ _ _ _ _ _ _ _ _ _ _ _ s1' s2' t z w
  subst t
  by_cases m1 : many < 0
  · rw [ofP_no (fun h => by have := ((okP_iff _).1 h).2.2.1; dsimp only at this; omega)]
    exact ofR_b3 _ _ _ _ _ _ _ _ _ _ _ _ m1 w
  by_cases m2 : 8 ≤ many
  · rw [ofP_no (fun h => by have := ((okP_iff _).1 h).2.2.1; dsimp only at this; omega)]
    exact ofR_b4 _ _ _ _ _ _ _ _ _ _ _ _ m2 w
  have m1' : 0 ≤ many := by omega
  have m2' : many ≤ 7 := by omega
  by_cases k1 : kind = 0
  rotate_left
  · rw [ofP_no (fun h => k1 ((okP_iff _).1 h).2.2.2.1)]
    exact ofR_b5 _ _ _ _ _ _ _ _ _ _ _ _ m1' m2' k1 w
  by_cases k2 : rune = 0
  rotate_left
  · rw [ofP_no (fun h => k2 ((okP_iff _).1 h).2.2.2.2.1)]
    subst k1
    exact ofR_b6 _ _ _ _ _ _ _ _ _ _ _ m1' m2' k2 w
  subst k1 k2
  by_cases u0 : 0 ≤ p0 ∧ p0 ≤ 9999
  rotate_left
  · by_cases g0 : p0 < 0
    · rw [ofP_no (fun h => u0 (by have := okP_par h; omega))]
      exact ofR_p0l _ _ _ _ _ _ _ _ _ _ m1' m2'  g0 w
    · rw [ofP_no (fun h => u0 (by have := okP_par h; omega))]
      exact ofR_p0g _ _ _ _ _ _ _ _ _ _ m1' m2'  (by omega) (by omega) w
  by_cases u1 : 0 ≤ p1 ∧ p1 ≤ 9999
  rotate_left
  · by_cases g1 : p1 < 0
    · rw [ofP_no (fun h => u1 (by have := okP_par h; omega))]
      exact ofR_p1l _ _ _ _ _ _ _ _ _ _ m1' m2' u0.1 u0.2 g1 w
    · rw [ofP_no (fun h => u1 (by have := okP_par h; omega))]
      exact ofR_p1g _ _ _ _ _ _ _ _ _ _ m1' m2' u0.1 u0.2 (by omega) (by omega) w
  by_cases u2 : 0 ≤ p2 ∧ p2 ≤ 9999
  rotate_left
  · by_cases g2 : p2 < 0
    · rw [ofP_no (fun h => u2 (by have := okP_par h; omega))]
      exact ofR_p2l _ _ _ _ _ _ _ _ _ _ m1' m2' u0.1 u0.2 u1.1 u1.2 g2 w
    · rw [ofP_no (fun h => u2 (by have := okP_par h; omega))]
      exact ofR_p2g _ _ _ _ _ _ _ _ _ _ m1' m2' u0.1 u0.2 u1.1 u1.2 (by omega) (by omega) w
  by_cases u3 : 0 ≤ p3 ∧ p3 ≤ 9999
  rotate_left
  · by_cases g3 : p3 < 0
    · rw [ofP_no (fun h => u3 (by have := okP_par h; omega))]
      exact ofR_p3l _ _ _ _ _ _ _ _ _ _ m1' m2' u0.1 u0.2 u1.1 u1.2 u2.1 u2.2 g3 w
    · rw [ofP_no (fun h => u3 (by have := okP_par h; omega))]
      exact ofR_p3g _ _ _ _ _ _ _ _ _ _ m1' m2' u0.1 u0.2 u1.1 u1.2 u2.1 u2.2 (by omega) (by omega) w
  by_cases u4 : 0 ≤ p4 ∧ p4 ≤ 9999
  rotate_left
  · by_cases g4 : p4 < 0
    · rw [ofP_no (fun h => u4 (by have := okP_par h; omega))]
      exact ofR_p4l _ _ _ _ _ _ _ _ _ _ m1' m2' u0.1 u0.2 u1.1 u1.2 u2.1 u2.2 u3.1 u3.2 g4 w
    · rw [ofP_no (fun h => u4 (by have := okP_par h; omega))]
      exact ofR_p4g _ _ _ _ _ _ _ _ _ _ m1' m2' u0.1 u0.2 u1.1 u1.2 u2.1 u2.2 u3.1 u3.2 (by omega) (by omega) w
  by_cases u5 : 0 ≤ p5 ∧ p5 ≤ 9999
  rotate_left
  · by_cases g5 : p5 < 0
    · rw [ofP_no (fun h => u5 (by have := okP_par h; omega))]
      exact ofR_p5l _ _ _ _ _ _ _ _ _ _ m1' m2' u0.1 u0.2 u1.1 u1.2 u2.1 u2.2 u3.1 u3.2 u4.1 u4.2 g5 w
    · rw [ofP_no (fun h => u5 (by have := okP_par h; omega))]
      exact ofR_p5g _ _ _ _ _ _ _ _ _ _ m1' m2' u0.1 u0.2 u1.1 u1.2 u2.1 u2.2 u3.1 u3.2 u4.1 u4.2 (by omega) (by omega) w
  by_cases u6 : 0 ≤ p6 ∧ p6 ≤ 9999
  rotate_left
  · by_cases g6 : p6 < 0
    · rw [ofP_no (fun h => u6 (by have := okP_par h; omega))]
      exact ofR_p6l _ _ _ _ _ _ _ _ _ _ m1' m2' u0.1 u0.2 u1.1 u1.2 u2.1 u2.2 u3.1 u3.2 u4.1 u4.2 u5.1 u5.2 g6 w
    · rw [ofP_no (fun h => u6 (by have := okP_par h; omega))]
      exact ofR_p6g _ _ _ _ _ _ _ _ _ _ m1' m2' u0.1 u0.2 u1.1 u1.2 u2.1 u2.2 u3.1 u3.2 u4.1 u4.2 u5.1 u5.2 (by omega) (by omega) w
  by_cases u7 : 0 ≤ p7 ∧ p7 ≤ 9999
  rotate_left
  · by_cases g7 : p7 < 0
    · rw [ofP_no (fun h => u7 (by have := okP_par h; omega))]
      exact ofR_p7l _ _ _ _ _ _ _ _ _ _ m1' m2' u0.1 u0.2 u1.1 u1.2 u2.1 u2.2 u3.1 u3.2 u4.1 u4.2 u5.1 u5.2 u6.1 u6.2 g7 w
    · rw [ofP_no (fun h => u7 (by have := okP_par h; omega))]
      exact ofR_p7g _ _ _ _ _ _ _ _ _ _ m1' m2' u0.1 u0.2 u1.1 u1.2 u2.1 u2.2 u3.1 u3.2 u4.1 u4.2 u5.1 u5.2 u6.1 u6.2 (by omega) (by omega) w
  rw [ofP_ok (okP_mk ⟨by omega, by omega⟩ (.inl rfl) ⟨m1', m2'⟩ u0 u1 u2 u3 u4 u5 u6 u7)]
  exact ofR_good2 _ _ _ _ _ _ _ _ _ _ m1' m2' u0.1 u0.2 u1.1 u1.2 u2.1 u2.2 u3.1 u3.2 u4.1 u4.2 u5.1 u5.2 u6.1 u6.2 u7.1 u7.2 w
end Go.Proofs.Ytjgaljnojhkimaa
