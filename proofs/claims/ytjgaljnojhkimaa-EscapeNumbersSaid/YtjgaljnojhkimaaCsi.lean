/- A step in a sequence: the code's, joined. Of a parser that may be. -/
import Derived.Test.YtjgaljnojhkimaaCsiA
import Derived.Test.YtjgaljnojhkimaaCsiB
namespace Go.Proofs.Ytjgaljnojhkimaa
open Go.RowKit

theorem okA_at {a : Ac} (h : okA a = true) : (0 ≤ a.p0 ∧ a.p0 ≤ 9999) ∧ (0 ≤ a.p1 ∧ a.p1 ≤ 9999) ∧ (0 ≤ a.p2 ∧ a.p2 ≤ 9999) ∧ (0 ≤ a.p3 ∧ a.p3 ≤ 9999) ∧ (0 ≤ a.p4 ∧ a.p4 ≤ 9999) ∧ (0 ≤ a.p5 ∧ a.p5 ≤ 9999) ∧ (0 ≤ a.p6 ∧ a.p6 ≤ 9999) ∧ (0 ≤ a.p7 ∧ a.p7 ≤ 9999) := by
  simpa [okA, Ac.par, okPar] using h
theorem csi20 (p : Pa) (n : Int) (hm0 : 0 ≤ p.a.many) (hm7 : p.a.many ≤ 7) (hok : okA p.a = true) (w : World) : Gives Try.prog 20 #[pv p, .int .i64 n] w (rv (csiP p n)) := by
  obtain ⟨⟨q0a, q0b⟩, ⟨q1a, q1b⟩, ⟨q2a, q2b⟩, ⟨q3a, q3b⟩, ⟨q4a, q4b⟩, ⟨q5a, q5b⟩, ⟨q6a, q6b⟩, ⟨q7a, q7b⟩⟩ := okA_at hok
  clear hok
  obtain ⟨st, kind, rune, mark, many, p0, p1, p2, p3, p4, p5, p6, p7⟩ := p
  dsimp only at *
  unfold csiP
  dsimp only
  split
  · rename_i h
    have hk : many = 0 ∨ many = 1 ∨ many = 2 ∨ many = 3 ∨ many = 4 ∨ many = 5 ∨ many = 6 ∨ many = 7 := by omega
    rcases hk with rfl | rfl | rfl | rfl | rfl | rfl | rfl | rfl
    · exact csi_d0 _ _ _ _ _ _ _ _ _ _ _ _ _ h.1 h.2 q0a q0b w
    · exact csi_d1 _ _ _ _ _ _ _ _ _ _ _ _ _ h.1 h.2 q1a q1b w
    · exact csi_d2 _ _ _ _ _ _ _ _ _ _ _ _ _ h.1 h.2 q2a q2b w
    · exact csi_d3 _ _ _ _ _ _ _ _ _ _ _ _ _ h.1 h.2 q3a q3b w
    · exact csi_d4 _ _ _ _ _ _ _ _ _ _ _ _ _ h.1 h.2 q4a q4b w
    · exact csi_d5 _ _ _ _ _ _ _ _ _ _ _ _ _ h.1 h.2 q5a q5b w
    · exact csi_d6 _ _ _ _ _ _ _ _ _ _ _ _ _ h.1 h.2 q6a q6b w
    · exact csi_d7 _ _ _ _ _ _ _ _ _ _ _ _ _ h.1 h.2 q7a q7b w
  rename_i hd
  split
  · rename_i h
    exact csi_semi _ _ _ _ _ _ _ _ _ _ _ _ _ _ h hm0 hm7 w
  rename_i h59
  split
  · rename_i h
    obtain ⟨h, rfl, rfl⟩ := h
    exact csi_mark _ _ _ _ _ _ _ _ _ _ _ _ h w
  rename_i h63
  split
  · rename_i h
    exact csi_fin _ _ _ _ _ _ _ _ _ _ _ _ _ _ h.1 h.2 hm0 hm7 w
  rename_i h64
  by_cases g1 : n < 48
  · exact csi_n1 _ _ _ _ _ _ _ _ _ _ _ _ _ _ g1 hm0 hm7 w
  by_cases g2 : 126 < n
  · exact csi_n3 _ _ _ _ _ _ _ _ _ _ _ _ _ _ g2 hm0 hm7 w
  by_cases g3 : n = 63
  · by_cases g4 : many = 0
    · subst g4
      exact csi_n5 _ _ _ _ _ _ _ _ _ _ _ _ _ g3 (fun h => h63 ⟨g3, rfl, h⟩) w
    · exact csi_n4 _ _ _ _ _ _ _ _ _ _ _ _ _ _ g3 g4 hm0 hm7 w
  · exact csi_n2 _ _ _ _ _ _ _ _ _ _ _ _ _ _ (by omega) (by omega) h59 g3 hm0 hm7 w
end Go.Proofs.Ytjgaljnojhkimaa
