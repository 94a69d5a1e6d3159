/- PmtuAsks' law, in plain Lean: what is asked, what came makes greater, three that were lost bring what may be below it. No program in sight, no condition. -/
import Derived.Test.YteikpgahdjhhkaaFind
namespace Go.Proofs.Yteikpgahdjhhkaa

def gstep (r : Pt) : Pt := loses [probe (ask r).a] (ask r)
def gs (q : Pt) : Nat → Pt
  | 0 => ask q
  | k + 1 => gstep (gs q k)
theorem gstep_ok {r : Pt} (h : Ok r) : Ok (gstep r) := loses_ok _ (ask_ok h)
theorem gs_ok {q : Pt} (h : Ok q) (k : Nat) : Ok (gs q k) := by
  induction k with
  | zero => exact ask_ok h
  | succ k ih => exact gstep_ok ih
theorem ask_law {q : Pt} (h : Ok q) (hn : next q ≠ 0) : next (ask q) = 0 ∧ (ask q).a = next q ∧ q.z < next q ∧ next q ≤ q.h ∧ (cames [probe (next q)] (ask q)).z = next q ∧ (cames [probe (next q)] (ask q)).a = 0 := by
  obtain ⟨ha, _, h2, h3⟩ := (next_bd h).resolve_left hn
  obtain ⟨o1, _⟩ := h
  have e : (ask q).a = next q := by unfold ask; dsimp only; omega
  have hne : (ask q).a ≠ 0 := by rw [e]; exact hn
  have hc : cames [probe (next q)] (ask q) = hit (ask q) := by
    show came (ask q) (probe (next q)) = _
    unfold came
    rw [← e, if_pos (asks_probe hne)]
  refine ⟨by unfold next; rw [if_pos (.inl hne)], e, h2, h3, ?_, ?_⟩
  · rw [hc]; exact e
  · rw [hc]; rfl
/-- what is lost of what was asked, or of what is still asked -/
theorem gstep_law {r : Pt} (h : Ok r) : (gstep r).z = r.z ∧ (gstep r).h ≤ r.h ∧ ((r.a ≠ 0 ∨ 16 ≤ r.h - r.z) → (gstep r).h < r.h ∨ ((gstep r).h = r.h ∧ (gstep r).f = r.f + 1)) := by
  have hk := ask_ok h
  have hb := next_bd h
  have ez : (ask r).z = r.z := rfl
  have eh : (ask r).h = r.h := rfl
  have ef : (ask r).f = r.f := rfl
  have ea : (ask r).a = max r.a (next r) := rfl
  obtain ⟨k1, k2, k3, k4, k5, k6, k7, k8⟩ := hk
  unfold gstep
  show (lose (ask r) (probe (ask r).a)).z = _ ∧ (lose (ask r) (probe (ask r).a)).h ≤ _ ∧ _
  by_cases hz : (ask r).a = 0
  · have hno : asks (ask r) (probe (ask r).a) = false := by
      cases hx : asks (ask r) (probe (ask r).a)
      · rfl
      · exact absurd hz (asks_iff.1 hx).1
    have hl : lose (ask r) (probe (ask r).a) = ask r := by
      unfold lose
      rw [if_neg (by rw [hno]; decide)]
      rw [if_neg (by unfold large probe; simp)]
    show (lose (ask r) (probe (ask r).a)).z = _ ∧ (lose (ask r) (probe (ask r).a)).h ≤ _ ∧ (_ → (lose (ask r) (probe (ask r).a)).h < _ ∨ _)
    rw [hl]
    refine ⟨ez, by rw [eh]; exact Int.le_refl _, fun hc => ?_⟩
    exfalso
    obtain ⟨o1, o2, o3, o4, _⟩ := h
    rcases hc with hc | hc
    · omega
    · have : next r ≠ 0 ∨ r.a ≠ 0 := by
        by_cases hr : r.a = 0
        · left
          unfold next
          rw [if_neg (by omega)]
          omega
        · exact .inr hr
      omega
  · have hl : lose (ask r) (probe (ask r).a) = miss (ask r) := by
      unfold lose
      rw [if_pos (asks_probe hz)]
    show (lose (ask r) (probe (ask r).a)).z = _ ∧ (lose (ask r) (probe (ask r).a)).h ≤ _ ∧ (_ → (lose (ask r) (probe (ask r).a)).h < _ ∨ ((lose (ask r) (probe (ask r).a)).h = _ ∧ (lose (ask r) (probe (ask r).a)).f = _))
    rw [hl]
    unfold miss
    rw [ef, eh, ez]
    have hah : (ask r).a ≤ r.h := by omega
    by_cases h3 : r.f + 1 = 3
    · rw [if_pos h3]
      dsimp only
      omega
    · rw [if_neg h3]
      dsimp only
      omega
theorem gs_law {q : Pt} (h : Ok q) (hn : next q ≠ 0) : (gs q 3).z = q.z ∧ (gs q 3).h < q.h := by
  obtain ⟨ha, hd, h2, h3⟩ := (next_bd h).resolve_left hn
  have key : ∀ k : Nat, (gs q k).z = q.z ∧ (gs q k).h ≤ q.h ∧ ((gs q k).h < q.h ∨ ((gs q k).h = q.h ∧ (gs q k).f = q.f + k)) := by
    intro k
    induction k with
    | zero => exact ⟨rfl, Int.le_refl _, .inr ⟨rfl, by show q.f = q.f + 0; omega⟩⟩
    | succ k ih =>
      obtain ⟨i1, i2, i3⟩ := ih
      obtain ⟨g1, g2, g3⟩ := gstep_law (gs_ok h k)
      show (gstep (gs q k)).z = _ ∧ (gstep (gs q k)).h ≤ _ ∧ ((gstep (gs q k)).h < _ ∨ ((gstep (gs q k)).h = _ ∧ (gstep (gs q k)).f = _))
      refine ⟨by omega, by omega, ?_⟩
      rcases i3 with i3 | ⟨i3, i4⟩
      · left; omega
      · rcases g3 (.inr (by omega)) with g | ⟨g, g'⟩
        · left; omega
        · right; exact ⟨by omega, by omega⟩
  obtain ⟨k1, k2, k3⟩ := key 3
  refine ⟨k1, ?_⟩
  rcases k3 with k3 | ⟨_, k3⟩
  · exact k3
  · have this := gs_ok h 3
    obtain ⟨_, _, _, _, o5, _⟩ := h
    obtain ⟨_, _, _, _, _, p6, _⟩ := this
    omega
end Go.Proofs.Yteikpgahdjhhkaa
