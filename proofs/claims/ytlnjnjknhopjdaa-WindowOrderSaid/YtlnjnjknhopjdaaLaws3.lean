/- The plain law of numbers that lie within sixty-four: each is fresh the first time that it comes. No program in sight. -/
import Derived.Test.YtlnjnjknhopjdaaLaws2
namespace Go.Proofs.Ytlnjnjknhopjdaa

/-- is n none of the first j of l? -/
def noneB (l : List Int) (n : Int) : Nat → Bool
  | 0 => true
  | j + 1 => noneB l n j && l.getD j 0 != n

theorem order_law (f : Int) (h0 : 0 ≤ f) (h1 : f ≤ 4294967295) (zs : List Int) (hz : ∀ k, k < zs.length → f ≤ zs.getD k 0 ∧ zs.getD k 0 < f + 64) (k : Nat) (hk : k ≤ zs.length) :
    (∀ n, cameB zs (runB 0 0 zs) n k = !noneB zs n k) ∧ (k < zs.length → (runB 0 0 zs).getD k false = noneB zs (zs.getD k 0) k) := by
  have step : ∀ k, k < zs.length → (∀ n, cameB zs (runB 0 0 zs) n k = !noneB zs n k) → (runB 0 0 zs).getD k false = noneB zs (zs.getD k 0) k := by
    intro k hlt ih
    have ht := told zs k (by omega)
    have hb := hz k hlt
    rw [runB_getD zs k 0 0 hlt, show zs.getD k 0 = zs[k] by simp [List.getD, hlt]] at *
    rw [Bool.eq_iff_iff, ht.fresh]
    have hc := ih zs[k]
    constructor
    · rintro ⟨_, _, h, _⟩
      rw [hc] at h
      simpa using h
    · intro h
      refine ⟨by omega, by omega, by rw [hc, h]; simp, ?_⟩
      by_cases hx : 0 < stN 0 0 (zs.take k)
      · obtain ⟨i, hi, h2, _⟩ := (cameB_iff _ _ _ _).1 (ht.top hx)
        have := hz i (by omega)
        omega
      · omega
  have came : ∀ n, cameB zs (runB 0 0 zs) n k = !noneB zs n k := by
    induction k with
    | zero => intro n; rfl
    | succ k ih =>
      intro n
      have h := step k (by omega) (ih (by omega))
      simp only [cameB, noneB, ih (by omega) n, h]
      by_cases hn : zs.getD k 0 = n
      · subst hn; cases noneB zs (zs.getD k 0) k <;> simp
      · have e1 : (zs.getD k 0 == n) = false := by simpa using hn
        have e2 : (zs.getD k 0 != n) = true := by simpa using hn
        rw [e1, e2]; simp
  exact ⟨came, fun hlt => step k hlt came⟩

/-- which are none of those ahead -/
def firsts (zs : List Int) (k : Nat) : List Bool := (List.range k).map fun i => noneB zs (zs.getD i 0) i
theorem firsts_succ (zs : List Int) (k : Nat) : firsts zs (k + 1) = firsts zs k ++ [noneB zs (zs.getD k 0) k] := by simp [firsts, List.range_succ]
theorem firsts_at (zs : List Int) (k i : Nat) (h : i < k) : (firsts zs k)[i]? = some (noneB zs (zs.getD i 0) i) := by simp [firsts, h]
theorem firsts_length (zs : List Int) (k : Nat) : (firsts zs k).length = k := by simp [firsts]
end Go.Proofs.Ytlnjnjknhopjdaa
