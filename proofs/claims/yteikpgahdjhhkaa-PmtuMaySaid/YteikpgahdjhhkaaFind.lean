/- The search for a path's size, in plain Lean: it ends within twenty-one asks, less than sixteen below what goes. No program in sight, no condition. -/
import Derived.Test.YteikpgahdjhhkaaPlain
namespace Go.Proofs.Yteikpgahdjhhkaa

def probe (n : Int) : Snt := { k := 0, t := 0, z := n, e := false, p := true }
def sstep (size : Int) (q : Pt) : Pt := if (ask q).a ≤ size then cames [probe (ask q).a] (ask q) else loses [probe (ask q).a] (ask q)
def stN (size : Int) : Nat → Pt
  | 0 => start
  | n + 1 => sstep size (stN size n)
def Stops (size : Int) (M : Nat) : Prop := next (stN size M) = 0 ∧ ∀ n, n < M → next (stN size n) ≠ 0
def goes (size : Int) : Int := min (max size 256) 1500

/-- what holds all the way -/
structure Way (size : Int) (n : Nat) (q : Pt) : Prop where
  ok : Ok q
  a0 : q.a = 0
  lo : q.z ≤ goes size
  hi : goes size ≤ q.h
  few : ∃ j : Nat, q.h - q.z < 16 * 2 ^ j ∧ (n : Int) + 3 * j ≤ 21 + q.f
  near : q.h - q.z < 16 → q.f = 0
theorem way_start (size : Int) : Way size 0 start := by
  refine ⟨ok_start, rfl, ?_, ?_, ⟨7, by unfold start; dsimp only; omega, by unfold start; dsimp only; omega⟩, fun _ => rfl⟩
  · unfold goes start; dsimp only; omega
  · unfold goes start; dsimp only; omega
theorem asks_probe {q : Pt} (h : q.a ≠ 0) : asks q (probe q.a) = true := asks_iff.2 ⟨h, rfl, rfl⟩
theorem way_step {size : Int} {n : Nat} {q : Pt} (h : Way size n q) (hn : next q ≠ 0) : Way size (n + 1) (sstep size q) := by
  obtain ⟨ok, a0, lo, hi, ⟨j, hj, hm⟩, near⟩ := h
  have hb := (next_bd ok).resolve_left hn
  obtain ⟨_, hb2, hb3, hb4⟩ := hb
  have hnx : next q = (q.z + q.h + 1) / 2 := by unfold next; rw [if_neg (by omega)]
  have hj1 : ∃ i, j = i + 1 := by
    cases j with
    | zero => simp at hj; omega
    | succ i => exact ⟨i, rfl⟩
  obtain ⟨i, rfl⟩ := hj1
  have hpow : (2 : Int) ^ (i + 1) = 2 * 2 ^ i := by rw [Int.pow_succ]; omega
  rw [hpow] at hj
  obtain ⟨o1, o2, o3, o4, o5, o6, o7, o8⟩ := ok
  have ha : (ask q).a = next q := by unfold ask; dsimp only; omega
  have hane : (ask q).a ≠ 0 := by rw [ha]; exact hn
  have hok : Ok (sstep size q) := by
    unfold sstep
    have := ask_ok (q := q) ⟨o1, o2, o3, o4, o5, o6, o7, o8⟩
    split
    · exact cames_ok _ this
    · exact loses_ok _ this
  unfold sstep at *
  by_cases hs : (ask q).a ≤ size
  · rw [if_pos hs] at *
    have he : cames [probe (ask q).a] (ask q) = { z := next q, h := q.h, a := 0, f := 0, b := q.b } := by
      show came (ask q) (probe (ask q).a) = _
      unfold came
      rw [if_pos (asks_probe hane)]
      unfold hit
      rw [ha]
      rfl
    rw [he] at hok ⊢
    rw [ha] at hs
    refine ⟨hok, rfl, ?_, ?_, ⟨i, ?_, ?_⟩, fun _ => rfl⟩
    · dsimp only; unfold goes at *; omega
    · exact hi
    · dsimp only; omega
    · dsimp only; omega
  · rw [if_neg hs] at *
    have he : loses [probe (ask q).a] (ask q) = miss (ask q) := by
      show lose (ask q) (probe (ask q).a) = _
      unfold lose
      rw [if_pos (asks_probe hane)]
    rw [he] at hok ⊢
    rw [ha] at hs
    unfold miss at hok ⊢
    have hf : (ask q).f = q.f := rfl
    have hz : (ask q).z = q.z := rfl
    have hh : (ask q).h = q.h := rfl
    have hbb : (ask q).b = q.b := rfl
    simp only [hf, hz, hh, ha, hbb] at hok ⊢
    by_cases h3 : q.f + 1 = 3
    · rw [if_pos h3] at hok ⊢
      refine ⟨hok, rfl, ?_, ?_, ⟨i, ?_, ?_⟩, fun _ => rfl⟩
      · exact lo
      · dsimp only; unfold goes at *; omega
      · dsimp only; omega
      · dsimp only; omega
    · rw [if_neg h3] at hok ⊢
      refine ⟨hok, rfl, lo, hi, ⟨i + 1, ?_, ?_⟩, fun hd => ?_⟩
      · dsimp only; rw [hpow]; omega
      · dsimp only; omega
      · dsimp only at hd; omega
theorem way_all (size : Int) (n : Nat) (h : ∀ k, k < n → next (stN size k) ≠ 0) : Way size n (stN size n) := by
  induction n with
  | zero => exact way_start size
  | succ n ih => exact way_step (ih fun k hk => h k (by omega)) (h n (by omega))
theorem stops (size : Int) : ∃ M, M ≤ 24 ∧ Stops size M := by
  have key : ∀ N, (∃ M, M ≤ N ∧ Stops size M) ∨ ∀ k, k < N → next (stN size k) ≠ 0 := by
    intro N
    induction N with
    | zero => exact .inr fun k hk => by omega
    | succ N ih =>
      rcases ih with ⟨M, hM, hs⟩ | hall
      · exact .inl ⟨M, by omega, hs⟩
      · by_cases h : next (stN size N) = 0
        · exact .inl ⟨N, by omega, h, hall⟩
        · refine .inr fun k hk => ?_
          by_cases hkn : k = N
          · rw [hkn]; exact h
          · exact hall k (by omega)
  rcases key 24 with h | h
  · exact h
  · have hw := way_all size 24 h
    obtain ⟨j, _, hm⟩ := hw.few
    have := hw.ok
    obtain ⟨_, _, _, _, _, o6, _, _⟩ := this
    omega
theorem stops_law {size : Int} {M : Nat} (h : Stops size M) : 256 ≤ (stN size M).z ∧ (stN size M).z ≤ goes size ∧ goes size - 16 < (stN size M).z ∧ M ≤ 21 := by
  have hw := way_all size M h.2
  obtain ⟨j, _, hm⟩ := hw.few
  have hd : (stN size M).h - (stN size M).z < 16 := by
    have h0 := h.1
    unfold next at h0
    obtain ⟨o1, o2, o3, _⟩ := hw.ok
    by_cases hc : (stN size M).a ≠ 0 ∨ (stN size M).h - (stN size M).z < 16
    · rcases hc with hc | hc
      · exact absurd hw.a0 hc
      · exact hc
    · rw [if_neg hc] at h0
      omega
  have h0 := hw.near hd
  have hi := hw.hi
  have lo := hw.lo
  obtain ⟨o1, o2, o3, _⟩ := hw.ok
  refine ⟨o1, lo, by omega, by omega⟩
theorem way_ok {size : Int} {M k : Nat} (h : Stops size M) (hk : k ≤ M) : Ok (stN size k) := (way_all size k fun n hn => h.2 n (by omega)).ok
theorem stop_256 : Stops 256 21 ∧ (stN 256 21).z = 256 := by unfold Stops; decide +kernel
theorem stop_5000 : Stops 5000 7 ∧ (stN 5000 7).z = 1491 := by unfold Stops; decide +kernel
end Go.Proofs.Yteikpgahdjhhkaa
