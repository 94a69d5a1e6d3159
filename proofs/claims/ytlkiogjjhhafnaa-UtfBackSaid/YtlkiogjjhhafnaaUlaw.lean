/- Plain laws of runes and bytes, with no program in sight. -/
import Derived.Test.YtlkiogjjhhafnaaPlain
namespace Go.Proofs.Ytlkiogjjhhafnaa

def fixN (n : Int) : Int := if isR n = true then n else 65533
def runesU (u : Ut) : List Int → List Int × Ut
  | [] => ([], u)
  | b :: bs => ((stepU u b).2 ++ (runesU (stepU u b).1 bs).1, (runesU (stepU u b).1 bs).2)
def enc (m : Int) : List Int :=
  if m < 128 then [m] else if m < 2048 then [192 + m / 64, 128 + m % 64]
  else if m < 65536 then [224 + m / 4096, 128 + m / 64 % 64, 128 + m % 64]
  else [240 + m / 262144, 128 + m / 4096 % 64, 128 + m / 64 % 64, 128 + m % 64]
def oneU (n : Int) : List Int := enc (fixN n)
def bytesU (l : List Int) : List Int := l.flatMap oneU

theorem isR_iff (n : Int) : isR n = true ↔ 0 ≤ n ∧ n ≤ 1114111 ∧ (n < 55296 ∨ 57343 < n) := by
  unfold isR
  simp [and_assoc]
theorem fixN_is (n : Int) : isR (fixN n) = true := by
  unfold fixN
  split
  · assumption
  · decide
theorem goes_iff (u : Ut) : goesU u = true ↔ 1 ≤ u.need ∧ u.need ≤ 3 ∧ 0 ≤ u.val ∧ u.val ≤ 32767 ∧ (u.least = 128 ∨ u.least = 2048 ∨ u.least = 65536) := by
  unfold goesU
  simp [and_assoc, or_assoc]

theorem runesU_append (u : Ut) (a b : List Int) : runesU u (a ++ b) = ((runesU u a).1 ++ (runesU (runesU u a).2 b).1, (runesU (runesU u a).2 b).2) := by
  induction a generalizing u with
  | nil => rfl
  | cons x a ih => simp only [List.cons_append, runesU, ih, List.append_assoc]
theorem runesU_one (u : Ut) (x : Int) : runesU u [x] = ((stepU u x).2, (stepU u x).1) := by simp [runesU]

/-! ### steps -/
theorem step_none (u : Ut) (b : Int) (h : goesU u = false) : stepU u b = fstU b := by unfold stepU; rw [if_pos h]
theorem step_zero (b : Int) : stepU .zero b = fstU b := step_none _ _ (by decide)
theorem step_bad (u : Ut) (b : Int) (h : goesU u = true) (hb : b < 128 ∨ 191 < b) : stepU u b = ((fstU b).1, 65533 :: (fstU b).2) := by
  unfold stepU; rw [if_neg (by simp [h]), if_pos hb]
theorem goes_mk {n v l : Int} (h1 : 1 ≤ n) (h2 : n ≤ 3) (h3 : 0 ≤ v) (h4 : v ≤ 32767) (h5 : l = 128 ∨ l = 2048 ∨ l = 65536) : goesU ⟨n, v, l⟩ = true := (goes_iff _).2 ⟨h1, h2, h3, h4, h5⟩
theorem step_on (n v l : Int) (b : Int) (h : goesU ⟨n, v, l⟩ = true) (hb : 128 ≤ b ∧ b ≤ 191) (hn : 1 < n) : stepU ⟨n, v, l⟩ b = (⟨n - 1, 64 * v + b % 64, l⟩, []) := by
  unfold stepU; rw [if_neg (by simp [h]), if_neg (by omega), if_pos (by exact hn)]
theorem step_end (n v l : Int) (b : Int) (h : goesU ⟨n, v, l⟩ = true) (hb : 128 ≤ b ∧ b ≤ 191) (hn : ¬ 1 < n) : stepU ⟨n, v, l⟩ b = (.zero, [fixR (64 * v + b % 64) l]) := by
  unfold stepU; rw [if_neg (by simp [h]), if_neg (by omega), if_neg (by exact hn)]
theorem fst_one (b : Int) (h : b < 128) : fstU b = (.zero, [b]) := by unfold fstU; rw [if_pos h]
theorem fst_bad (b : Int) (h : 128 ≤ b) (h' : b < 194 ∨ 244 < b) : fstU b = (.zero, [65533]) := by
  unfold fstU; rw [if_neg (by omega)]
  split
  · rfl
  · rw [if_pos (by omega)]
theorem fst_two (b : Int) (h : 194 ≤ b) (h' : b < 224) : fstU b = (⟨1, b % 32, 128⟩, []) := by
  unfold fstU; rw [if_neg (by omega), if_neg (by omega), if_neg (by omega), if_neg (by omega), if_neg (by omega)]
theorem fst_three (b : Int) (h : 224 ≤ b) (h' : b < 240) : fstU b = (⟨2, b % 16, 2048⟩, []) := by
  unfold fstU; rw [if_neg (by omega), if_neg (by omega), if_neg (by omega), if_neg (by omega), if_pos (by omega)]
theorem fst_four (b : Int) (h : 240 ≤ b) (h' : b ≤ 244) : fstU b = (⟨3, b % 8, 65536⟩, []) := by
  unfold fstU; rw [if_neg (by omega), if_neg (by omega), if_neg (by omega), if_pos (by omega)]
theorem fixR_ok (n least : Int) (h : isR n = true) (h' : least ≤ n) : fixR n least = n := by unfold fixR; rw [if_pos ⟨h, h'⟩]
theorem fixR_is (n least : Int) : isR (fixR n least) = true := by
  unfold fixR
  split
  · rename_i h; exact h.1
  · decide

/-! ### read as it was written -/
theorem back_two (x y : Int) (hx : 194 ≤ x ∧ x < 224) (hy : 128 ≤ y ∧ y ≤ 191) : runesU .zero [x, y] = ([fixR (64 * (x % 32) + y % 64) 128], .zero) := by
  have e1 := step_zero x
  rw [fst_two x hx.1 hx.2] at e1
  have e2 := step_end (1) (x % 32) (128) y (goes_mk (by decide) (by decide) (by omega) (by omega) (by decide)) hy (by decide)
  simp only [runesU, e1, e2, List.nil_append, List.append_nil]
theorem back_three (x y z : Int) (hx : 224 ≤ x ∧ x < 240) (hy : 128 ≤ y ∧ y ≤ 191) (hz : 128 ≤ z ∧ z ≤ 191) : runesU .zero [x, y, z] = ([fixR (64 * (64 * (x % 16) + y % 64) + z % 64) 2048], .zero) := by
  have e1 := step_zero x
  rw [fst_three x hx.1 hx.2] at e1
  have e2 := step_on (2) (x % 16) (2048) y (goes_mk (by decide) (by decide) (by omega) (by omega) (by decide)) hy (by decide)
  have e3 := step_end (2 - 1) (64 * (x % 16) + y % 64) (2048) z (goes_mk (by decide) (by decide) (by omega) (by omega) (by decide)) hz (by decide)
  simp only [runesU, e1, e2, e3, List.nil_append, List.append_nil]
theorem back_four (x y z t : Int) (hx : 240 ≤ x ∧ x ≤ 244) (hy : 128 ≤ y ∧ y ≤ 191) (hz : 128 ≤ z ∧ z ≤ 191) (ht : 128 ≤ t ∧ t ≤ 191) :
    runesU .zero [x, y, z, t] = ([fixR (64 * (64 * (64 * (x % 8) + y % 64) + z % 64) + t % 64) 65536], .zero) := by
  have e1 := step_zero x
  rw [fst_four x hx.1 hx.2] at e1
  have e2 := step_on (3) (x % 8) (65536) y (goes_mk (by decide) (by decide) (by omega) (by omega) (by decide)) hy (by decide)
  have e3 := step_on (3 - 1) (64 * (x % 8) + y % 64) (65536) z (goes_mk (by decide) (by decide) (by omega) (by omega) (by decide)) hz (by decide)
  have e4 := step_end (3 - 1 - 1) (64 * (64 * (x % 8) + y % 64) + z % 64) (65536) t (goes_mk (by decide) (by decide) (by omega) (by omega) (by decide)) ht (by decide)
  simp only [runesU, e1, e2, e3, e4, List.nil_append, List.append_nil]

theorem enc_back (m : Int) (h : isR m = true) : runesU .zero (enc m) = ([m], .zero) := by
  have hm := (isR_iff m).1 h
  unfold enc
  split
  · rw [runesU_one, step_zero, fst_one _ (by assumption)]
  · split
    · rw [back_two _ _ (by omega) (by omega), fixR_ok]
      · congr 2; omega
      · rw [show 64 * ((192 + m / 64) % 32) + (128 + m % 64) % 64 = m by omega]; exact h
      · omega
    · split
      · have e : 64 * (64 * ((224 + m / 4096) % 16) + (128 + m / 64 % 64) % 64) + (128 + m % 64) % 64 = m := by omega
        rw [back_three _ _ _ (by omega) (by omega) (by omega), e, fixR_ok _ _ h (by omega)]
      · have e : 64 * (64 * (64 * ((240 + m / 262144) % 8) + (128 + m / 4096 % 64) % 64) + (128 + m / 64 % 64) % 64) + (128 + m % 64) % 64 = m := by omega
        rw [back_four _ _ _ _ (by omega) (by omega) (by omega) (by omega), e, fixR_ok _ _ h (by omega)]
theorem bytes_back (l : List Int) : runesU .zero (bytesU l) = (l.map fixN, .zero) := by
  induction l with
  | nil => rfl
  | cons n l ih =>
    have e : bytesU (n :: l) = oneU n ++ bytesU l := by simp [bytesU]
    have e1 : runesU .zero (oneU n) = ([fixN n], .zero) := enc_back _ (fixN_is n)
    rw [e, runesU_append, e1]
    simp [ih]
theorem enc_range (m : Int) (h : isR m = true) : ∀ b ∈ enc m, 0 ≤ b ∧ b < 256 := by
  have hm := (isR_iff m).1 h
  unfold enc
  intro b hb
  split at hb
  · simp at hb; omega
  · split at hb
    · simp at hb; omega
    · split at hb
      · simp at hb; omega
      · simp at hb; omega
theorem enc_len (m : Int) : (enc m).length ≤ 4 := by
  unfold enc
  repeat (split; · simp)
  simp
theorem bytes_len (l : List Int) : (bytesU l).length ≤ 4 * l.length := by
  induction l with
  | nil => simp [bytesU]
  | cons n l ih =>
    have e : bytesU (n :: l) = oneU n ++ bytesU l := by simp [bytesU]
    have := enc_len (fixN n)
    rw [e, List.length_append, List.length_cons]
    unfold oneU
    omega
theorem bytes_range (l : List Int) : ∀ b ∈ bytesU l, 0 ≤ b ∧ b < 256 := by
  intro b hb
  obtain ⟨n, _, hb⟩ := List.mem_flatMap.1 hb
  exact enc_range _ (fixN_is n) b hb

/-! ### written as it was read -/
theorem enc_two (x y : Int) (hx : 194 ≤ x ∧ x < 224) (hy : 128 ≤ y ∧ y ≤ 191) : enc (64 * (x % 32) + y % 64) = [x, y] := by
  unfold enc
  rw [if_neg (by omega), if_pos (by omega)]
  congr 1
  · omega
  · congr 1; omega
theorem enc_three (x y z : Int) (hx : 224 ≤ x ∧ x < 240) (hy : 128 ≤ y ∧ y ≤ 191) (hz : 128 ≤ z ∧ z ≤ 191) (hl : 2048 ≤ 64 * (64 * (x % 16) + y % 64) + z % 64) :
    enc (64 * (64 * (x % 16) + y % 64) + z % 64) = [x, y, z] := by
  unfold enc
  rw [if_neg (by omega), if_neg (by omega), if_pos (by omega)]
  congr 1
  · omega
  · congr 1
    · omega
    · congr 1; omega
theorem enc_four (x y z t : Int) (hx : 240 ≤ x ∧ x ≤ 244) (hy : 128 ≤ y ∧ y ≤ 191) (hz : 128 ≤ z ∧ z ≤ 191) (ht : 128 ≤ t ∧ t ≤ 191) (hl : 65536 ≤ 64 * (64 * (64 * (x % 8) + y % 64) + z % 64) + t % 64) :
    enc (64 * (64 * (64 * (x % 8) + y % 64) + z % 64) + t % 64) = [x, y, z, t] := by
  unfold enc
  rw [if_neg (by omega), if_neg (by omega), if_neg (by omega)]
  congr 1
  · omega
  · congr 1
    · omega
    · congr 1
      · omega
      · congr 1; omega
theorem fixR_ne {n least : Int} (h : fixR n least ≠ 65533) : isR n = true ∧ least ≤ n ∧ fixR n least = n := by
  unfold fixR at h ⊢
  by_cases hc : isR n = true ∧ least ≤ n
  · rw [if_pos hc]; exact ⟨hc.1, hc.2, rfl⟩
  · rw [if_neg hc] at h; exact absurd rfl h
theorem oneU_of {n : Int} (h : isR n = true) : oneU n = enc n := by unfold oneU fixN; rw [if_pos h]
theorem bad_in (u : Ut) (b : Int) (bs : List Int) (h : 65533 ∈ (stepU u b).2) : 65533 ∈ (runesU u (b :: bs)).1 := List.mem_append_left _ h
theorem bad_far (u : Ut) (p bs : List Int) (h : 65533 ∈ (runesU u p).1) : 65533 ∈ (runesU u (p ++ bs)).1 := by
  rw [runesU_append]; exact List.mem_append_left _ h

theorem back_bytes (k : Nat) : ∀ b : List Int, b.length ≤ k → (∀ x ∈ b, 0 ≤ x ∧ x < 256) → (runesU .zero b).2 = .zero → 65533 ∉ (runesU .zero b).1 → bytesU (runesU .zero b).1 = b := by
  induction k with
  | zero =>
    intro b hb _ _ _
    obtain rfl : b = [] := List.eq_nil_of_length_eq_zero (by omega)
    rfl
  | succ k ih =>
    intro b hb hr hz hn
    cases b with
    | nil => rfl
    | cons x bs =>
      have hx := hr x (by simp)
      have done : ∀ (p : List Int) (m : Int) (q : List Int), x :: bs = p ++ q → runesU .zero p = ([m], .zero) → (m ≠ 65533 → isR m = true ∧ enc m = p) → p ≠ [] → bytesU (runesU .zero (x :: bs)).1 = x :: bs := by
        intro p m q e h1 h2 hp
        rw [e, runesU_append, h1] at hz hn
        simp only [List.mem_append, List.mem_singleton, not_or] at hn
        have hpl : 0 < p.length := List.length_pos_iff.2 hp
        have hql : p.length + q.length ≤ k + 1 := by rw [← List.length_append, ← e]; exact hb
        have := ih q (by omega) (fun y hy => hr y (by rw [e]; exact List.mem_append_right _ hy)) hz hn.2
        obtain ⟨g1, g2⟩ := h2 (Ne.symm hn.1)
        rw [e, runesU_append, h1]
        show bytesU (m :: _) = _
        simp only [bytesU, List.flatMap_cons]
        rw [oneU_of g1, g2]
        congr 1
      have bad : ∀ (p q : List Int), x :: bs = p ++ q → 65533 ∈ (runesU .zero p).1 → False := fun p q e h => hn (by rw [e]; exact bad_far _ _ _ h)
      by_cases h1 : x < 128
      · exact done [x] x bs rfl (by rw [runesU_one, step_zero, fst_one _ h1]) (fun _ => ⟨(isR_iff _).2 (by omega), by unfold enc; rw [if_pos h1]⟩) (by simp)
      by_cases h2 : x < 194 ∨ 244 < x
      · exact (bad [x] bs rfl (by rw [runesU_one, step_zero, fst_bad _ (by omega) h2]; simp)).elim
      cases bs with
      | nil =>
        exfalso
        rw [runesU_one, step_zero] at hz
        by_cases h3 : x < 224
        · rw [fst_two _ (by omega) h3] at hz; simp [Ut.zero] at hz
        by_cases h4 : x < 240
        · rw [fst_three _ (by omega) h4] at hz; simp [Ut.zero] at hz
        · rw [fst_four _ (by omega) (by omega)] at hz; simp [Ut.zero] at hz
      | cons y bs =>
        have hy := hr y (by simp)
        -- the states behind the first byte
        have two : ∀ (u : Ut), fstU x = (u, []) → goesU u = true → (y < 128 ∨ 191 < y) → False := fun u hu hg hc => by
          refine bad [x, y] bs rfl ?_
          simp only [runesU, step_zero, hu, step_bad u y hg hc]
          simp
        by_cases h3 : x < 224
        · have hf := fst_two x (by omega) h3
          by_cases hc : y < 128 ∨ 191 < y
          · exact (two _ hf (goes_mk (by decide) (by decide) (by omega) (by omega) (by decide)) hc).elim
          refine done [x, y] _ bs rfl (back_two x y (by omega) (by omega)) (fun h => ?_) (by simp)
          obtain ⟨g1, _, g3⟩ := fixR_ne h
          rw [g3]
          exact ⟨g1, enc_two _ _ (by omega) (by omega)⟩
        have hgo3 : goesU ⟨2, x % 16, 2048⟩ = true := goes_mk (by decide) (by decide) (by omega) (by omega) (by decide)
        have hgo4 : goesU ⟨3, x % 8, 65536⟩ = true := goes_mk (by decide) (by decide) (by omega) (by omega) (by decide)
        have hc : ¬ (y < 128 ∨ 191 < y) := by
          intro hc
          by_cases h4 : x < 240
          · exact two _ (fst_three x (by omega) h4) hgo3 hc
          · exact two _ (fst_four x (by omega) (by omega)) hgo4 hc
        by_cases h4 : x < 240
        · have hf := fst_three x (by omega) h4
          have e2 := step_on (2) (x % 16) (2048) y hgo3 (by omega) (by decide)
          have hg2 : goesU ⟨2 - 1, 64 * (x % 16) + y % 64, 2048⟩ = true := goes_mk (by decide) (by decide) (by omega) (by omega) (by decide)
          cases bs with
          | nil =>
            exfalso
            simp only [runesU, step_zero, hf, e2] at hz
            simp [Ut.zero] at hz
          | cons z bs =>
            have hz' := hr z (by simp)
            by_cases hcz : z < 128 ∨ 191 < z
            · refine (bad [x, y, z] bs rfl ?_).elim
              simp only [runesU, step_zero, hf, e2, step_bad _ z hg2 hcz]
              simp
            refine done [x, y, z] _ bs rfl (back_three x y z (by omega) (by omega) (by omega)) (fun h => ?_) (by simp)
            obtain ⟨g1, g2, g3⟩ := fixR_ne h
            rw [g3]
            exact ⟨g1, enc_three _ _ _ (by omega) (by omega) (by omega) g2⟩
        · have hf := fst_four x (by omega) (by omega)
          have e2 := step_on (3) (x % 8) (65536) y hgo4 (by omega) (by decide)
          have hg2 : goesU ⟨3 - 1, 64 * (x % 8) + y % 64, 65536⟩ = true := goes_mk (by decide) (by decide) (by omega) (by omega) (by decide)
          cases bs with
          | nil =>
            exfalso
            simp only [runesU, step_zero, hf, e2] at hz
            simp [Ut.zero] at hz
          | cons z bs =>
            have hz' := hr z (by simp)
            by_cases hcz : z < 128 ∨ 191 < z
            · refine (bad [x, y, z] bs rfl ?_).elim
              simp only [runesU, step_zero, hf, e2, step_bad _ z hg2 hcz]
              simp
            have e3 := step_on (3 - 1) (64 * (x % 8) + y % 64) (65536) z hg2 (by omega) (by decide)
            have hg3 : goesU ⟨3 - 1 - 1, 64 * (64 * (x % 8) + y % 64) + z % 64, 65536⟩ = true := goes_mk (by decide) (by decide) (by omega) (by omega) (by decide)
            cases bs with
            | nil =>
              exfalso
              simp only [runesU, step_zero, hf, e2, e3] at hz
              simp [Ut.zero] at hz
            | cons t bs =>
              have ht' := hr t (by simp)
              by_cases hct : t < 128 ∨ 191 < t
              · refine (bad [x, y, z, t] bs rfl ?_).elim
                simp only [runesU, step_zero, hf, e2, e3, step_bad _ t hg3 hct]
                simp
              refine done [x, y, z, t] _ bs rfl (back_four x y z t (by omega) (by omega) (by omega) (by omega)) (fun h => ?_) (by simp)
              obtain ⟨g1, g2, g3⟩ := fixR_ne h
              rw [g3]
              exact ⟨g1, enc_four _ _ _ _ (by omega) (by omega) (by omega) (by omega) g2⟩

/-! ### each rune is one; no more than bytes -/
theorem step_runes (u : Ut) (b : Int) (h0 : 0 ≤ b) : ∀ n ∈ (stepU u b).2, isR n = true := by
  have hf : ∀ n ∈ (fstU b).2, isR n = true := by
    intro n hn
    unfold fstU at hn
    split at hn
    · simp at hn; subst hn; exact (isR_iff _).2 (by omega)
    · (repeat (split at hn; · simp at hn; try (subst hn; decide)))
      simp at hn
  intro n hn
  unfold stepU at hn
  split at hn
  · exact hf n hn
  · split at hn
    · rcases List.mem_cons.1 hn with rfl | hn
      · decide
      · exact hf n hn
    · split at hn
      · simp at hn
      · simp at hn; subst hn; exact fixR_is _ _
theorem runes_runes (b : List Int) : ∀ u, (∀ x ∈ b, 0 ≤ x) → ∀ n ∈ (runesU u b).1, isR n = true := by
  induction b with
  | nil => intro u _ n hn; simp [runesU] at hn
  | cons x b ih =>
    intro u hb n hn
    rcases List.mem_append.1 hn with hn | hn
    · exact step_runes u x (hb x (by simp)) n hn
    · exact ih _ (fun y hy => hb y (by simp [hy])) n hn
def pend (u : Ut) : Nat := if goesU u = true then 1 else 0
theorem pend_le (u : Ut) : pend u ≤ 1 := by unfold pend; split <;> omega
theorem fst_pend (b : Int) : (fstU b).2.length + pend (fstU b).1 ≤ 1 := by
  have hz : pend .zero = 0 := by decide
  unfold fstU
  (repeat (split; · first | (simp [hz]; done) | (have := pend_le; simpa using this _)))
  simpa using pend_le _
theorem step_pend (u : Ut) (b : Int) : (stepU u b).2.length + pend (stepU u b).1 ≤ 1 + pend u := by
  have hz : pend .zero = 0 := by decide
  have hf := fst_pend b
  unfold stepU
  split
  · omega
  · have hp : pend u = 1 := by unfold pend; rw [if_pos (by simp_all)]
    split
    · simp only [List.length_cons]; omega
    · split
      · have := pend_le ⟨u.need - 1, 64 * u.val + b % 64, u.least⟩
        simp only [List.length_nil]; omega
      · simp [hz]
theorem runes_len (b : List Int) : ∀ u, (runesU u b).1.length + pend (runesU u b).2 ≤ b.length + pend u := by
  induction b with
  | nil => intro u; simp [runesU]
  | cons x b ih =>
    intro u
    have h1 := step_pend u x
    have h2 := ih (stepU u x).1
    simp only [runesU, List.length_append, List.length_cons]
    omega
theorem runes_few (b : List Int) : (runesU .zero b).1.length ≤ b.length := by
  have h := runes_len b .zero
  have hz : pend .zero = 0 := by decide
  omega
theorem step_len (u : Ut) (b : Int) : (stepU u b).2.length ≤ 2 := by
  have := step_pend u b
  have := pend_le u
  omega
theorem runes_len2 (b : List Int) (u : Ut) : (runesU u b).1.length ≤ b.length + 1 := by
  have := runes_len b u
  have := pend_le u
  omega

/-! ### bytes below 128, and wrong ones -/
theorem plain_runes (w : Int) (hw : 128 ≤ w ∧ w ≤ 191) (b : List Int) (hb : ∀ x ∈ b, 0 ≤ x ∧ x < 256) :
    runesU .zero (b.flatMap fun x => [x % 128, w]) = (b.flatMap fun x => [x % 128, 65533], .zero) := by
  induction b with
  | nil => rfl
  | cons x b ih =>
    rw [List.flatMap_cons, runesU_append]
    have e : runesU .zero [x % 128, w] = ([x % 128, 65533], .zero) := by
      simp only [runesU, step_zero, fst_one (x % 128) (by omega), fst_bad w (by omega) (by omega)]
      rfl
    rw [e, ih (fun y hy => hb y (by simp [hy]))]
    simp
end Go.Proofs.Ytlkiogjjhhafnaa
