/- Numbers of a sequence, read as they were written: the plain law. Of at most eight numbers below ten thousand. -/
import Derived.Test.YtjgaljnojhkimaaLaw
namespace Go.Proofs.Ytjgaljnojhkimaa
/-- a number's digits, from the thousands on, as far as it has them -/
def digAt (n d : Int) : List Int := if d ≤ n then [48 + n / d % 10] else []
def dig (n : Int) : List Int := digAt n 1000 ++ digAt n 100 ++ digAt n 10 ++ digAt n 1
theorem put_get (a : Ac) (k : Nat) (hk : k < 8) (x : Int) : (a.put k x).get k = x := by
  match k, hk with
  | 0, _ | 1, _ | 2, _ | 3, _ | 4, _ | 5, _ | 6, _ | 7, _ => rfl
  | n + 8, h => exact absurd h (by omega)
theorem put_put (a : Ac) (k : Nat) (x y : Int) : (a.put k x).put k y = a.put k y := by
  simp only [Ac.put, Ac.mk.injEq, true_and]
  refine ⟨?_, ?_, ?_, ?_, ?_, ?_, ?_, ?_⟩ <;> (split <;> rfl)
theorem put_same (a : Ac) (k : Nat) (hk : k < 8) : a.put k (a.get k) = a := by
  match k, hk with
  | 0, _ | 1, _ | 2, _ | 3, _ | 4, _ | 5, _ | 6, _ | 7, _ => rfl
  | n + 8, h => exact absurd h (by omega)
/-- an act that is under way: it may be, and what is behind its last number is 0 -/
def On (a : Ac) : Prop := 0 ≤ a.many ∧ a.many ≤ 7 ∧ a.kind = 0 ∧ a.rune = 0 ∧ okA a = true
theorem on_ok {a : Ac} (h : On a) : okP ⟨2, a⟩ = true := ok_of ⟨by show (0 : Int) ≤ 2; decide, by show (2 : Int) ≤ 3; decide, .inl rfl, h.1, h.2.1, h.2.2.1, h.2.2.2.1, h.2.2.2.2⟩
theorem okA_put {a : Ac} {k : Nat} {x : Int} (h : okA a = true) (h0 : 0 ≤ x) (hx : x ≤ 9999) : okA (a.put k x) = true := by
  rw [okA_iff] at h ⊢
  simp only [Ac.put]
  refine ⟨?_, ?_, ?_, ?_, ?_, ?_, ?_, ?_⟩ <;> (split <;> omega)
theorem on_put {a : Ac} {x : Int} (h : On a) (h0 : 0 ≤ x) (hx : x ≤ 9999) (k : Nat) : On (a.put k x) := ⟨h.1, h.2.1, h.2.2.1, h.2.2.2.1, okA_put h.2.2.2.2 h0 hx⟩
theorem step_dig {a : Ac} (h : On a) (d : Int) (h0 : 0 ≤ d) (h9 : d ≤ 9) (hx : 10 * a.get a.many.toNat + d ≤ 9999) :
    stepP ⟨2, a⟩ (48 + d) = (⟨2, a.put a.many.toNat (10 * a.get a.many.toNat + d)⟩, .zero, false) := by
  unfold stepP
  rw [ofP_ok (on_ok h), if_neg (by omega), if_neg (by simp only []; omega), if_neg (by simp), if_neg (by simp), if_pos rfl]
  unfold csiP
  rw [if_pos (by omega)]
  have e : min (10 * a.get a.many.toNat + (48 + d) - 48) 9999 = 10 * a.get a.many.toNat + d := by omega
  simp only [e]
theorem acts_one {p q : Pa} {n : Int} (h : stepP p n = (q, .zero, false)) : actsP p [n] = ([], q) := by
  rw [actsP, h]
  rfl
theorem acts_none {p q r : Pa} {l m : List Int} (h : actsP p l = ([], q)) (k : actsP q m = ([], r)) : actsP p (l ++ m) = ([], r) := by
  rw [actsP_append, h]
  simp [k]
/-- one digit more -/
theorem acts_dig {a : Ac} {k : Nat} (h : On a) (hk : a.many = (k : Int)) (x d : Int) (hx : 0 ≤ x) (h0 : 0 ≤ d) (h9 : d ≤ 9) (hxd : 10 * x + d ≤ 9999) :
    actsP ⟨2, a.put k x⟩ [48 + d] = ([], ⟨2, a.put k (10 * x + d)⟩) := by
  have hk8 : k < 8 := by have := h.2.1; omega
  have hon := on_put h hx (by omega) k
  have hm : (a.put k x).many.toNat = k := by show a.many.toNat = k; rw [hk]; rfl
  have := step_dig hon d h0 h9 (by rw [hm, put_get a k hk8]; exact hxd)
  rw [hm, put_get a k hk8, put_put] at this
  exact acts_one this
theorem acts_num {a : Ac} {k : Nat} (h : On a) (hk : a.many = (k : Int)) (hz : a.get k = 0) (n : Int) (h0 : 0 ≤ n) (hn : n ≤ 9999) :
    actsP ⟨2, a⟩ (dig n) = ([], ⟨2, a.put k n⟩) := by
  have hk8 : k < 8 := by have := h.2.1; omega
  have hb : a = a.put k 0 := by rw [← hz, put_same a k hk8]
  have D := fun x d => acts_dig h hk x d
  have e0 : actsP ⟨2, a⟩ [] = ([], ⟨2, a.put k 0⟩) := by rw [← hb]; rfl
  unfold dig
  have g1 : actsP ⟨2, a⟩ (digAt n 1000) = ([], ⟨2, a.put k (n / 1000)⟩) := by
    unfold digAt
    by_cases h1 : 1000 ≤ n
    · rw [if_pos h1]
      have := D 0 (n / 1000 % 10) (by omega) (by omega) (by omega) (by omega)
      rw [← hb] at this
      rw [this, show 10 * 0 + n / 1000 % 10 = n / 1000 by omega]
    · rw [if_neg h1, show n / 1000 = 0 by omega]
      exact e0
  have g2 : actsP ⟨2, a.put k (n / 1000)⟩ (digAt n 100) = ([], ⟨2, a.put k (n / 100)⟩) := by
    unfold digAt
    by_cases h1 : 100 ≤ n
    · rw [if_pos h1]
      have := D (n / 1000) (n / 100 % 10) (by omega) (by omega) (by omega) (by omega)
      rw [this, show 10 * (n / 1000) + n / 100 % 10 = n / 100 by omega]
    · rw [if_neg h1, show n / 1000 = 0 by omega, show n / 100 = 0 by omega]
      rfl
  have g3 : actsP ⟨2, a.put k (n / 100)⟩ (digAt n 10) = ([], ⟨2, a.put k (n / 10)⟩) := by
    unfold digAt
    by_cases h1 : 10 ≤ n
    · rw [if_pos h1]
      have := D (n / 100) (n / 10 % 10) (by omega) (by omega) (by omega) (by omega)
      rw [this, show 10 * (n / 100) + n / 10 % 10 = n / 10 by omega]
    · rw [if_neg h1, show n / 100 = 0 by omega, show n / 10 = 0 by omega]
      rfl
  have g4 : actsP ⟨2, a.put k (n / 10)⟩ (digAt n 1) = ([], ⟨2, a.put k n⟩) := by
    unfold digAt
    by_cases h1 : 1 ≤ n
    · rw [if_pos h1]
      have := D (n / 10) (n / 1 % 10) (by omega) (by omega) (by omega) (by omega)
      rw [this, show 10 * (n / 10) + n / 1 % 10 = n by omega]
    · rw [if_neg h1, show n / 10 = 0 by omega, show n = 0 by omega]
      rfl
  exact acts_none (acts_none (acts_none g1 g2) g3) g4
theorem step_semi {a : Ac} (h : On a) (h7 : a.many < 7) : actsP ⟨2, a⟩ [59] = ([], ⟨2, { a with many := a.many + 1 }⟩) := by
  apply acts_one
  unfold stepP
  rw [ofP_ok (on_ok h), if_neg (by omega), if_neg (by simp only []; omega), if_neg (by simp), if_neg (by simp), if_pos rfl]
  unfold csiP
  rw [if_neg (by omega), if_pos rfl]
  have e : min (a.many + 1) 7 = a.many + 1 := by omega
  simp only [e]
theorem acts_last {a : Ac} (h : On a) (n : Int) (h0 : 64 ≤ n) (h1 : n ≤ 126) : actsP ⟨2, a⟩ [n] = ([{ a with kind := 4, rune := n }], .zero) := by
  have e : stepP ⟨2, a⟩ n = (.zero, { a with kind := 4, rune := n }, true) := by
    unfold stepP
    rw [ofP_ok (on_ok h), if_neg (by omega), if_neg (by simp only []; omega), if_neg (by simp), if_neg (by simp), if_pos rfl]
    unfold csiP
    rw [if_neg (by omega), if_neg (by omega), if_neg (by omega), if_pos ⟨h0, h1⟩]
  rw [actsP, e]
  rfl
/-- the numbers that have been read -/
def num (l : List Int) (j : Nat) : Int := l.getD j 0 % 10000
def gK (l : List Int) (k j : Nat) : Int := if j < k then num l j else 0
def actK (mark : Bool) (l : List Int) (k : Nat) : Ac := ⟨0, 0, mark, ((k - 1 : Nat) : Int), gK l k 0, gK l k 1, gK l k 2, gK l k 3, gK l k 4, gK l k 5, gK l k 6, gK l k 7⟩
def sep (k : Nat) : List Int := if 0 < k then [59] else []
def body (l : List Int) : Nat → List Int
  | 0 => []
  | k + 1 => body l k ++ sep k ++ dig (num l k)
def headT (mark : Bool) : List Int := [27, 91] ++ (if mark = true then [63] else [])
theorem num_range (l : List Int) (j : Nat) : 0 ≤ num l j ∧ num l j ≤ 9999 := by unfold num; omega
theorem actK_on (mark : Bool) (l : List Int) {k : Nat} (hk : k ≤ 8) : On (actK mark l k) := by
  have hg : ∀ j, 0 ≤ gK l k j ∧ gK l k j ≤ 9999 := fun j => by
    unfold gK
    have := num_range l j
    split <;> omega
  refine ⟨by simp only [actK]; omega, by simp only [actK]; omega, rfl, rfl, (okA_iff _).2 ?_⟩
  exact ⟨hg 0, hg 1, hg 2, hg 3, hg 4, hg 5, hg 6, hg 7⟩
theorem actK_put (mark : Bool) (l : List Int) {k : Nat} (m : Int) : ({ actK mark l k with many := m } : Ac).put k (num l k) = { actK mark l (k + 1) with many := m } := by
  have e : ∀ j, (if k = j then num l k else gK l k j) = gK l (k + 1) j := fun j => by
    unfold gK
    by_cases h : k = j
    · subst h
      rw [if_pos rfl, if_pos (by omega)]
    · rw [if_neg h]
      by_cases h2 : j < k
      · rw [if_pos h2, if_pos (by omega)]
      · rw [if_neg h2, if_neg (by omega)]
  simp only [Ac.put, actK, e]
theorem acts_head (mark : Bool) (l : List Int) : actsP .zero (headT mark) = ([], ⟨2, actK mark l 0⟩) := by
  have e : actK mark l 0 = ⟨0, 0, mark, 0, 0, 0, 0, 0, 0, 0, 0, 0⟩ := by simp [actK, gK]
  rw [e]
  cases mark <;> decide
theorem acts_body (mark : Bool) (l : List Int) : ∀ k, k ≤ 8 → actsP .zero (headT mark ++ body l k) = ([], ⟨2, actK mark l k⟩)
  | 0, _ => by
    simp only [body, List.append_nil]
    exact acts_head mark l
  | k + 1, hk => by
    have ih := acts_body mark l k (by omega)
    have hon := actK_on mark l (k := k) (by omega)
    have hr := num_range l k
    have hgz : ∀ m, ({ actK mark l k with many := m } : Ac).get k = 0 := fun m => by
      have hz : gK l k k = 0 := by unfold gK; rw [if_neg (by omega)]
      match k, hk, hz with
      | 0, _, hz | 1, _, hz | 2, _, hz | 3, _, hz | 4, _, hz | 5, _, hz | 6, _, hz | 7, _, hz => exact hz
      | n + 8, h, _ => exact absurd h (by omega)
    have hmany : (actK mark l k).many = ((k - 1 : Nat) : Int) := rfl
    have s1 : actsP ⟨2, actK mark l k⟩ (sep k) = ([], ⟨2, { actK mark l k with many := (k : Int) }⟩) := by
      unfold sep
      by_cases h : 0 < k
      · rw [if_pos h, step_semi hon (by rw [hmany]; omega)]
        have e : (actK mark l k).many + 1 = (k : Int) := by rw [hmany]; omega
        rw [e]
      · obtain rfl : k = 0 := by omega
        rw [if_neg (by omega)]
        rfl
    have s2 := acts_num (a := { actK mark l k with many := (k : Int) }) (k := k) ⟨by simp only []; omega, by simp only []; omega, hon.2.2.1, hon.2.2.2.1, hon.2.2.2.2⟩ rfl (hgz k) (num l k) hr.1 hr.2
    rw [actK_put mark l] at s2
    have e : ({ actK mark l (k + 1) with many := (k : Int) } : Ac) = actK mark l (k + 1) := by
      simp only [actK, Nat.add_sub_cancel]
    rw [e] at s2
    have := acts_none ih (acts_none s1 s2)
    simp only [body]
    rw [← this]
    congr 1
    simp only [List.append_assoc]
theorem acts_numbers (mark : Bool) (l : List Int) (h : l.length ≤ 8) (n : Int) (h0 : 64 ≤ n) (h1 : n ≤ 126) :
    actsP .zero (headT mark ++ body l l.length ++ [n]) = ([{ actK mark l l.length with kind := 4, rune := n }], .zero) := by
  rw [actsP_append, acts_body mark l l.length h]
  simp only [List.nil_append]
  exact acts_last (actK_on mark l h) n h0 h1
end Go.Proofs.Ytjgaljnojhkimaa
