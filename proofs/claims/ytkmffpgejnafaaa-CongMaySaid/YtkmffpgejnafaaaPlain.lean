/- The window of bytes, in plain Lean: what may be, growth, loss, collapse, what is long. No program in sight, no condition. -/
namespace Go.Proofs.Ytkmffpgejnafaaa

def inB (n a b : Int) : Bool := decide (a ≤ n) && decide (n ≤ b)
theorem inB_true {n a b : Int} : inB n a b = true ↔ a ≤ n ∧ n ≤ b := by simp [inB]
theorem inB_false {n a b : Int} : inB n a b = false ↔ (a ≤ n → b < n) := by simp [inB]
def clT (n : Int) : Int := min (max n 0) 1099511627776
theorem clT_bd (n : Int) : 0 ≤ clT n ∧ clT n ≤ 1099511627776 := by unfold clT; omega

structure Rn where
  w : Int
  s : Int
  c : Int
  r : Int
structure Snt where
  k : Int
  t : Int
  z : Int
  e : Bool
  p : Bool

def start : Rn := { w := 2560, s := 96000, c := 0, r := -1 }
def chk (r : Rn) : Bool := inB r.w 512 96000 && inB r.s 512 96000 && inB r.c 0 95999 && inB r.r (-1) 1099511627776
def ofR (r : Rn) : Rn := if chk r = true then r else start
def cnt0 (s : Snt) : Bool := s.e && inB s.z 1 65535 && inB s.t 0 1099511627776
def cnt (r : Rn) (s : Snt) : Bool := cnt0 s && decide (r.r < s.t)
def cap (q : Rn) : Rn := if 96000 < q.w then { w := 96000, s := q.s, c := 0, r := q.r } else q
def gr (r : Rn) (z : Int) : Rn := if r.w < r.s then { w := r.w + z, s := r.s, c := r.c, r := r.r } else { w := r.w + (r.c + 256 * z) / r.w, s := r.s, c := (r.c + 256 * z) % r.w, r := r.r }
def grow (r : Rn) (z : Int) : Rn := cap (gr r z)
def ack (r : Rn) (s : Snt) : Rn := if cnt r s = true then grow r s.z else r
def acks : List Snt → Rn → Rn
  | [], r => r
  | s :: l, r => acks l (ack r s)
def half (r : Rn) : Int := max (r.w / 2) 512
def cut (now : Int) (r : Rn) : Rn := { w := half r, s := half r, c := 0, r := clT now }
def lose (now : Int) (r : Rn) (s : Snt) : Rn := if (cnt r s && !s.p) = true then cut now r else r
def loses (now : Int) : List Snt → Rn → Rn
  | [], r => r
  | s :: l, r => loses now l (lose now r s)
def fall (r : Rn) : Rn := { w := 512, s := r.s, c := 0, r := r.r }
def may (r : Rn) (f z : Int) : Bool := inB f 0 96000 && inB z 0 96000 && decide (f + z ≤ r.w)

theorem acks_app (l m : List Snt) : ∀ r, acks (l ++ m) r = acks m (acks l r) := by
  induction l with
  | nil => intro r; rfl
  | cons s l ih => intro r; exact ih _
theorem acks_snoc (l : List Snt) (s : Snt) (r : Rn) : acks (l ++ [s]) r = ack (acks l r) s := acks_app l [s] r
theorem loses_snoc (now : Int) (l : List Snt) (s : Snt) : ∀ r, loses now (l ++ [s]) r = lose now (loses now l r) s := by
  induction l with
  | nil => intro r; rfl
  | cons a l ih => intro r; exact ih _

/-- what may be, in words -/
def Ok (r : Rn) : Prop := (512 ≤ r.w ∧ r.w ≤ 96000) ∧ (512 ≤ r.s ∧ r.s ≤ 96000) ∧ (0 ≤ r.c ∧ r.c ≤ 95999) ∧ (-1 ≤ r.r ∧ r.r ≤ 1099511627776)
theorem chk_iff (r : Rn) : chk r = true ↔ Ok r := by
  unfold chk Ok
  simp only [Bool.and_eq_true, inB_true, and_assoc]
theorem ok_start : Ok start := by unfold Ok start; dsimp only; omega
theorem ok_of (r : Rn) : Ok (ofR r) := by
  unfold ofR
  split
  · exact (chk_iff r).1 ‹_›
  · exact ok_start
theorem of_ok {r : Rn} (h : Ok r) : ofR r = r := by unfold ofR; rw [if_pos ((chk_iff r).2 h)]
theorem of_of (r : Rn) : ofR (ofR r) = ofR r := of_ok (ok_of r)
theorem cnt_bd {r : Rn} {s : Snt} (h : cnt r s = true) : s.e = true ∧ (1 ≤ s.z ∧ s.z ≤ 65535) ∧ (0 ≤ s.t ∧ s.t ≤ 1099511627776) ∧ r.r < s.t := by
  unfold cnt cnt0 at h
  simp only [Bool.and_eq_true, inB_true, decide_eq_true_eq] at h
  exact ⟨h.1.1.1, h.1.1.2, h.1.2, h.2⟩
/-- what the growth is, in numbers -/
theorem gr_bd {r : Rn} {z : Int} (h : Ok r) (h1 : 1 ≤ z) (h2 : z ≤ 65535) : 512 ≤ (gr r z).w ∧ (gr r z).w ≤ 200000 ∧ (gr r z).s = r.s ∧ (gr r z).r = r.r ∧ (0 ≤ (gr r z).c ∧ (gr r z).c ≤ 95999) ∧ r.w ≤ (gr r z).w := by
  obtain ⟨⟨a1, a2⟩, ⟨b1, b2⟩, ⟨c1, c2⟩, d⟩ := h
  unfold gr
  split
  · dsimp only; omega
  · have e1 : 0 ≤ (r.c + 256 * z) / r.w := Int.ediv_nonneg (by omega) (by omega)
    have e2 := Int.mul_ediv_add_emod (r.c + 256 * z) r.w
    have e3 := Int.emod_nonneg (r.c + 256 * z) (show r.w ≠ 0 by omega)
    have e4 := Int.emod_lt_of_pos (r.c + 256 * z) (show 0 < r.w by omega)
    have e5 : 512 * ((r.c + 256 * z) / r.w) ≤ r.w * ((r.c + 256 * z) / r.w) := Int.mul_le_mul_of_nonneg_right a1 e1
    dsimp only
    omega
theorem grow_ok {r : Rn} {z : Int} (h : Ok r) (h1 : 1 ≤ z) (h2 : z ≤ 65535) : Ok (grow r z) ∧ (grow r z).s = r.s ∧ (grow r z).r = r.r ∧ r.w ≤ (grow r z).w := by
  obtain ⟨g1, g2, g3, g4, g5, g6⟩ := gr_bd h h1 h2
  obtain ⟨⟨a1, a2⟩, ⟨b1, b2⟩, ⟨c1, c2⟩, d⟩ := h
  unfold grow cap Ok
  split <;> (try dsimp only) <;> omega
theorem ack_ok {r : Rn} {s : Snt} (h : Ok r) : Ok (ack r s) ∧ (ack r s).s = r.s ∧ (ack r s).r = r.r ∧ r.w ≤ (ack r s).w := by
  unfold ack
  split
  · rename_i hc
    obtain ⟨_, ⟨z1, z2⟩, _⟩ := cnt_bd hc
    exact grow_ok h z1 z2
  · exact ⟨h, rfl, rfl, Int.le_refl _⟩
theorem acks_ok (l : List Snt) : ∀ {r : Rn}, Ok r → Ok (acks l r) ∧ (acks l r).s = r.s ∧ (acks l r).r = r.r ∧ r.w ≤ (acks l r).w := by
  induction l with
  | nil => intro r h; exact ⟨h, rfl, rfl, Int.le_refl _⟩
  | cons s l ih =>
    intro r h
    obtain ⟨h1, h2, h3, h4⟩ := ack_ok (s := s) h
    obtain ⟨k1, k2, k3, k4⟩ := ih h1
    exact ⟨k1, k2.trans h2, k3.trans h3, Int.le_trans h4 k4⟩
theorem cut_ok {r : Rn} (now : Int) (h : Ok r) : Ok (cut now r) ∧ (cut now r).w ≤ r.w := by
  obtain ⟨⟨a1, a2⟩, ⟨b1, b2⟩, ⟨c1, c2⟩, d⟩ := h
  have := clT_bd now
  unfold cut half Ok
  dsimp only
  omega
theorem lose_ok {now : Int} {r : Rn} {s : Snt} (h : Ok r) : Ok (lose now r s) ∧ (lose now r s).w ≤ r.w := by
  unfold lose
  split
  · exact cut_ok now h
  · exact ⟨h, Int.le_refl _⟩
theorem loses_ok {now : Int} (l : List Snt) : ∀ {r : Rn}, Ok r → Ok (loses now l r) ∧ (loses now l r).w ≤ r.w := by
  induction l with
  | nil => intro r h; exact ⟨h, Int.le_refl _⟩
  | cons s l ih =>
    intro r h
    obtain ⟨h1, h2⟩ := lose_ok (now := now) (s := s) h
    obtain ⟨k1, k2⟩ := ih h1
    exact ⟨k1, Int.le_trans k2 h2⟩
theorem fall_ok {r : Rn} (h : Ok r) : Ok (fall r) := by
  obtain ⟨⟨a1, a2⟩, ⟨b1, b2⟩, ⟨c1, c2⟩, d⟩ := h
  unfold fall Ok
  dsimp only
  omega
/-! ### growth by no more than what came: where the carry is less than the window -/
def Low (r : Rn) : Prop := Ok r ∧ r.c < r.w
theorem low_start : Low start := ⟨ok_start, by unfold start; dsimp only; omega⟩
theorem grow_low {r : Rn} {z : Int} (h : Low r) (h1 : 1 ≤ z) (h2 : z ≤ 65535) : Low (grow r z) ∧ (grow r z).w ≤ r.w + z := by
  obtain ⟨h, hl⟩ := h
  have hg := (grow_ok h h1 h2).1
  obtain ⟨⟨a1, a2⟩, ⟨b1, b2⟩, ⟨c1, c2⟩, d⟩ := h
  have hw : (gr r z).c < (gr r z).w ∧ (gr r z).w ≤ r.w + z := by
    unfold gr
    split
    · dsimp only; omega
    · have e1 : 0 ≤ (r.c + 256 * z) / r.w := Int.ediv_nonneg (by omega) (by omega)
      have e2 := Int.mul_ediv_add_emod (r.c + 256 * z) r.w
      have e3 := Int.emod_nonneg (r.c + 256 * z) (show r.w ≠ 0 by omega)
      have e4 := Int.emod_lt_of_pos (r.c + 256 * z) (show 0 < r.w by omega)
      have e5 : (r.c + 256 * z) / r.w ≤ z := by
        rcases Int.lt_or_le z ((r.c + 256 * z) / r.w) with h5 | h5
        · have e6 : r.w * (z + 1) ≤ r.w * ((r.c + 256 * z) / r.w) := Int.mul_le_mul_of_nonneg_left (by omega) (by omega)
          have e7 : r.w * (z + 1) = r.w * z + r.w := by rw [Int.mul_add, Int.mul_one]
          have e8 : 512 * z ≤ r.w * z := Int.mul_le_mul_of_nonneg_right a1 (by omega)
          omega
        · exact h5
      dsimp only
      omega
  refine ⟨⟨hg, ?_⟩, ?_⟩
  · unfold grow cap; split <;> (try dsimp only) <;> omega
  · unfold grow cap; split <;> (try dsimp only) <;> omega
def sz (s : Snt) : Int := min (max s.z 0) 65535
def sum : List Snt → Int
  | [] => 0
  | s :: l => sz s + sum l
theorem sum_snoc (l : List Snt) (s : Snt) : sum (l ++ [s]) = sum l + sz s := by
  induction l with
  | nil => simp [sum]
  | cons a l ih => simp only [List.cons_append, sum, ih]; omega
theorem sum_bd (l : List Snt) : 0 ≤ sum l ∧ sum l ≤ 65535 * l.length := by
  induction l with
  | nil => simp [sum]
  | cons a l ih => simp only [sum, sz, List.length_cons]; omega
theorem ack_low {r : Rn} {s : Snt} (h : Low r) : Low (ack r s) ∧ (ack r s).w ≤ r.w + sz s := by
  unfold ack
  split
  · rename_i hc
    obtain ⟨_, ⟨z1, z2⟩, _⟩ := cnt_bd hc
    have := grow_low h z1 z2
    refine ⟨this.1, ?_⟩
    have := this.2
    unfold sz
    omega
  · refine ⟨h, ?_⟩
    unfold sz
    omega
theorem acks_low (l : List Snt) : ∀ {r : Rn}, Low r → Low (acks l r) ∧ (acks l r).w ≤ r.w + sum l := by
  induction l with
  | nil => intro r h; exact ⟨h, by simp [acks, sum]⟩
  | cons s l ih =>
    intro r h
    obtain ⟨h1, h2⟩ := ack_low (s := s) h
    obtain ⟨k1, k2⟩ := ih h1
    refine ⟨k1, ?_⟩
    simp only [acks, sum]
    omega
theorem lose_low {now : Int} {r : Rn} {s : Snt} (h : Low r) : Low (lose now r s) := by
  unfold lose
  split
  · refine ⟨(cut_ok now h.1).1, ?_⟩
    unfold cut half; dsimp only; omega
  · exact h
theorem loses_low {now : Int} (l : List Snt) : ∀ {r : Rn}, Low r → Low (loses now l r) := by
  induction l with
  | nil => intro r h; exact h
  | cons s l ih => intro r h; exact ih (lose_low h)
theorem fall_low {r : Rn} (h : Low r) : Low (fall r) := ⟨fall_ok h.1, by unfold fall; dsimp only; omega⟩

/-! ### packets that went no later than a loss -/
theorem acks_none (l : List Snt) {r : Rn} (h : ∀ s ∈ l, s.t ≤ r.r) : acks l r = r := by
  induction l with
  | nil => rfl
  | cons s l ih =>
    have hs := h s (List.mem_cons_self ..)
    have hc : ack r s = r := by
      unfold ack
      rw [if_neg]
      intro hc
      have := (cnt_bd hc).2.2.2
      omega
    simp only [acks, hc]
    exact ih fun x hx => h x (List.mem_cons_of_mem _ hx)
theorem loses_none (now : Int) (l : List Snt) {r : Rn} (h : ∀ s ∈ l, s.t ≤ r.r) : loses now l r = r := by
  induction l with
  | nil => rfl
  | cons s l ih =>
    have hs := h s (List.mem_cons_self ..)
    have hc : lose now r s = r := by
      unfold lose
      rw [if_neg]
      intro hc
      simp only [Bool.and_eq_true] at hc
      have := (cnt_bd hc.1).2.2.2
      omega
    simp only [loses, hc]
    exact ih fun x hx => h x (List.mem_cons_of_mem _ hx)

/-! ### what is long -/
structure Lg where
  low : Int
  high : Int
  many : Nat
def lg1 (g : Lg) (s : Snt) : Lg := if cnt0 s = true then { low := min g.low s.t, high := max g.high s.t, many := g.many + 1 } else g
def lg2 (g : Lg) (s : Snt) : Lg := if cnt0 s = true then { low := if g.many = 0 ∨ s.t < g.low then s.t else g.low, high := max g.high s.t, many := g.many + 1 } else g
def lgs1 : List Snt → Lg → Lg
  | [], g => g
  | s :: l, g => lgs1 l (lg1 g s)
def lgs2 : List Snt → Lg → Lg
  | [], g => g
  | s :: l, g => lgs2 l (lg2 g s)
theorem lgs1_snoc (l : List Snt) (s : Snt) : ∀ g, lgs1 (l ++ [s]) g = lg1 (lgs1 l g) s := by
  induction l with
  | nil => intro r; rfl
  | cons a l ih => intro r; exact ih _
theorem lgs2_snoc (l : List Snt) (s : Snt) : ∀ g, lgs2 (l ++ [s]) g = lg2 (lgs2 l g) s := by
  induction l with
  | nil => intro r; rfl
  | cons a l ih => intro r; exact ih _
def g1 : Lg := { low := 1099511627776, high := 0, many := 0 }
def g2 : Lg := { low := 0, high := 0, many := 0 }
def isLong (wait : Int) (g : Lg) : Bool := decide (2 ≤ g.many) && decide (3 * clT wait ≤ g.high - g.low)
def long1 (wait : Int) (l : List Snt) : Bool := isLong wait (lgs1 l g1)
def long2 (wait : Int) (l : List Snt) : Bool := isLong wait (lgs2 l g2)
def Alike (a b : Lg) : Prop := a.many = b.many ∧ a.high = b.high ∧ (0 < a.many → a.low = b.low) ∧ (a.many = 0 → a.low = 1099511627776)
theorem alike_step {a b : Lg} (s : Snt) (h : Alike a b) : Alike (lg1 a s) (lg2 b s) := by
  obtain ⟨h1, h2, h3, h4⟩ := h
  unfold lg1 lg2
  by_cases hc : cnt0 s = true
  · rw [if_pos hc, if_pos hc]
    unfold cnt0 at hc
    simp only [Bool.and_eq_true, inB_true] at hc
    refine ⟨by dsimp only; omega, by dsimp only; omega, fun _ => ?_, fun h => by simp at h⟩
    dsimp only
    by_cases h0 : a.many = 0
    · rw [if_pos (.inl (by omega)), h4 h0]
      omega
    · have := h3 (by omega)
      split <;> omega
  · rw [if_neg hc, if_neg hc]
    exact ⟨h1, h2, h3, h4⟩
theorem alike_run (l : List Snt) : ∀ {a b : Lg}, Alike a b → Alike (lgs1 l a) (lgs2 l b) := by
  induction l with
  | nil => intro a b h; exact h
  | cons s l ih => intro a b h; exact ih (alike_step s h)
theorem long_same (wait : Int) (l : List Snt) : long1 wait l = long2 wait l := by
  obtain ⟨h1, h2, h3, h4⟩ := alike_run l (a := g1) (b := g2) ⟨rfl, rfl, fun h => by simp [g1] at h, fun _ => rfl⟩
  unfold long1 long2 isLong
  by_cases hm : 2 ≤ (lgs1 l g1).many
  · rw [h3 (by omega), h2, h1]
  · rw [decide_eq_false hm, decide_eq_false (show ¬ 2 ≤ (lgs2 l g2).many by omega)]
    rfl
theorem lg1_bd (s : Snt) {g : Lg} (h : (0 ≤ g.low ∧ g.low ≤ 1099511627776) ∧ 0 ≤ g.high ∧ g.high ≤ 1099511627776) : ((0 ≤ (lg1 g s).low ∧ (lg1 g s).low ≤ 1099511627776) ∧ 0 ≤ (lg1 g s).high ∧ (lg1 g s).high ≤ 1099511627776) ∧ (lg1 g s).many ≤ g.many + 1 := by
  unfold lg1
  by_cases hc : cnt0 s = true
  · rw [if_pos hc]
    unfold cnt0 at hc
    simp only [Bool.and_eq_true, inB_true] at hc
    dsimp only
    omega
  · rw [if_neg hc]; omega
theorem lg2_bd (s : Snt) {g : Lg} (h : (0 ≤ g.low ∧ g.low ≤ 1099511627776) ∧ 0 ≤ g.high ∧ g.high ≤ 1099511627776) : ((0 ≤ (lg2 g s).low ∧ (lg2 g s).low ≤ 1099511627776) ∧ 0 ≤ (lg2 g s).high ∧ (lg2 g s).high ≤ 1099511627776) ∧ (lg2 g s).many ≤ g.many + 1 := by
  unfold lg2
  by_cases hc : cnt0 s = true
  · rw [if_pos hc]
    unfold cnt0 at hc
    simp only [Bool.and_eq_true, inB_true] at hc
    dsimp only
    split <;> omega
  · rw [if_neg hc]; omega
def LgB (g : Lg) (n : Nat) : Prop := (0 ≤ g.low ∧ g.low ≤ 1099511627776) ∧ (0 ≤ g.high ∧ g.high ≤ 1099511627776) ∧ g.many ≤ n
theorem lgs1_bd (l : List Snt) : ∀ {g : Lg} {n : Nat}, LgB g n → LgB (lgs1 l g) (n + l.length) := by
  induction l with
  | nil => intro g n h; exact h
  | cons s l ih =>
    intro g n h
    obtain ⟨k1, k2⟩ := lg1_bd s ⟨h.1, h.2.1⟩
    have := ih (g := lg1 g s) (n := n + 1) ⟨k1.1, k1.2, by have := h.2.2; omega⟩
    rw [List.length_cons, show n + (l.length + 1) = n + 1 + l.length by omega]
    exact this
theorem lgs2_bd (l : List Snt) : ∀ {g : Lg} {n : Nat}, LgB g n → LgB (lgs2 l g) (n + l.length) := by
  induction l with
  | nil => intro g n h; exact h
  | cons s l ih =>
    intro g n h
    obtain ⟨k1, k2⟩ := lg2_bd s ⟨h.1, h.2.1⟩
    have := ih (g := lg2 g s) (n := n + 1) ⟨k1.1, k1.2, by have := h.2.2; omega⟩
    rw [List.length_cons, show n + (l.length + 1) = n + 1 + l.length by omega]
    exact this
theorem g1_bd : LgB g1 0 := by unfold LgB g1; dsimp only; omega
theorem g2_bd : LgB g2 0 := by unfold LgB g2; dsimp only; omega
end Go.Proofs.Ytkmffpgejnafaaa
