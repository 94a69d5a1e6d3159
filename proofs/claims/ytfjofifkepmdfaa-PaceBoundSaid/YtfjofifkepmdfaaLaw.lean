/- PaceBound's law, in plain Lean: between two sends no more bytes go than a burst, and the rate times the ticks that lie between. -/
import Derived.Test.YtfjofifkepmdfaaPlain
namespace Go.Proofs.Ytfjofifkepmdfaa

/-- the sends' times, summed up -/
def times : List (Int × Int) → Int → List (Int × Int)
  | [], _ => []
  | x :: l, t => (t + x.1 % 50, x.2) :: times l (t + x.1 % 50)
def tend : List (Int × Int) → Int → Int
  | [], t => t
  | x :: l, t => tend l (t + x.1 % 50)
theorem times_len (l : List (Int × Int)) : ∀ t, (times l t).length = l.length := by
  induction l with
  | nil => intro t; rfl
  | cons x l ih => intro t; simp [times, ih]
theorem times_snoc (l : List (Int × Int)) (x : Int × Int) : ∀ t, times (l ++ [x]) t = times l t ++ [(tend l t + x.1 % 50, x.2)] := by
  induction l with
  | nil => intro t; rfl
  | cons y l ih => intro t; simp only [List.cons_append, times, tend, ih]
theorem tend_snoc (l : List (Int × Int)) (x : Int × Int) : ∀ t, tend (l ++ [x]) t = tend l t + x.1 % 50 := by
  induction l with
  | nil => intro t; rfl
  | cons y l ih => intro t; simp only [List.cons_append, tend, ih]
theorem tend_bd (l : List (Int × Int)) : ∀ t, t ≤ tend l t ∧ tend l t ≤ t + 49 * l.length := by
  induction l with
  | nil => intro t; simp [tend]
  | cons y l ih =>
    intro t
    have := ih (t + y.1 % 50)
    simp only [tend, List.length_cons]
    omega
/-- what is known of sends one behind the other: times do not fall, sizes are small -/
def Fit : List (Int × Int) → Int → Prop
  | [], _ => True
  | x :: l, t => t ≤ x.1 ∧ x.1 ≤ 1000000 ∧ 0 ≤ x.2 ∧ x.2 ≤ 65535 ∧ Fit l x.1
theorem times_fit (l : List (Int × Int)) : ∀ t : Int, 0 ≤ t → t + 49 * l.length ≤ 1000000 → (∀ x ∈ l, 0 ≤ x.2 ∧ x.2 ≤ 65535) → Fit (times l t) t := by
  induction l with
  | nil => intro t _ _ _; trivial
  | cons y l ih =>
    intro t h0 h1 h2
    simp only [List.length_cons] at h1
    refine ⟨?_, ?_, (h2 y (List.mem_cons_self ..)).1, (h2 y (List.mem_cons_self ..)).2, ih (t + y.1 % 50) ?_ ?_ fun x hx => h2 x (List.mem_cons_of_mem _ hx)⟩
    all_goals omega

theorem go_law (a b : Int) (B : Bk) (x : Int × Int) (hb0 : 1 ≤ b) (hb1 : b ≤ 65536) (ha0 : 1 ≤ a) (ha1 : a ≤ 65536) (ht0 : 0 ≤ B.t) (ht1 : B.t ≤ b) (hl0 : 0 ≤ B.l) (hl1 : B.l ≤ x.1) (hx : x.1 ≤ 1000000) (hs0 : 0 ≤ x.2) (hs1 : x.2 ≤ 65535) :
    (goT a b B x).l = x.1 ∧ 0 ≤ (goT a b B x).t ∧ (if goOk a b B x = true then x.2 else 0) + (goT a b B x).t ≤ b ∧ (if goOk a b B x = true then x.2 else 0) + (goT a b B x).t ≤ B.t + a * (x.1 - B.l) := by
  have h1 : ticks B x.1 = x.1 - B.l := by
    unfold ticks
    rw [cl_id x.1 _ (by omega) (by omega), cl_id B.l _ (by omega) (by omega)]
    omega
  have h2 : 0 ≤ a * (x.1 - B.l) := Int.mul_nonneg (by omega) (by omega)
  have hF : fill B x.1 a b = { t := min (B.t + a * (x.1 - B.l)) b, l := x.1 } := by
    unfold fill
    rw [h1, cl_id B.t _ (by omega) (by omega), cl_id B.l _ (by omega) (by omega), cl1_id a _ (by omega) (by omega), cl1_id b _ (by omega) (by omega)]
    simp only [Bk.mk.injEq, true_and]
    omega
  unfold goT goOk
  rw [hF]
  unfold take may
  dsimp only
  generalize a * (x.1 - B.l) = q at *
  rw [cl_id (min (B.t + q) b) _ (by omega) (by omega), cl_id x.2 _ (by omega) (by omega), cl_id x.1 _ (by omega) (by omega)]
  by_cases hc : x.2 ≤ min (B.t + q) b
  · simp only [hc, if_true, decide_true]
    refine ⟨trivial, ?_, ?_, ?_⟩
    all_goals omega
  · simp only [hc, if_false, decide_false, Bool.false_eq_true]
    refine ⟨trivial, ?_, ?_, ?_⟩
    all_goals omega

/-- the bytes that went -/
def gone : List (Int × Int) → List Bool → Int
  | x :: l, o :: os => (if o = true then x.2 else 0) + gone l os
  | _, _ => 0
def lastT : List (Int × Int) → Int → Int
  | [], t => t
  | x :: l, _ => lastT l x.1
theorem runS_law (a b : Int) (hb0 : 1 ≤ b) (hb1 : b ≤ 65536) (ha0 : 1 ≤ a) (ha1 : a ≤ 65536) (l : List (Int × Int)) : ∀ (B : Bk), 0 ≤ B.t → B.t ≤ b → 0 ≤ B.l → Fit l B.l →
    gone l (outS a b l B) + (runS a b l B).t ≤ B.t + a * (lastT l B.l - B.l) ∧ 0 ≤ (runS a b l B).t ∧ (runS a b l B).t ≤ b ∧ (runS a b l B).l = lastT l B.l ∧ B.l ≤ lastT l B.l := by
  induction l with
  | nil => intro B h0 h1 h2 _; simp [gone, runS, lastT]; omega
  | cons x l ih =>
    intro B h0 h1 h2 hf
    obtain ⟨f1, f2, f3, f4, f5⟩ := hf
    obtain ⟨g1, g2, g3, g4⟩ := go_law a b B x hb0 hb1 ha0 ha1 h0 h1 h2 f1 f2 f3 f4
    have hz : 0 ≤ (if goOk a b B x = true then x.2 else 0) := by split <;> omega
    have := ih (goT a b B x) g2 (by omega) (by omega) (by rw [g1]; exact f5)
    simp only [gone, outS, runS, lastT]
    rw [g1] at this
    obtain ⟨i1, i2, i3, i4, i5⟩ := this
    have e : a * (lastT l x.1 - B.l) = a * (lastT l x.1 - x.1) + a * (x.1 - B.l) := by rw [← Int.mul_add]; congr 1; omega
    refine ⟨?_, i2, i3, i4, by omega⟩
    rw [e]
    omega
/-- THE LAW: from any bucket no fuller than a burst: all that goes, the first send counted -/
theorem bound_law (a b : Int) (hb0 : 1 ≤ b) (hb1 : b ≤ 65536) (ha0 : 1 ≤ a) (ha1 : a ≤ 65536) (x : Int × Int) (l : List (Int × Int)) (B : Bk) (h0 : 0 ≤ B.t) (h1 : B.t ≤ b) (h2 : 0 ≤ B.l) (hf : Fit (x :: l) B.l) :
    gone (x :: l) (outS a b (x :: l) B) ≤ b + a * (lastT l x.1 - x.1) := by
  obtain ⟨f1, f2, f3, f4, f5⟩ := hf
  obtain ⟨g1, g2, g3, g4⟩ := go_law a b B x hb0 hb1 ha0 ha1 h0 h1 h2 f1 f2 f3 f4
  have hz : 0 ≤ (if goOk a b B x = true then x.2 else 0) := by split <;> omega
  have := runS_law a b hb0 hb1 ha0 ha1 l (goT a b B x) g2 (by omega) (by omega) (by rw [g1]; exact f5)
  rw [g1] at this
  simp only [gone, outS]
  omega

theorem gone_snoc (l : List (Int × Int)) (x : Int × Int) (o : Bool) : ∀ os : List Bool, os.length = l.length → gone (l ++ [x]) (os ++ [o]) = gone l os + (if o = true then x.2 else 0) := by
  induction l with
  | nil =>
    intro os h
    obtain rfl := List.eq_nil_of_length_eq_zero h
    simp [gone]
  | cons y l ih =>
    intro os h
    cases os with
    | nil => cases h
    | cons p os =>
      simp only [List.cons_append, gone]
      rw [ih os (by simpa using h)]
      omega
theorem runS_app (r n : Int) (l m : List (Int × Int)) : ∀ B, runS r n (l ++ m) B = runS r n m (runS r n l B) := by
  induction l with
  | nil => intro B; rfl
  | cons x l ih => intro B; exact ih _
theorem lastT_snoc (l : List (Int × Int)) (x : Int × Int) : ∀ t, lastT (l ++ [x]) t = x.1 := by
  induction l with
  | nil => intro t; rfl
  | cons y l ih => intro t; exact ih _
theorem fit_app (l m : List (Int × Int)) : ∀ t, Fit (l ++ m) t → Fit l t ∧ Fit m (lastT l t) := by
  induction l with
  | nil => intro t h; exact ⟨trivial, h⟩
  | cons x l ih =>
    intro t h
    obtain ⟨h1, h2, h3, h4, h5⟩ := h
    exact ⟨⟨h1, h2, h3, h4, (ih _ h5).1⟩, (ih _ h5).2⟩

/-- the sends from number i to ahead of number k -/
def seg (ps : List (Int × Int)) (i k : Nat) : List (Int × Int) := (ps.drop i).take (k - i)
theorem seg_succ (ps : List (Int × Int)) (i k : Nat) (h : i ≤ k) (hk : k < ps.length) : seg ps i (k + 1) = seg ps i k ++ [ps[k]] := by
  unfold seg
  rw [show k + 1 - i = k - i + 1 by omega, List.take_succ_eq_append_getElem (by simp; omega)]
  congr 2
  simp only [List.getElem_drop]
  congr 1
  omega
theorem take_seg (ps : List (Int × Int)) (i k : Nat) (h : i ≤ k) : ps.take i ++ seg ps i k = ps.take k := by
  unfold seg
  rw [show k = i + (k - i) by omega, List.take_add, show i + (k - i) - i = k - i by omega]
def G (a b : Int) (ps : List (Int × Int)) (i k : Nat) : Int := gone (seg ps i k) (outS a b (seg ps i k) (runS a b (ps.take i) (b0 a b)))
theorem G_zero (a b : Int) (ps : List (Int × Int)) (i : Nat) : G a b ps i i = 0 := by simp [G, seg, gone]
theorem G_succ (a b : Int) (ps : List (Int × Int)) (i k : Nat) (h : i ≤ k) (hk : k < ps.length) : G a b ps i (k + 1) = G a b ps i k + (if goOk a b (runS a b (ps.take k) (b0 a b)) ps[k] = true then ps[k].2 else 0) := by
  unfold G
  rw [seg_succ ps i k h hk, outS_snoc, gone_snoc _ _ _ _ (outS_len ..), ← runS_app, take_seg ps i k h]
theorem b0_is (a b : Int) (hb0 : 1 ≤ b) (hb1 : b ≤ 65536) : (b0 a b).t = b ∧ (b0 a b).l = 0 := by
  unfold b0 fill ticks
  dsimp only
  rw [cl_id 0 _ (by omega) (by omega), cl_id 1048576 _ (by omega) (by omega), cl1_id b _ (by omega) (by omega)]
  have : cl1 a 1048576 * max (0 - 0) 0 = 0 := by simp
  rw [this]
  omega
theorem G_bound (a b : Int) (hb0 : 1 ≤ b) (hb1 : b ≤ 65536) (ha0 : 1 ≤ a) (ha1 : a ≤ 65536) (ps : List (Int × Int)) (hf : Fit ps 0) (i k : Nat) (h : i ≤ k) (hk : k < ps.length) : G a b ps i (k + 1) ≤ b + a * (ps[k].1 - ps[i].1) := by
  obtain ⟨z1, z2⟩ := b0_is a b hb0 hb1
  have hsplit : ps = ps.take i ++ ps.drop i := (List.take_append_drop i ps).symm
  have hf' := hf
  rw [hsplit] at hf'
  obtain ⟨f1, f2⟩ := fit_app _ _ _ hf'
  have hB := runS_law a b hb0 hb1 ha0 ha1 (ps.take i) (b0 a b) (by omega) (by omega) (by omega) (by rw [z2]; exact f1)
  rw [z2] at hB
  obtain ⟨_, q2, q3, q4, q5⟩ := hB
  have hd : ps.drop i = ps[i] :: ps.drop (i + 1) := List.drop_eq_getElem_cons (by omega)
  have hs : seg ps i (k + 1) = ps[i] :: (ps.drop (i + 1)).take (k - i) := by
    unfold seg
    rw [hd, show k + 1 - i = k - i + 1 by omega, List.take_succ_cons]
  have hfs : Fit (ps[i] :: (ps.drop (i + 1)).take (k - i)) (runS a b (ps.take i) (b0 a b)).l := by
    have h1 := f2
    rw [← List.take_append_drop (k + 1 - i) (ps.drop i)] at h1
    have h2 := (fit_app _ _ _ h1).1
    rw [q4, ← hs]
    exact h2
  have := bound_law a b hb0 hb1 ha0 ha1 ps[i] ((ps.drop (i + 1)).take (k - i)) (runS a b (ps.take i) (b0 a b)) q2 q3 (by omega) hfs
  have hl : lastT ((ps.drop (i + 1)).take (k - i)) ps[i].1 = ps[k].1 := by
    have h3 : lastT (seg ps i (k + 1)) 0 = ps[k].1 := by rw [seg_succ ps i k h hk, lastT_snoc]
    rw [hs] at h3
    exact h3
  rw [hl, ← hs] at this
  exact this
theorem fit_at (ps : List (Int × Int)) : ∀ (t : Int) (_ : 0 ≤ t) (_ : Fit ps t) (k : Nat) (h : k < ps.length), 0 ≤ ps[k].1 ∧ ps[k].1 ≤ 1000000 ∧ 0 ≤ ps[k].2 ∧ ps[k].2 ≤ 65535 := by
  induction ps with
  | nil => intro t _ _ k h; simp at h
  | cons x l ih =>
    intro t h0 hf k h
    obtain ⟨h1, h2, h3, h4, h5⟩ := hf
    cases k with
    | zero => exact ⟨by simp; omega, h2, h3, h4⟩
    | succ k => exact ih x.1 (by omega) h5 k (by simpa using h)
theorem G_bd (a b : Int) (ps : List (Int × Int)) (hf : Fit ps 0) (i : Nat) : ∀ d : Nat, i + d ≤ ps.length → 0 ≤ G a b ps i (i + d) ∧ G a b ps i (i + d) ≤ 65535 * d := by
  intro d
  induction d with
  | zero => intro _; rw [Nat.add_zero, G_zero]; omega
  | succ d ih =>
    intro h
    have h1 := ih (by omega)
    have h2 := fit_at ps 0 (by omega) hf (i + d) (by omega)
    rw [← Nat.add_assoc, G_succ a b ps i (i + d) (by omega) (by omega)]
    split <;> omega
end Go.Proofs.Ytfjofifkepmdfaa
