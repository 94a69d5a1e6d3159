/- The pace, in plain Lean: a bucket now, one out of which bytes went, when they may. No program in sight, no condition. -/
namespace Go.Proofs.Ytfjofifkepmdfaa

/-- the nearest number from 0, and from 1, to another one -/
def cl (n m : Int) : Int := min (max n 0) m
def cl1 (n m : Int) : Int := min (max n 1) m
theorem cl_bd (n m : Int) (h : 0 ≤ m) : 0 ≤ cl n m ∧ cl n m ≤ m := by unfold cl; omega
theorem cl1_bd (n m : Int) (h : 1 ≤ m) : 1 ≤ cl1 n m ∧ cl1 n m ≤ m := by unfold cl1; omega
theorem cl_id (n m : Int) (h : 0 ≤ n) (h' : n ≤ m) : cl n m = n := by unfold cl; omega
theorem cl1_id (n m : Int) (h : 1 ≤ n) (h' : n ≤ m) : cl1 n m = n := by unfold cl1; omega

structure Bk where
  t : Int
  l : Int

def ticks (b : Bk) (now : Int) : Int := max (cl now 1099511627776 - cl b.l 1099511627776) 0
def fill (b : Bk) (now r n : Int) : Bk := { t := min (cl b.t 1048576 + cl1 r 1048576 * ticks b now) (cl1 n 1048576), l := cl b.l 1099511627776 + ticks b now }
def may (b : Bk) (s : Int) : Bool := decide (cl s 1048576 ≤ cl b.t 1048576)
def take (b : Bk) (s : Int) : Bk := if cl s 1048576 ≤ cl b.t 1048576 then { t := cl b.t 1048576 - cl s 1048576, l := cl b.l 1099511627776 } else b
def rate (w s : Int) : Int := max (5 * cl w 1048576 / 4 / max s 1) 1
def short (b : Bk) (s : Int) : Int := max (cl s 1048576 - cl b.t 1048576) 0
def when (b : Bk) (s r : Int) : Int := min (cl b.l 1099511627776 + (short b s + cl1 r 1048576 - 1) / cl1 r 1048576) 1099511627776

theorem ticks_bd (b : Bk) (now : Int) : 0 ≤ ticks b now ∧ ticks b now ≤ 1099511627776 := by
  have := cl_bd now 1099511627776 (by omega); have := cl_bd b.l 1099511627776 (by omega); unfold ticks; omega
theorem mul_bd (a b m k : Int) (h0 : 0 ≤ a) (h1 : a ≤ m) (h2 : 0 ≤ b) (h3 : b ≤ k) : 0 ≤ a * b ∧ a * b ≤ m * k :=
  ⟨Int.mul_nonneg h0 h2, Int.mul_le_mul h1 h3 h2 (by omega)⟩

def goT (r n : Int) (b : Bk) (x : Int × Int) : Bk := take (fill b x.1 r n) x.2
def goOk (r n : Int) (b : Bk) (x : Int × Int) : Bool := may (fill b x.1 r n) x.2
def runS (r n : Int) : List (Int × Int) → Bk → Bk
  | [], b => b
  | x :: l, b => runS r n l (goT r n b x)
def outS (r n : Int) : List (Int × Int) → Bk → List Bool
  | [], _ => []
  | x :: l, b => goOk r n b x :: outS r n l (goT r n b x)
theorem runS_snoc (r n : Int) (l : List (Int × Int)) (x : Int × Int) : ∀ b, runS r n (l ++ [x]) b = goT r n (runS r n l b) x := by
  induction l with
  | nil => intro b; rfl
  | cons a l ih => intro b; exact ih _
theorem outS_snoc (r n : Int) (l : List (Int × Int)) (x : Int × Int) : ∀ b, outS r n (l ++ [x]) b = outS r n l b ++ [goOk r n (runS r n l b) x] := by
  induction l with
  | nil => intro b; rfl
  | cons a l ih => intro b; simp only [List.cons_append, outS, runS, ih]
theorem outS_len (r n : Int) (l : List (Int × Int)) : ∀ b, (outS r n l b).length = l.length := by
  induction l with
  | nil => intro b; rfl
  | cons a l ih => intro b; simp [outS, ih]
def b0 (r n : Int) : Bk := fill { t := 1048576, l := 0 } 0 r n
end Go.Proofs.Ytfjofifkepmdfaa
