/- The round trip, in plain Lean: what is known behind an answer, and how long to wait. No program in sight, no condition. -/
namespace Go.Proofs.Ytogbpmkfnjebcaa

/-- the nearest number from 0 to another one -/
def cl (n m : Int) : Int := min (max n 0) m
theorem cl_bd (n m : Int) (h : 0 ≤ m) : 0 ≤ cl n m ∧ cl n m ≤ m := by unfold cl; omega
theorem cl_id (n m : Int) (h : 0 ≤ n) (h' : n ≤ m) : cl n m = n := by unfold cl; omega

structure Rt where
  has : Bool
  l : Int
  s : Int
  v : Int

/-- an answer's own time, less the delay -/
def ownT (l t d : Int) : Int := if l ≤ t - d then t - d else t

def step (r : Rt) (t d : Int) : Rt :=
  if r.has = true then
    { has := true, l := min (cl r.l 1099511627776) t, s := (7 * cl r.s 1099511627776 + ownT (min (cl r.l 1099511627776) t) t d) / 8,
      v := (3 * cl r.v 1099511627776 + max (cl r.s 1099511627776 - ownT (min (cl r.l 1099511627776) t) t d) (ownT (min (cl r.l 1099511627776) t) t d - cl r.s 1099511627776)) / 4 }
  else { has := true, l := t, s := t, v := t / 2 }
def stepR (r : Rt) (latest delay : Int) : Rt := step r (cl latest 1099511627776) (cl delay 25)

def smooth (r : Rt) : Int := if r.has = true then cl r.s 1099511627776 else 50
def vary (r : Rt) : Int := if r.has = true then cl r.v 1099511627776 else 25
def lostR (r : Rt) (latest : Int) : Int := max (9 * max (smooth r) (cl latest 1099511627776) / 8) 1
/-- a number doubled so often -/
def twice (n : Int) : Nat → Int
  | 0 => n
  | k + 1 => 2 * twice n k
def probe0 (r : Rt) : Int := smooth r + max (4 * vary r) 1 + 25
def probeR (r : Rt) (often : Int) : Int := min (twice (probe0 r) (cl often 6).toNat) 2000

theorem smooth_bd (r : Rt) : 0 ≤ smooth r ∧ smooth r ≤ 1099511627776 := by
  unfold smooth; split
  · exact cl_bd _ _ (by omega)
  · omega
theorem vary_bd (r : Rt) : 0 ≤ vary r ∧ vary r ≤ 1099511627776 := by
  unfold vary; split
  · exact cl_bd _ _ (by omega)
  · omega
theorem probe0_bd (r : Rt) : 26 ≤ probe0 r ∧ probe0 r ≤ 5497558138905 := by
  have := smooth_bd r; have := vary_bd r; unfold probe0; omega
theorem twice_bd (n : Int) (h : 0 ≤ n) (k : Nat) (hk : k ≤ 6) : n ≤ twice n k ∧ twice n k ≤ 64 * n := by
  rcases k with _ | _ | _ | _ | _ | _ | _ | k
  all_goals first | omega | (simp only [twice]; omega)
theorem twice_pow (n : Int) (k : Nat) : n * 2 ^ k = twice n k := by
  induction k with
  | zero => simp [twice]
  | succ k ih => rw [twice, ← ih, Int.pow_succ]; rw [Int.mul_comm 2 (n * 2 ^ k), Int.mul_assoc]

def runR : List (Int × Int) → Rt → Rt
  | [], r => r
  | x :: l, r => runR l (stepR r x.1 x.2)
theorem runR_snoc (l : List (Int × Int)) (x : Int × Int) : ∀ r, runR (l ++ [x]) r = stepR (runR l r) x.1 x.2 := by
  induction l with
  | nil => intro r; rfl
  | cons a l ih => intro r; exact ih _
end Go.Proofs.Ytogbpmkfnjebcaa
