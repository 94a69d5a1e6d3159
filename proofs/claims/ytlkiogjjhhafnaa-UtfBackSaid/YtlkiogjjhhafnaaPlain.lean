/- Plain: what package utf and the reference compute, with no program in sight. -/
namespace Go.Proofs.Ytlkiogjjhhafnaa

structure Ut where
  need : Int
  val : Int
  least : Int
deriving DecidableEq

def Ut.zero : Ut := ⟨0, 0, 0⟩

def isR (n : Int) : Bool := decide (0 ≤ n) && decide (n ≤ 1114111) && (decide (n < 55296) || decide (57343 < n))

def goesU (u : Ut) : Bool :=
  decide (1 ≤ u.need) && decide (u.need ≤ 3) && decide (0 ≤ u.val) && decide (u.val ≤ 32767) && (decide (u.least = 128) || decide (u.least = 2048) || decide (u.least = 65536))

def fstU (b : Int) : Ut × List Int :=
  if b < 128 then (.zero, [b]) else if b < 194 then (.zero, [65533]) else if 244 < b then (.zero, [65533])
  else if 240 ≤ b then (⟨3, b % 8, 65536⟩, []) else if 224 ≤ b then (⟨2, b % 16, 2048⟩, []) else (⟨1, b % 32, 128⟩, [])

def fixR (n least : Int) : Int := if isR n = true ∧ least ≤ n then n else 65533

def stepU (u : Ut) (b : Int) : Ut × List Int :=
  if goesU u = false then fstU b
  else if b < 128 ∨ 191 < b then ((fstU b).1, 65533 :: (fstU b).2)
  else if 1 < u.need then (⟨u.need - 1, 64 * u.val + b % 64, u.least⟩, [])
  else (.zero, [fixR (64 * u.val + b % 64) u.least])

end Go.Proofs.Ytlkiogjjhhafnaa
