/- Plain: what package escape and the reference compute, with no program in sight. -/
namespace Go.Proofs.Ytjgaljnojhkimaa

structure Ac where
  kind : Int
  rune : Int
  mark : Bool
  many : Int
  p0 : Int
  p1 : Int
  p2 : Int
  p3 : Int
  p4 : Int
  p5 : Int
  p6 : Int
  p7 : Int
deriving DecidableEq
structure Pa where
  st : Int
  a : Ac
deriving DecidableEq
abbrev Ac.zero : Ac := ⟨0, 0, false, 0, 0, 0, 0, 0, 0, 0, 0, 0⟩
abbrev Pa.zero : Pa := ⟨0, .zero⟩
abbrev Pa.at (s : Int) : Pa := ⟨s, .zero⟩
abbrev Ac.of (k r : Int) : Ac := ⟨k, r, false, 0, 0, 0, 0, 0, 0, 0, 0, 0⟩
def Ac.par (a : Ac) : List Int := [a.p0, a.p1, a.p2, a.p3, a.p4, a.p5, a.p6, a.p7]
def Ac.get (a : Ac) (k : Nat) : Int := a.par.getD k 0
def Ac.put (a : Ac) (k : Nat) (x : Int) : Ac :=
  ⟨a.kind, a.rune, a.mark, a.many, if k = 0 then x else a.p0, if k = 1 then x else a.p1, if k = 2 then x else a.p2, if k = 3 then x else a.p3,
    if k = 4 then x else a.p4, if k = 5 then x else a.p5, if k = 6 then x else a.p6, if k = 7 then x else a.p7⟩

def okPar (n : Int) : Bool := decide (0 ≤ n) && decide (n ≤ 9999)
def okA (a : Ac) : Bool := a.par.all okPar
/-- a parser that may be -/
def okP (p : Pa) : Bool :=
  decide (0 ≤ p.st) && decide (p.st ≤ 3) && (decide (p.st = 2) || decide (p.a = .zero)) && decide (0 ≤ p.a.many) && decide (p.a.many ≤ 7) && decide (p.a.kind = 0) && decide (p.a.rune = 0) && okA p.a
def ofP (p : Pa) : Pa := if okP p = true then p else .zero

def csiP (p : Pa) (n : Int) : Pa × Ac × Bool :=
  if 48 ≤ n ∧ n ≤ 57 then (⟨p.st, p.a.put p.a.many.toNat (min (10 * p.a.get p.a.many.toNat + n - 48) 9999)⟩, .zero, false)
  else if n = 59 then (⟨p.st, { p.a with many := min (p.a.many + 1) 7 }⟩, .zero, false)
  else if n = 63 ∧ p.a.many = 0 ∧ p.a.p0 = 0 then (⟨p.st, { p.a with mark := true }⟩, .zero, false)
  else if 64 ≤ n ∧ n ≤ 126 then (.zero, { p.a with kind := 4, rune := n }, true)
  else (p, .zero, false)
def stepP (q : Pa) (n : Int) : Pa × Ac × Bool :=
  if n = 27 then (.at 1, .zero, false)
  else if 0 ≤ n ∧ n < 32 ∧ (ofP q).st ≠ 3 then (ofP q, .of 2 n, true)
  else if (ofP q).st = 0 then (if n < 0 ∨ n = 127 then (ofP q, .zero, false) else (ofP q, .of 1 n, true))
  else if (ofP q).st = 1 then
    (if n = 91 then (.at 2, .zero, false) else if n = 93 then (.at 3, .zero, false) else if 48 ≤ n ∧ n ≤ 126 then (.zero, .of 3 n, true) else (.zero, .zero, false))
  else if (ofP q).st = 2 then csiP (ofP q) n
  else if n = 7 then (.zero, .zero, false) else (ofP q, .zero, false)
end Go.Proofs.Ytjgaljnojhkimaa
