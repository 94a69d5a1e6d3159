/- Plain: what packages sha and mac and the references compute, with no program in sight. -/
namespace Go.Proofs.Ytnidpncacgknkaa

abbrev W32 := BitVec 32
abbrev B8 := BitVec 8
/-- eight words -/
structure S8 where
  a : W32
  b : W32
  c : W32
  d : W32
  e : W32
  f : W32
  g : W32
  h : W32
deriving DecidableEq
def rr (x : W32) (k : Nat) : W32 := x <<< (32 - k) ||| x >>> k
def sg0 (x : W32) : W32 := rr x 7 ^^^ rr x 18 ^^^ x >>> 3
def sg1 (y : W32) : W32 := rr y 17 ^^^ rr y 19 ^^^ y >>> 10
def bg1 (e : W32) : W32 := rr e 6 ^^^ rr e 11 ^^^ rr e 25
def bg0 (a : W32) : W32 := rr a 2 ^^^ rr a 13 ^^^ rr a 22
def ch (e f g : W32) : W32 := e &&& f ^^^ ~~~e &&& g
def mj (a b c : W32) : W32 := a &&& b ^^^ a &&& c ^^^ b &&& c
def kays : List W32 := [0x428a2f98#32, 0x71374491#32, 0xb5c0fbcf#32, 0xe9b5dba5#32, 0x3956c25b#32, 0x59f111f1#32, 0x923f82a4#32, 0xab1c5ed5#32, 0xd807aa98#32, 0x12835b01#32, 0x243185be#32, 0x550c7dc3#32, 0x72be5d74#32, 0x80deb1fe#32, 0x9bdc06a7#32, 0xc19bf174#32, 0xe49b69c1#32, 0xefbe4786#32, 0x0fc19dc6#32, 0x240ca1cc#32, 0x2de92c6f#32, 0x4a7484aa#32, 0x5cb0a9dc#32, 0x76f988da#32, 0x983e5152#32, 0xa831c66d#32, 0xb00327c8#32, 0xbf597fc7#32, 0xc6e00bf3#32, 0xd5a79147#32, 0x06ca6351#32, 0x14292967#32, 0x27b70a85#32, 0x2e1b2138#32, 0x4d2c6dfc#32, 0x53380d13#32, 0x650a7354#32, 0x766a0abb#32, 0x81c2c92e#32, 0x92722c85#32, 0xa2bfe8a1#32, 0xa81a664b#32, 0xc24b8b70#32, 0xc76c51a3#32, 0xd192e819#32, 0xd6990624#32, 0xf40e3585#32, 0x106aa070#32, 0x19a4c116#32, 0x1e376c08#32, 0x2748774c#32, 0x34b0bcb5#32, 0x391c0cb3#32, 0x4ed8aa4a#32, 0x5b9cca4f#32, 0x682e6ff3#32, 0x748f82ee#32, 0x78a5636f#32, 0x84c87814#32, 0x8cc70208#32, 0x90befffa#32, 0xa4506ceb#32, 0xbef9a3f7#32, 0xc67178f2#32]
def first8 : S8 := ⟨0x6a09e667#32, 0xbb67ae85#32, 0x3c6ef372#32, 0xa54ff53a#32, 0x510e527f#32, 0x9b05688c#32, 0x1f83d9ab#32, 0x5be0cd19#32⟩
def tt (s : S8) (k w : W32) : W32 := s.h + bg1 s.e + ch s.e s.f s.g + k + w
def uu (s : S8) : W32 := bg0 s.a + mj s.a s.b s.c
def rnd (s : S8) (k w : W32) : S8 := ⟨tt s k w + uu s, s.a, s.b, s.c, s.d + tt s k w, s.e, s.f, s.g⟩
/-- the window of sixteen words that begins at round i -/
def win (m : List W32) : Nat → List W32
  | 0 => m
  | i + 1 => (win m i).drop 1 ++ [(win m i).getD 0 0 + (win m i).getD 9 0 + sg0 ((win m i).getD 1 0) + sg1 ((win m i).getD 14 0)]
def sched (m : List W32) (i : Nat) : W32 := (win m i).getD 0 0
def rounds (m : List W32) (h : S8) : Nat → S8
  | 0 => h
  | i + 1 => rnd (rounds m h i) (kays.getD i 0) (sched m i)
def add8 (x y : S8) : S8 := ⟨x.a + y.a, x.b + y.b, x.c + y.c, x.d + y.d, x.e + y.e, x.f + y.f, x.g + y.g, x.h + y.h⟩
def word (c0 c1 c2 c3 : B8) : W32 := c0.setWidth 32 <<< 24 ||| c1.setWidth 32 <<< 16 ||| c2.setWidth 32 <<< 8 ||| c3.setWidth 32
/-- the sixteen words of a block -/
def words (b : List B8) : List W32 := (List.range 16).map fun i => word (b.getD (4 * i) 0) (b.getD (4 * i + 1) 0) (b.getD (4 * i + 2) 0) (b.getD (4 * i + 3) 0)
def mix (h : S8) (b : List B8) : S8 := add8 h (rounds (words b) h 64)
/-- behind some blocks -/
def blocks : Nat → S8 → List B8 → S8
  | 0, h, _ => h
  | n + 1, h, l => blocks n (mix h (l.take 64)) (l.drop 64)
def zeros (n : Nat) : Nat := (119 - n % 64) % 64
def lenBytes (n : Nat) : List B8 := [7, 6, 5, 4, 3, 2, 1, 0].map fun i => BitVec.ofNat 8 ((8 * n) >>> (8 * i))
def padded (l : List B8) : List B8 := l ++ [128#8] ++ List.replicate (zeros l.length) 0#8 ++ lenBytes l.length
def S8.list (s : S8) : List W32 := [s.a, s.b, s.c, s.d, s.e, s.f, s.g, s.h]
def bytesOf (s : S8) : List B8 := (List.range 32).map fun i => ((s.list.getD (i / 4) 0) >>> (24 - 8 * (i % 4))).setWidth 8
def state (l : List B8) : S8 := blocks (l.length / 64) first8 l
def sha (l : List B8) : List B8 := bytesOf (state (padded l))
end Go.Proofs.Ytnidpncacgknkaa
