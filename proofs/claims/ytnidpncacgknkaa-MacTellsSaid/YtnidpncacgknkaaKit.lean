/- The words that all walks of this seat use: a world that came later; a call that gives a value and leaves what was there; a slice that reads as a list. No condition: plain lemmas on the model's worlds. -/
import Derived.Test.YtnidpncacgknkaaRows
import Derived.WalkKit
import Derived.WalkSpells
import Derived.WalkLawsBesides
import Derived.Deep.QuietTactic
import Derived.BigQuiet
import Derived.Outline
import Derived.Laws.BitsAllLaws
import Derived.Laws.EntriesVeiled
import Derived.Handy
namespace Go.Proofs.Ytnidpncacgknkaa
open Go.RowKit

theorem hid {p : Prop} (h : p) : Hid p := h
theorem ite_max (x y : Int) : (if x < y then y else x) = max x y := by omega
theorem ite_min (x y : Int) : (if y < x then y else x) = min x y := by omega

/-! ### sizes: a block lies before every block that was made after it -/
@[go_sem] theorem sz_lt1 (n a1 : Nat) : (n < n + 1 + a1) = True := by simp only [eq_iff_iff, iff_true]; omega
@[go_sem] theorem sz_eq1 (n a1 : Nat) : (n = n + 1 + a1) = False := by simp only [eq_iff_iff, iff_false]; omega
@[go_sem] theorem sz_qe1 (n a1 : Nat) : (n + 1 + a1 = n) = False := by simp only [eq_iff_iff, iff_false]; omega
@[go_sem] theorem sz_lt2 (n a1 a2 : Nat) : (n < n + 1 + a1 + a2) = True := by simp only [eq_iff_iff, iff_true]; omega
@[go_sem] theorem sz_eq2 (n a1 a2 : Nat) : (n = n + 1 + a1 + a2) = False := by simp only [eq_iff_iff, iff_false]; omega
@[go_sem] theorem sz_qe2 (n a1 a2 : Nat) : (n + 1 + a1 + a2 = n) = False := by simp only [eq_iff_iff, iff_false]; omega
@[go_sem] theorem sz_le2 (n a1 a2 : Nat) : (n ≤ n + a1 + a2) = True := by simp only [eq_iff_iff, iff_true]; omega
@[go_sem] theorem sz_lt3 (n a1 a2 a3 : Nat) : (n < n + 1 + a1 + a2 + a3) = True := by simp only [eq_iff_iff, iff_true]; omega
@[go_sem] theorem sz_eq3 (n a1 a2 a3 : Nat) : (n = n + 1 + a1 + a2 + a3) = False := by simp only [eq_iff_iff, iff_false]; omega
@[go_sem] theorem sz_qe3 (n a1 a2 a3 : Nat) : (n + 1 + a1 + a2 + a3 = n) = False := by simp only [eq_iff_iff, iff_false]; omega
@[go_sem] theorem sz_le3 (n a1 a2 a3 : Nat) : (n ≤ n + a1 + a2 + a3) = True := by simp only [eq_iff_iff, iff_true]; omega
@[go_sem] theorem sz_lt4 (n a1 a2 a3 a4 : Nat) : (n < n + 1 + a1 + a2 + a3 + a4) = True := by simp only [eq_iff_iff, iff_true]; omega
@[go_sem] theorem sz_eq4 (n a1 a2 a3 a4 : Nat) : (n = n + 1 + a1 + a2 + a3 + a4) = False := by simp only [eq_iff_iff, iff_false]; omega
@[go_sem] theorem sz_qe4 (n a1 a2 a3 a4 : Nat) : (n + 1 + a1 + a2 + a3 + a4 = n) = False := by simp only [eq_iff_iff, iff_false]; omega
@[go_sem] theorem sz_le4 (n a1 a2 a3 a4 : Nat) : (n ≤ n + a1 + a2 + a3 + a4) = True := by simp only [eq_iff_iff, iff_true]; omega
@[go_sem] theorem sz_lt5 (n a1 a2 a3 a4 a5 : Nat) : (n < n + 1 + a1 + a2 + a3 + a4 + a5) = True := by simp only [eq_iff_iff, iff_true]; omega
@[go_sem] theorem sz_eq5 (n a1 a2 a3 a4 a5 : Nat) : (n = n + 1 + a1 + a2 + a3 + a4 + a5) = False := by simp only [eq_iff_iff, iff_false]; omega
@[go_sem] theorem sz_qe5 (n a1 a2 a3 a4 a5 : Nat) : (n + 1 + a1 + a2 + a3 + a4 + a5 = n) = False := by simp only [eq_iff_iff, iff_false]; omega
@[go_sem] theorem sz_le5 (n a1 a2 a3 a4 a5 : Nat) : (n ≤ n + a1 + a2 + a3 + a4 + a5) = True := by simp only [eq_iff_iff, iff_true]; omega
@[go_sem] theorem sz_lt6 (n a1 a2 a3 a4 a5 a6 : Nat) : (n < n + 1 + a1 + a2 + a3 + a4 + a5 + a6) = True := by simp only [eq_iff_iff, iff_true]; omega
@[go_sem] theorem sz_eq6 (n a1 a2 a3 a4 a5 a6 : Nat) : (n = n + 1 + a1 + a2 + a3 + a4 + a5 + a6) = False := by simp only [eq_iff_iff, iff_false]; omega
@[go_sem] theorem sz_qe6 (n a1 a2 a3 a4 a5 a6 : Nat) : (n + 1 + a1 + a2 + a3 + a4 + a5 + a6 = n) = False := by simp only [eq_iff_iff, iff_false]; omega
@[go_sem] theorem sz_le6 (n a1 a2 a3 a4 a5 a6 : Nat) : (n ≤ n + a1 + a2 + a3 + a4 + a5 + a6) = True := by simp only [eq_iff_iff, iff_true]; omega
@[go_sem] theorem sz_lt7 (n a1 a2 a3 a4 a5 a6 a7 : Nat) : (n < n + 1 + a1 + a2 + a3 + a4 + a5 + a6 + a7) = True := by simp only [eq_iff_iff, iff_true]; omega
@[go_sem] theorem sz_eq7 (n a1 a2 a3 a4 a5 a6 a7 : Nat) : (n = n + 1 + a1 + a2 + a3 + a4 + a5 + a6 + a7) = False := by simp only [eq_iff_iff, iff_false]; omega
@[go_sem] theorem sz_qe7 (n a1 a2 a3 a4 a5 a6 a7 : Nat) : (n + 1 + a1 + a2 + a3 + a4 + a5 + a6 + a7 = n) = False := by simp only [eq_iff_iff, iff_false]; omega
@[go_sem] theorem sz_le7 (n a1 a2 a3 a4 a5 a6 a7 : Nat) : (n ≤ n + a1 + a2 + a3 + a4 + a5 + a6 + a7) = True := by simp only [eq_iff_iff, iff_true]; omega
@[go_sem] theorem sz_lt8 (n a1 a2 a3 a4 a5 a6 a7 a8 : Nat) : (n < n + 1 + a1 + a2 + a3 + a4 + a5 + a6 + a7 + a8) = True := by simp only [eq_iff_iff, iff_true]; omega
@[go_sem] theorem sz_eq8 (n a1 a2 a3 a4 a5 a6 a7 a8 : Nat) : (n = n + 1 + a1 + a2 + a3 + a4 + a5 + a6 + a7 + a8) = False := by simp only [eq_iff_iff, iff_false]; omega
@[go_sem] theorem sz_qe8 (n a1 a2 a3 a4 a5 a6 a7 a8 : Nat) : (n + 1 + a1 + a2 + a3 + a4 + a5 + a6 + a7 + a8 = n) = False := by simp only [eq_iff_iff, iff_false]; omega
@[go_sem] theorem sz_le8 (n a1 a2 a3 a4 a5 a6 a7 a8 : Nat) : (n ≤ n + a1 + a2 + a3 + a4 + a5 + a6 + a7 + a8) = True := by simp only [eq_iff_iff, iff_true]; omega
@[go_sem] theorem sz_lt9 (n a1 a2 a3 a4 a5 a6 a7 a8 a9 : Nat) : (n < n + 1 + a1 + a2 + a3 + a4 + a5 + a6 + a7 + a8 + a9) = True := by simp only [eq_iff_iff, iff_true]; omega
@[go_sem] theorem sz_eq9 (n a1 a2 a3 a4 a5 a6 a7 a8 a9 : Nat) : (n = n + 1 + a1 + a2 + a3 + a4 + a5 + a6 + a7 + a8 + a9) = False := by simp only [eq_iff_iff, iff_false]; omega
@[go_sem] theorem sz_qe9 (n a1 a2 a3 a4 a5 a6 a7 a8 a9 : Nat) : (n + 1 + a1 + a2 + a3 + a4 + a5 + a6 + a7 + a8 + a9 = n) = False := by simp only [eq_iff_iff, iff_false]; omega
@[go_sem] theorem sz_le9 (n a1 a2 a3 a4 a5 a6 a7 a8 a9 : Nat) : (n ≤ n + a1 + a2 + a3 + a4 + a5 + a6 + a7 + a8 + a9) = True := by simp only [eq_iff_iff, iff_true]; omega
@[go_sem] theorem sz_lt10 (n a1 a2 a3 a4 a5 a6 a7 a8 a9 a10 : Nat) : (n < n + 1 + a1 + a2 + a3 + a4 + a5 + a6 + a7 + a8 + a9 + a10) = True := by simp only [eq_iff_iff, iff_true]; omega
@[go_sem] theorem sz_eq10 (n a1 a2 a3 a4 a5 a6 a7 a8 a9 a10 : Nat) : (n = n + 1 + a1 + a2 + a3 + a4 + a5 + a6 + a7 + a8 + a9 + a10) = False := by simp only [eq_iff_iff, iff_false]; omega
@[go_sem] theorem sz_qe10 (n a1 a2 a3 a4 a5 a6 a7 a8 a9 a10 : Nat) : (n + 1 + a1 + a2 + a3 + a4 + a5 + a6 + a7 + a8 + a9 + a10 = n) = False := by simp only [eq_iff_iff, iff_false]; omega
@[go_sem] theorem sz_le10 (n a1 a2 a3 a4 a5 a6 a7 a8 a9 a10 : Nat) : (n ≤ n + a1 + a2 + a3 + a4 + a5 + a6 + a7 + a8 + a9 + a10) = True := by simp only [eq_iff_iff, iff_true]; omega
@[go_sem] theorem sz_lt11 (n a1 a2 a3 a4 a5 a6 a7 a8 a9 a10 a11 : Nat) : (n < n + 1 + a1 + a2 + a3 + a4 + a5 + a6 + a7 + a8 + a9 + a10 + a11) = True := by simp only [eq_iff_iff, iff_true]; omega
@[go_sem] theorem sz_eq11 (n a1 a2 a3 a4 a5 a6 a7 a8 a9 a10 a11 : Nat) : (n = n + 1 + a1 + a2 + a3 + a4 + a5 + a6 + a7 + a8 + a9 + a10 + a11) = False := by simp only [eq_iff_iff, iff_false]; omega
@[go_sem] theorem sz_qe11 (n a1 a2 a3 a4 a5 a6 a7 a8 a9 a10 a11 : Nat) : (n + 1 + a1 + a2 + a3 + a4 + a5 + a6 + a7 + a8 + a9 + a10 + a11 = n) = False := by simp only [eq_iff_iff, iff_false]; omega
@[go_sem] theorem sz_le11 (n a1 a2 a3 a4 a5 a6 a7 a8 a9 a10 a11 : Nat) : (n ≤ n + a1 + a2 + a3 + a4 + a5 + a6 + a7 + a8 + a9 + a10 + a11) = True := by simp only [eq_iff_iff, iff_true]; omega
@[go_sem] theorem sz_lt12 (n a1 a2 a3 a4 a5 a6 a7 a8 a9 a10 a11 a12 : Nat) : (n < n + 1 + a1 + a2 + a3 + a4 + a5 + a6 + a7 + a8 + a9 + a10 + a11 + a12) = True := by simp only [eq_iff_iff, iff_true]; omega
@[go_sem] theorem sz_eq12 (n a1 a2 a3 a4 a5 a6 a7 a8 a9 a10 a11 a12 : Nat) : (n = n + 1 + a1 + a2 + a3 + a4 + a5 + a6 + a7 + a8 + a9 + a10 + a11 + a12) = False := by simp only [eq_iff_iff, iff_false]; omega
@[go_sem] theorem sz_qe12 (n a1 a2 a3 a4 a5 a6 a7 a8 a9 a10 a11 a12 : Nat) : (n + 1 + a1 + a2 + a3 + a4 + a5 + a6 + a7 + a8 + a9 + a10 + a11 + a12 = n) = False := by simp only [eq_iff_iff, iff_false]; omega
@[go_sem] theorem sz_le12 (n a1 a2 a3 a4 a5 a6 a7 a8 a9 a10 a11 a12 : Nat) : (n ≤ n + a1 + a2 + a3 + a4 + a5 + a6 + a7 + a8 + a9 + a10 + a11 + a12) = True := by simp only [eq_iff_iff, iff_true]; omega
@[go_sem] theorem sz_lt13 (n a1 a2 a3 a4 a5 a6 a7 a8 a9 a10 a11 a12 a13 : Nat) : (n < n + 1 + a1 + a2 + a3 + a4 + a5 + a6 + a7 + a8 + a9 + a10 + a11 + a12 + a13) = True := by simp only [eq_iff_iff, iff_true]; omega
@[go_sem] theorem sz_eq13 (n a1 a2 a3 a4 a5 a6 a7 a8 a9 a10 a11 a12 a13 : Nat) : (n = n + 1 + a1 + a2 + a3 + a4 + a5 + a6 + a7 + a8 + a9 + a10 + a11 + a12 + a13) = False := by simp only [eq_iff_iff, iff_false]; omega
@[go_sem] theorem sz_qe13 (n a1 a2 a3 a4 a5 a6 a7 a8 a9 a10 a11 a12 a13 : Nat) : (n + 1 + a1 + a2 + a3 + a4 + a5 + a6 + a7 + a8 + a9 + a10 + a11 + a12 + a13 = n) = False := by simp only [eq_iff_iff, iff_false]; omega
@[go_sem] theorem sz_le13 (n a1 a2 a3 a4 a5 a6 a7 a8 a9 a10 a11 a12 a13 : Nat) : (n ≤ n + a1 + a2 + a3 + a4 + a5 + a6 + a7 + a8 + a9 + a10 + a11 + a12 + a13) = True := by simp only [eq_iff_iff, iff_true]; omega
@[go_sem] theorem sz_lt14 (n a1 a2 a3 a4 a5 a6 a7 a8 a9 a10 a11 a12 a13 a14 : Nat) : (n < n + 1 + a1 + a2 + a3 + a4 + a5 + a6 + a7 + a8 + a9 + a10 + a11 + a12 + a13 + a14) = True := by simp only [eq_iff_iff, iff_true]; omega
@[go_sem] theorem sz_eq14 (n a1 a2 a3 a4 a5 a6 a7 a8 a9 a10 a11 a12 a13 a14 : Nat) : (n = n + 1 + a1 + a2 + a3 + a4 + a5 + a6 + a7 + a8 + a9 + a10 + a11 + a12 + a13 + a14) = False := by simp only [eq_iff_iff, iff_false]; omega
@[go_sem] theorem sz_qe14 (n a1 a2 a3 a4 a5 a6 a7 a8 a9 a10 a11 a12 a13 a14 : Nat) : (n + 1 + a1 + a2 + a3 + a4 + a5 + a6 + a7 + a8 + a9 + a10 + a11 + a12 + a13 + a14 = n) = False := by simp only [eq_iff_iff, iff_false]; omega
@[go_sem] theorem sz_le14 (n a1 a2 a3 a4 a5 a6 a7 a8 a9 a10 a11 a12 a13 a14 : Nat) : (n ≤ n + a1 + a2 + a3 + a4 + a5 + a6 + a7 + a8 + a9 + a10 + a11 + a12 + a13 + a14) = True := by simp only [eq_iff_iff, iff_true]; omega
@[go_sem] theorem sz_lt15 (n a1 a2 a3 a4 a5 a6 a7 a8 a9 a10 a11 a12 a13 a14 a15 : Nat) : (n < n + 1 + a1 + a2 + a3 + a4 + a5 + a6 + a7 + a8 + a9 + a10 + a11 + a12 + a13 + a14 + a15) = True := by simp only [eq_iff_iff, iff_true]; omega
@[go_sem] theorem sz_eq15 (n a1 a2 a3 a4 a5 a6 a7 a8 a9 a10 a11 a12 a13 a14 a15 : Nat) : (n = n + 1 + a1 + a2 + a3 + a4 + a5 + a6 + a7 + a8 + a9 + a10 + a11 + a12 + a13 + a14 + a15) = False := by simp only [eq_iff_iff, iff_false]; omega
@[go_sem] theorem sz_qe15 (n a1 a2 a3 a4 a5 a6 a7 a8 a9 a10 a11 a12 a13 a14 a15 : Nat) : (n + 1 + a1 + a2 + a3 + a4 + a5 + a6 + a7 + a8 + a9 + a10 + a11 + a12 + a13 + a14 + a15 = n) = False := by simp only [eq_iff_iff, iff_false]; omega
@[go_sem] theorem sz_le15 (n a1 a2 a3 a4 a5 a6 a7 a8 a9 a10 a11 a12 a13 a14 a15 : Nat) : (n ≤ n + a1 + a2 + a3 + a4 + a5 + a6 + a7 + a8 + a9 + a10 + a11 + a12 + a13 + a14 + a15) = True := by simp only [eq_iff_iff, iff_true]; omega
@[go_sem] theorem sz_lt16 (n a1 a2 a3 a4 a5 a6 a7 a8 a9 a10 a11 a12 a13 a14 a15 a16 : Nat) : (n < n + 1 + a1 + a2 + a3 + a4 + a5 + a6 + a7 + a8 + a9 + a10 + a11 + a12 + a13 + a14 + a15 + a16) = True := by simp only [eq_iff_iff, iff_true]; omega
@[go_sem] theorem sz_eq16 (n a1 a2 a3 a4 a5 a6 a7 a8 a9 a10 a11 a12 a13 a14 a15 a16 : Nat) : (n = n + 1 + a1 + a2 + a3 + a4 + a5 + a6 + a7 + a8 + a9 + a10 + a11 + a12 + a13 + a14 + a15 + a16) = False := by simp only [eq_iff_iff, iff_false]; omega
@[go_sem] theorem sz_qe16 (n a1 a2 a3 a4 a5 a6 a7 a8 a9 a10 a11 a12 a13 a14 a15 a16 : Nat) : (n + 1 + a1 + a2 + a3 + a4 + a5 + a6 + a7 + a8 + a9 + a10 + a11 + a12 + a13 + a14 + a15 + a16 = n) = False := by simp only [eq_iff_iff, iff_false]; omega
@[go_sem] theorem sz_le16 (n a1 a2 a3 a4 a5 a6 a7 a8 a9 a10 a11 a12 a13 a14 a15 a16 : Nat) : (n ≤ n + a1 + a2 + a3 + a4 + a5 + a6 + a7 + a8 + a9 + a10 + a11 + a12 + a13 + a14 + a15 + a16) = True := by simp only [eq_iff_iff, iff_true]; omega
@[go_sem] theorem sz_lt17 (n a1 a2 a3 a4 a5 a6 a7 a8 a9 a10 a11 a12 a13 a14 a15 a16 a17 : Nat) : (n < n + 1 + a1 + a2 + a3 + a4 + a5 + a6 + a7 + a8 + a9 + a10 + a11 + a12 + a13 + a14 + a15 + a16 + a17) = True := by simp only [eq_iff_iff, iff_true]; omega
@[go_sem] theorem sz_eq17 (n a1 a2 a3 a4 a5 a6 a7 a8 a9 a10 a11 a12 a13 a14 a15 a16 a17 : Nat) : (n = n + 1 + a1 + a2 + a3 + a4 + a5 + a6 + a7 + a8 + a9 + a10 + a11 + a12 + a13 + a14 + a15 + a16 + a17) = False := by simp only [eq_iff_iff, iff_false]; omega
@[go_sem] theorem sz_qe17 (n a1 a2 a3 a4 a5 a6 a7 a8 a9 a10 a11 a12 a13 a14 a15 a16 a17 : Nat) : (n + 1 + a1 + a2 + a3 + a4 + a5 + a6 + a7 + a8 + a9 + a10 + a11 + a12 + a13 + a14 + a15 + a16 + a17 = n) = False := by simp only [eq_iff_iff, iff_false]; omega
@[go_sem] theorem sz_le17 (n a1 a2 a3 a4 a5 a6 a7 a8 a9 a10 a11 a12 a13 a14 a15 a16 a17 : Nat) : (n ≤ n + a1 + a2 + a3 + a4 + a5 + a6 + a7 + a8 + a9 + a10 + a11 + a12 + a13 + a14 + a15 + a16 + a17) = True := by simp only [eq_iff_iff, iff_true]; omega
@[go_sem] theorem sz_lt18 (n a1 a2 a3 a4 a5 a6 a7 a8 a9 a10 a11 a12 a13 a14 a15 a16 a17 a18 : Nat) : (n < n + 1 + a1 + a2 + a3 + a4 + a5 + a6 + a7 + a8 + a9 + a10 + a11 + a12 + a13 + a14 + a15 + a16 + a17 + a18) = True := by simp only [eq_iff_iff, iff_true]; omega
@[go_sem] theorem sz_eq18 (n a1 a2 a3 a4 a5 a6 a7 a8 a9 a10 a11 a12 a13 a14 a15 a16 a17 a18 : Nat) : (n = n + 1 + a1 + a2 + a3 + a4 + a5 + a6 + a7 + a8 + a9 + a10 + a11 + a12 + a13 + a14 + a15 + a16 + a17 + a18) = False := by simp only [eq_iff_iff, iff_false]; omega
@[go_sem] theorem sz_qe18 (n a1 a2 a3 a4 a5 a6 a7 a8 a9 a10 a11 a12 a13 a14 a15 a16 a17 a18 : Nat) : (n + 1 + a1 + a2 + a3 + a4 + a5 + a6 + a7 + a8 + a9 + a10 + a11 + a12 + a13 + a14 + a15 + a16 + a17 + a18 = n) = False := by simp only [eq_iff_iff, iff_false]; omega
@[go_sem] theorem sz_le18 (n a1 a2 a3 a4 a5 a6 a7 a8 a9 a10 a11 a12 a13 a14 a15 a16 a17 a18 : Nat) : (n ≤ n + a1 + a2 + a3 + a4 + a5 + a6 + a7 + a8 + a9 + a10 + a11 + a12 + a13 + a14 + a15 + a16 + a17 + a18) = True := by simp only [eq_iff_iff, iff_true]; omega
@[go_sem] theorem sz_lt19 (n a1 a2 a3 a4 a5 a6 a7 a8 a9 a10 a11 a12 a13 a14 a15 a16 a17 a18 a19 : Nat) : (n < n + 1 + a1 + a2 + a3 + a4 + a5 + a6 + a7 + a8 + a9 + a10 + a11 + a12 + a13 + a14 + a15 + a16 + a17 + a18 + a19) = True := by simp only [eq_iff_iff, iff_true]; omega
@[go_sem] theorem sz_eq19 (n a1 a2 a3 a4 a5 a6 a7 a8 a9 a10 a11 a12 a13 a14 a15 a16 a17 a18 a19 : Nat) : (n = n + 1 + a1 + a2 + a3 + a4 + a5 + a6 + a7 + a8 + a9 + a10 + a11 + a12 + a13 + a14 + a15 + a16 + a17 + a18 + a19) = False := by simp only [eq_iff_iff, iff_false]; omega
@[go_sem] theorem sz_qe19 (n a1 a2 a3 a4 a5 a6 a7 a8 a9 a10 a11 a12 a13 a14 a15 a16 a17 a18 a19 : Nat) : (n + 1 + a1 + a2 + a3 + a4 + a5 + a6 + a7 + a8 + a9 + a10 + a11 + a12 + a13 + a14 + a15 + a16 + a17 + a18 + a19 = n) = False := by simp only [eq_iff_iff, iff_false]; omega
@[go_sem] theorem sz_le19 (n a1 a2 a3 a4 a5 a6 a7 a8 a9 a10 a11 a12 a13 a14 a15 a16 a17 a18 a19 : Nat) : (n ≤ n + a1 + a2 + a3 + a4 + a5 + a6 + a7 + a8 + a9 + a10 + a11 + a12 + a13 + a14 + a15 + a16 + a17 + a18 + a19) = True := by simp only [eq_iff_iff, iff_true]; omega
@[go_sem] theorem sz_lt20 (n a1 a2 a3 a4 a5 a6 a7 a8 a9 a10 a11 a12 a13 a14 a15 a16 a17 a18 a19 a20 : Nat) : (n < n + 1 + a1 + a2 + a3 + a4 + a5 + a6 + a7 + a8 + a9 + a10 + a11 + a12 + a13 + a14 + a15 + a16 + a17 + a18 + a19 + a20) = True := by simp only [eq_iff_iff, iff_true]; omega
@[go_sem] theorem sz_eq20 (n a1 a2 a3 a4 a5 a6 a7 a8 a9 a10 a11 a12 a13 a14 a15 a16 a17 a18 a19 a20 : Nat) : (n = n + 1 + a1 + a2 + a3 + a4 + a5 + a6 + a7 + a8 + a9 + a10 + a11 + a12 + a13 + a14 + a15 + a16 + a17 + a18 + a19 + a20) = False := by simp only [eq_iff_iff, iff_false]; omega
@[go_sem] theorem sz_qe20 (n a1 a2 a3 a4 a5 a6 a7 a8 a9 a10 a11 a12 a13 a14 a15 a16 a17 a18 a19 a20 : Nat) : (n + 1 + a1 + a2 + a3 + a4 + a5 + a6 + a7 + a8 + a9 + a10 + a11 + a12 + a13 + a14 + a15 + a16 + a17 + a18 + a19 + a20 = n) = False := by simp only [eq_iff_iff, iff_false]; omega
@[go_sem] theorem sz_le20 (n a1 a2 a3 a4 a5 a6 a7 a8 a9 a10 a11 a12 a13 a14 a15 a16 a17 a18 a19 a20 : Nat) : (n ≤ n + a1 + a2 + a3 + a4 + a5 + a6 + a7 + a8 + a9 + a10 + a11 + a12 + a13 + a14 + a15 + a16 + a17 + a18 + a19 + a20) = True := by simp only [eq_iff_iff, iff_true]; omega

/-! ### worlds that came later -/
/-- all that lies in w lies in w' as it did -/
def Later (w w' : World) : Prop := Below w.heap.size w w'
section
variable {a w w' : World}
theorem Later.refl (w : World) : Later w w := Below.refl _ _
theorem Later.trans (h : Later a w) (k : Later w w') : Later a w' := Below.trans h (Below.mono k h.size)
theorem Later.le (h : Later a w) : a.heap.size ≤ w.heap.size := h.size
theorem Later.alloc (h : Later a w) (o : Obj) : Later a (w.alloc o) := Below.alloc h h.size o
theorem Later.drew (h : Later a w) : Later a w.drew := Below.drew h
theorem Later.drewN (h : Later a w) (n : Nat) : Later a (w.drewN n) := ⟨h.os, h.tape, h.output, h.size, h.block⟩
theorem Later.set (h : Later a w) {p : Addr} (hp : a.heap.size ≤ p.block) (u : Value) : Later a (w.setCell p u) := Below.setCell h hp u
theorem Later.cell (h : Later w w') {b o : Nat} (hb : b < w.heap.size) : w'.cell? ⟨b, o, none⟩ = w.cell? ⟨b, o, none⟩ := Below.cell (p := ⟨b, o, none⟩) h hb
theorem Later.frozen (h : Later w w') {b o : Nat} (hb : b < w.heap.size) : w'.frozen? ⟨b, o, none⟩ = w.frozen? ⟨b, o, none⟩ := Below.frozen (p := ⟨b, o, none⟩) h hb
theorem Later.blk (h : Later w w') {b : Nat} (hb : b < w.heap.size) : w'.heap[b]? = w.heap[b]? := h.block b hb
theorem Later.grown (h : Later a w) {row : Option Nat} (hg : w.grownBy w' row) (hr : ∀ k, row = some k → a.heap.size ≤ k) : Later a w' := Below.grown h hg h.size hr
end
structure Lat (w : World) where
  to : World
  is : Later w to
instance (w : World) : Nonempty (Lat w) := ⟨⟨w, Later.refl _⟩⟩
def latr (w : World) (x : Lat w) : World := x.to
def Lat.on {w : World} (x : Lat w) (y : Lat (latr w x)) : Lat w := ⟨y.to, x.is.trans y.is⟩
def Lat.drew {w : World} (x : Lat w) : Lat w := ⟨x.to.drew, x.is.drew⟩
/-- how many blocks more -/
def Lat.more {w : World} (x : Lat w) : Nat := x.to.heap.size - w.heap.size
section
variable (w : World) (x : Lat w)
@[go_sem] theorem size_latr : (latr w x).heap.size = w.heap.size + x.more := by have := x.is.size; unfold latr Lat.more; omega
@[go_sem] theorem cell_latr (b o : Nat) (h : b < w.heap.size) : (latr w x).cell? ⟨b, o, none⟩ = w.cell? ⟨b, o, none⟩ := x.is.cell h
@[go_sem] theorem frozen_latr (b o : Nat) (h : b < w.heap.size) : (latr w x).frozen? ⟨b, o, none⟩ = w.frozen? ⟨b, o, none⟩ := x.is.frozen h
theorem lt_latr (b : Nat) (h : b < w.heap.size) : b < (latr w x).heap.size := Nat.lt_of_lt_of_le h x.is.size
theorem le_latr (b : Nat) (h : b ≤ w.heap.size) : b ≤ (latr w x).heap.size := Nat.le_trans h x.is.size
@[go_sem] theorem latr_latr (y : Lat (latr w x)) : latr (latr w x) y = latr w (x.on y) := rfl
@[go_sem] theorem latr_drew : (latr w x).drew = latr w x.drew := rfl
theorem latr_later : Later w (latr w x) := x.is
end
@[go_sem] theorem isSome_set (w : World) (p q : Addr) (u : Value) : ((w.setCell p u).cell? q).isSome = (w.cell? q).isSome := by
  by_cases h : p = q
  · subst h
    cases hc : w.cell? p with
    | some v => rw [World.cell?_setCell_same w p u hc]; rfl
    | none =>
      cases hc2 : (w.setCell p u).cell? p with
      | none => rfl
      | some v =>
        exfalso
        unfold World.cell? at hc
        simp only [World.setCell, World.cell?, Array.getElem?_modify, if_true] at hc2
        cases hb : w.heap[p.block]? with
        | none => rw [hb] at hc2; simp at hc2
        | some o =>
          rw [hb] at hc hc2
          cases o <;> simp at hc hc2
          rename_i c e f
          obtain ⟨h1, h2⟩ := hc2
          have hoff : (c.setIfInBounds p.off u)[p.off]? = none := Array.getElem?_eq_none (by simpa using hc h1)
          simp only [h1, Option.isSome_none, Bool.false_eq_true, if_false] at h2
          rw [hoff] at h2
          cases h2
  · rw [World.cell?_setCell_other w p q u h]
theorem Later.latr {a w : World} (h : Later a w) (x : Lat w) : Later a (latr w x) := h.trans x.is
theorem is_latr {w w' : World} (h : Later w w') : ∃ x, w' = latr w x := ⟨⟨w', h⟩, rfl⟩

/-! ### calls that give a value -/
def Gives (P : Program) (f : FuncId) (args : Array Value) (w : World) (v : Value) : Prop := Calls P f args w fun e w' => e = .returned v ∧ ∃ x, w' = latr w x
section
variable {P : Program} {f : FuncId} {args : Array Value} {w : World} {v : Value}
theorem gives_of (h : Calls P f args w fun e w' => e = .returned v ∧ Later w w') : Gives P f args w v :=
  h.mono fun _ _ ⟨he, hb⟩ => ⟨he, is_latr hb⟩
theorem Gives.later (h : Gives P f args w v) : Calls P f args w fun e w' => e = .returned v ∧ Later w w' :=
  Calls.mono h fun _ _ ⟨he, x, hx⟩ => ⟨he, by subst hx; exact x.is⟩
theorem Gives.cast {v' : Value} (h : Gives P f args w v) (e : v = v') : Gives P f args w v' := e ▸ h
theorem calm_of {x : Lat w} (h : Gives P f args (latr w x) v) : Calls P f args (latr w x) fun e w'' => e = .returned v ∧ ∃ y, w'' = latr w y :=
  Calls.mono h fun _ _ ⟨he, y, hy⟩ => ⟨he, x.on y, hy⟩
theorem wp_region_calm {id : Nat} {Q : Exit → Act → World → Prop} {a : Act} {l : List Oper} (hm : P.follows .mixedOrders = true) (hB : Region.lexB .any l.toArray = true)
    (h : wpQuiet P l.toArray (fun w' => ∃ x, w' = latr w x) (fun a' => ∀ w', (∃ x, w' = latr w x) → Q .normal a' w') l a) : (Code.region id l.toArray true).wp P Q a w :=
  wp_region_quiet (C := fun w' => ∃ x, w' = latr w x) hm hB (is_latr (Later.refl _).drew) (by simpa using h)
end

/-! ### blocks that are known whole -/
def Blk (w : World) (g : Nat) (t : TypeId) (cs : Array Value) : Prop := w.heap[g]? = some (.cells cs t (0, 0))
section
variable {w w' : World} {g : Nat} {t : TypeId} {cs : Array Value}
theorem Blk.lt (h : Blk w g t cs) : g < w.heap.size := by
  rcases Nat.lt_or_ge g w.heap.size with hlt | hge
  · exact hlt
  · unfold Blk at h; rw [Array.getElem?_eq_none hge] at h; cases h
theorem Blk.cell (h : Blk w g t cs) (i : Nat) : w.cell? ⟨g, i, none⟩ = cs[i]? := cell_of_row w g i cs t (0, 0) h
theorem Blk.frozen (h : Blk w g t cs) (i : Nat) : w.frozen? ⟨g, i, none⟩ = false := by
  unfold Blk at h
  simp [World.frozen?, h]
theorem Blk.new (w : World) (t : TypeId) (cs : Array Value) : Blk (w.alloc (.cells cs t)) w.heap.size t cs := heap_alloc_new w _
theorem Blk.drew (h : Blk w g t cs) : Blk w.drew g t cs := h
theorem Blk.drewN (h : Blk w g t cs) (n : Nat) : Blk (w.drewN n) g t cs := h
theorem Blk.alloc (h : Blk w g t cs) (o : Obj) : Blk (w.alloc o) g t cs := (Below.heap_alloc w o g h.lt).trans h
theorem Blk.set_ (h : Blk w g t cs) (i : Nat) (u : Value) : Blk (w.setCell ⟨g, i, none⟩ u) g t (cs.setIfInBounds i u) := by
  unfold Blk at h ⊢
  simp [World.setCell, Array.getElem?_modify, h]
theorem Blk.far (h : Blk w g t cs) {p : Addr} (hp : g ≠ p.block) (u : Value) : Blk (w.setCell p u) g t cs := (Below.heap_setCell w p u g hp).trans h
theorem Blk.later (h : Blk w g t cs) (hb : Later w w') : Blk w' g t cs := (hb.block g h.lt).trans h
theorem Blk.latr (h : Blk w g t cs) (x : Lat w) : Blk (latr w x) g t cs := h.later x.is
theorem Blk.grown {row : Option Nat} (h : Blk w g t cs) (hb : w.grownBy w' row) (hg : some g ≠ row) : Blk w' g t cs := (hb.block g h.lt hg).trans h
theorem Blk.ne_ {g' : Nat} {t' : TypeId} {cs' : Array Value} (h : Blk w g t cs) (h' : Blk w g' t' cs') (hne : t ≠ t') : g ≠ g' := by
  rintro rfl
  unfold Blk at h h'
  rw [h] at h'
  injection h' with h'
  injection h' with _ ht
  exact hne ht
theorem own_blk_ne {base : Nat} {e : TypeId} {size n : Nat} {v : Value} {xs : List Value} (h : w.ownsRow base e size v n xs) (hg : Blk w g t cs) (hne : e ≠ t) : some g ≠ v.ownBlock := by
  rcases h.2 with ⟨rfl, _⟩ | ⟨g', cap, cur, rfl, _, hh, _⟩
  · simp [Value.ownBlock]
  · intro he
    have : g' = g := by simpa [Value.ownBlock] using he.symm
    subst this
    exact Blk.ne_ (t := e) hh hg hne rfl
end

/-! ### what a call owns, in worlds that came later -/
section
variable {w w' : World} {base : Nat} {e : TypeId} {size : Nat} {v : Value} {n : Nat} {xs : List Value}
theorem own_later (h : w.ownsRow base e size v n xs) (hl : Later w w') : w'.ownsRow base e size v n xs :=
  h.kept (row := none) ⟨hl.os, hl.tape, hl.output, hl.size, fun k hk _ => hl.block k hk⟩ (by cases hv : v.ownBlock <;> simp)
theorem own_latr (h : w.ownsRow base e size v n xs) (x : Lat w) : (latr w x).ownsRow base e size v n xs := own_later h x.is
theorem own_set (h : w.ownsRow base e size v n xs) {p : Addr} (hp : some p.block ≠ v.ownBlock) (u : Value) : (w.setCell p u).ownsRow base e size v n xs := by
  refine ⟨h.1, ?_⟩
  rcases h.2 with h2 | ⟨g, cap, cur, rfl, hg, hh, r⟩
  · exact .inl h2
  · refine .inr ⟨g, cap, cur, rfl, hg, ?_, r⟩
    rw [Below.heap_setCell _ _ _ _ (by rintro rfl; exact hp rfl)]
    exact hh
theorem own_lt (h : w.ownsRow base e size v n xs) (hb : w'.heap.size ≤ base) : ∀ k, v.ownBlock = some k → w'.heap.size ≤ k := fun k hk => Nat.le_trans hb (h.lt k hk).1
end

/-! ### a slice that reads as a list of cells -/
def Arr (w : World) (size : Nat) (v : Value) (n : Nat) (xs : List Value) : Prop :=
  xs.length = n * size ∧ ∃ a cap, v = .slice a n cap ∧ n ≤ cap ∧ cap ≤ maxLen ∧
    (0 < n → ∃ b off, a = some ⟨b, off, none⟩ ∧ b < w.heap.size ∧ ∀ j u, xs[j]? = some u → w.cell? ⟨b, off + j, none⟩ = some u)
section
variable {w w' : World} {size : Nat} {v : Value} {n : Nat} {xs : List Value}
theorem Arr.later (h : Arr w size v n xs) (hl : Later w w') : Arr w' size v n xs := by
  obtain ⟨h1, a, cap, h2, h3, h4, h5⟩ := h
  refine ⟨h1, a, cap, h2, h3, h4, fun hn => ?_⟩
  obtain ⟨b, off, ha, hb, hc⟩ := h5 hn
  exact ⟨b, off, ha, Nat.lt_of_lt_of_le hb hl.size, fun j u hu => (hl.cell hb).trans (hc j u hu)⟩
theorem Arr.latr (h : Arr w size v n xs) (x : Lat w) : Arr (latr w x) size v n xs := h.later x.is
theorem Arr.nil (w : World) (size : Nat) : Arr w size (.slice none 0 0) 0 [] := ⟨by simp, none, 0, rfl, Nat.le_refl _, Nat.zero_le _, fun h => absurd h (by omega)⟩
theorem Arr.len (h : Arr w size v n xs) : xs.length = n * size := h.1
theorem Arr.of_own {base : Nat} {e : TypeId} (h : w.ownsRow base e size v n xs) : Arr w size v n xs := by
  refine ⟨h.1, ?_⟩
  rcases h.2 with ⟨rfl, rfl⟩ | ⟨g, cap, cur, rfl, hb, hh, hn, hm, hs, ht⟩
  · exact ⟨none, 0, rfl, Nat.le_refl _, Nat.zero_le _, fun h => absurd h (by omega)⟩
  · refine ⟨_, cap, rfl, hn, hm, fun _ => ⟨g, 0, rfl, (h.lt g rfl).2, fun j u hu => ?_⟩⟩
    have := h.cells (g := g) rfl j u hu
    rw [Nat.zero_add]
    rwa [show ((⟨g, 0, none⟩ : Addr).add j) = ⟨g, j, none⟩ from by unfold Addr.add; split <;> simp_all] at this
/-- at a world that is written out: the cells of a list of literals -/
theorem Arr.lits {b : Nat} (hn : xs.length = n * size) (hm : n ≤ maxLen) (hb : b < w.heap.size) (hc : ∀ j u, xs[j]? = some u → w.cell? ⟨b, j, none⟩ = some u) : Arr w size (.slice (some ⟨b, 0, none⟩) n n) n xs :=
  ⟨hn, _, n, rfl, Nat.le_refl _, hm, fun _ => ⟨b, 0, rfl, hb, fun j u hu => by rw [Nat.zero_add]; exact hc j u hu⟩⟩
theorem Arr.new (w : World) (t : TypeId) (xs : List Value) (n size : Nat) (hn : xs.length = n * size) (hm : n ≤ maxLen) : Arr (w.alloc (.cells xs.toArray t)) size (.slice (some ⟨w.heap.size, 0, none⟩) n n) n xs :=
  Arr.lits hn hm (by simp) fun j u hu => by rw [World.cell?_alloc_new]; simpa using hu
end
/-! ### append of elements that stand in a block that was just made -/
theorem append_new {P : Program} {ops : Array Oper} {rest : List Oper} {o : Oper} {a : Act} {Q : Exit → Act → World → Prop} (hgd : o.guard = none) (s x : Operand) (t : TypeId)
    (ho : o.op = .call { callee := .builtin .append, args := #[s, x], argTypes := #[t, t] })
    (base : Nat) (e : TypeId) (i : TypeInfo) (z : Value) (size bytes : Nat) (ht : P.underlying t = some (.slice e)) (hi : P.info? e = some i) (hz : i.zero = some z)
    (hsize : i.size = size) (hby : i.bytes = bytes) (hzs : z.cells.size = size) (hsz : 0 < size)
    (W : World) (te : TypeId) (v : Value) (n : Nat) (xs : List Value) (hs : a.eval s = v) (hown : W.ownsRow base e size v n xs)
    (g m : Nat) (news : List Value) (hx : a.eval x = .slice (some ⟨g, 0, none⟩) m m) (hg : g = W.heap.size) (hl : news.length = m * size) (h1 : ∀ u ∈ news, u.oneCell' = true)
    (h63 : n + m ≤ maxLen) (hbytes : (n + m) * bytes ≤ 140737488355328) (hbase : base ≤ W.heap.size)
    (h : ∀ v' w', w'.ownsRow base e size v' (n + m) (xs ++ news) → W.grownBy w' v.ownBlock → wpList P ops Q rest (a.put o.dst v') w') : wpList P ops Q (o :: rest) a (W.alloc (.cells news.toArray te)) := by
  subst hg
  refine wpList_append_own _ hgd s x t ho base e i z size bytes ht hi hz hsize hby hzs hsz v n xs hs (hown.alloc _) ⟨W.heap.size, 0, none⟩ m m news hx hl (fun j u hu => ?_) h1 h63 hbytes (by simp; omega) ?_
  · rw [show ((⟨W.heap.size, 0, none⟩ : Addr).add j) = ⟨W.heap.size, j, none⟩ from by unfold Addr.add; split <;> simp_all]
    rw [World.cell?_alloc_new]
    simpa using hu
  · intro v' w' hown' hg _
    refine h v' w' hown' ⟨hg.os, hg.tape, hg.output, Nat.le_trans (by simp) hg.size, fun k hk hne => ?_⟩
    rw [hg.block k (by simp; omega) hne]
    exact heap_alloc_old W _ hk

theorem getElem?_map_of {α β : Type} (f : α → β) (l : List α) (k : Nat) (h : k < l.length) : (l.map f)[k]? = some (f l[k]) := by simp [h]
theorem take_succ_map {α β : Type} (f : α → β) (l : List α) (k : Nat) (h : k < l.length) : (l.take (k + 1)).map f = (l.take k).map f ++ [f l[k]] := by
  rw [List.take_succ_eq_append_getElem h, List.map_append]; rfl
theorem take_succ_ {α : Type} (l : List α) (k : Nat) (h : k < l.length) : l.take (k + 1) = l.take k ++ [l[k]] := List.take_succ_eq_append_getElem h
end Go.Proofs.Ytnidpncacgknkaa
