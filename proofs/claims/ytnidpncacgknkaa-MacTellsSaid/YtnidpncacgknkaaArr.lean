/- An append of a slice that came in to a slice that the call owns, whatever the former is; the shape of a slice that came in. No condition. -/
import Derived.Test.YtnidpncacgknkaaOwn
import Derived.Test.YtnidpncacgknkaaSpec
import Derived.Laws.AppendOwnNone
import Derived.Deep.Slices
namespace Go.Proofs.Ytnidpncacgknkaa
open Go.RowKit
/-- nil, or one that lies somewhere -/
def Shape (v : Value) : Prop := v = .slice none 0 0 ∨ ∃ ad m c, v = .slice (some ad) m c
theorem wp_append_arr {P : Program} {o : Oper} {a : Act} {K : Act → World → Prop} {Q : Exit → Act → World → Prop} (W : World) (s x : Operand) (t : TypeId)
    (ho : o.op = .call { callee := .builtin .append, args := #[s, x], argTypes := #[t, t] })
    (base : Nat) (e : TypeId) (i : TypeInfo) (z : Value) (size bytes : Nat) (ht : P.underlying t = some (.slice e)) (hi : P.info? e = some i) (hz : i.zero = some z)
    (hsize : i.size = size) (hby : i.bytes = bytes) (hzs : z.cells.size = size) (hsz : 0 < size)
    (v : Value) (n : Nat) (xs : List Value) (hs : a.eval s = v) (hown : W.ownsRow base e size v n xs)
    (src : Value) (m : Nat) (news : List Value) (hx : a.eval x = src) (hsrc : Arr W size src m news) (hsh : Shape src) (h1 : ∀ u ∈ news, u.oneCell' = true)
    (h63 : n + m ≤ maxLen) (hbytes : (n + m) * bytes ≤ 140737488355328) (hbase : base ≤ W.heap.size)
    (h : ∀ v' w', w'.ownsRow base e size v' (n + m) (xs ++ news) → W.grownBy w' v.ownBlock → K (a.put o.dst v') w') : o.wp P a W K Q := by
  obtain ⟨hl, ad, cap, rfl, hm, hmax, hcell⟩ := hsrc
  rcases hsh with hsh | ⟨ad', m', c', hsh⟩
  · injection hsh with h2 h3 h4
    subst h2 h3 h4
    obtain rfl : news = [] := List.eq_nil_of_length_eq_zero (by simpa using hl)
    have hrun := run_append_owned_none (P := P) (w := W) base t o.type e i size ht hi v n xs hown
    unfold Oper.wp
    simp [execOp, ho, resolve, invoke, builtin, hs, hx, hrun, Result.andThen]
    exact h v W (by simpa using hown) ⟨rfl, rfl, rfl, Nat.le_refl _, fun _ _ _ => rfl⟩
  · injection hsh with h2 h3 h4
    subst h2
    refine wp_append_own (w := W) s x t ho base e i z size bytes ht hi hz hsize hby hzs hsz v n xs hs hown ad' m cap news hx hl (fun j u hu => ?_) h1 h63 hbytes hbase (fun v' w' g1 g2 _ => h v' w' g1 g2)
    rcases Nat.eq_zero_or_pos m with h0 | h0
    · subst h0
      obtain rfl : news = [] := List.eq_nil_of_length_eq_zero (by simpa using hl)
      simp at hu
    · obtain ⟨b, off, hab, _, hc⟩ := hcell h0
      injection hab with hab
      subst hab
      have := hc j u hu
      rwa [show ((⟨b, off, none⟩ : Addr).add j) = ⟨b, off + j, none⟩ from by unfold Addr.add; split <;> simp_all]
theorem shape_of {H : Type} {enc : TypeId × Value → H} {P : Program} {w : World} {base : Nat} {spare : Nat → Bool} {held : Bool} {t e : TypeId} (ht : P.underlying t = some (.slice e)) {fuel len cap : Nat} {x : Option Addr} {y : DataW H × List MemPlace}
    (h : DataW.trod enc P w base spare held fuel t [.slice x len cap] = some y) : Shape (.slice x len cap) := by
  rcases Go.Deep.open_slice ht h with ⟨hcs, _⟩ | ⟨a, l, c, m, n, D, Pl, hcs, _⟩
  · simp at hcs
    obtain ⟨rfl, rfl, rfl⟩ := hcs
    exact .inl rfl
  · simp at hcs
    obtain ⟨rfl, rfl, rfl⟩ := hcs
    exact .inr ⟨_, _, _, rfl⟩
end Go.Proofs.Ytnidpncacgknkaa
