/- What every row's frame of this seat uses: closed facts of the program; arguments that read as lists. No condition. -/
import Derived.Test.YtnidpncacgknkaaKit
import Derived.ProofKit
import Derived.OpenShut
import Derived.Below
import Derived.Deep.Slices
namespace Go.Proofs.Ytnidpncacgknkaa
open Go.ChangeShapes Go.WideShapes Go.ChangeAt Go.RowKit

theorem own : ownKnob Try.prog.godebug = none := by kernel_rfl
theorem laidOut : laidOutB Try.prog = true := by kernel_rfl

theorem u64_of_wf {x : Int} (h : (Lit.int .u64 x).wf = true) : ∃ s : Nat, x = (s : Int) ∧ s < 18446744073709551616 := by
  simp [Lit.wf, IntKind.min, IntKind.max, IntKind.signed, IntKind.bits] at h
  exact ⟨x.toNat, by omega, by omega⟩
theorem i64_of_wf {x : Int} (h : (Lit.int .i64 x).wf = true) : -9223372036854775808 ≤ x ∧ x ≤ 9223372036854775807 := by
  simp [Lit.wf, IntKind.min, IntKind.max, IntKind.signed, IntKind.bits] at h
  omega
theorem u32_of_wf {x : Int} (h : (Lit.int .u32 x).wf = true) : 0 ≤ x ∧ x ≤ 4294967295 := by
  simp [Lit.wf, IntKind.min, IntKind.max, IntKind.signed, IntKind.bits] at h
  omega
theorem u16_of_wf {x : Int} (h : (Lit.int .u16 x).wf = true) : 0 ≤ x ∧ x ≤ 65535 := by
  simp [Lit.wf, IntKind.min, IntKind.max, IntKind.signed, IntKind.bits] at h
  omega
theorem u8_of_wf {x : Int} (h : (Lit.int .u8 x).wf = true) : 0 ≤ x ∧ x ≤ 255 := by
  simp [Lit.wf, IntKind.min, IntKind.max, IntKind.signed, IntKind.bits] at h
  omega

/-- the elements of a slice of cells that came in -/
theorem arr_of_cells {w : World} {x : Addr} {n cap size : Nat} {xs : List Value} (hl : n ≤ cap) (hm : cap ≤ maxLen) (hlen : xs.length = n * size) (hsz : 0 < size)
    (hcell : ∀ j u, xs[j]? = some u → w.cell? (x.add j) = some u) : Arr w size (.slice (some x) n cap) n xs := by
  refine ⟨hlen, some x, cap, rfl, hl, hm, fun hn => ?_⟩
  have h0 : 0 < xs.length := by rw [hlen]; exact Nat.mul_pos hn hsz
  have hc := hcell 0 xs[0] (by simp)
  have hb := World.block_lt_of_cell? w _ hc
  obtain ⟨b, off, spot⟩ := x
  have hspot : spot = none := by simpa [Addr.add] using World.cell?_spot hc
  subst hspot
  refine ⟨b, off, rfl, by simpa [Addr.add] using hb, fun j u hu => ?_⟩
  have := hcell j u hu
  rwa [show ((⟨b, off, none⟩ : Addr).add j) = ⟨b, off + j, none⟩ from by unfold Addr.add; split <;> simp_all] at this

theorem arr_of_ints {k : IntKind} {w : World} {x : Addr} {len cap : Nat} {zs : List Int} (hl : len ≤ cap) (hm : cap ≤ maxLen) (hz : zs.length = cap)
    (hcell : ∀ i, i < zs.length → w.cell? (x.add i) = some (.int k (zs.getD i 0))) (hw : ∀ n ∈ zs, (Lit.int k n).wf = true) :
    ∃ ys : List Int, Arr w 1 (.slice (some x) len cap) ys.length (ys.map (Value.int k)) ∧ (∀ n ∈ ys, (Lit.int k n).wf = true) ∧ len = ys.length := by
  have hlen : (zs.take len).length = len := by simp; omega
  refine ⟨zs.take len, ?_, fun n hn => hw n (List.mem_of_mem_take hn), hlen.symm⟩
  have := arr_of_cells (w := w) (x := x) (n := len) (cap := cap) (size := 1) (xs := (zs.take len).map (Value.int k)) hl hm (by simp; omega) (by omega) (fun j u hu => ?_)
  · rwa [hlen]
  · have hj : j < len := by
      have := (List.getElem?_eq_some_iff.1 hu).1
      simp at this
      omega
    have hc := hcell j (by omega)
    rw [hc, ← hu]
    simp [hj, List.getD, show j < zs.length by omega]

theorem exists_list {α : Type} {q : Nat → α → Prop} (n : Nat) (h : ∀ i, i < n → ∃ a, q i a) : ∃ bs : List α, bs.length = n ∧ ∀ i (hi : i < bs.length), q i bs[i] := by
  induction n with
  | zero => exact ⟨[], rfl, fun i hi => by simp at hi⟩
  | succ n ih =>
    obtain ⟨bs, hl, hq⟩ := ih fun i hi => h i (by omega)
    obtain ⟨a, ha⟩ := h n (by omega)
    refine ⟨bs ++ [a], by simp [hl], fun i hi => ?_⟩
    by_cases hin : i < bs.length
    · rw [List.getElem_append_left hin]; exact hq i hin
    · have : i = n := by simp at hi; omega
      subst this
      rw [List.getElem_append_right (by omega)]
      simpa [hl] using ha

theorem flatMap_at {α : Type} (f : α → List Value) (sz : Nat) (hf : ∀ a, (f a).length = sz) (bs : List α) : (bs.flatMap f).length = bs.length * sz ∧
    ∀ (i j : Nat) (h : i < bs.length), j < sz → (bs.flatMap f)[i * sz + j]? = (f bs[i])[j]? := by
  induction bs with
  | nil => exact ⟨by simp, fun i j h => by simp at h⟩
  | cons a bs ih =>
    obtain ⟨h1, h2⟩ := ih
    refine ⟨by rw [List.flatMap_cons, List.length_append, hf, h1, List.length_cons, Nat.succ_mul, Nat.add_comm], fun i j h hj => ?_⟩
    rw [List.flatMap_cons]
    cases i with
    | zero => rw [Nat.zero_mul, Nat.zero_add, List.getElem?_append_left (by rw [hf]; exact hj)]; rfl
    | succ i =>
      rw [List.getElem?_append_right (by rw [hf, Nat.succ_mul]; omega), hf, show (i + 1) * sz + j - sz = i * sz + j by rw [Nat.succ_mul]; omega]
      exact h2 i j (by simpa using h) hj

/-- a slice that came in, element for element, whatever its elements are -/
theorem arr_of_slice {H : Type} {enc : TypeId × Value → H} {P : Program} {w : World} {base : Nat} {spare : Nat → Bool} {held : Bool} {t e : TypeId} {α : Type} (p : α → Prop) (f : α → List Value) (sz : Nat)
    (hf : ∀ a, (f a).length = sz) (hsz : 0 < sz) (hC : P.cellsOf e = sz) (ht : P.underlying t = some (.slice e)) {fuel len cap : Nat} {x : Option Addr} {y : DataW H × List MemPlace}
    (h : DataW.trod enc P w base spare held fuel t [.slice x len cap] = some y) (hQ : ∀ n cs y', DataW.trod enc P w base spare held n e cs = some y' → ∃ a, p a ∧ cs = f a) :
    ∃ bs : List α, (∀ a ∈ bs, p a) ∧ Arr w sz (.slice x len cap) bs.length (bs.flatMap f) ∧ len = bs.length := by
  rcases Go.Deep.open_slice ht h with ⟨hcs, _⟩ | ⟨a, l, c, m, n, D, Pl, hcs, _, hl, hm, hmm, _, hi⟩
  · simp at hcs
    obtain ⟨rfl, rfl, rfl⟩ := hcs
    exact ⟨[], by simp, Arr.nil _ _, rfl⟩
  · simp at hcs
    obtain ⟨rfl, rfl, rfl⟩ := hcs
    have hlm : len ≤ m := by rw [hmm]; split <;> omega
    obtain ⟨bs, hlen, has⟩ := exists_list (q := fun i b => p b ∧ ∀ j, j < sz → w.cell? (a.add (i * sz + j)) = (f b)[j]?) len fun i hin => by
      obtain ⟨cs', hc, htr⟩ := hi i (by omega)
      obtain ⟨b, hpb, rfl⟩ := hQ _ _ _ htr
      rw [hC] at hc
      obtain ⟨_, _, hat⟩ := World.cells?_some hc
      refine ⟨b, hpb, fun j hj => ?_⟩
      rw [← Go.Deep.add_add]
      exact hat j hj
    obtain ⟨f1, f2⟩ := flatMap_at f sz hf bs
    refine ⟨bs, fun b hb => ?_, ?_, hlen.symm⟩
    · obtain ⟨i, hi', rfl⟩ := List.getElem_of_mem hb
      exact (has i hi').1
    · rw [hlen] at f1 ⊢
      refine arr_of_cells hl hm f1 hsz fun j u hu => ?_
      have hj : j < len * sz := by
        have := (List.getElem?_eq_some_iff.1 hu).1
        omega
      have hq : j / sz < bs.length := by rw [hlen]; exact Nat.div_lt_of_lt_mul (by rw [Nat.mul_comm]; exact hj)
      have hr : j % sz < sz := Nat.mod_lt _ hsz
      have e1 : j / sz * sz + j % sz = j := by rw [Nat.mul_comm]; exact Nat.div_add_mod j sz
      have h1 := (has (j / sz) hq).2 (j % sz) hr
      rw [← f2 _ _ hq hr, e1, hu] at h1
      exact h1

theorem pair_of_array {H : Type} {enc : TypeId × Value → H} {P : Program} {w : World} {base : Nat} {spare : Nat → Bool} {held : Bool} {k : IntKind} {e ei : TypeId} (ht : P.underlying e = some (.array 2 ei)) (hi : P.underlying ei = some (.int k))
    (hC : P.cellsOf e = 2) (hC1 : P.cellsOf ei = 1) (n : Nat) (cs : List Value) (y' : DataW H × List MemPlace) (h : DataW.trod enc P w base spare held n e cs = some y') :
    ∃ a : Int × Int, ((Lit.int k a.1).wf = true ∧ (Lit.int k a.2).wf = true) ∧ cs = [.int k a.1, .int k a.2] := by
  obtain ⟨xs, m, _, _, hl, hx, hat⟩ := DataW.trod_array ht h
  rw [hC] at hl
  rw [hC1] at hat
  match cs, hl with
  | [c0, c1], _ =>
    match xs, hx with
    | [x0, x1], _ =>
      obtain ⟨a, ha, _, wa⟩ := DataW.trod_int hi (hat 0 (by omega))
      obtain ⟨b, hb, _, wb⟩ := DataW.trod_int hi (hat 1 (by omega))
      simp at ha hb
      exact ⟨(a, b), ⟨wa, wb⟩, by rw [ha, hb]⟩
end Go.Proofs.Ytnidpncacgknkaa
