/- What every row's frame of this seat uses: closed facts of the program; arguments that read as lists. No condition. -/
import Derived.Test.YtogbpmkfnjebcaaKit
import Derived.ProofKit
import Derived.OpenShut
import Derived.Below
namespace Go.Proofs.Ytogbpmkfnjebcaa
open Go.ChangeShapes Go.WideShapes Go.ChangeAt Go.RowKit

theorem own : ownKnob Try.prog.godebug = none := by kernel_rfl
theorem laidOut : laidOutB Try.prog = true := by kernel_rfl

theorem u64_of_wf {x : Int} (h : (Lit.int .u64 x).wf = true) : ∃ s : Nat, x = (s : Int) ∧ s < 18446744073709551616 := by
  simp [Lit.wf, IntKind.min, IntKind.max, IntKind.signed, IntKind.bits] at h
  exact ⟨x.toNat, by omega, by omega⟩
theorem i64_of_wf {x : Int} (h : (Lit.int .i64 x).wf = true) : -9223372036854775808 ≤ x ∧ x ≤ 9223372036854775807 := by
  simp [Lit.wf, IntKind.min, IntKind.max, IntKind.signed, IntKind.bits] at h
  omega
theorem u32_of_wf {x : Int} (h : (Lit.int .u32 x).wf = true) : 0 ≤ x ∧ x ≤ 4294967295 := by
  simp [Lit.wf, IntKind.min, IntKind.max, IntKind.signed, IntKind.bits] at h
  omega
theorem u16_of_wf {x : Int} (h : (Lit.int .u16 x).wf = true) : 0 ≤ x ∧ x ≤ 65535 := by
  simp [Lit.wf, IntKind.min, IntKind.max, IntKind.signed, IntKind.bits] at h
  omega
theorem u8_of_wf {x : Int} (h : (Lit.int .u8 x).wf = true) : 0 ≤ x ∧ x ≤ 255 := by
  simp [Lit.wf, IntKind.min, IntKind.max, IntKind.signed, IntKind.bits] at h
  omega

/-- the elements of a slice of cells that came in -/
theorem arr_of_cells {w : World} {x : Addr} {n cap size : Nat} {xs : List Value} (hl : n ≤ cap) (hm : cap ≤ maxLen) (hlen : xs.length = n * size) (hsz : 0 < size)
    (hcell : ∀ j u, xs[j]? = some u → w.cell? (x.add j) = some u) : Arr w size (.slice (some x) n cap) n xs := by
  refine ⟨hlen, some x, cap, rfl, hl, hm, fun hn => ?_⟩
  have h0 : 0 < xs.length := by rw [hlen]; exact Nat.mul_pos hn hsz
  have hc := hcell 0 xs[0] (by simp)
  have hb := World.block_lt_of_cell? w _ hc
  obtain ⟨b, off, spot⟩ := x
  have hspot : spot = none := by simpa [Addr.add] using World.cell?_spot hc
  subst hspot
  refine ⟨b, off, rfl, by simpa [Addr.add] using hb, fun j u hu => ?_⟩
  have := hcell j u hu
  rwa [show ((⟨b, off, none⟩ : Addr).add j) = ⟨b, off + j, none⟩ from by unfold Addr.add; split <;> simp_all] at this

theorem arr_of_ints {k : IntKind} {w : World} {x : Addr} {len cap : Nat} {zs : List Int} (hl : len ≤ cap) (hm : cap ≤ maxLen) (hz : zs.length = cap)
    (hcell : ∀ i, i < zs.length → w.cell? (x.add i) = some (.int k (zs.getD i 0))) (hw : ∀ n ∈ zs, (Lit.int k n).wf = true) :
    ∃ ys : List Int, Arr w 1 (.slice (some x) len cap) ys.length (ys.map (Value.int k)) ∧ (∀ n ∈ ys, (Lit.int k n).wf = true) ∧ len = ys.length := by
  have hlen : (zs.take len).length = len := by simp; omega
  refine ⟨zs.take len, ?_, fun n hn => hw n (List.mem_of_mem_take hn), hlen.symm⟩
  have := arr_of_cells (w := w) (x := x) (n := len) (cap := cap) (size := 1) (xs := (zs.take len).map (Value.int k)) hl hm (by simp; omega) (by omega) (fun j u hu => ?_)
  · rwa [hlen]
  · have hj : j < len := by
      have := (List.getElem?_eq_some_iff.1 hu).1
      simp at this
      omega
    have hc := hcell j (by omega)
    rw [hc, ← hu]
    simp [hj, List.getD, show j < zs.length by omega]
end Go.Proofs.Ytogbpmkfnjebcaa
