/- Bytes of a string: the row that the conversion makes. Of strings of less than 2^47 bytes. -/
import Derived.Test.YtnidpncacgknkaaTag
import Derived.Lib.ConvBytes
namespace Go.Proofs.Ytnidpncacgknkaa
open Go.RowKit
/-- a string's bytes -/
def strBytes (s : ByteArray) : List B8 := s.data.toList.map fun b => BitVec.ofNat 8 b.toNat
theorem strBytes_len (s : ByteArray) : (strBytes s).length = s.size := by simp [strBytes]
theorem conv_sb (s : ByteArray) (w : World) : (convert 9 22 (.string s)).run Try.prog w = .ok (.slice (some ⟨w.heap.size, 0, none⟩) s.size (grownCap w s.size 0 5)) (Lib.bytesWorld w 5 s) :=
  Lib.run_convert_string_bytes w 9 22 5 s Try.underlying9 Try.underlying22 Try.underlying5
theorem later_sb (s : ByteArray) (w : World) : Later w (Lib.bytesWorld w 5 s) :=
  ⟨rfl, rfl, rfl, by rw [Lib.bytesWorld_size]; omega, fun j hj => Lib.bytesWorld_at_old w 5 s j hj⟩
theorem arr_sb (s : ByteArray) (w : World) (h : s.size ≤ maxLen) : Arr (Lib.bytesWorld w 5 s) 1 (.slice (some ⟨w.heap.size, 0, none⟩) s.size (grownCap w s.size 0 5)) (strBytes s).length (bl (strBytes s)) := by
  rw [strBytes_len]
  refine ⟨by rw [bl_len, strBytes_len, Nat.mul_one], _, _, rfl, grownCap_ge _ _ _ _, grownCap_le_maxLen _ _ _ _ h, fun _ => ⟨w.heap.size, 0, rfl, by rw [Lib.bytesWorld_size]; omega, fun j u hu => ?_⟩⟩
  have hj : j < s.size := by
    have := (List.getElem?_eq_some_iff.1 hu).1
    rwa [bl_len, strBytes_len] at this
  rw [Nat.zero_add, Lib.bytesWorld_cell w 5 s j hj, ← hu]
  have hj2 : j < s.data.toList.length := by simpa using hj
  simp only [bl, strBytes, List.getElem?_map, List.getElem?_eq_getElem hj2, Option.map_some, List.getD, Option.getD_some]
  have := s.data.toList[j].toNat_lt
  have e : bn (BitVec.ofNat 8 s.data.toList[j].toNat) = (s.data.toList[j].toNat : Int) := by
    unfold bn
    rw [BitVec.toNat_ofNat, Nat.mod_eq_of_lt (by omega)]
  rw [bb, e]
end Go.Proofs.Ytnidpncacgknkaa
