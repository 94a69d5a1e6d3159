/- The walk of the law's runes: those of a text. Of texts of less than 2^47 bytes. -/
import Derived.Test.YtjgaljnojhkimaaWalks
import Derived.Test.YtjgaljnojhkimaaArr
namespace Go.Proofs.Ytjgaljnojhkimaa
open Go.RowKit
attribute [local go_sem] ite_max ite_min
attribute [local go_sem] h_lt1 h_lt2 h_lt3 h_lt4 h_lt5 h_lt6 h_eq1 h_qe1 h_eq2 h_qe2 h_eq3 h_qe3 h_eq4 h_qe4 h_eq5 h_qe5 h_eq6 h_qe6

theorem info3 : (Try.prog.info? 3).map (fun i => (i.zero, i.size, i.bytes)) = some (some (.int .i64 0), 1, 8) := by kernel_rfl
abbrev bytesOfS (s : ByteArray) : List Int := s.data.toList.map fun b => (b.toNat : Int)
set_option maxRecDepth 100000 in
set_option maxHeartbeats 8000000 in
theorem runes15 (s : ByteArray) (hs : s.size ≤ 1000) (w : World) : Calls Try.prog 15 #[.string s] w fun e w' => ∃ v, e = .returned v ∧ Later w w' ∧ w'.ownsRow w.heap.size 3 1 v s.size ((bytesOfS s).map iv) := by
  obtain ⟨i0, hi0, hz0, hz1, hz2⟩ := info_parts info3
  (go_enter Try.func15, Try.ntmps15; go_wp2_with (fail))
  go_loopw [3, 4] (fun q i wr => ∃ k : Nat, k ≤ s.size ∧ i = .int .i64 k ∧ Later w wr ∧ wr.ownsRow w.heap.size 3 1 q k (((bytesOfS s).take k).map iv)) (fun _ i _ => s.size - (intOf i).toNat)
  case atStart => exact ⟨0, Nat.zero_le _, rfl, by repeat (first | (with_reducible exact Later.refl _) | with_reducible apply Later.latr | with_reducible apply Later.alloc | with_reducible apply Later.drew | (with_reducible refine Later.set ?_ (by (simp; try omega)) _)), World.ownsRow_nil _ _ _ _⟩
  case round =>
    obtain ⟨k, hk, rfl, hl, hO⟩ := hrel
    have HL := hid hl
    have HO := hid hO
    have hls := hid hl.size
    by_cases hlt : k < s.size
    · have hkl : k < (bytesOfS s).length := by simpa [bytesOfS] using hlt
      have hs1 := take_succ_ (bytesOfS s) k hkl
      have hx : (bytesOfS s)[k] = (s[k].toNat : Int) := by simp [bytesOfS]; rfl
      rw [hx] at hs1
      have HS := hid hs1
      clear hl hO hs1
      go_wp2_with (first
        | (at_builtin
           (refine append_new rfl (.tmp 11) (.tmp 16) 32 rfl w.heap.size 3 i0 _ 1 8 Try.underlying32 hi0 hz0 hz1 hz2 rfl (by decide) _ 3 _ k _ rfl HO.out _ 1 [_] rfl rfl rfl (by simp [Value.oneCell']) (by unfold maxLen; omega) (by omega) hls.out ?_)
           intro v1 W1 hO1 hg1))
      go_roundw
      case rel =>
        refine ⟨k + 1, by omega, by go_num, Later.grown HL.out hg1 (own_lt HO.out (Nat.le_refl _)), ?_⟩
        have hw : wrap64 ((s[k].toNat : Nat) : Int) = (s[k].toNat : Int) := by have := s[k].toNat_lt; unfold wrap64; omega
        rw [HS.out, List.map_append]
        rwa [hw] at hO1
      case measure => simp [intOf]; omega
    · obtain rfl : k = s.size := by omega
      clear hl hO
      go_wp2_with (fail)
      go_ret
      refine ⟨_, rfl, by repeat (first | (with_reducible exact Later.refl _) | (with_reducible exact HL.out) | with_reducible apply Later.latr | with_reducible apply Later.alloc | with_reducible apply Later.drew | (with_reducible refine Later.set ?_ (by (simp; try omega)) _)), ?_⟩
      have := HO.out
      rwa [List.take_of_length_le (by simp [bytesOfS])] at this
end Go.Proofs.Ytjgaljnojhkimaa
