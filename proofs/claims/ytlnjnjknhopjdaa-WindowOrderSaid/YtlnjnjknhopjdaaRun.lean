/- The walk of window.Run: it gives which of some numbers are fresh, one behind the other. Of at most a thousand numbers. -/
import Derived.Test.YtlnjnjknhopjdaaMark
import Derived.Test.YtlnjnjknhopjdaaTail
namespace Go.Proofs.Ytlnjnjknhopjdaa
open Go.RowKit
attribute [local go_sem] ite_max ite_min

theorem info4 : (Try.prog.info? 4).map (fun i => (i.zero, i.size, i.bytes)) = some (some (.bool false), 1, 1) := by kernel_rfl

/-- a slice of ints that reads as zs -/
abbrev ints (zs : List Int) : List Value := zs.map (Value.int .i64)
abbrev bools (bs : List Bool) : List Value := bs.map Value.bool

set_option maxHeartbeats 4000000 in
theorem run8 (v : Value) (zs : List Int) (w : World) (hv : Arr w 1 v zs.length (ints zs)) (h1000 : zs.length ≤ 1000) :
    Calls Try.prog 8 #[v] w fun e w' => ∃ v', e = .returned v' ∧ Later w w' ∧ Arr w' 1 v' zs.length (bools (runB 0 0 zs)) := by
  obtain ⟨i0, hi0, hz0, hz1, hz2⟩ := info_parts info4
  rcases arr_cases hv with ⟨a, cap, rfl, h0, _, hmax⟩ | ⟨b, off, cap, rfl, hpos, _, hb, hcap, hmax, hcell⟩
  · obtain rfl : zs = [] := List.eq_nil_of_length_eq_zero h0
    go_enter Try.func8, Try.ntmps8
    go_wp2_with (fail)
    go_rounds 1
    go_ret
    exact ⟨_, rfl, (Later.refl _).alloc _, Arr.nil _ _⟩
  have HC := hid hcell
  clear hcell hv
  go_enter Try.func8, Try.ntmps8
  go_wp2_with (fail)
  go_loopw [2, 8] (fun out i wr => ∃ k : Nat, k ≤ zs.length ∧ i = .int .i64 k ∧ Later w wr ∧ Blk wr w.heap.size 28 #[.int .i64 (stN 0 0 (zs.take k)), .int .u64 (stS 0 0 (zs.take k))] ∧
      wr.ownsRow w.heap.size 4 1 out k (bools (runB 0 0 (zs.take k)))) (fun _ i _ => zs.length - (intOf i).toNat)
  case atStart => exact ⟨0, Nat.zero_le _, rfl, (Later.refl _).alloc _, Blk.new _ _ _, World.ownsRow_nil _ _ _ _⟩
  case round =>
    obtain ⟨k, hk, rfl, hl, hB, hown⟩ := hrel
    have hs := stS_lt (zs.take k) 0 0 (by omega)
    by_cases hlt : k < zs.length
    · have hck : wr.cell? ⟨b, off + k, none⟩ = some (.int .i64 zs[k]) := (hl.cell hb).trans (HC.out k _ (by simp [hlt]))
      have hbw : b < wr.heap.size := Nat.lt_of_lt_of_le hb hl.size
      have hS := hB.lt
      have c0 : wr.cell? ⟨w.heap.size, 0, none⟩ = some (.int .i64 (stN 0 0 (zs.take k))) := hB.cell 0
      have c1 : wr.cell? ⟨w.heap.size, 1, none⟩ = some (.int .u64 (stS 0 0 (zs.take k))) := hB.cell 1
      have hts := take_succ_ zs k hlt
      have HS := hid (st_snoc (zs.take k) zs[k] 0 0)
      rw [← hts] at HS
      clear hts
      go_wp2_with (first
        | (go_at_call 12; refine (fresh12 _ _ _ _ hs).mono ?_; rintro e w' ⟨rfl, x1, rfl⟩)
        | (at_builtin
           go_must (refine append_new rfl (.tmp 12) (.tmp 16) 24 rfl w.heap.size 4 i0 _ 1 1 Try.underlying24 hi0 hz0 hz1 hz2 rfl (by decide) _ 4 _ k _ rfl (own_latr hown x1) _ 1 [_] rfl (size_latr _ _).symm rfl (by simp [Value.oneCell']) (by unfold maxLen; omega) (by omega) (le_latr _ _ _ hl.size) ?_)
           intro v1 w1 hown1 hg1
           have hB1 := (hB.latr x1).grown hg1 (own_blk_ne (own_latr hown x1) (hB.latr x1) (by decide))
           have hl1 := (hl.latr x1).grown hg1 (own_lt (own_latr hown x1) (Nat.le_refl _))
           have hS1 := hB1.lt
           have d0 : w1.cell? ⟨w.heap.size, 0, none⟩ = some (.int .i64 (stN 0 0 (zs.take k))) := hB1.cell 0
           have d1 : w1.cell? ⟨w.heap.size, 1, none⟩ = some (.int .u64 (stS 0 0 (zs.take k))) := hB1.cell 1
           have e0 : w1.frozen? ⟨w.heap.size, 0, none⟩ = false := hB1.frozen 0
           have e1 : w1.frozen? ⟨w.heap.size, 1, none⟩ = false := hB1.frozen 1)
        | (go_at_call 11; refine (mark11 _ _ _ _ hs).mono ?_; rintro e w' ⟨rfl, x2, rfl⟩))
      go_roundw
      case rel =>
        refine ⟨k + 1, by omega, by go_num, ?_, ?_, ?_⟩
        · exact ((hl1.latr x2).set (by simp) _).set (by simp) _
        · rw [HS.out.1, HS.out.2.1]
          exact ((hB1.latr x2).set_ 0 _).set_ 1 _
        · rw [HS.out.2.2]
          have hne := own_blk_ne hown1 hB1 (by decide)
          have := own_set (p := ⟨w.heap.size, 1, none⟩) (own_set (p := ⟨w.heap.size, 0, none⟩) (own_latr hown1 x2) hne (.int .i64 (markN (stN 0 0 (zs.take k)) (stS 0 0 (zs.take k)) zs[k]))) hne (.int .u64 (markS (stN 0 0 (zs.take k)) (stS 0 0 (zs.take k)) zs[k]))
          simpa [bools] using this
      case measure => simp [intOf]; omega
    · obtain rfl : k = zs.length := by omega
      go_wp2
      go_ret
      refine ⟨_, rfl, hl, ?_⟩
      have := Arr.of_own hown
      rwa [List.take_length] at this
end Go.Proofs.Ytlnjnjknhopjdaa
