/- The walk of the statement WindowRuns: it answers true. No condition. -/
import Derived.Test.YtlnjnjknhopjdaaAwake
import Derived.Test.YtlnjnjknhopjdaaRef
import Derived.Test.YtlnjnjknhopjdaaLaws
namespace Go.Proofs.Ytlnjnjknhopjdaa
open Go.RowKit

theorem run8_any (v : Value) (zs : List Int) (w : World) (hv : Arr w 1 v zs.length (ints zs)) (h1000 : zs.length ≤ 1000) :
    Calls Try.prog 8 #[v] w fun e w' => ∃ a cap, e = .returned (.slice a zs.length cap) ∧ Later w w' ∧ cap ≤ 9223372036854775807 :=
  (run8 v zs w hv h1000).mono fun e w' ⟨v', he, hl, _, a, cap, hv', _, hm, _⟩ => by
    unfold maxLen at hm
    exact ⟨a, cap, by rw [he, hv'], hl, hm⟩

theorem runB_at (l : List Int) : ∀ (k : Nat) (nx : Int) (sn : Nat) (h : k < l.length), (bools (runB nx sn l))[k]? = some (.bool (freshB (stN nx sn (l.take k)) (stS nx sn (l.take k)) l[k])) := by
  induction l with
  | nil => intro k nx sn h; simp at h
  | cons a l ih =>
    intro k nx sn h
    cases k with
    | zero => rfl
    | succ k => exact ih k _ _ (by simpa using h)

set_option maxHeartbeats 4000000 in
theorem runs3 (v : Value) (zs : List Int) (w : World) (hv : Arr w 1 v zs.length (ints zs)) :
    Calls Try.prog 3 #[v] w fun e w' => e = .returned (.bool true) ∧ Later w w' := by
  rcases arr_cases hv with ⟨a, cap, rfl, h0, _, hmax⟩ | ⟨b, off, cap, rfl, hpos, hlen, hb, hcap, hmax, hcell⟩
  · obtain rfl : zs = [] := List.eq_nil_of_length_eq_zero h0
    go_enter Try.func3, Try.ntmps3
    go_wp2_with (first
      | (go_at_call 7; refine (awake7 _).mono ?_; rintro e w1 ⟨rfl, x1, rfl⟩)
      | (go_at_call 8; refine (run8_any _ [] _ (hv.latr x1) (by decide)).mono ?_; rintro e w1 ⟨a1, cap1, rfl, hl, hm1⟩))
    go_rounds 1
    go_ret
    exact ⟨rfl, (((Later.refl w).latr _).trans hl).alloc _⟩
  by_cases h200 : 200 < zs.length
  · go_enter Try.func3, Try.ntmps3
    go_wp2_with (first
      | (go_at_call 7; refine (awake7 _).mono ?_; rintro e w1 ⟨rfl, x1, rfl⟩))
    go_ret
    exact ⟨rfl, (Later.refl w).latr _⟩
  have HC := hid hcell
  clear hcell
  go_enter Try.func3, Try.ntmps3
  go_wp2_with (first
    | (go_at_call 7; refine (awake7 _).mono ?_; rintro e w1 ⟨rfl, x1, rfl⟩)
    | (go_at_call 8
       refine (run8_pos _ zs _ (hv.latr x1) (by omega) hpos).mono ?_
       rintro e w1 ⟨rb, ro, rcap, rfl, hl, hrb, hrcap, hrmax, hr⟩
       have HR := hid hr
       clear hr))
  have hl1 : Later w w1 := ((Later.refl w).latr _).trans hl
  go_loopw [6] (fun i wr => ∃ k : Nat, k ≤ zs.length ∧ i = .int .i64 k ∧ Later w1 wr ∧ Blk wr w1.heap.size 28 #[.int .i64 (stN 0 0 (zs.take k)), .int .u64 (stS 0 0 (zs.take k))]) (fun i _ => zs.length - (intOf i).toNat)
  case atStart => exact ⟨0, Nat.zero_le _, rfl, (Later.refl _).alloc _, Blk.new _ _ _⟩
  case round =>
    obtain ⟨k, hk, rfl, hlr, hB⟩ := hrel
    by_cases hlt : k < zs.length
    · have hs := stS_lt (zs.take k) 0 0 (by omega)
      have hck : wr.cell? ⟨b, off + k, none⟩ = some (.int .i64 zs[k]) := ((hl1.trans hlr).cell hb).trans (HC.out k _ (by simp [hlt]))
      have hrk : wr.cell? ⟨rb, ro + k, none⟩ = some (.bool (freshB (stN 0 0 (zs.take k)) (stS 0 0 (zs.take k)) zs[k])) := (hlr.cell hrb).trans (HR.out k _ (runB_at zs k 0 0 hlt))
      have hbw : b < wr.heap.size := Nat.lt_of_lt_of_le hb (hl1.trans hlr).size
      have hrw : rb < wr.heap.size := Nat.lt_of_lt_of_le hrb hlr.size
      have hS := hB.lt
      have c0 : wr.cell? ⟨w1.heap.size, 0, none⟩ = some (.int .i64 (stN 0 0 (zs.take k))) := hB.cell 0
      have c1 : wr.cell? ⟨w1.heap.size, 1, none⟩ = some (.int .u64 (stS 0 0 (zs.take k))) := hB.cell 1
      have e0 : wr.frozen? ⟨w1.heap.size, 0, none⟩ = false := hB.frozen 0
      have e1 : wr.frozen? ⟨w1.heap.size, 1, none⟩ = false := hB.frozen 1
      have hd : decide (zs.length ≤ k) = false := by simp; omega
      have hi : (k : Int) < (zs.length : Int) := by omega
      have hts := take_succ_ zs k hlt
      have HS := hid (st_snoc (zs.take k) zs[k] 0 0)
      rw [← hts] at HS
      clear hts
      go_wp2_with (fail)
      refine wp_region_calm (by kernel_rfl) (by kernel_rfl) ?_
      repeat (go_big_quiet_step ((go_at_call 9; exact calm_of (fresh9 _ _ _ _))))
      refine wpQuiet_nil ?_
      rintro _ ⟨x, rfl⟩
      go_wp2_with (fail)
      refine wp_region_calm_tail 6 (by kernel_rfl) (by kernel_rfl) ?_
      simp only [List.take_succ_cons, List.take_zero, List.drop_succ_cons, List.drop_zero]
      repeat (go_big_quiet_step ((go_at_call 10; exact calm_of (mark10 _ _ _ _ hs))))
      refine wpQuiet_nil ?_
      rintro _ ⟨y, rfl⟩
      go_wp2_with (fail)
      go_roundw
      case rel =>
        refine ⟨k + 1, by omega, by go_num, ?_, ?_⟩
        · exact (((hlr.latr _).set (by simp) _).set (by simp) _)
        · rw [HS.out.1, HS.out.2.1]
          exact ((hB.latr _).set_ 0 _).set_ 1 _
      case measure => simp [intOf]; omega
    · obtain rfl : k = zs.length := by omega
      go_wp2
      go_ret
      exact ⟨rfl, hl1.trans hlr⟩
end Go.Proofs.Ytlnjnjknhopjdaa
