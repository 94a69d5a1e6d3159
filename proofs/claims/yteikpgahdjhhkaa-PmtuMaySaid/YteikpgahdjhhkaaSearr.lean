/- The walk of the reference's Search. No condition. -/
import Derived.Test.YteikpgahdjhhkaaSearch
namespace Go.Proofs.Yteikpgahdjhhkaa
open Go.RowKit
attribute [local go_sem] ite_max ite_min
attribute [local go_sem] h_lt1 h_lt2 h_lt3 h_lt4 h_lt5 h_lt6 h_eq1 h_qe1 h_eq2 h_qe2 h_eq3 h_qe3 h_eq4 h_qe4 h_eq5 h_qe5 h_eq6 h_qe6

set_option maxHeartbeats 16000000 in
theorem search20 (size : Int) (M : Nat) (hS0 : Stops size M) (w : World) : Gives Try.prog 20 #[.int .i64 size] w (.tuple #[.int .i64 (stN size M).z, .int .i64 M]) := by
  apply gives_of
  have hM24 : M ≤ 21 := (stops_law hS0).2.2.2
  have hS := hid hS0
  have hok := hid (fun k (hk : k ≤ M) => way_ok hS0 hk)
  clear hS0
  (go_enter Try.func20, Try.ntmps20; go_wp2_with (fail))
  refine (start26 _).later.mono ?_
  rintro e w1 ⟨rfl, hl1⟩
  have hpw := hl1.size
  have HL0 := hid hl1
  clear hl1
  go_wp2_with (fail)
  obtain ⟨W0, hwr⟩ : ∃ wr, wr = w1.alloc (.cells #[.int .i64 start.z, .int .i64 start.h, .int .i64 start.a, .int .i64 start.f, .int .i64 start.b] 23) := ⟨_, rfl⟩
  rw [← hwr]
  have HB0 : Hid (Blk W0 w1.heap.size 23 (pc (stN size 0))) := hid (by rw [hwr]; exact Blk.new _ _ _)
  have HLW : Hid (Later w W0) := hid (by rw [hwr]; exact HL0.out.alloc _)
  clear hwr
  generalize w1.heap.size = p at *
  go_loopw [5] (fun i wr => ∃ k : Nat, k ≤ M ∧ i = .int .i64 k ∧ Later w wr ∧ Blk wr p 23 (pc (stN size k))) (fun i _ => M - (intOf i).toNat)
  case atStart => exact ⟨0, Nat.zero_le _, rfl, HLW.out, HB0.out⟩
  case round =>
    obtain ⟨k, hk, rfl, hl, hB⟩ := hrel
    have HB := hid hB
    have HL := hid hl
    clear hl hB
    have HOK := hid (hok.out k hk)
    have hnx := next12 (stN size k)
    rw [of_ok HOK.out] at hnx
    by_cases hkM : k < M
    rotate_left
    · obtain rfl : k = M := by omega
      have hz := hS.out.1
      rw [hz] at hnx
      have HN := hid hnx
      clear hnx hz
      (obtain ⟨hca0, hca1, hca2, hca3, hca4, hfa0, hfa1, hfa2, hfa3, hfa4, hga⟩ := Blk.at5 (HB.out))
      go_wp2_with (fail)
      refine (HN.out _).later.mono ?_
      rintro e w2 ⟨rfl, hl2⟩
      have HL2 := hid (HL.out.trans hl2)
      have HB2 := hid (HB.out.later hl2)
      clear hl2
      (obtain ⟨hcb0, hcb1, hcb2, hcb3, hcb4, hfb0, hfb1, hfb2, hfb3, hfb4, hgb⟩ := Blk.at5 (HB2.out))
      go_wp2_with (fail)
      go_ret2
      exact ⟨rfl, HL2.out⟩
    have hne := hS.out.2 k hkM
    have hstep := stN_one size k
    unfold sstep at hstep
    have hak := ask14 (stN size k)
    rw [of_ok HOK.out] at hak
    have hkok := ask_ok HOK.out
    have HSTEP := hid hstep
    clear hstep
    generalize stN size k = q at *
    generalize next q = nx at *
    have hcm := fun v W h => (came16 (ask q) v [probe (ask q).a] W h).later
    have hls := fun v W h => (lost18 (ask q) v [probe (ask q).a] W h).later
    rw [of_ok hkok] at hcm hls
    generalize ask q = a at *
    have HN := hid hnx
    have HA := hid hak
    have HCM := hid hcm
    have HLS := hid hls
    clear hnx hak hcm hls hkok
    have e1 : (nx == 0) = false := by simpa using hne
    have e2 : decide (nx = 0) = false := decide_eq_false hne
    clear hne
    (obtain ⟨hca0, hca1, hca2, hca3, hca4, hfa0, hfa1, hfa2, hfa3, hfa4, hga⟩ := Blk.at5 (HB.out))
    go_wp2_with (fail)
    refine (HN.out _).later.mono ?_
    rintro e w2 ⟨rfl, hl2⟩
    have HL2 := hid (HL.out.trans hl2)
    have HB2 := hid (HB.out.later hl2)
    clear hl2
    (obtain ⟨hcb0, hcb1, hcb2, hcb3, hcb4, hfb0, hfb1, hfb2, hfb3, hfb4, hgb⟩ := Blk.at5 (HB2.out))
    go_wp2_with (fail)
    refine (HA.out _).later.mono ?_
    rintro e w3 ⟨rfl, hl3⟩
    have HL3 := hid (HL2.out.trans hl3)
    have HB3 := hid (HB2.out.later hl3)
    clear hl3
    (obtain ⟨hcc0, hcc1, hcc2, hcc3, hcc4, hfc0, hfc1, hfc2, hfc3, hfc4, hgc⟩ := Blk.at5 (HB3.out))
    by_cases hle : a.a ≤ size
    · rw [if_pos hle] at HSTEP
      have e3 : decide (a.a ≤ size) = true := decide_eq_true hle
      generalize cames [probe a.a] a = nq at *
      go_wp2_with (fail)
      refine (HCM.out _ _ (arr_new (n := 1) (xs := [.int .i64 0, .int .i64 0, .int .i64 a.a, .bool false, .bool true]) (by simp) rfl (by decide))).mono ?_
      rintro e w4 ⟨rfl, hl4⟩
      have hB4 : Blk w4 p 23 #[.int .i64 a.z, .int .i64 a.h, .int .i64 a.a, .int .i64 a.f, .int .i64 a.b] := ((((((((HB3.out.set_ 0 (.int .i64 a.z)).set_ 1 (.int .i64 a.h)).set_ 2 (.int .i64 a.a)).set_ 3 (.int .i64 a.f)).set_ 4 (.int .i64 a.b))).alloc _).later hl4)
      have HL4 := hid ((((((((HL3.out.set (p := ⟨p, 0, none⟩) (hpw) (.int .i64 a.z)).set (p := ⟨p, 1, none⟩) (hpw) (.int .i64 a.h)).set (p := ⟨p, 2, none⟩) (hpw) (.int .i64 a.a)).set (p := ⟨p, 3, none⟩) (hpw) (.int .i64 a.f)).set (p := ⟨p, 4, none⟩) (hpw) (.int .i64 a.b))).alloc _).trans hl4)
      clear hl4
      have HB4 := hid hB4
      (obtain ⟨hcd0, hcd1, hcd2, hcd3, hcd4, hfd0, hfd1, hfd2, hfd3, hfd4, hgd⟩ := Blk.at5 (hB4))
      clear hB4
      go_wp2_with (fail)
      go_roundw
      case rel => exact ⟨k + 1, by omega, by go_num, (((((HL4.out.set (p := ⟨p, 0, none⟩) (hpw) (.int .i64 nq.z)).set (p := ⟨p, 1, none⟩) (hpw) (.int .i64 nq.h)).set (p := ⟨p, 2, none⟩) (hpw) (.int .i64 nq.a)).set (p := ⟨p, 3, none⟩) (hpw) (.int .i64 nq.f)).set (p := ⟨p, 4, none⟩) (hpw) (.int .i64 nq.b)), by (rw [HSTEP.out]; exact (((((HB4.out.set_ 0 (.int .i64 nq.z)).set_ 1 (.int .i64 nq.h)).set_ 2 (.int .i64 nq.a)).set_ 3 (.int .i64 nq.f)).set_ 4 (.int .i64 nq.b)))⟩
      case measure => simp [intOf]; omega
    · rw [if_neg hle] at HSTEP
      have e3 : decide (a.a ≤ size) = false := decide_eq_false hle
      generalize loses [probe a.a] a = nq at *
      go_wp2_with (fail)
      refine (HLS.out _ _ (arr_new (n := 1) (xs := [.int .i64 0, .int .i64 0, .int .i64 a.a, .bool false, .bool true]) (by simp) rfl (by decide))).mono ?_
      rintro e w4 ⟨rfl, hl4⟩
      have hB4 : Blk w4 p 23 #[.int .i64 a.z, .int .i64 a.h, .int .i64 a.a, .int .i64 a.f, .int .i64 a.b] := ((((((((HB3.out.set_ 0 (.int .i64 a.z)).set_ 1 (.int .i64 a.h)).set_ 2 (.int .i64 a.a)).set_ 3 (.int .i64 a.f)).set_ 4 (.int .i64 a.b))).alloc _).later hl4)
      have HL4 := hid ((((((((HL3.out.set (p := ⟨p, 0, none⟩) (hpw) (.int .i64 a.z)).set (p := ⟨p, 1, none⟩) (hpw) (.int .i64 a.h)).set (p := ⟨p, 2, none⟩) (hpw) (.int .i64 a.a)).set (p := ⟨p, 3, none⟩) (hpw) (.int .i64 a.f)).set (p := ⟨p, 4, none⟩) (hpw) (.int .i64 a.b))).alloc _).trans hl4)
      clear hl4
      have HB4 := hid hB4
      (obtain ⟨hcd0, hcd1, hcd2, hcd3, hcd4, hfd0, hfd1, hfd2, hfd3, hfd4, hgd⟩ := Blk.at5 (hB4))
      clear hB4
      go_wp2_with (fail)
      go_roundw
      case rel => exact ⟨k + 1, by omega, by go_num, (((((HL4.out.set (p := ⟨p, 0, none⟩) (hpw) (.int .i64 nq.z)).set (p := ⟨p, 1, none⟩) (hpw) (.int .i64 nq.h)).set (p := ⟨p, 2, none⟩) (hpw) (.int .i64 nq.a)).set (p := ⟨p, 3, none⟩) (hpw) (.int .i64 nq.f)).set (p := ⟨p, 4, none⟩) (hpw) (.int .i64 nq.b)), by (rw [HSTEP.out]; exact (((((HB4.out.set_ 0 (.int .i64 nq.z)).set_ 1 (.int .i64 nq.h)).set_ 2 (.int .i64 nq.a)).set_ 3 (.int .i64 nq.f)).set_ 4 (.int .i64 nq.b)))⟩
      case measure => simp [intOf]; omega
end Go.Proofs.Yteikpgahdjhhkaa
