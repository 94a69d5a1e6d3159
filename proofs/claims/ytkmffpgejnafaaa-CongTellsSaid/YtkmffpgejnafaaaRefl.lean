/- The walk of the reference's Lost. No condition. -/
import Derived.Test.YtkmffpgejnafaaaRefs
namespace Go.Proofs.Ytkmffpgejnafaaa
open Go.RowKit
attribute [local go_sem] ite_max ite_min
attribute [local go_sem] h_lt1 h_lt2 h_lt3 h_lt4 h_lt5 h_lt6 h_eq1 h_qe1 h_eq2 h_qe2 h_eq3 h_qe3 h_eq4 h_qe4 h_eq5 h_qe5 h_eq6 h_qe6

set_option maxHeartbeats 8000000 in
theorem lost19 (r : Rn) (now : Int) (v : Value) (l : List Snt) (w : World) (hv : Arr w 5 v l.length (snts l)) : Gives Try.prog 19 #[rv r, .int .i64 now, v] w (rv (loses now l (ofR r))) := by
  apply gives_of
  have ho := of28 r
  have hq := ok_of r
  generalize ofR r = q at *
  have HO := hid ho
  have HQ := hid hq
  clear ho hq
  rcases arr_cases hv with ⟨a, cap, rfl, h0, _, hmax⟩ | ⟨b, off, cap, rfl, hpos, hlen, hb, hcap, hmax, hcell⟩
  · obtain rfl : l = [] := List.eq_nil_of_length_eq_zero h0
    clear hv
    (go_enter Try.func19, Try.ntmps19; go_wp2_with (fail))
    (refine (HO.out _).mono ?_; rintro e w1 ⟨rfl, x1, rfl⟩; go_wp2_with (fail))
    go_rounds 1
    go_returns
    exact ⟨rfl, by repeat (first | (with_reducible exact Later.refl _) | with_reducible apply Later.latr | with_reducible apply Later.alloc | with_reducible apply Later.drew | (with_reducible refine Later.set ?_ (by (simp; try omega)) _))⟩
  have HC := hid hcell
  clear hcell hv
  (go_enter Try.func19, Try.ntmps19; go_wp2_with (fail))
  refine (HO.out _).later.mono ?_
  rintro e w1 ⟨rfl, hl1⟩
  have HW := hid (Later.trans (a := w) (by repeat (first | (with_reducible exact Later.refl _) | with_reducible apply Later.latr | with_reducible apply Later.alloc | with_reducible apply Later.drew | (with_reducible refine Later.set ?_ (by (simp; try omega)) _))) hl1)
  have HR1 := hid ((blk_new (by simp) : Blk _ (w.heap.size + 1) 25 #[.int .i64 0, .int .i64 0, .int .i64 0, .int .i64 0]).later hl1)
  have HLT := hid hl1.size
  clear hl1
  go_wp2_with (fail)
  go_loopw [8] (fun i wr => ∃ k : Nat, k ≤ l.length ∧ i = .int .i64 k ∧ Later w wr ∧ Blk wr (w.heap.size + 1) 25 #[.int .i64 0, .int .i64 0, .int .i64 0, .int .i64 0] ∧ Blk wr w1.heap.size 25 (rc (loses now (l.take k) q))) (fun i _ => l.length - (intOf i).toNat)
  case atStart => exact ⟨0, Nat.zero_le _, rfl, HW.out.alloc _, HR1.out.alloc _, Blk.new _ _ _⟩
  case round =>
    obtain ⟨k, hk, rfl, hl, hR, hB⟩ := hrel
    have hlt1 : w.heap.size + 2 ≤ w1.heap.size := by have := HLT.out; simpa using this
    generalize w1.heap.size = g at *
    have HG := hid hlt1
    clear hlt1
    by_cases hlt : k < l.length
    · have HE := hid (el_of hb HC.out hlt)
      have hat := hid (loses_take now l q k hlt)
      have hok := hid (loses_ok (now := now) (l.take k) HQ.out).1
      generalize loses now (l.take k) q = p at *
      generalize l[k] = s at *
      have HAK : Hid (loses now (l.take (k + 1)) q = if (cnt p s && !s.p) = true then cut now p else p) := hid (by rw [hat.out]; rfl)
      clear hat
      have hc := counted29 s
      have hcn : cnt p s = (cnt0 s && decide (p.r < s.t)) := rfl
      rw [hcn] at HAK
      clear hcn
      generalize cnt0 s = m at *
      have HCN := hid hc
      clear hc
      have HL := hid hl
      have HR := hid hR
      have HB := hid hB
      (obtain ⟨hca0, hca1, hca2, hca3, hfa0, hfa1, hfa2, hfa3, hga⟩ := Blk.at4 (hB))
      obtain ⟨c0, c1, c2, c3, c4, cb⟩ := HE.out _ hl
      clear hl hR hB
      obtain ⟨sk, st, sz, se, sp⟩ := s
      dsimp only at *
      cases m
      · go_wp2_with (fail)
        (refine (HCN.out _).mono ?_; rintro e w1 ⟨rfl, x1, rfl⟩; go_wp2_with (fail))
        (refine wp_region_calm (by kernel_rfl) (by kernel_rfl) ?_; (repeat (go_big_quiet_step ((fail)))); refine wpQuiet_nil ?_; rintro _ ⟨x, rfl⟩; go_wp2_with (fail))
        go_roundw
        case rel => exact ⟨k + 1, by omega, by go_num, by repeat (first | (with_reducible exact Later.refl _) | (with_reducible exact HL.out) | with_reducible apply Later.latr | with_reducible apply Later.alloc | with_reducible apply Later.drew | (with_reducible refine Later.set ?_ (by (simp; try omega)) _)), (HR.out.latr _).latr _, by rw [HAK.out, if_neg (by simp)]; exact (HB.out.latr _).latr _⟩
        case measure => simp [intOf]; omega
      cases sp
      rotate_left
      · go_wp2_with (fail)
        refine (HCN.out _).later.mono ?_
        rintro e w2 ⟨rfl, hl2⟩
        have HL2 := hid (HL.out.trans hl2)
        have HB2 := hid (HB.out.later hl2)
        have HR2 := hid (HR.out.later hl2)
        obtain ⟨d0, d1, d2, d3, d4, db⟩ := HE.out _ HL2.out
        clear hl2
        go_wp2_with (fail)
        (refine wp_region_calm (by kernel_rfl) (by kernel_rfl) ?_; (repeat (go_big_quiet_step ((fail)))); refine wpQuiet_nil ?_; rintro _ ⟨x, rfl⟩; go_wp2_with (fail))
        go_roundw
        case rel => exact ⟨k + 1, by omega, by go_num, by repeat (first | (with_reducible exact Later.refl _) | (with_reducible exact HL2.out) | with_reducible apply Later.latr | with_reducible apply Later.alloc | with_reducible apply Later.drew | (with_reducible refine Later.set ?_ (by (simp; try omega)) _)), HR2.out.latr _, by rw [HAK.out, if_neg (by simp)]; exact HB2.out.latr _⟩
        case measure => simp [intOf]; omega
      by_cases hrt : p.r < st
      rotate_left
      · have hd : decide (p.r < st) = false := decide_eq_false hrt
        go_wp2_with (fail)
        refine (HCN.out _).later.mono ?_
        rintro e w2 ⟨rfl, hl2⟩
        have HL2 := hid (HL.out.trans hl2)
        have HB2 := hid (HB.out.later hl2)
        have HR2 := hid (HR.out.later hl2)
        (obtain ⟨hcb0, hcb1, hcb2, hcb3, hfb0, hfb1, hfb2, hfb3, hgb⟩ := Blk.at4 (HB2.out))
        obtain ⟨d0, d1, d2, d3, d4, db⟩ := HE.out _ HL2.out
        clear hl2
        go_wp2_with (fail)
        (refine wp_region_calm (by kernel_rfl) (by kernel_rfl) ?_; (repeat (go_big_quiet_step ((fail)))); refine wpQuiet_nil ?_; rintro _ ⟨x, rfl⟩; go_wp2_with (fail))
        go_roundw
        case rel => exact ⟨k + 1, by omega, by go_num, by repeat (first | (with_reducible exact Later.refl _) | (with_reducible exact HL2.out) | with_reducible apply Later.latr | with_reducible apply Later.alloc | with_reducible apply Later.drew | (with_reducible refine Later.set ?_ (by (simp; try omega)) _)), HR2.out.latr _, by rw [HAK.out, if_neg (by simp [hrt])]; exact HB2.out.latr _⟩
        case measure => simp [intOf]; omega
      have hd : decide (p.r < st) = true := decide_eq_true hrt
      rw [hd] at HAK
      obtain ⟨⟨p1, p2⟩, _⟩ := hok.out
      have hcut : cut now p = { w := max (p.w / 2) 512, s := max (p.w / 2) 512, c := 0, r := min (max now 0) 1099511627776 } := rfl
      have HCUT := hid hcut
      clear hcut
      go_wp2_with (fail)
      refine (HCN.out _).later.mono ?_
      rintro e w2 ⟨rfl, hl2⟩
      have HL2 := hid (HL.out.trans hl2)
      have HB2 := hid (HB.out.later hl2)
      have HW2 := hid ((wr_refl wr g).later hl2)
      (obtain ⟨hcb0, hcb1, hcb2, hcb3, hfb0, hfb1, hfb2, hfb3, hgb⟩ := Blk.at4 (HB2.out))
      obtain ⟨d0, d1, d2, d3, d4, db⟩ := HE.out _ HL2.out
      clear hl2
      go_wp2_with (fail)
      (refine wp_region_calm (by kernel_rfl) (by kernel_rfl) ?_; (repeat (go_big_quiet_step ((fail)))); refine wpQuiet_nil ?_; rintro W3 hW3; replace hW3 := later_of hW3)
      have HL3 := hid (HL2.out.trans hW3)
      have HB3 := hid (HB2.out.later hW3)
      have HW3 := hid (HW2.out.later hW3)
      (obtain ⟨hcc0, hcc1, hcc2, hcc3, hfc0, hfc1, hfc2, hfc3, hgc⟩ := Blk.at4 (HB3.out))
      clear hW3
      go_wp2_with (fail)
      go_roundw
      case rel =>
        have HWf := hid ((((HW3.out.set 0 (.int .i64 (max (p.w / 2) 512))).set 1 (.int .i64 (max (p.w / 2) 512))).set 2 (.int .i64 0)).set 3 (.int .i64 (min (max now 0) 1099511627776)))
        exact ⟨k + 1, by omega, by go_num, HL.out.wr HWf.out (by have := HG.out; omega), HWf.out.blk HR.out (by have := HG.out; omega), by (rw [HAK.out]; rw [if_pos (by simp)]; rw [HCUT.out]; exact (((HB3.out.set_ 0 _).set_ 1 _).set_ 2 _).set_ 3 _)⟩
      case measure => simp [intOf]; omega
    · obtain rfl : k = l.length := by omega
      rw [List.take_length] at hB
      (obtain ⟨hca0, hca1, hca2, hca3, hfa0, hfa1, hfa2, hfa3, hga⟩ := Blk.at4 (hR))
      (obtain ⟨hcb0, hcb1, hcb2, hcb3, hfb0, hfb1, hfb2, hfb3, hgb⟩ := Blk.at4 (hB))
      have HL := hid hl
      have hlt' := HG.out
      have n1 : w.heap.size + 1 ≠ g := by omega
      have n2 : g ≠ w.heap.size + 1 := by omega
      clear hl hR hB hlt'
      go_wp2_with (fail)
      ((try simp only [Exit.inBlock, Exit.then]); refine bodyPost_ret (by simp [results, Try.results19, go_sem, hca0, hca1, hca2, hca3]; try rfl) rfl ?_)
      exact ⟨rfl, by repeat (first | (with_reducible exact Later.refl _) | (with_reducible exact HL.out) | with_reducible apply Later.latr | with_reducible apply Later.alloc | with_reducible apply Later.drew | (with_reducible refine Later.set ?_ (by (simp; try omega)) _))⟩
end Go.Proofs.Ytkmffpgejnafaaa
