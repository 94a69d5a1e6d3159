/- The walks of the reference's Came and Lost. No condition. -/
import Derived.Test.YteikpgahdjhhkaaCame
import Derived.Test.YteikpgahdjhhkaaLost
namespace Go.Proofs.Yteikpgahdjhhkaa
open Go.RowKit
attribute [local go_sem] ite_max ite_min
attribute [local go_sem] h_lt1 h_lt2 h_lt3 h_lt4 h_lt5 h_lt6 h_eq1 h_qe1 h_eq2 h_qe2 h_eq3 h_qe3 h_eq4 h_qe4 h_eq5 h_qe5 h_eq6 h_qe6

section
variable {q : Pt} {s : Snt}
theorem came_a (h1 : s.p = true) (h2 : q.a = 0) : came q s = q := by unfold came asks large; rw [h1, h2]; rfl
theorem came_b (h1 : s.p = true) (h2 : s.z ≠ q.a) : came q s = q := by unfold came asks large; rw [h1, decide_eq_false h2]; simp
theorem came_c (h1 : s.p = true) (h2 : q.a ≠ 0) (h3 : s.z = q.a) : came q s = hit q := by unfold came; rw [if_pos (asks_iff.2 ⟨h2, h1, h3⟩)]
theorem came_d (h1 : s.p = false) (h2 : 256 < s.z) : came q s = calm q := by unfold came asks large; rw [h1, decide_eq_true h2]; simp
theorem came_e (h1 : s.p = false) (h2 : ¬ 256 < s.z) : came q s = q := by unfold came asks large; rw [h1, decide_eq_false h2]; simp
theorem lose_a (h1 : s.p = true) (h2 : q.a = 0) : lose q s = q := by unfold lose asks large; rw [h1, h2]; rfl
theorem lose_b (h1 : s.p = true) (h2 : s.z ≠ q.a) : lose q s = q := by unfold lose asks large; rw [h1, decide_eq_false h2]; simp
theorem lose_c (h1 : s.p = true) (h2 : q.a ≠ 0) (h3 : s.z = q.a) : lose q s = miss q := by unfold lose; rw [if_pos (asks_iff.2 ⟨h2, h1, h3⟩)]
theorem lose_d (h1 : s.p = false) (h2 : 256 < s.z) (h3 : s.e = true) : lose q s = black q := by unfold lose asks large; rw [h1, h3, decide_eq_true h2]; simp
theorem lose_e (h1 : s.p = false) (h2 : ¬ 256 < s.z) : lose q s = q := by unfold lose asks large; rw [h1, decide_eq_false h2]; simp
theorem lose_f (h1 : s.p = false) (h2 : s.e = false) : lose q s = q := by unfold lose asks large; rw [h1, h2]; simp
end

set_option maxHeartbeats 16000000 in
theorem came16 (q0 : Pt) (v : Value) (l : List Snt) (w : World) (hv : Arr w 5 v l.length (snts l)) : Gives Try.prog 16 #[pv q0, v] w (pv (cames l (ofP q0))) := by
  apply gives_of
  have ho := of23 q0
  have hq := ok_of q0
  generalize ofP q0 = r at *
  have HO := hid ho
  have HQ := hid hq
  clear ho hq
  rcases arr_cases hv with ⟨a, cp, rfl, h0, _, hmax⟩ | ⟨b, off, cp, rfl, hpos, hlen, hb, hcap, hmax, hcell⟩
  · obtain rfl : l = [] := List.eq_nil_of_length_eq_zero h0
    clear hv
    (go_enter Try.func16, Try.ntmps16; go_wp2_with (fail))
    (refine (HO.out _).mono ?_; rintro e w1 ⟨rfl, x1, rfl⟩; go_wp2_with (fail))
    go_rounds 1
    go_returns
    exact ⟨rfl, by repeat (first | (with_reducible exact Later.refl _) | with_reducible apply Later.latr | with_reducible apply Later.alloc | with_reducible apply Later.drew | (with_reducible refine Later.set ?_ (by (simp; try omega)) _))⟩
  have HC := hid hcell
  clear hcell hv
  (go_enter Try.func16, Try.ntmps16; go_wp2_with (fail))
  refine (HO.out _).later.mono ?_
  rintro e w1 ⟨rfl, hl1⟩
  have HW := hid (Later.trans (a := w) (by repeat (first | (with_reducible exact Later.refl _) | with_reducible apply Later.latr | with_reducible apply Later.alloc | with_reducible apply Later.drew | (with_reducible refine Later.set ?_ (by (simp; try omega)) _))) hl1)
  have HR1 := hid ((blk_new (by simp) : Blk _ (w.heap.size + 1) 23 #[.int .i64 0, .int .i64 0, .int .i64 0, .int .i64 0, .int .i64 0]).later hl1)
  have HLT := hid hl1.size
  clear hl1
  go_wp2_with (fail)
  go_loopw [6] (fun i wr => ∃ k : Nat, k ≤ l.length ∧ i = .int .i64 k ∧ Later w wr ∧ Blk wr (w.heap.size + 1) 23 #[.int .i64 0, .int .i64 0, .int .i64 0, .int .i64 0, .int .i64 0] ∧ Blk wr w1.heap.size 23 (pc (cames (l.take k) r))) (fun i _ => l.length - (intOf i).toNat)
  case atStart => exact ⟨0, Nat.zero_le _, rfl, HW.out.alloc _, HR1.out.alloc _, Blk.new _ _ _⟩
  case round =>
    obtain ⟨k, hk, rfl, hl, hR, hB⟩ := hrel
    have hlt1 : w.heap.size + 2 ≤ w1.heap.size := by have := HLT.out; simpa using this
    generalize w1.heap.size = g at *
    have hg1 : w.heap.size ≤ g := by omega
    have hg2 : w.heap.size + 1 ≠ g := by omega
    have hg3 : g ≠ w.heap.size + 1 := by omega
    clear hlt1
    by_cases hlt : k < l.length
    · have HE := hid (el_of hb HC.out hlt)
      have hat := cames_take l r k hlt
      have hok := cames_ok (l.take k) HQ.out
      generalize cames (l.take k) r = p at *
      generalize l[k] = s at *
      obtain ⟨b1, b2, b3, b4, b5, b6, b7, b8⟩ := hok
      have HL := hid hl
      have HR := hid hR
      have HB := hid hB
      (obtain ⟨hca0, hca1, hca2, hca3, hca4, hfa0, hfa1, hfa2, hfa3, hfa4, hga⟩ := Blk.at5 (hB))
      obtain ⟨c0, c1, c2, c3, c4, cb⟩ := HE.out _ hl
      clear hl hR hB
      obtain ⟨sk, st, sz, se, sp⟩ := s
      dsimp only at *
      cases sp
      · by_cases h2 : 256 < sz
        · have HAT := hid (hat.trans (came_d rfl h2))
          have e2 : decide (256 < sz) = true := decide_eq_true h2
          clear hat
          go_wp2_with (fail)
          go_roundw
          case rel => exact ⟨k + 1, by omega, by go_num, HL.out.set hg1 _, HR.out.far hg2 _, by (rw [HAT.out]; exact HB.out.set_ 4 _)⟩
          case measure => simp [intOf]; omega
        · have HAT := hid (hat.trans (came_e rfl h2))
          have e2 : decide (256 < sz) = false := decide_eq_false h2
          clear hat
          go_wp2_with (fail)
          go_roundw
          case rel => exact ⟨k + 1, by omega, by go_num, HL.out, HR.out, by (rw [HAT.out]; exact HB.out)⟩
          case measure => simp [intOf]; omega
      · by_cases hu : p.a = 0
        · have HAT := hid (hat.trans (came_a rfl hu))
          have u1 : (p.a == 0) = true := by simpa using hu
          have u2 : decide (p.a = 0) = true := decide_eq_true hu
          have u3 : (p.a != 0) = false := by simpa using hu
          clear hat hu
          go_wp2_with (fail)
          (refine wp_region_calm (by kernel_rfl) (by kernel_rfl) ?_; (repeat (go_big_quiet_step ((fail)))); refine wpQuiet_nil ?_; rintro W1 hW1; replace hW1 := later_of hW1)
          have HL1 := hid (HL.out.trans hW1)
          have HB1 := hid (HB.out.later hW1)
          have HRx := hid (HR.out.later hW1)
          clear hW1
          (obtain ⟨hco10, hco11, hco12, hco13, hco14, hfo10, hfo11, hfo12, hfo13, hfo14, hgo1⟩ := Blk.at5 (HB1.out))
          obtain ⟨d10, d11, d12, d13, d14, d1b⟩ := HE.out _ HL1.out
          go_wp2_with (fail)
          go_roundw
          case rel => exact ⟨k + 1, by omega, by go_num, HL1.out, HRx.out, by (rw [HAT.out]; exact HB1.out)⟩
          case measure => simp [intOf]; omega
        · by_cases hv : sz = p.a
          · have HAT := hid (hat.trans (came_c rfl hu hv))
            have u1 : (p.a == 0) = false := by simpa using hu
            have u2 : decide (p.a = 0) = false := decide_eq_false hu
            have u3 : (p.a != 0) = true := by simpa using hu
            have v1 : (sz == p.a) = true := by simpa using hv
            have v2 : decide (sz = p.a) = true := decide_eq_true hv
            have v3 : (sz != p.a) = false := by simpa using hv
            clear hat hu hv
            go_wp2_with (fail)
            (refine wp_region_calm (by kernel_rfl) (by kernel_rfl) ?_; (repeat (go_big_quiet_step ((fail)))); refine wpQuiet_nil ?_; rintro W1 hW1; replace hW1 := later_of hW1)
            have HL1 := hid (HL.out.trans hW1)
            have HB1 := hid (HB.out.later hW1)
            have HRx := hid (HR.out.later hW1)
            clear hW1
            (obtain ⟨hco10, hco11, hco12, hco13, hco14, hfo10, hfo11, hfo12, hfo13, hfo14, hgo1⟩ := Blk.at5 (HB1.out))
            obtain ⟨d10, d11, d12, d13, d14, d1b⟩ := HE.out _ HL1.out
            go_wp2_with (fail)
            go_roundw
            case rel => exact ⟨k + 1, by omega, by go_num, (((HL1.out.set hg1 _).set hg1 _).set hg1 _), (((HRx.out.far hg2 _).far hg2 _).far hg2 _), by (rw [HAT.out]; exact ((HB1.out.set_ 0 _).set_ 2 _).set_ 3 _)⟩
            case measure => simp [intOf]; omega
          · have HAT := hid (hat.trans (came_b rfl hv))
            have u1 : (p.a == 0) = false := by simpa using hu
            have u2 : decide (p.a = 0) = false := decide_eq_false hu
            have u3 : (p.a != 0) = true := by simpa using hu
            have v1 : (sz == p.a) = false := by simpa using hv
            have v2 : decide (sz = p.a) = false := decide_eq_false hv
            have v3 : (sz != p.a) = true := by simpa using hv
            clear hat hu hv
            go_wp2_with (fail)
            (refine wp_region_calm (by kernel_rfl) (by kernel_rfl) ?_; (repeat (go_big_quiet_step ((fail)))); refine wpQuiet_nil ?_; rintro W1 hW1; replace hW1 := later_of hW1)
            have HL1 := hid (HL.out.trans hW1)
            have HB1 := hid (HB.out.later hW1)
            have HRx := hid (HR.out.later hW1)
            clear hW1
            (obtain ⟨hco10, hco11, hco12, hco13, hco14, hfo10, hfo11, hfo12, hfo13, hfo14, hgo1⟩ := Blk.at5 (HB1.out))
            obtain ⟨d10, d11, d12, d13, d14, d1b⟩ := HE.out _ HL1.out
            go_wp2_with (fail)
            go_roundw
            case rel => exact ⟨k + 1, by omega, by go_num, HL1.out, HRx.out, by (rw [HAT.out]; exact HB1.out)⟩
            case measure => simp [intOf]; omega
    · obtain rfl : k = l.length := by omega
      rw [List.take_length] at hB
      (obtain ⟨hca0, hca1, hca2, hca3, hca4, hfa0, hfa1, hfa2, hfa3, hfa4, hga⟩ := Blk.at5 (hR))
      (obtain ⟨hcb0, hcb1, hcb2, hcb3, hcb4, hfb0, hfb1, hfb2, hfb3, hfb4, hgb⟩ := Blk.at5 (hB))
      have HL := hid hl
      clear hl hR hB
      go_wp2_with (fail)
      ((try simp only [Exit.inBlock, Exit.then]); refine bodyPost_ret (by simp [results, Try.results16, go_sem, hca0, hca1, hca2, hca3, hca4]; try rfl) rfl ?_)
      exact ⟨rfl, by
        have h1 := HL.out
        repeat (first | (with_reducible exact h1) | (with_reducible refine Later.set ?_ (by simp) _))⟩

set_option maxHeartbeats 16000000 in
theorem lost18 (q0 : Pt) (v : Value) (l : List Snt) (w : World) (hv : Arr w 5 v l.length (snts l)) : Gives Try.prog 18 #[pv q0, v] w (pv (loses l (ofP q0))) := by
  apply gives_of
  have ho := of23 q0
  have hq := ok_of q0
  generalize ofP q0 = r at *
  have HO := hid ho
  have HQ := hid hq
  clear ho hq
  rcases arr_cases hv with ⟨a, cp, rfl, h0, _, hmax⟩ | ⟨b, off, cp, rfl, hpos, hlen, hb, hcap, hmax, hcell⟩
  · obtain rfl : l = [] := List.eq_nil_of_length_eq_zero h0
    clear hv
    (go_enter Try.func18, Try.ntmps18; go_wp2_with (fail))
    (refine (HO.out _).mono ?_; rintro e w1 ⟨rfl, x1, rfl⟩; go_wp2_with (fail))
    go_rounds 1
    go_returns
    exact ⟨rfl, by repeat (first | (with_reducible exact Later.refl _) | with_reducible apply Later.latr | with_reducible apply Later.alloc | with_reducible apply Later.drew | (with_reducible refine Later.set ?_ (by (simp; try omega)) _))⟩
  have HC := hid hcell
  clear hcell hv
  (go_enter Try.func18, Try.ntmps18; go_wp2_with (fail))
  refine (HO.out _).later.mono ?_
  rintro e w1 ⟨rfl, hl1⟩
  have HW := hid (Later.trans (a := w) (by repeat (first | (with_reducible exact Later.refl _) | with_reducible apply Later.latr | with_reducible apply Later.alloc | with_reducible apply Later.drew | (with_reducible refine Later.set ?_ (by (simp; try omega)) _))) hl1)
  have HR1 := hid ((blk_new (by simp) : Blk _ (w.heap.size + 1) 23 #[.int .i64 0, .int .i64 0, .int .i64 0, .int .i64 0, .int .i64 0]).later hl1)
  have HLT := hid hl1.size
  clear hl1
  go_wp2_with (fail)
  go_loopw [6] (fun i wr => ∃ k : Nat, k ≤ l.length ∧ i = .int .i64 k ∧ Later w wr ∧ Blk wr (w.heap.size + 1) 23 #[.int .i64 0, .int .i64 0, .int .i64 0, .int .i64 0, .int .i64 0] ∧ Blk wr w1.heap.size 23 (pc (loses (l.take k) r))) (fun i _ => l.length - (intOf i).toNat)
  case atStart => exact ⟨0, Nat.zero_le _, rfl, HW.out.alloc _, HR1.out.alloc _, Blk.new _ _ _⟩
  case round =>
    obtain ⟨k, hk, rfl, hl, hR, hB⟩ := hrel
    have hlt1 : w.heap.size + 2 ≤ w1.heap.size := by have := HLT.out; simpa using this
    generalize w1.heap.size = g at *
    have hg1 : w.heap.size ≤ g := by omega
    have hg2 : w.heap.size + 1 ≠ g := by omega
    have hg3 : g ≠ w.heap.size + 1 := by omega
    clear hlt1
    by_cases hlt : k < l.length
    · have HE := hid (el_of hb HC.out hlt)
      have hat := loses_take l r k hlt
      have hok := loses_ok (l.take k) HQ.out
      generalize loses (l.take k) r = p at *
      generalize l[k] = s at *
      obtain ⟨b1, b2, b3, b4, b5, b6, b7, b8⟩ := hok
      have HL := hid hl
      have HR := hid hR
      have HB := hid hB
      (obtain ⟨hca0, hca1, hca2, hca3, hca4, hfa0, hfa1, hfa2, hfa3, hfa4, hga⟩ := Blk.at5 (hB))
      obtain ⟨c0, c1, c2, c3, c4, cb⟩ := HE.out _ hl
      clear hl hR hB
      obtain ⟨sk, st, sz, se, sp⟩ := s
      dsimp only at *
      have hst := start26
      have HST := hid hst
      clear hst
      have e0 : IntKind.i64.wrap (p.b + 1) = p.b + 1 := IntWalk.i64_in _ (by omega)
      have e0' : IntKind.i64.wrap (p.f + 1) = p.f + 1 := IntWalk.i64_in _ (by omega)
      have e0'' : IntKind.i64.wrap (p.a - 1) = p.a - 1 := IntWalk.i64_in _ (by omega)
      cases sp
      · cases se
        · have HAT := hid (hat.trans (lose_f rfl rfl))
          clear hat
          go_wp2_with (fail)
          (refine wp_region_calm (by kernel_rfl) (by kernel_rfl) ?_; (repeat (go_big_quiet_step ((fail)))); refine wpQuiet_nil ?_; rintro W1 hW1; replace hW1 := later_of hW1)
          have HL1 := hid (HL.out.trans hW1)
          have HB1 := hid (HB.out.later hW1)
          have HRx := hid (HR.out.later hW1)
          clear hW1
          (obtain ⟨hco10, hco11, hco12, hco13, hco14, hfo10, hfo11, hfo12, hfo13, hfo14, hgo1⟩ := Blk.at5 (HB1.out))
          obtain ⟨d10, d11, d12, d13, d14, d1b⟩ := HE.out _ HL1.out
          go_wp2_with (fail)
          go_roundw
          case rel => exact ⟨k + 1, by omega, by go_num, HL1.out, HRx.out, by (rw [HAT.out]; exact HB1.out)⟩
          case measure => simp [intOf]; omega
        by_cases h2 : 256 < sz
        rotate_left
        · have HAT := hid (hat.trans (lose_e rfl h2))
          have e2 : decide (256 < sz) = false := decide_eq_false h2
          clear hat
          go_wp2_with (fail)
          (refine wp_region_calm (by kernel_rfl) (by kernel_rfl) ?_; (repeat (go_big_quiet_step ((fail)))); refine wpQuiet_nil ?_; rintro W1 hW1; replace hW1 := later_of hW1)
          have HL1 := hid (HL.out.trans hW1)
          have HB1 := hid (HB.out.later hW1)
          have HRx := hid (HR.out.later hW1)
          clear hW1
          (obtain ⟨hco10, hco11, hco12, hco13, hco14, hfo10, hfo11, hfo12, hfo13, hfo14, hgo1⟩ := Blk.at5 (HB1.out))
          obtain ⟨d10, d11, d12, d13, d14, d1b⟩ := HE.out _ HL1.out
          go_wp2_with (fail)
          go_roundw
          case rel => exact ⟨k + 1, by omega, by go_num, HL1.out, HRx.out, by (rw [HAT.out]; exact HB1.out)⟩
          case measure => simp [intOf]; omega
        have hbl := hat.trans (lose_d rfl h2 rfl)
        have e2 : decide (256 < sz) = true := decide_eq_true h2
        clear hat
        unfold black at hbl
        by_cases hu : p.b + 1 = 6
        · rw [if_pos hu] at hbl
          have HBL := hid hbl
          have u1 : ((p.b + 1) == 6) = true := by simpa using hu
          have u2 : decide ((p.b + 1) = 6) = true := decide_eq_true hu
          have u3 : ((p.b + 1) != 6) = false := by simpa using hu
          clear hbl hu
          go_wp2_with (fail)
          (refine wp_region_calm (by kernel_rfl) (by kernel_rfl) ?_; (repeat (go_big_quiet_step ((fail)))); refine wpQuiet_nil ?_; rintro W1 hW1; replace hW1 := later_of hW1)
          have HL1 := hid (HL.out.trans hW1)
          have HB1 := hid (HB.out.later hW1)
          have HRx := hid (HR.out.later hW1)
          clear hW1
          (obtain ⟨hco10, hco11, hco12, hco13, hco14, hfo10, hfo11, hfo12, hfo13, hfo14, hgo1⟩ := Blk.at5 (HB1.out))
          obtain ⟨d10, d11, d12, d13, d14, d1b⟩ := HE.out _ HL1.out
          go_wp2_with (fail)
          refine (HST.out _).mono ?_
          rintro e w4 ⟨rfl, x4, rfl⟩
          obtain ⟨V, hV⟩ : ∃ V, V = latr _ x4 := ⟨_, rfl⟩
          rw [← hV]
          have HBV : Hid (Blk V g 23 #[.int .i64 p.z, .int .i64 p.h, .int .i64 p.a, .int .i64 p.f, .int .i64 (p.b + 1)]) := hid (by rw [hV]; exact (HB1.out.set_ 4 _).latr _)
          have HRV : Hid (Blk V (w.heap.size + 1) 23 #[.int .i64 0, .int .i64 0, .int .i64 0, .int .i64 0, .int .i64 0]) := hid (by rw [hV]; exact (HRx.out.far hg2 _).latr _)
          have HLV : Hid (Later w V) := hid (by rw [hV]; exact (HL1.out.set hg1 _).latr _)
          clear hV
          (obtain ⟨hcv0, hcv1, hcv2, hcv3, hcv4, hfv0, hfv1, hfv2, hfv3, hfv4, hgv⟩ := Blk.at5 (HBV.out))
          go_wp2_with (fail)
          go_roundw
          case rel => exact ⟨k + 1, by omega, by go_num, (((((HLV.out.set hg1 _).set hg1 _).set hg1 _).set hg1 _).set hg1 _), (((((HRV.out.far hg2 _).far hg2 _).far hg2 _).far hg2 _).far hg2 _), by (rw [HBL.out]; exact ((((HBV.out.set_ 0 _).set_ 1 _).set_ 2 _).set_ 3 _).set_ 4 _)⟩
          case measure => simp [intOf]; omega
        · rw [if_neg hu] at hbl
          have HBL := hid hbl
          have u1 : ((p.b + 1) == 6) = false := by simpa using hu
          have u2 : decide ((p.b + 1) = 6) = false := decide_eq_false hu
          have u3 : ((p.b + 1) != 6) = true := by simpa using hu
          clear hbl hu
          go_wp2_with (fail)
          (refine wp_region_calm (by kernel_rfl) (by kernel_rfl) ?_; (repeat (go_big_quiet_step ((fail)))); refine wpQuiet_nil ?_; rintro W1 hW1; replace hW1 := later_of hW1)
          have HL1 := hid (HL.out.trans hW1)
          have HB1 := hid (HB.out.later hW1)
          have HRx := hid (HR.out.later hW1)
          clear hW1
          (obtain ⟨hco10, hco11, hco12, hco13, hco14, hfo10, hfo11, hfo12, hfo13, hfo14, hgo1⟩ := Blk.at5 (HB1.out))
          obtain ⟨d10, d11, d12, d13, d14, d1b⟩ := HE.out _ HL1.out
          go_wp2_with (fail)
          go_roundw
          case rel => exact ⟨k + 1, by omega, by go_num, HL1.out.set hg1 _, HRx.out.far hg2 _, by (rw [HBL.out]; exact HB1.out.set_ 4 _)⟩
          case measure => simp [intOf]; omega
      · by_cases hu : p.a = 0
        · have HAT := hid (hat.trans (lose_a rfl hu))
          have u1 : (p.a == 0) = true := by simpa using hu
          have u2 : decide (p.a = 0) = true := decide_eq_true hu
          have u3 : (p.a != 0) = false := by simpa using hu
          clear hat hu
          go_wp2_with (fail)
          (refine wp_region_calm (by kernel_rfl) (by kernel_rfl) ?_; (repeat (go_big_quiet_step ((fail)))); refine wpQuiet_nil ?_; rintro W1 hW1; replace hW1 := later_of hW1)
          have HL1 := hid (HL.out.trans hW1)
          have HB1 := hid (HB.out.later hW1)
          have HRx := hid (HR.out.later hW1)
          clear hW1
          (obtain ⟨hco10, hco11, hco12, hco13, hco14, hfo10, hfo11, hfo12, hfo13, hfo14, hgo1⟩ := Blk.at5 (HB1.out))
          obtain ⟨d10, d11, d12, d13, d14, d1b⟩ := HE.out _ HL1.out
          go_wp2_with (fail)
          go_roundw
          case rel => exact ⟨k + 1, by omega, by go_num, HL1.out, HRx.out, by (rw [HAT.out]; exact HB1.out)⟩
          case measure => simp [intOf]; omega
        by_cases hv : sz = p.a
        rotate_left
        · have HAT := hid (hat.trans (lose_b rfl hv))
          have u1 : (p.a == 0) = false := by simpa using hu
          have u2 : decide (p.a = 0) = false := decide_eq_false hu
          have u3 : (p.a != 0) = true := by simpa using hu
          have v1 : (sz == p.a) = false := by simpa using hv
          have v2 : decide (sz = p.a) = false := decide_eq_false hv
          have v3 : (sz != p.a) = true := by simpa using hv
          clear hat hu hv
          go_wp2_with (fail)
          (refine wp_region_calm (by kernel_rfl) (by kernel_rfl) ?_; (repeat (go_big_quiet_step ((fail)))); refine wpQuiet_nil ?_; rintro W1 hW1; replace hW1 := later_of hW1)
          have HL1 := hid (HL.out.trans hW1)
          have HB1 := hid (HB.out.later hW1)
          have HRx := hid (HR.out.later hW1)
          clear hW1
          (obtain ⟨hco10, hco11, hco12, hco13, hco14, hfo10, hfo11, hfo12, hfo13, hfo14, hgo1⟩ := Blk.at5 (HB1.out))
          obtain ⟨d10, d11, d12, d13, d14, d1b⟩ := HE.out _ HL1.out
          go_wp2_with (fail)
          go_roundw
          case rel => exact ⟨k + 1, by omega, by go_num, HL1.out, HRx.out, by (rw [HAT.out]; exact HB1.out)⟩
          case measure => simp [intOf]; omega
        have hms := hat.trans (lose_c rfl hu hv)
        have u1 : (p.a == 0) = false := by simpa using hu
        have u2 : decide (p.a = 0) = false := decide_eq_false hu
        have u3 : (p.a != 0) = true := by simpa using hu
        have v1 : (sz == p.a) = true := by simpa using hv
        have v2 : decide (sz = p.a) = true := decide_eq_true hv
        have v3 : (sz != p.a) = false := by simpa using hv
        clear hat hu hv
        unfold miss at hms
        by_cases hx : p.f + 1 = 3
        · rw [if_pos hx] at hms
          have HMS := hid hms
          have x1 : ((p.f + 1) == 3) = true := by simpa using hx
          have x2 : decide ((p.f + 1) = 3) = true := decide_eq_true hx
          have x3 : ((p.f + 1) != 3) = false := by simpa using hx
          clear hms hx
          go_wp2_with (fail)
          (refine wp_region_calm (by kernel_rfl) (by kernel_rfl) ?_; (repeat (go_big_quiet_step ((fail)))); refine wpQuiet_nil ?_; rintro W1 hW1; replace hW1 := later_of hW1)
          have HL1 := hid (HL.out.trans hW1)
          have HB1 := hid (HB.out.later hW1)
          have HRx := hid (HR.out.later hW1)
          clear hW1
          (obtain ⟨hco10, hco11, hco12, hco13, hco14, hfo10, hfo11, hfo12, hfo13, hfo14, hgo1⟩ := Blk.at5 (HB1.out))
          obtain ⟨d10, d11, d12, d13, d14, d1b⟩ := HE.out _ HL1.out
          go_wp2_with (fail)
          go_roundw
          case rel => exact ⟨k + 1, by omega, by go_num, ((((HL1.out.set hg1 _).set hg1 _).set hg1 _).set hg1 _), ((((HRx.out.far hg2 _).far hg2 _).far hg2 _).far hg2 _), by (rw [HMS.out]; exact (((HB1.out.set_ 3 _).set_ 1 _).set_ 3 _).set_ 2 _)⟩
          case measure => simp [intOf]; omega
        · rw [if_neg hx] at hms
          have HMS := hid hms
          have x1 : ((p.f + 1) == 3) = false := by simpa using hx
          have x2 : decide ((p.f + 1) = 3) = false := decide_eq_false hx
          have x3 : ((p.f + 1) != 3) = true := by simpa using hx
          clear hms hx
          go_wp2_with (fail)
          (refine wp_region_calm (by kernel_rfl) (by kernel_rfl) ?_; (repeat (go_big_quiet_step ((fail)))); refine wpQuiet_nil ?_; rintro W1 hW1; replace hW1 := later_of hW1)
          have HL1 := hid (HL.out.trans hW1)
          have HB1 := hid (HB.out.later hW1)
          have HRx := hid (HR.out.later hW1)
          clear hW1
          (obtain ⟨hco10, hco11, hco12, hco13, hco14, hfo10, hfo11, hfo12, hfo13, hfo14, hgo1⟩ := Blk.at5 (HB1.out))
          obtain ⟨d10, d11, d12, d13, d14, d1b⟩ := HE.out _ HL1.out
          go_wp2_with (fail)
          go_roundw
          case rel => exact ⟨k + 1, by omega, by go_num, ((HL1.out.set hg1 _).set hg1 _), ((HRx.out.far hg2 _).far hg2 _), by (rw [HMS.out]; exact (HB1.out.set_ 3 _).set_ 2 _)⟩
          case measure => simp [intOf]; omega
    · obtain rfl : k = l.length := by omega
      rw [List.take_length] at hB
      (obtain ⟨hca0, hca1, hca2, hca3, hca4, hfa0, hfa1, hfa2, hfa3, hfa4, hga⟩ := Blk.at5 (hR))
      (obtain ⟨hcb0, hcb1, hcb2, hcb3, hcb4, hfb0, hfb1, hfb2, hfb3, hfb4, hgb⟩ := Blk.at5 (hB))
      have HL := hid hl
      clear hl hR hB
      go_wp2_with (fail)
      ((try simp only [Exit.inBlock, Exit.then]); refine bodyPost_ret (by simp [results, Try.results18, go_sem, hca0, hca1, hca2, hca3, hca4]; try rfl) rfl ?_)
      exact ⟨rfl, by
        have h1 := HL.out
        repeat (first | (with_reducible exact h1) | (with_reducible refine Later.set ?_ (by simp) _))⟩
end Go.Proofs.Yteikpgahdjhhkaa
