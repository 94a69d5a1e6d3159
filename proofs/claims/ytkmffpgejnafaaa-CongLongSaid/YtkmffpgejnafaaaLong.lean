/- The walks of Long, the program's and the reference's. No condition. -/
import Derived.Test.YtkmffpgejnafaaaAcked
import Derived.Test.YtkmffpgejnafaaaMay
namespace Go.Proofs.Ytkmffpgejnafaaa
open Go.RowKit
attribute [local go_sem] ite_max ite_min
attribute [local go_sem] h_lt1 h_lt2 h_lt3 h_lt4 h_lt5 h_lt6 h_eq1 h_qe1 h_eq2 h_qe2 h_eq3 h_qe3 h_eq4 h_qe4 h_eq5 h_qe5 h_eq6 h_qe6

theorem lgs1_take (l : List Snt) (q : Lg) (k : Nat) (h : k < l.length) : lgs1 (l.take (k + 1)) q = lg1 (lgs1 (l.take k) q) l[k] := by rw [take_succ_ l k h, lgs1_snoc]
theorem lgs2_take (l : List Snt) (q : Lg) (k : Nat) (h : k < l.length) : lgs2 (l.take (k + 1)) q = lg2 (lgs2 (l.take k) q) l[k] := by rw [take_succ_ l k h, lgs2_snoc]
theorem cnt_any (s : Snt) : cnt { w := 0, s := 0, c := 0, r := -1 } s = cnt0 s := by
  unfold cnt
  cases h : cnt0 s
  · rfl
  · unfold cnt0 at h
    simp only [Bool.and_eq_true, inB_true] at h
    rw [decide_eq_true (by dsimp only; omega)]
    rfl

set_option maxHeartbeats 8000000 in
theorem long21 (wait : Int) (v : Value) (l : List Snt) (w : World) (hv : Arr w 5 v l.length (snts l)) : Gives Try.prog 21 #[.int .i64 wait, v] w (.bool (long1 wait l)) := by
  apply gives_of
  rcases arr_cases hv with ⟨a, cap, rfl, h0, _, hmax⟩ | ⟨b, off, cap, rfl, hpos, hlen, hb, hcap, hmax, hcell⟩
  · obtain rfl : l = [] := List.eq_nil_of_length_eq_zero h0
    clear hv
    (go_enter Try.func21, Try.ntmps21; go_wp2_with (fail))
    go_rounds 1
    go_ret
    exact ⟨rfl, by repeat (first | (with_reducible exact Later.refl _) | with_reducible apply Later.latr | with_reducible apply Later.alloc | with_reducible apply Later.drew | (with_reducible refine Later.set ?_ (by (simp; try omega)) _))⟩
  have HC := hid hcell
  clear hcell hv
  (go_enter Try.func21, Try.ntmps21; go_wp2_with (fail))
  go_loopw [6, 7, 8, 16] (fun lo hi m i wr => ∃ k : Nat, k ≤ l.length ∧ i = .int .i64 k ∧ lo = .int .i64 (lgs1 (l.take k) g1).low ∧ hi = .int .i64 (lgs1 (l.take k) g1).high ∧ m = .int .i64 ((lgs1 (l.take k) g1).many : Int) ∧ Later w wr ∧
    Blk wr w.heap.size 51 #[.int .i64 0, .int .i64 0, .int .i64 0, .int .i64 (-1)]) (fun _ _ _ i _ => l.length - (intOf i).toNat)
  case atStart => exact ⟨0, Nat.zero_le _, rfl, rfl, rfl, rfl, (Later.refl _).alloc _, Blk.new _ _ _⟩
  case round =>
    obtain ⟨k, hk, rfl, rfl, rfl, rfl, hl, hB⟩ := hrel
    have hbd := lgs1_bd (l.take k) g1_bd
    rw [List.length_take] at hbd
    by_cases hlt : k < l.length
    · obtain ⟨a0, a1, a2, a3, a4⟩ := snts_at l k hlt
      have c0 : wr.cell? ⟨b, off + k * 5, none⟩ = some _ := (hl.cell hb).trans (HC.out _ _ a0)
      have c1 : wr.cell? ⟨b, off + k * 5 + 1, none⟩ = some _ := (hl.cell hb).trans (HC.out _ _ a1)
      have c2 : wr.cell? ⟨b, off + k * 5 + 2, none⟩ = some _ := (hl.cell hb).trans (HC.out _ _ a2)
      have c3 : wr.cell? ⟨b, off + k * 5 + 3, none⟩ = some _ := (hl.cell hb).trans (HC.out _ _ a3)
      have c4 : wr.cell? ⟨b, off + k * 5 + 4, none⟩ = some _ := (hl.cell hb).trans (HC.out _ _ a4)
      clear a0 a1 a2 a3 a4
      have hbw : b < wr.heap.size := Nat.lt_of_lt_of_le hb hl.size
      have hat := lgs1_take l g1 k hlt
      generalize lgs1 (l.take k) g1 = G at *
      generalize l[k] = s at *
      obtain ⟨⟨q1, q2⟩, ⟨q3, q4⟩, q5⟩ := hbd
      have hc := counted24 { w := 0, s := 0, c := 0, r := -1 } s w.heap.size
      rw [cnt_any] at hc
      unfold lg1 at hat
      generalize cnt0 s = m at *
      have HAT := hid hat
      have HCN := hid hc
      have HL := hid hl
      have HB := hid hB
      clear hat hc hl hB
      go_wp2_with (fail)
      refine (HCN.out _ (HB.out.alloc _)).mono ?_
      rintro e w2 ⟨rfl, x2, rfl⟩
      cases m
      · go_wp2_with (fail)
        go_roundw
        case rel => exact ⟨k + 1, by omega, by go_num, by (rw [HAT.out]; rw [if_neg (by decide)]), by (rw [HAT.out]; rw [if_neg (by decide)]), by (rw [HAT.out]; rw [if_neg (by decide)]), by repeat (first | (with_reducible exact Later.refl _) | (with_reducible exact HL.out) | with_reducible apply Later.latr | with_reducible apply Later.alloc | with_reducible apply Later.drew | (with_reducible refine Later.set ?_ (by (simp; try omega)) _)), (HB.out.alloc _).latr _⟩
        case measure => simp [intOf]; omega
      · go_wp2_with (fail)
        refine wp_region_calm (by kernel_rfl) (by kernel_rfl) ?_
        (repeat (go_big_quiet_step (fail)))
        refine wpQuiet_nil ?_
        rintro _ ⟨x, rfl⟩
        go_wp2_with (fail)
        go_roundw
        case rel => exact ⟨k + 1, by omega, by go_num, by (rw [HAT.out]; (first | rw [if_pos rfl] | rw [if_pos trivial])), by (rw [HAT.out]; (first | rw [if_pos rfl] | rw [if_pos trivial])), by (rw [HAT.out]; (first | rw [if_pos rfl] | rw [if_pos trivial]); go_num), by repeat (first | (with_reducible exact Later.refl _) | (with_reducible exact HL.out) | with_reducible apply Later.latr | with_reducible apply Later.alloc | with_reducible apply Later.drew | (with_reducible refine Later.set ?_ (by (simp; try omega)) _)), ((HB.out.alloc _).latr _).latr _⟩
        case measure => simp [intOf]; omega
    · obtain rfl : k = l.length := by omega
      rw [List.take_length] at *
      have hres : long1 wait l = isLong wait (lgs1 l g1) := rfl
      unfold isLong at hres
      generalize lgs1 l g1 = G at *
      obtain ⟨⟨q1, q2⟩, ⟨q3, q4⟩, q5⟩ := hbd
      have ht := time25 wait
      have htb := clT_bd wait
      generalize clT wait = T at *
      have HT := hid ht
      have HL := hid hl
      have HR := hid hres
      clear ht hl hB hres
      by_cases hm : 2 ≤ G.many
      · have hd : decide ((1 : Int) < (G.many : Int)) = true := decide_eq_true (by omega)
        go_wp2_with (fail)
        (refine (HT.out _).mono ?_; rintro e w1 ⟨rfl, x1, rfl⟩; go_wp2_with (fail))
        go_ret
        exact ⟨by rw [HR.out, decide_eq_true hm]; rfl, by repeat (first | (with_reducible exact Later.refl _) | (with_reducible exact HL.out) | with_reducible apply Later.latr | with_reducible apply Later.alloc | with_reducible apply Later.drew | (with_reducible refine Later.set ?_ (by (simp; try omega)) _))⟩
      · have hd : decide ((1 : Int) < (G.many : Int)) = false := decide_eq_false (by omega)
        go_wp2_with (fail)
        go_ret
        exact ⟨by rw [HR.out, decide_eq_false hm]; rfl, by repeat (first | (with_reducible exact Later.refl _) | (with_reducible exact HL.out) | with_reducible apply Later.latr | with_reducible apply Later.alloc | with_reducible apply Later.drew | (with_reducible refine Later.set ?_ (by (simp; try omega)) _))⟩

set_option maxHeartbeats 8000000 in
theorem long22 (wait : Int) (v : Value) (l : List Snt) (w : World) (hv : Arr w 5 v l.length (snts l)) : Gives Try.prog 22 #[.int .i64 wait, v] w (.bool (long2 wait l)) := by
  apply gives_of
  rcases arr_cases hv with ⟨a, cap, rfl, h0, _, hmax⟩ | ⟨b, off, cap, rfl, hpos, hlen, hb, hcap, hmax, hcell⟩
  · obtain rfl : l = [] := List.eq_nil_of_length_eq_zero h0
    clear hv
    (go_enter Try.func22, Try.ntmps22; go_wp2_with (fail))
    go_rounds 1
    go_ret
    exact ⟨rfl, by repeat (first | (with_reducible exact Later.refl _) | with_reducible apply Later.latr | with_reducible apply Later.alloc | with_reducible apply Later.drew | (with_reducible refine Later.set ?_ (by (simp; try omega)) _))⟩
  have HC := hid hcell
  clear hcell hv
  (go_enter Try.func22, Try.ntmps22; go_wp2_with (fail))
  go_loopw [5, 6, 7, 8] (fun m lo hi i wr => ∃ k : Nat, k ≤ l.length ∧ i = .int .i64 k ∧ lo = .int .i64 (lgs2 (l.take k) g2).low ∧ hi = .int .i64 (lgs2 (l.take k) g2).high ∧ m = .int .i64 ((lgs2 (l.take k) g2).many : Int) ∧ Later w wr) (fun _ _ _ i _ => l.length - (intOf i).toNat)
  case atStart => exact ⟨0, Nat.zero_le _, rfl, rfl, rfl, rfl, Later.refl _⟩
  case round =>
    obtain ⟨k, hk, rfl, rfl, rfl, rfl, hl⟩ := hrel
    have hbd := lgs2_bd (l.take k) g2_bd
    rw [List.length_take] at hbd
    by_cases hlt : k < l.length
    · obtain ⟨a0, a1, a2, a3, a4⟩ := snts_at l k hlt
      have c0 : wr.cell? ⟨b, off + k * 5, none⟩ = some _ := (hl.cell hb).trans (HC.out _ _ a0)
      have c1 : wr.cell? ⟨b, off + k * 5 + 1, none⟩ = some _ := (hl.cell hb).trans (HC.out _ _ a1)
      have c2 : wr.cell? ⟨b, off + k * 5 + 2, none⟩ = some _ := (hl.cell hb).trans (HC.out _ _ a2)
      have c3 : wr.cell? ⟨b, off + k * 5 + 3, none⟩ = some _ := (hl.cell hb).trans (HC.out _ _ a3)
      have c4 : wr.cell? ⟨b, off + k * 5 + 4, none⟩ = some _ := (hl.cell hb).trans (HC.out _ _ a4)
      clear a0 a1 a2 a3 a4
      have hbw : b < wr.heap.size := Nat.lt_of_lt_of_le hb hl.size
      have hat := lgs2_take l g2 k hlt
      generalize lgs2 (l.take k) g2 = G at *
      generalize l[k] = s at *
      obtain ⟨⟨q1, q2⟩, ⟨q3, q4⟩, q5⟩ := hbd
      have hc := counted29 s
      unfold lg2 at hat
      generalize cnt0 s = m at *
      have HAT := hid hat
      have HCN := hid hc
      have HL := hid hl
      clear hat hc hl
      go_wp2_with (fail)
      refine (HCN.out _).mono ?_
      rintro e w2 ⟨rfl, x2, rfl⟩
      cases m
      · go_wp2_with (fail)
        go_roundw
        case rel => exact ⟨k + 1, by omega, by go_num, by (rw [HAT.out]; rw [if_neg (by decide)]), by (rw [HAT.out]; rw [if_neg (by decide)]), by (rw [HAT.out]; rw [if_neg (by decide)]), by repeat (first | (with_reducible exact Later.refl _) | (with_reducible exact HL.out) | with_reducible apply Later.latr | with_reducible apply Later.alloc | with_reducible apply Later.drew | (with_reducible refine Later.set ?_ (by (simp; try omega)) _))⟩
        case measure => simp [intOf]; omega
      · by_cases h0 : G.many = 0
        · have hd : ((G.many : Int) == 0) = true := by rw [h0]; rfl
          have hd' : decide ((G.many : Int) = 0) = true := decide_eq_true (by omega)
          have hor : G.many = 0 ∨ s.t < G.low := .inl h0
          have HOR := hid hor
          clear hor h0
          go_wp2_with (fail)
          go_roundw
          case rel => exact ⟨k + 1, by omega, by go_num, by (rw [HAT.out]; (first | rw [if_pos rfl] | rw [if_pos trivial]); dsimp only; rw [if_pos HOR.out]), by (rw [HAT.out]; (first | rw [if_pos rfl] | rw [if_pos trivial])), by (rw [HAT.out]; (first | rw [if_pos rfl] | rw [if_pos trivial]); go_num), by repeat (first | (with_reducible exact Later.refl _) | (with_reducible exact HL.out) | with_reducible apply Later.latr | with_reducible apply Later.alloc | with_reducible apply Later.drew | (with_reducible refine Later.set ?_ (by (simp; try omega)) _))⟩
          case measure => simp [intOf]; omega
        · have hd : ((G.many : Int) == 0) = false := by simpa using h0
          have hd' : decide ((G.many : Int) = 0) = false := decide_eq_false (by omega)
          by_cases h1 : s.t < G.low
          · have hor : G.many = 0 ∨ s.t < G.low := .inr h1
            have HOR := hid hor
            have he : decide (s.t < G.low) = true := decide_eq_true h1
            clear hor h0
            go_wp2_with (fail)
            go_roundw
            case rel => exact ⟨k + 1, by omega, by go_num, by (rw [HAT.out]; (first | rw [if_pos rfl] | rw [if_pos trivial]); dsimp only; rw [if_pos HOR.out]), by (rw [HAT.out]; (first | rw [if_pos rfl] | rw [if_pos trivial])), by (rw [HAT.out]; (first | rw [if_pos rfl] | rw [if_pos trivial]); go_num), by repeat (first | (with_reducible exact Later.refl _) | (with_reducible exact HL.out) | with_reducible apply Later.latr | with_reducible apply Later.alloc | with_reducible apply Later.drew | (with_reducible refine Later.set ?_ (by (simp; try omega)) _))⟩
            case measure => simp [intOf]; omega
          · have hor : ¬ (G.many = 0 ∨ s.t < G.low) := by omega
            have HOR := hid hor
            have he : decide (s.t < G.low) = false := decide_eq_false h1
            clear hor h0
            go_wp2_with (fail)
            go_roundw
            case rel => exact ⟨k + 1, by omega, by go_num, by (rw [HAT.out]; (first | rw [if_pos rfl] | rw [if_pos trivial]); dsimp only; rw [if_neg HOR.out]), by (rw [HAT.out]; (first | rw [if_pos rfl] | rw [if_pos trivial])), by (rw [HAT.out]; (first | rw [if_pos rfl] | rw [if_pos trivial]); go_num), by repeat (first | (with_reducible exact Later.refl _) | (with_reducible exact HL.out) | with_reducible apply Later.latr | with_reducible apply Later.alloc | with_reducible apply Later.drew | (with_reducible refine Later.set ?_ (by (simp; try omega)) _))⟩
            case measure => simp [intOf]; omega
    · obtain rfl : k = l.length := by omega
      rw [List.take_length] at *
      have hres : long2 wait l = isLong wait (lgs2 l g2) := rfl
      unfold isLong clT at hres
      generalize lgs2 l g2 = G at *
      obtain ⟨⟨q1, q2⟩, ⟨q3, q4⟩, q5⟩ := hbd
      have HL := hid hl
      have HR := hid hres
      clear hl hres
      have htb : 0 ≤ min (max wait 0) 1099511627776 ∧ min (max wait 0) 1099511627776 ≤ 1099511627776 := by omega
      by_cases hm : 2 ≤ G.many
      · have hd : decide ((2 : Int) ≤ (G.many : Int)) = true := decide_eq_true (by omega)
        go_wp2_with (fail)
        go_ret
        exact ⟨by rw [HR.out, decide_eq_true hm]; rfl, by repeat (first | (with_reducible exact Later.refl _) | (with_reducible exact HL.out) | with_reducible apply Later.latr | with_reducible apply Later.alloc | with_reducible apply Later.drew | (with_reducible refine Later.set ?_ (by (simp; try omega)) _))⟩
      · have hd : decide ((2 : Int) ≤ (G.many : Int)) = false := decide_eq_false (by omega)
        go_wp2_with (fail)
        go_ret
        exact ⟨by rw [HR.out, decide_eq_false hm]; rfl, by repeat (first | (with_reducible exact Later.refl _) | (with_reducible exact HL.out) | with_reducible apply Later.latr | with_reducible apply Later.alloc | with_reducible apply Later.drew | (with_reducible refine Later.set ?_ (by (simp; try omega)) _))⟩
end Go.Proofs.Ytkmffpgejnafaaa
