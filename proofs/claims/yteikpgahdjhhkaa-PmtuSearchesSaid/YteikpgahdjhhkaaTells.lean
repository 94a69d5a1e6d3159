/- PmtuTells and PmtuSearches: their walks, which answer true. Of packets that read as a list. -/
import Derived.Test.YteikpgahdjhhkaaAwake
namespace Go.Proofs.Yteikpgahdjhhkaa
open Go.RowKit
attribute [local go_sem] ite_max ite_min
attribute [local go_sem] h_lt1 h_lt2 h_lt3 h_lt4 h_lt5 h_lt6 h_eq1 h_qe1 h_eq2 h_qe2 h_eq3 h_qe3 h_eq4 h_qe4 h_eq5 h_qe5 h_eq6 h_qe6

set_option maxHeartbeats 4000000 in
theorem searches4 (size : Int) (w : World) : Calls Try.prog 4 #[.int .i64 size] w fun e w' => e = .returned (.bool true) ∧ Later w w' := by
  obtain ⟨M, _, hS⟩ := stops size
  have h19 := search19 size M hS
  have h20 := search20 size M hS
  obtain ⟨l1, l2, l3, l4⟩ := stops_law hS
  unfold goes at l2 l3
  generalize (stN size M).z = z at *
  have H19 := hid h19
  have H20 := hid h20
  clear h19 h20 hS
  have hM : (M : Int) ≤ 21 := by omega
  have e0 : IntKind.i64.wrap (min (max size 256) 1500 - 16) = min (max size 256) 1500 - 16 := IntWalk.i64_in _ (by omega)
  have d1 : decide (256 ≤ z) = true := decide_eq_true l1
  have d2 : decide (z ≤ min (max size 256) 1500) = true := decide_eq_true l2
  have d3 : decide (min (max size 256) 1500 - 16 < z) = true := decide_eq_true l3
  have d4 : decide ((M : Int) ≤ 21) = true := decide_eq_true hM
  (go_enter Try.func4, Try.ntmps4; go_wp2_with (fail))
  (refine (awake8 _).mono ?_; rintro e w1 ⟨rfl, x1, rfl⟩; go_wp2_with (fail))
  (refine (H19.out _).mono ?_; rintro e w1 ⟨rfl, x1, rfl⟩; go_wp2_with (fail))
  (refine (H20.out _).mono ?_; rintro e w1 ⟨rfl, x1, rfl⟩; go_wp2_with (fail))
  go_ret
  exact ⟨rfl, by repeat (first | (with_reducible exact Later.refl _) | with_reducible apply Later.latr | with_reducible apply Later.alloc | with_reducible apply Later.drew | (with_reducible refine Later.set ?_ (by (simp; try omega)) _))⟩

set_option maxHeartbeats 8000000 in
theorem tells3 (q : Pt) (v : Value) (l : List Snt) (w : World) (hv : Arr w 5 v l.length (snts l)) : Calls Try.prog 3 #[pv q, v] w fun e w' => e = .returned (.bool true) ∧ Later w w' := by
  by_cases h200 : l.length ≤ 200
  case neg =>
    rcases arr_cases hv with ⟨a, cap, rfl, h0, _, hmax⟩ | ⟨b, off, cap, rfl, hpos, hlen, hb, hcap, hmax, hcell⟩
    · omega
    clear hcell hv
    have hd : decide (200 < (l.length : Int)) = true := decide_eq_true (by omega)
    (go_enter Try.func3, Try.ntmps3; go_wp2_with (fail))
    (refine (awake8 _).mono ?_; rintro e w1 ⟨rfl, x1, rfl⟩; go_wp2_with (fail))
    go_ret
    exact ⟨rfl, by repeat (first | (with_reducible exact Later.refl _) | with_reducible apply Later.latr | with_reducible apply Later.alloc | with_reducible apply Later.drew | (with_reducible refine Later.set ?_ (by (simp; try omega)) _))⟩
  have hd : decide (200 < (l.length : Int)) = false := decide_eq_false (by omega)
  have h9 := check9 q
  have h10 := check10 q
  have h11 := next11 q
  have h12 := next12 q
  have h13 := ask13 q
  have h14 := ask14 q
  have h15 := fun W (h : Arr W 5 v l.length (snts l)) => came15 q v l W h
  have h16 := fun W (h : Arr W 5 v l.length (snts l)) => came16 q v l W h
  have h17 := fun W (h : Arr W 5 v l.length (snts l)) => lost17 q v l W h
  have h18 := fun W (h : Arr W 5 v l.length (snts l)) => lost18 q v l W h
  generalize chk q = b1 at *
  generalize next (ofP q) = n1 at *
  generalize ask (ofP q) = q1 at *
  generalize cames l (ofP q) = q2 at *
  generalize loses l (ofP q) = q3 at *
  have H9 := hid h9
  have H10 := hid h10
  have H11 := hid h11
  have H12 := hid h12
  have H13 := hid h13
  have H14 := hid h14
  have H15 := hid h15
  have H16 := hid h16
  have H17 := hid h17
  have H18 := hid h18
  clear h9 h10 h11 h12 h13 h14 h15 h16 h17 h18
  have HV := hid hv
  have hsl : ∃ a cap, v = .slice a l.length cap := by obtain ⟨_, a, cap, h, _⟩ := hv; exact ⟨a, cap, h⟩
  obtain ⟨a, cp, rfl⟩ := hsl
  clear hv
  have hlen : (l.length : Int) ≤ 200 := by omega
  (go_enter Try.func3, Try.ntmps3; go_wp2_with (fail))
  refine (awake8 _).mono ?_
  rintro e w1 ⟨rfl, x1, rfl⟩
  obtain ⟨W0, hW0⟩ : ∃ W0, W0 = latr _ x1 := ⟨_, rfl⟩
  rw [← hW0]
  have HL := hid (by rw [hW0]; exact (by repeat (first | (with_reducible exact Later.refl _) | with_reducible apply Later.latr | with_reducible apply Later.alloc | with_reducible apply Later.drew | (with_reducible refine Later.set ?_ (by (simp; try omega)) _))) : Later w W0)
  have hBr : Blk W0 w.heap.size 23 (pc q) := by rw [hW0]; exact (Blk.new _ _ _).latr _
  clear hW0
  (obtain ⟨hcr0, hcr1, hcr2, hcr3, hcr4, hfr0, hfr1, hfr2, hfr3, hfr4, hgr⟩ := Blk.at5 (hBr))
  have HA := hid (HV.out.later HL.out)
  clear hBr
  go_wp2_with (fail)
  refine wp_region_calm (by kernel_rfl) (by kernel_rfl) ?_
  (repeat (go_big_quiet_step (fail)))
  go_big_quiet_step ((go_at_call 9; exact calm_of (H9.out _)))
  (repeat (go_big_quiet_step (fail)))
  go_big_quiet_step ((go_at_call 10; exact calm_of (H10.out _)))
  (repeat (go_big_quiet_step (fail)))
  go_big_quiet_step ((go_at_call 11; exact calm_of (H11.out _)))
  (repeat (go_big_quiet_step (fail)))
  go_big_quiet_step ((go_at_call 12; exact calm_of (H12.out _)))
  (repeat (go_big_quiet_step (fail)))
  go_big_quiet_step ((go_at_call 13; exact calm_of (H13.out _)))
  (repeat (go_big_quiet_step (fail)))
  go_big_quiet_step ((go_at_call 14; exact calm_of (H14.out _)))
  (repeat (go_big_quiet_step (fail)))
  go_big_quiet_step ((go_at_call 15; exact calm_of (H15.out _ (HA.out.latr _))))
  (repeat (go_big_quiet_step (fail)))
  go_big_quiet_step ((go_at_call 16; exact calm_of (H16.out _ (HA.out.latr _))))
  (repeat (go_big_quiet_step (fail)))
  go_big_quiet_step ((go_at_call 17; exact calm_of (H17.out _ (HA.out.latr _))))
  (repeat (go_big_quiet_step (fail)))
  go_big_quiet_step ((go_at_call 18; exact calm_of (H18.out _ (HA.out.latr _))))
  (repeat (go_big_quiet_step (fail)))
  refine wpQuiet_nil ?_
  rintro _ ⟨x, rfl⟩
  go_wp2_with (fail)
  go_ret
  exact ⟨rfl, by repeat (first | (with_reducible exact Later.refl _) | (with_reducible exact HL.out) | with_reducible apply Later.latr | with_reducible apply Later.alloc | with_reducible apply Later.drew | (with_reducible refine Later.set ?_ (by (simp; try omega)) _))⟩
end Go.Proofs.Yteikpgahdjhhkaa
