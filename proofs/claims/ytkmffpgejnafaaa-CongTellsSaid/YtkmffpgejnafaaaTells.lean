/- CongTells: its walk, which answers true. No condition. -/
import Derived.Test.YtkmffpgejnafaaaAwake
import Derived.Test.YtkmffpgejnafaaaRefl
import Derived.Test.YtkmffpgejnafaaaLong
namespace Go.Proofs.Ytkmffpgejnafaaa
open Go.RowKit
attribute [local go_sem] ite_max ite_min
attribute [local go_sem] h_lt1 h_lt2 h_lt3 h_lt4 h_lt5 h_lt6 h_eq1 h_qe1 h_eq2 h_qe2 h_eq3 h_qe3 h_eq4 h_qe4 h_eq5 h_qe5 h_eq6 h_qe6

set_option maxHeartbeats 8000000 in
theorem tells7 (r : Rn) (now : Int) (v : Value) (l : List Snt) (f z wait : Int) (w : World) (hv : Arr w 5 v l.length (snts l)) :
    Calls Try.prog 7 #[rv r, .int .i64 now, v, .int .i64 f, .int .i64 z, .int .i64 wait] w fun e w' => e = .returned (.bool true) ∧ Later w w' := by
  by_cases h200 : l.length ≤ 200
  case neg =>
    rcases arr_cases hv with ⟨a, cap, rfl, h0, _, hmax⟩ | ⟨b, off, cap, rfl, hpos, hlen, hb, hcap, hmax, hcell⟩
    · omega
    clear hcell hv
    have hd : decide (200 < (l.length : Int)) = true := decide_eq_true (by omega)
    (go_enter Try.func7, Try.ntmps7; go_wp2_with (fail))
    (refine (awake9 _).mono ?_; rintro e w1 ⟨rfl, x1, rfl⟩; go_wp2_with (fail))
    go_ret
    exact ⟨rfl, by repeat (first | (with_reducible exact Later.refl _) | with_reducible apply Later.latr | with_reducible apply Later.alloc | with_reducible apply Later.drew | (with_reducible refine Later.set ?_ (by (simp; try omega)) _))⟩
  have hd : decide (200 < (l.length : Int)) = false := decide_eq_false (by omega)
  have hc14 := check14 r
  have hc15 := check15 r
  have hm16 := may16 r f z
  have hm17 := may17 r f z
  have ha13 := fun W (h : Arr W 5 v l.length (snts l)) => acked13 r v l W h
  have ha18 := fun W (h : Arr W 5 v l.length (snts l)) => acked18 r v l W h
  have hl12 := fun W (h : Arr W 5 v l.length (snts l)) => lost12 r now v l W h
  have hl19 := fun W (h : Arr W 5 v l.length (snts l)) => lost19 r now v l W h
  have hf11 := fall11 r
  have hf20 := fall20 r
  have hg21 := fun W (h : Arr W 5 v l.length (snts l)) => long21 wait v l W h
  have hg22 := fun W (h : Arr W 5 v l.length (snts l)) => long22 wait v l W h
  rw [← long_same] at hg22
  generalize chk r = b1 at *
  generalize may (ofR r) f z = b2 at *
  generalize acks l (ofR r) = q1 at *
  generalize loses now l (ofR r) = q2 at *
  generalize fall (ofR r) = q3 at *
  generalize long1 wait l = b3 at *
  have HV := hid hv
  have H14 := hid hc14
  have H15 := hid hc15
  have H16 := hid hm16
  have H17 := hid hm17
  have H13 := hid ha13
  have H18 := hid ha18
  have H12 := hid hl12
  have H19 := hid hl19
  have H11 := hid hf11
  have H20 := hid hf20
  have H21 := hid hg21
  have H22 := hid hg22
  clear hc14 hc15 hm16 hm17 ha13 ha18 hl12 hl19 hf11 hf20 hg21 hg22
  have hsl : ∃ a cap, v = .slice a l.length cap := by obtain ⟨_, a, cap, h, _⟩ := hv; exact ⟨a, cap, h⟩
  obtain ⟨a, cp, rfl⟩ := hsl
  clear hv
  have hlen : (l.length : Int) ≤ 200 := by omega
  (go_enter Try.func7, Try.ntmps7; go_wp2_with (fail))
  refine (awake9 _).mono ?_
  rintro e w1 ⟨rfl, x1, rfl⟩
  obtain ⟨W0, hW0⟩ : ∃ W0, W0 = latr _ x1 := ⟨_, rfl⟩
  rw [← hW0]
  have HL := hid (by rw [hW0]; exact (by repeat (first | (with_reducible exact Later.refl _) | with_reducible apply Later.latr | with_reducible apply Later.alloc | with_reducible apply Later.drew | (with_reducible refine Later.set ?_ (by (simp; try omega)) _))) : Later w W0)
  have hBr : Blk W0 w.heap.size 25 (rc r) := by rw [hW0]; exact (Blk.new _ _ _).latr _
  clear hW0
  (obtain ⟨hcr0, hcr1, hcr2, hcr3, hfr0, hfr1, hfr2, hfr3, hgr⟩ := Blk.at4 (hBr))
  have HA := hid (HV.out.later HL.out)
  clear hBr
  go_wp2_with (fail)
  refine wp_region_calm (by kernel_rfl) (by kernel_rfl) ?_
  (repeat (go_big_quiet_step (fail)))
  go_big_quiet_step ((go_at_call 14; exact calm_of (H14.out _)))
  (repeat (go_big_quiet_step (fail)))
  go_big_quiet_step ((go_at_call 15; exact calm_of (H15.out _)))
  (repeat (go_big_quiet_step (fail)))
  go_big_quiet_step ((go_at_call 16; exact calm_of (H16.out _)))
  (repeat (go_big_quiet_step (fail)))
  go_big_quiet_step ((go_at_call 17; exact calm_of (H17.out _)))
  (repeat (go_big_quiet_step (fail)))
  refine wpQuiet_nil ?_
  rintro _ ⟨x, rfl⟩
  go_wp2_with (fail)
  refine wp_region_calm (by kernel_rfl) (by kernel_rfl) ?_
  (repeat (go_big_quiet_step (fail)))
  go_big_quiet_step ((go_at_call 13; exact calm_of (H13.out _ (HA.out.later ((latr_later _ _).trans (latr_later _ _))))))
  (repeat (go_big_quiet_step (fail)))
  go_big_quiet_step ((go_at_call 18; exact calm_of (H18.out _ (HA.out.later ((latr_later _ _).trans (latr_later _ _))))))
  (repeat (go_big_quiet_step (fail)))
  go_big_quiet_step ((go_at_call 12; exact calm_of (H12.out _ (HA.out.later ((latr_later _ _).trans (latr_later _ _))))))
  (repeat (go_big_quiet_step (fail)))
  go_big_quiet_step ((go_at_call 19; exact calm_of (H19.out _ (HA.out.later ((latr_later _ _).trans (latr_later _ _))))))
  (repeat (go_big_quiet_step (fail)))
  refine wpQuiet_nil ?_
  rintro _ ⟨x2, rfl⟩
  go_wp2_with (fail)
  refine wp_region_calm (by kernel_rfl) (by kernel_rfl) ?_
  (repeat (go_big_quiet_step (fail)))
  go_big_quiet_step ((go_at_call 11; exact calm_of (H11.out _)))
  (repeat (go_big_quiet_step (fail)))
  go_big_quiet_step ((go_at_call 20; exact calm_of (H20.out _)))
  (repeat (go_big_quiet_step (fail)))
  go_big_quiet_step ((go_at_call 21; exact calm_of (H21.out _ (HA.out.later (((latr_later _ _).trans (latr_later _ _)).trans (latr_later _ _))))))
  (repeat (go_big_quiet_step (fail)))
  go_big_quiet_step ((go_at_call 22; exact calm_of (H22.out _ (HA.out.later (((latr_later _ _).trans (latr_later _ _)).trans (latr_later _ _))))))
  (repeat (go_big_quiet_step (fail)))
  refine wpQuiet_nil ?_
  rintro _ ⟨x3, rfl⟩
  go_wp2_with (fail)
  go_ret
  exact ⟨rfl, by repeat (first | (with_reducible exact Later.refl _) | (with_reducible exact HL.out) | with_reducible apply Later.latr | with_reducible apply Later.alloc | with_reducible apply Later.drew | (with_reducible refine Later.set ?_ (by (simp; try omega)) _))⟩
end Go.Proofs.Ytkmffpgejnafaaa
