/- The walks of the reference's count of a packet, and what may go. No condition. -/
import Derived.Test.YtkmffpgejnafaaaWindow
import Derived.Test.YtkmffpgejnafaaaSizes
namespace Go.Proofs.Ytkmffpgejnafaaa
open Go.RowKit
attribute [local go_sem] ite_max ite_min
attribute [local go_sem] h_lt1 h_lt2 h_lt3 h_lt4 h_lt5 h_lt6 h_eq1 h_qe1 h_eq2 h_qe2 h_eq3 h_qe3 h_eq4 h_qe4 h_eq5 h_qe5 h_eq6 h_qe6
set_option maxHeartbeats 4000000 in
theorem counted29 (s : Snt) (w : World) : Gives Try.prog 29 #[sv s] w (.bool (cnt0 s)) := by
  apply gives_of
  obtain ⟨k, t, z, e, p⟩ := s
  have hc : cnt0 ⟨k, t, z, e, p⟩ = (e && decide (1 ≤ z) && decide (z ≤ 65535) && decide (0 ≤ t) && decide (t ≤ 1099511627776)) := by
    simp [cnt0, inB, Bool.and_assoc]
  rw [hc]
  clear hc
  cases e
  · (go_enter Try.func29, Try.ntmps29; go_wp2_with (fail))
    go_ret
    exact ⟨rfl, by repeat (first | (with_reducible exact Later.refl _) | with_reducible apply Later.latr | with_reducible apply Later.alloc | with_reducible apply Later.drew | (with_reducible refine Later.set ?_ (by (simp; try omega)) _))⟩
  cases z1 : decide (1 ≤ z)
  · (go_enter Try.func29, Try.ntmps29; go_wp2_with (fail))
    go_ret
    exact ⟨rfl, by repeat (first | (with_reducible exact Later.refl _) | with_reducible apply Later.latr | with_reducible apply Later.alloc | with_reducible apply Later.drew | (with_reducible refine Later.set ?_ (by (simp; try omega)) _))⟩
  cases z2 : decide (z ≤ 65535)
  · (go_enter Try.func29, Try.ntmps29; go_wp2_with (fail))
    go_ret
    exact ⟨rfl, by repeat (first | (with_reducible exact Later.refl _) | with_reducible apply Later.latr | with_reducible apply Later.alloc | with_reducible apply Later.drew | (with_reducible refine Later.set ?_ (by (simp; try omega)) _))⟩
  cases t1 : decide (0 ≤ t)
  · (go_enter Try.func29, Try.ntmps29; go_wp2_with (fail))
    go_ret
    exact ⟨rfl, by repeat (first | (with_reducible exact Later.refl _) | with_reducible apply Later.latr | with_reducible apply Later.alloc | with_reducible apply Later.drew | (with_reducible refine Later.set ?_ (by (simp; try omega)) _))⟩
  (go_enter Try.func29, Try.ntmps29; go_wp2_with (fail))
  go_ret
  exact ⟨rfl, by repeat (first | (with_reducible exact Later.refl _) | with_reducible apply Later.latr | with_reducible apply Later.alloc | with_reducible apply Later.drew | (with_reducible refine Later.set ?_ (by (simp; try omega)) _))⟩

set_option maxHeartbeats 4000000 in
theorem may16 (r : Rn) (f z : Int) (w : World) : Gives Try.prog 16 #[rv r, .int .i64 f, .int .i64 z] w (.bool (may (ofR r) f z)) := by
  apply gives_of
  have ho := of23 r
  generalize ofR r = q at *
  unfold may
  have h1 := within27 f 0 96000
  have h2 := within27 z 0 96000
  have b1' : inB f 0 96000 = true → 0 ≤ f ∧ f ≤ 96000 := inB_true.1
  have b2' : inB z 0 96000 = true → 0 ≤ z ∧ z ≤ 96000 := inB_true.1
  generalize inB f 0 96000 = b1 at *
  generalize inB z 0 96000 = b2 at *
  have HO := hid ho
  have H1 := hid h1
  have H2 := hid h2
  clear ho h1 h2
  cases b1
  · clear b1' b2'
    (go_enter Try.func16, Try.ntmps16; go_wp2_with (fail))
    refine (HO.out _).mono ?_
    rintro e w1 ⟨g, x, rfl, hx, hlt, hB⟩
    rw [← hx] at hB
    have HL := hid (Later.trans (a := w) (by repeat (first | (with_reducible exact Later.refl _) | with_reducible apply Later.latr | with_reducible apply Later.alloc | with_reducible apply Later.drew | (with_reducible refine Later.set ?_ (by (simp; try omega)) _))) (hx ▸ latr_later _ _))
    clear hx
    have HB := hid hB
    clear hB hlt
    go_wp2_with (fail)
    (refine (H1.out _).mono ?_; rintro e w1 ⟨rfl, x1, rfl⟩; go_wp2_with (fail))
    go_ret
    exact ⟨rfl, by repeat (first | (with_reducible exact Later.refl _) | (with_reducible exact HL.out) | with_reducible apply Later.latr | with_reducible apply Later.alloc | with_reducible apply Later.drew | (with_reducible refine Later.set ?_ (by (simp; try omega)) _))⟩
  cases b2
  · clear b1' b2'
    (go_enter Try.func16, Try.ntmps16; go_wp2_with (fail))
    refine (HO.out _).mono ?_
    rintro e w1 ⟨g, x, rfl, hx, hlt, hB⟩
    rw [← hx] at hB
    have HL := hid (Later.trans (a := w) (by repeat (first | (with_reducible exact Later.refl _) | with_reducible apply Later.latr | with_reducible apply Later.alloc | with_reducible apply Later.drew | (with_reducible refine Later.set ?_ (by (simp; try omega)) _))) (hx ▸ latr_later _ _))
    clear hx
    have HB := hid hB
    clear hB hlt
    go_wp2_with (fail)
    (refine (H1.out _).mono ?_; rintro e w1 ⟨rfl, x1, rfl⟩; go_wp2_with (fail))
    (refine (H2.out _).mono ?_; rintro e w1 ⟨rfl, x1, rfl⟩; go_wp2_with (fail))
    go_ret
    exact ⟨rfl, by repeat (first | (with_reducible exact Later.refl _) | (with_reducible exact HL.out) | with_reducible apply Later.latr | with_reducible apply Later.alloc | with_reducible apply Later.drew | (with_reducible refine Later.set ?_ (by (simp; try omega)) _))⟩
  obtain ⟨f1, f2⟩ := b1' rfl
  obtain ⟨z1, z2⟩ := b2' rfl
  clear b1' b2'
  (go_enter Try.func16, Try.ntmps16; go_wp2_with (fail))
  refine (HO.out _).mono ?_
  rintro e w1 ⟨g, x, rfl, hx, hlt, hB⟩
  rw [← hx] at hB
  have HL := hid (Later.trans (a := w) (by repeat (first | (with_reducible exact Later.refl _) | with_reducible apply Later.latr | with_reducible apply Later.alloc | with_reducible apply Later.drew | (with_reducible refine Later.set ?_ (by (simp; try omega)) _))) (hx ▸ latr_later _ _))
  clear hx
  have c0 : w1.cell? ⟨g, 0, none⟩ = some (.int .i64 q.w) := hB.cell 0
  have hg := hB.lt
  have HB := hid hB
  clear hB hlt
  go_wp2_with (fail)
  (refine (H1.out _).mono ?_; rintro e w1 ⟨rfl, x1, rfl⟩; go_wp2_with (fail))
  (refine (H2.out _).mono ?_; rintro e w1 ⟨rfl, x1, rfl⟩; go_wp2_with (fail))
  go_ret
  exact ⟨rfl, by repeat (first | (with_reducible exact Later.refl _) | (with_reducible exact HL.out) | with_reducible apply Later.latr | with_reducible apply Later.alloc | with_reducible apply Later.drew | (with_reducible refine Later.set ?_ (by (simp; try omega)) _))⟩

set_option maxHeartbeats 4000000 in
theorem may17 (r : Rn) (f z : Int) (w : World) : Gives Try.prog 17 #[rv r, .int .i64 f, .int .i64 z] w (.bool (may (ofR r) f z)) := by
  apply gives_of
  have ho := of28 r
  generalize ofR r = q at *
  have hc : may q f z = (decide (0 ≤ f) && decide (f ≤ 96000) && decide (0 ≤ z) && decide (z ≤ 96000) && decide (f + z ≤ q.w)) := by
    simp [may, inB, Bool.and_assoc]
  rw [hc]
  clear hc
  have HO := hid ho
  clear ho
  by_cases a1 : 0 ≤ f
  rotate_left
  · rw [decide_eq_false a1]
    (go_enter Try.func17, Try.ntmps17; go_wp2_with (fail))
    (refine (HO.out _).mono ?_; rintro e w1 ⟨rfl, x1, rfl⟩; go_wp2_with (fail))
    go_ret
    exact ⟨rfl, by repeat (first | (with_reducible exact Later.refl _) | with_reducible apply Later.latr | with_reducible apply Later.alloc | with_reducible apply Later.drew | (with_reducible refine Later.set ?_ (by (simp; try omega)) _))⟩
  by_cases a2 : f ≤ 96000
  rotate_left
  · rw [decide_eq_true a1, decide_eq_false a2]
    (go_enter Try.func17, Try.ntmps17; go_wp2_with (fail))
    (refine (HO.out _).mono ?_; rintro e w1 ⟨rfl, x1, rfl⟩; go_wp2_with (fail))
    go_ret
    exact ⟨rfl, by repeat (first | (with_reducible exact Later.refl _) | with_reducible apply Later.latr | with_reducible apply Later.alloc | with_reducible apply Later.drew | (with_reducible refine Later.set ?_ (by (simp; try omega)) _))⟩
  by_cases a3 : 0 ≤ z
  rotate_left
  · rw [decide_eq_true a1, decide_eq_true a2, decide_eq_false a3]
    (go_enter Try.func17, Try.ntmps17; go_wp2_with (fail))
    (refine (HO.out _).mono ?_; rintro e w1 ⟨rfl, x1, rfl⟩; go_wp2_with (fail))
    go_ret
    exact ⟨rfl, by repeat (first | (with_reducible exact Later.refl _) | with_reducible apply Later.latr | with_reducible apply Later.alloc | with_reducible apply Later.drew | (with_reducible refine Later.set ?_ (by (simp; try omega)) _))⟩
  by_cases a4 : z ≤ 96000
  rotate_left
  · rw [decide_eq_true a1, decide_eq_true a2, decide_eq_true a3, decide_eq_false a4]
    (go_enter Try.func17, Try.ntmps17; go_wp2_with (fail))
    (refine (HO.out _).mono ?_; rintro e w1 ⟨rfl, x1, rfl⟩; go_wp2_with (fail))
    go_ret
    exact ⟨rfl, by repeat (first | (with_reducible exact Later.refl _) | with_reducible apply Later.latr | with_reducible apply Later.alloc | with_reducible apply Later.drew | (with_reducible refine Later.set ?_ (by (simp; try omega)) _))⟩
  rw [decide_eq_true a1, decide_eq_true a2, decide_eq_true a3, decide_eq_true a4]
  (go_enter Try.func17, Try.ntmps17; go_wp2_with (fail))
  (refine (HO.out _).mono ?_; rintro e w1 ⟨rfl, x1, rfl⟩; go_wp2_with (fail))
  go_ret
  exact ⟨rfl, by repeat (first | (with_reducible exact Later.refl _) | with_reducible apply Later.latr | with_reducible apply Later.alloc | with_reducible apply Later.drew | (with_reducible refine Later.set ?_ (by (simp; try omega)) _))⟩

set_option maxHeartbeats 2000000 in
theorem fall11 (r : Rn) (w : World) : Gives Try.prog 11 #[rv r] w (rv (fall (ofR r))) := by
  apply gives_of
  have ho := of23 r
  generalize ofR r = q at *
  have HO := hid ho
  clear ho
  (go_enter Try.func11, Try.ntmps11; go_wp2_with (fail))
  refine (HO.out _).mono ?_
  rintro e w1 ⟨g, x, rfl, rfl, hlt, hB⟩
  have c0 : (latr _ x).cell? ⟨g, 0, none⟩ = some (.int .i64 q.w) := hB.cell 0
  have c1 : (latr _ x).cell? ⟨g, 1, none⟩ = some (.int .i64 q.s) := hB.cell 1
  have c2 : (latr _ x).cell? ⟨g, 2, none⟩ = some (.int .i64 q.c) := hB.cell 2
  have c3 : (latr _ x).cell? ⟨g, 3, none⟩ = some (.int .i64 q.r) := hB.cell 3
  have f0 : (latr _ x).frozen? ⟨g, 0, none⟩ = false := hB.frozen 0
  have f2 : (latr _ x).frozen? ⟨g, 2, none⟩ = false := hB.frozen 2
  have hg := hB.lt
  simp at hlt
  have n1 : w.heap.size + 1 ≠ g := by omega
  have n2 : g ≠ w.heap.size + 1 := by omega
  clear hB
  go_wp2_with (fail)
  go_returns
  exact ⟨rfl, by repeat (first | (with_reducible exact Later.refl _) | with_reducible apply Later.latr | with_reducible apply Later.alloc | with_reducible apply Later.drew | (with_reducible refine Later.set ?_ (by (simp; try omega)) _))⟩

set_option maxHeartbeats 2000000 in
theorem fall20 (r : Rn) (w : World) : Gives Try.prog 20 #[rv r] w (rv (fall (ofR r))) := by
  apply gives_of
  have ho := of28 r
  generalize ofR r = q at *
  have HO := hid ho
  clear ho
  (go_enter Try.func20, Try.ntmps20; go_wp2_with (fail))
  (refine (HO.out _).mono ?_; rintro e w1 ⟨rfl, x1, rfl⟩; go_wp2_with (fail))
  go_returns
  exact ⟨rfl, by repeat (first | (with_reducible exact Later.refl _) | with_reducible apply Later.latr | with_reducible apply Later.alloc | with_reducible apply Later.drew | (with_reducible refine Later.set ?_ (by (simp; try omega)) _))⟩
end Go.Proofs.Ytkmffpgejnafaaa
