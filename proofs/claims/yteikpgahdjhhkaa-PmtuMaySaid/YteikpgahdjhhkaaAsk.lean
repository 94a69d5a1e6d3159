/- The walks of package pmtu's asks, large and Ask. No condition. -/
import Derived.Test.YteikpgahdjhhkaaWr
import Derived.Test.YteikpgahdjhhkaaSizes
import Derived.Test.YteikpgahdjhhkaaWalks
namespace Go.Proofs.Yteikpgahdjhhkaa
open Go.RowKit
attribute [local go_sem] ite_max ite_min
attribute [local go_sem] h_lt1 h_lt2 h_lt3 h_lt4 h_lt5 h_lt6 h_eq1 h_qe1 h_eq2 h_qe2 h_eq3 h_qe3 h_eq4 h_qe4 h_eq5 h_qe5 h_eq6 h_qe6

set_option maxHeartbeats 4000000 in
theorem asks24 (q : Pt) (s : Snt) (w : World) : Gives Try.prog 24 #[pv q, sv s] w (.bool (asks q s)) := by
  apply gives_of
  obtain ⟨z, hh, a, ff, bb⟩ := q
  obtain ⟨k, t, sz, e, p⟩ := s
  unfold asks
  dsimp only
  by_cases h1 : a = 0
  · have e1 : (a == 0) = true := by simpa using h1
    have e2 : decide (a = 0) = true := decide_eq_true h1
    have e3 : (a != 0) = false := by simpa using h1
    have e4 : decide (a ≠ 0) = false := by simpa using h1
    rw [e4]
    clear h1 e4
    (go_enter Try.func24, Try.ntmps24; go_wp2_with (fail))
    go_ret
    exact ⟨rfl, by repeat (first | (with_reducible exact Later.refl _) | with_reducible apply Later.latr | with_reducible apply Later.alloc | with_reducible apply Later.drew | (with_reducible refine Later.set ?_ (by (simp; try omega)) _))⟩
  · have e1 : (a == 0) = false := by simpa using h1
    have e2 : decide (a = 0) = false := decide_eq_false h1
    have e3 : (a != 0) = true := by simpa using h1
    have e4 : decide (a ≠ 0) = true := by simpa using h1
    rw [e4]
    clear h1 e4
    by_cases h2 : sz = a
    · subst h2
      rw [decide_eq_true rfl]
      cases p
      · (go_enter Try.func24, Try.ntmps24; go_wp2_with (fail))
        go_ret
        exact ⟨rfl, by repeat (first | (with_reducible exact Later.refl _) | with_reducible apply Later.latr | with_reducible apply Later.alloc | with_reducible apply Later.drew | (with_reducible refine Later.set ?_ (by (simp; try omega)) _))⟩
      · (go_enter Try.func24, Try.ntmps24; go_wp2_with (fail))
        go_ret
        exact ⟨rfl, by repeat (first | (with_reducible exact Later.refl _) | with_reducible apply Later.latr | with_reducible apply Later.alloc | with_reducible apply Later.drew | (with_reducible refine Later.set ?_ (by (simp; try omega)) _))⟩
    · have g1 : (sz == a) = false := by simpa using h2
      have g2 : decide (sz = a) = false := decide_eq_false h2
      rw [g2]
      clear h2
      cases p
      · (go_enter Try.func24, Try.ntmps24; go_wp2_with (fail))
        go_ret
        exact ⟨rfl, by repeat (first | (with_reducible exact Later.refl _) | with_reducible apply Later.latr | with_reducible apply Later.alloc | with_reducible apply Later.drew | (with_reducible refine Later.set ?_ (by (simp; try omega)) _))⟩
      · (go_enter Try.func24, Try.ntmps24; go_wp2_with (fail))
        go_ret
        exact ⟨rfl, by repeat (first | (with_reducible exact Later.refl _) | with_reducible apply Later.latr | with_reducible apply Later.alloc | with_reducible apply Later.drew | (with_reducible refine Later.set ?_ (by (simp; try omega)) _))⟩
set_option maxHeartbeats 1000000 in
theorem large25 (s : Snt) (w : World) : Gives Try.prog 25 #[sv s] w (.bool (large s)) := by
  apply gives_of
  obtain ⟨k, t, sz, e, p⟩ := s
  unfold large
  dsimp only
  cases p
  · (go_enter Try.func25, Try.ntmps25; go_wp2_with (fail))
    go_ret
    exact ⟨rfl, by repeat (first | (with_reducible exact Later.refl _) | with_reducible apply Later.latr | with_reducible apply Later.alloc | with_reducible apply Later.drew | (with_reducible refine Later.set ?_ (by (simp; try omega)) _))⟩
  · (go_enter Try.func25, Try.ntmps25; go_wp2_with (fail))
    go_ret
    exact ⟨rfl, by repeat (first | (with_reducible exact Later.refl _) | with_reducible apply Later.latr | with_reducible apply Later.alloc | with_reducible apply Later.drew | (with_reducible refine Later.set ?_ (by (simp; try omega)) _))⟩

set_option maxHeartbeats 4000000 in
theorem ask13 (q : Pt) (w : World) : Gives Try.prog 13 #[pv q] w (pv (ask (ofP q))) := by
  apply gives_of
  have h := of22 q
  have hn := next11 (ofP q)
  rw [of_ok (ok_of q)] at hn
  have hk : ask (ofP q) = { z := (ofP q).z, h := (ofP q).h, a := max (ofP q).a (next (ofP q)), f := (ofP q).f, b := (ofP q).b } := rfl
  rw [hk]
  generalize next (ofP q) = n at *
  generalize ofP q = r at *
  clear hk
  have H := hid h
  have HN := hid hn
  clear h hn
  (go_enter Try.func13, Try.ntmps13; go_wp2_with (fail))
  refine (H.out _).later.mono ?_
  rintro e w1 ⟨rfl, hl1⟩
  have HB := hid (((Blk.new w 23 #[.int .i64 q.z, .int .i64 q.h, .int .i64 q.a, .int .i64 q.f, .int .i64 q.b]).alloc (.cells #[.int .i64 0, .int .i64 0, .int .i64 0, .int .i64 0, .int .i64 0] 23)).later hl1)
  have HR := hid ((blk_new (by simp) : Blk _ (w.heap.size + 1) 23 #[.int .i64 0, .int .i64 0, .int .i64 0, .int .i64 0, .int .i64 0]).later hl1)
  have HL := hid ((((Later.refl w).alloc _).alloc _).trans hl1)
  clear hl1
  (obtain ⟨hca0, hca1, hca2, hca3, hca4, hfa0, hfa1, hfa2, hfa3, hfa4, hga⟩ := Blk.at5 (HB.out))
  go_wp2_with (fail)
  have HB1 := hid (((((HB.out.set_ 0 (.int .i64 r.z)).set_ 1 (.int .i64 r.h)).set_ 2 (.int .i64 r.a)).set_ 3 (.int .i64 r.f)).set_ 4 (.int .i64 r.b))
  have HR1 := hid (((((HR.out.far (p := ⟨w.heap.size, 0, none⟩) (by simp) (.int .i64 r.z)).far (p := ⟨w.heap.size, 1, none⟩) (by simp) (.int .i64 r.h)).far (p := ⟨w.heap.size, 2, none⟩) (by simp) (.int .i64 r.a)).far (p := ⟨w.heap.size, 3, none⟩) (by simp) (.int .i64 r.f)).far (p := ⟨w.heap.size, 4, none⟩) (by simp) (.int .i64 r.b))
  have HL1 := hid (((((HL.out.set (p := ⟨w.heap.size, 0, none⟩) (by simp) (.int .i64 r.z)).set (p := ⟨w.heap.size, 1, none⟩) (by simp) (.int .i64 r.h)).set (p := ⟨w.heap.size, 2, none⟩) (by simp) (.int .i64 r.a)).set (p := ⟨w.heap.size, 3, none⟩) (by simp) (.int .i64 r.f)).set (p := ⟨w.heap.size, 4, none⟩) (by simp) (.int .i64 r.b))
  obtain ⟨W, hW⟩ : ∃ W, W = ((((w1.setCell ⟨w.heap.size, 0, none⟩ (.int .i64 r.z)).setCell ⟨w.heap.size, 1, none⟩ (.int .i64 r.h)).setCell ⟨w.heap.size, 2, none⟩ (.int .i64 r.a)).setCell ⟨w.heap.size, 3, none⟩ (.int .i64 r.f)).setCell ⟨w.heap.size, 4, none⟩ (.int .i64 r.b) := ⟨_, rfl⟩
  rw [← hW] at HB1 HR1 HL1 ⊢
  clear hW
  have hB1 : Blk W w.heap.size 23 (pc r) := HB1.out
  (obtain ⟨hcb0, hcb1, hcb2, hcb3, hcb4, hfb0, hfb1, hfb2, hfb3, hfb4, hgb⟩ := Blk.at5 (hB1))
  clear hB1
  refine wp_region_calm_tail 6 (by kernel_rfl) (by kernel_rfl) ?_
  simp only [List.take_succ_cons, List.take_zero, List.drop_succ_cons, List.drop_zero]
  (repeat (go_big_quiet_step (fail)))
  go_big_quiet_step ((go_at_call 11; exact calm_of (HN.out _)))
  (repeat (go_big_quiet_step (fail)))
  refine wpQuiet_nil ?_
  rintro W2 hW2
  replace hW2 := later_of hW2
  have hB2 : Blk W2 w.heap.size 23 (pc r) := HB1.out.later hW2
  have hR2 : Blk W2 (w.heap.size + 1) 23 #[.int .i64 0, .int .i64 0, .int .i64 0, .int .i64 0, .int .i64 0] := HR1.out.later hW2
  have HL2 := hid (HL1.out.trans hW2)
  (obtain ⟨hcc0, hcc1, hcc2, hcc3, hcc4, hfc0, hfc1, hfc2, hfc3, hfc4, hgc⟩ := Blk.at5 (hB2))
  (obtain ⟨hcd0, hcd1, hcd2, hcd3, hcd4, hfd0, hfd1, hfd2, hfd3, hfd4, hgd⟩ := Blk.at5 (hR2))
  clear hW2 hB2 hR2
  go_wp2_with (fail)
  ((try simp only [Exit.inBlock, Exit.then]); refine bodyPost_ret (by simp [results, Try.results13, go_sem, hcd0, hcd1, hcd2, hcd3, hcd4]; try rfl) rfl ?_)
  exact ⟨rfl, by
    have h1 := HL2.out
    repeat (first | (with_reducible exact h1) | (with_reducible refine Later.set ?_ (by simp) _))⟩

set_option maxHeartbeats 4000000 in
theorem ask14 (q : Pt) (w : World) : Gives Try.prog 14 #[pv q] w (pv (ask (ofP q))) := by
  apply gives_of
  have h := of23 q
  have hn := next12 (ofP q)
  rw [of_ok (ok_of q)] at hn
  rw [ask_same (ok_of q)]
  unfold ask2
  generalize next (ofP q) = n at *
  generalize ofP q = r at *
  have H := hid h
  have HN := hid hn
  clear h hn
  by_cases h0 : n = 0
  · rw [if_neg (by simpa using h0)]
    have e1 : (n == 0) = true := by simpa using h0
    have e2 : decide (n = 0) = true := decide_eq_true h0
    have e3 : (n != 0) = false := by simpa using h0
    clear h0
    (go_enter Try.func14, Try.ntmps14; go_wp2_with (fail))
    (refine (H.out _).mono ?_; rintro e w1 ⟨rfl, x1, rfl⟩; go_wp2_with (fail))
    (refine (HN.out _).mono ?_; rintro e w1 ⟨rfl, x1, rfl⟩; go_wp2_with (fail))
    go_returns
    exact ⟨rfl, by repeat (first | (with_reducible exact Later.refl _) | with_reducible apply Later.latr | with_reducible apply Later.alloc | with_reducible apply Later.drew | (with_reducible refine Later.set ?_ (by (simp; try omega)) _))⟩
  · rw [if_pos h0]
    have e1 : (n == 0) = false := by simpa using h0
    have e2 : decide (n = 0) = false := decide_eq_false h0
    have e3 : (n != 0) = true := by simpa using h0
    clear h0
    (go_enter Try.func14, Try.ntmps14; go_wp2_with (fail))
    (refine (H.out _).mono ?_; rintro e w1 ⟨rfl, x1, rfl⟩; go_wp2_with (fail))
    (refine (HN.out _).mono ?_; rintro e w1 ⟨rfl, x1, rfl⟩; go_wp2_with (fail))
    go_returns
    exact ⟨rfl, by repeat (first | (with_reducible exact Later.refl _) | with_reducible apply Later.latr | with_reducible apply Later.alloc | with_reducible apply Later.drew | (with_reducible refine Later.set ?_ (by (simp; try omega)) _))⟩
end Go.Proofs.Yteikpgahdjhhkaa
