/- The walk of what a rune is behind a byte: the code's. No condition. -/
import Derived.Test.YtlkiogjjhhafnaaBits
import Derived.Test.YtlkiogjjhhafnaaSpet
import Derived.Deep.RegionLaw
namespace Go.Proofs.Ytlkiogjjhhafnaa
open Go.RowKit
attribute [local go_sem] ite_max ite_min
attribute [local go_sem] h_lt1 h_lt2 h_lt3 h_lt4 h_lt5 h_lt6 h_eq1 h_qe1 h_eq2 h_qe2 h_eq3 h_qe3 h_eq4 h_qe4 h_eq5 h_qe5 h_eq6 h_qe6

theorem info3 : (Try.prog.info? 3).map (fun i => (i.zero, i.size, i.bytes)) = some (some (.int .i64 0), 1, 8) := by kernel_rfl
theorem step_of {P : Program} {ops : Array Oper} {o : Oper} {a : Act} {K : Act → World → Prop} {Q : Exit → Act → World → Prop} {E : Prop} {W : World} (hgd : o.guard = none) (h : o.wp P a W K Q) : if Region.wanted o (yielded ops a.tmps) = true then Oper.wp P o a W K Q else E := by
  rw [if_pos (by simp [Region.wanted, hgd])]
  exact h
theorem ints_one (l : List Int) : ∀ u ∈ l.map iv, u.oneCell' = true := by
  intro u hu
  obtain ⟨x, _, rfl⟩ := List.mem_map.1 hu
  rfl
theorem fst_len (b : Int) : (fstU b).2.length ≤ 1 := by
  unfold fstU
  repeat (split; · simp)
  simp

set_option maxHeartbeats 8000000 in
theorem step8 (u : Ut) (b : Int) (h0 : 0 ≤ b) (h1 : b < 256) (w : World) : Calls Try.prog 8 #[uv u, .int .u8 b] w (Made w (stepU u b)) := by
  have hg := goes14 u
  have hf := first15 b h0 h1
  have hlen := fst_len b
  unfold stepU
  cases hgo : goesU u
  · rw [hgo] at hg
    rw [if_pos rfl]
    generalize fstU b = r at *
    (go_enter Try.func8, Try.ntmps8; go_wp2_with (fail))
    (refine (hg _).mono ?_; rintro e w1 ⟨rfl, x1, rfl⟩; go_wp2_with (fail))
    refine (hf _).mono ?_
    rintro e W1 ⟨v, rfl, hl1, hA⟩
    have hp : w.heap.size + 1 < (latr ((w.alloc (.cells (uc u) 23)).alloc (.cells #[.int .i64 0, .int .i64 0, .int .i64 0] 23)) x1).heap.size := lt_latr _ x1 _ (by simp)
    have HA := hid (own_mono hA (Nat.le_of_lt hp))
    have HN := hid (own_ne_low hA hp)
    have HL := hid (Later.trans (a := w) (by repeat (first | (with_reducible exact Later.refl _) | with_reducible apply Later.latr | with_reducible apply Later.alloc | with_reducible apply Later.drew | (with_reducible refine Later.set ?_ (by (simp; try omega)) _))) hl1)
    have HB : Hid (Blk W1 (w.heap.size + 1) 23 #[.int .i64 0, .int .i64 0, .int .i64 0]) := hid (((blk_new (by simp)).latr x1).later hl1)
    clear hA hl1 hp
    (obtain ⟨hca0, hca1, hca2, hfa0, hfa1, hfa2, hga⟩ := Blk.at3 (HB.out))
    go_wp2_with (fail)
    have HB2 := hid (((HB.out.set_ 0 (.int .i64 r.1.need)).set_ 1 (.int .i64 r.1.val)).set_ 2 (.int .i64 r.1.least))
    (obtain ⟨hcr0, hcr1, hcr2, hfr0, hfr1, hfr2, hgr⟩ := Blk.at3 (HB2.out))
    ((try simp only [Exit.inBlock, Exit.then]); refine bodyPost_ret (by simp [results, Try.results8, go_sem, hcr0, hcr1, hcr2]; try rfl) rfl ?_)
    exact ⟨_, rfl, by repeat (first | (with_reducible exact Later.refl _) | (with_reducible exact HL.out) | with_reducible apply Later.latr | with_reducible apply Later.alloc | with_reducible apply Later.drew | (with_reducible refine Later.set ?_ (by (simp; try omega)) _)), own_mono (own_set (own_set (own_set HA.out HN.out _) HN.out _) HN.out _) (by omega)⟩
  · rw [hgo] at hg
    have hand := and_192 b h0 h1
    rw [if_neg (by decide)]
    unfold goesU at hgo
    simp only [Bool.and_eq_true, decide_eq_true_eq] at hgo
    obtain ⟨⟨⟨⟨q1, q2⟩, q3⟩, q4⟩, _⟩ := hgo
    have hor := or_six u.val (b % 64) q3 (by omega) (by omega) (by omega)
    rw [wrap_id _ (by omega) (by omega)] at hor
    have hwn := wrap_id (u.need - 1) (by omega) (by omega)
    split
    · rename_i hc
      rw [decide_eq_true hc] at hand
      generalize fstU b = r at *
      (go_enter Try.func8, Try.ntmps8; go_wp2_with (fail))
      (refine (hg _).mono ?_; rintro e w1 ⟨rfl, x1, rfl⟩; go_wp2_with (fail))
      refine (hf _).mono ?_
      rintro e W1 ⟨v, rfl, hl1, hA⟩
      have hp : w.heap.size + 1 < (latr ((w.alloc (.cells (uc u) 23)).alloc (.cells #[.int .i64 0, .int .i64 0, .int .i64 0] 23)) x1).heap.size := lt_latr _ x1 _ (by simp)
      have HA := hid hA
      have HL := hid (Later.trans (a := w) (by repeat (first | (with_reducible exact Later.refl _) | with_reducible apply Later.latr | with_reducible apply Later.alloc | with_reducible apply Later.drew | (with_reducible refine Later.set ?_ (by (simp; try omega)) _))) hl1)
      have HB : Hid (Blk W1 (w.heap.size + 1) 23 #[.int .i64 0, .int .i64 0, .int .i64 0]) := hid (((blk_new (by simp)).latr x1).later hl1)
      have hw1 : w.heap.size + 1 < W1.heap.size := HB.out.lt
      clear hA hl1
      go_wp2_with (fail)
      have HB2 := hid (HB.out.alloc (.cells #[.int .i64 r.1.need, .int .i64 r.1.val, .int .i64 r.1.least] 23))
      have HQ2 := hid (Blk.new W1 23 #[.int .i64 r.1.need, .int .i64 r.1.val, .int .i64 r.1.least])
      have HL2 := hid (HL.out.alloc (.cells #[.int .i64 r.1.need, .int .i64 r.1.val, .int .i64 r.1.least] 23))
      have HA2 := hid (((Arr.of_own HA.out).alloc (.cells #[.int .i64 r.1.need, .int .i64 r.1.val, .int .i64 r.1.least] 23)))
      have HSH := hid (own_shape HA.out)
      have hw2 : W1.heap.size < (W1.alloc (.cells #[.int .i64 r.1.need, .int .i64 r.1.val, .int .i64 r.1.least] 23)).heap.size := by simp
      generalize W1.alloc (.cells #[.int .i64 r.1.need, .int .i64 r.1.val, .int .i64 r.1.least] 23) = W2 at *
      generalize W1.heap.size = p6 at *
      have hwp : w.heap.size ≤ w.heap.size + 1 := Nat.le_succ _
      clear HA hp HB
      generalize w.heap.size + 1 = p4 at *
      (obtain ⟨hcb0, hcb1, hcb2, hfb0, hfb1, hfb2, hgb⟩ := Blk.at3 (HB2.out))
      (obtain ⟨hcq0, hcq1, hcq2, hfq0, hfq1, hfq2, hgq⟩ := Blk.at3 (HQ2.out))
      obtain ⟨i0, hi0, hz0, hz1, hz2⟩ := info_parts info3
      have HO := hid (own_lit (W := W2.drew) (t := 3) (xs := [iv 65533]) (n := 1) (size := 1) (base := W2.heap.size) (g := W2.heap.size) rfl (Nat.le_refl _) rfl (by decide))
      have hn4 := own_ne_low HO.out HB2.out.lt
      have hn6 := own_ne_low HO.out HQ2.out.lt
      have HB3 := hid (HB2.out.drew.alloc (.cells #[iv 65533] 3))
      have HQ3 := hid (HQ2.out.drew.alloc (.cells #[iv 65533] 3))
      go_region_law (refine step_of rfl ?_; refine wp_append_arr _ (.tmp 24) (.tmp 25) 24 rfl W2.heap.size 3 i0 _ 1 8 Try.underlying24 hi0 hz0 hz1 hz2 rfl (by decide) _ 1 [iv 65533] rfl HO.out _ r.2.length (r.2.map iv) rfl (HA2.out.drew.alloc _) HSH.out (ints_one _) (by unfold maxLen; omega) (by omega) (by simp) ?_; intro v3 W3 hO3 hg3; obtain ⟨hd0, hd1, hd2, he0, he1, he2, hd3⟩ := Blk.at3 (HB3.out.grown hg3 hn4); obtain ⟨hh0, hh1, hh2, hk0, hk1, hk2, hh3⟩ := Blk.at3 (HQ3.out.grown hg3 hn6))
      all_goals
        have hw3 : Later w W3 := Later.grown (HL2.out.drew.alloc (.cells #[iv 65533] 3)) hg3 (own_lt HO.out HL2.out.size)
        have hn3 := own_ne_low hO3 HB2.out.lt
        have HB4 := hid ((((HB3.out.grown hg3 hn4).set_ 0 (.int .i64 r.1.need)).set_ 1 (.int .i64 r.1.val)).set_ 2 (.int .i64 r.1.least))
        have HO4 : Hid (W3.ownsRow w.heap.size 3 1 v3 (65533 :: r.2).length ((65533 :: r.2).map iv)) := hid (own_mono (by rw [List.length_cons, Nat.add_comm]; exact hO3) HL2.out.size)
        have HW3 := hid hw3
        clear hO3 hg3 hw3
        (obtain ⟨hcr0, hcr1, hcr2, hfr0, hfr1, hfr2, hgr⟩ := Blk.at3 (HB4.out))
        go_wp2_with (fail)
        ((try simp only [Exit.inBlock, Exit.then]); refine bodyPost_ret (by simp [results, Try.results8, go_sem, hcr0, hcr1, hcr2]; try rfl) rfl ?_)
        exact ⟨_, rfl, by repeat (first | (with_reducible exact Later.refl _) | (with_reducible exact HW3.out) | with_reducible apply Later.latr | with_reducible apply Later.alloc | with_reducible apply Later.drew | (with_reducible refine Later.set ?_ (by (simp; try omega)) _)), own_set (own_set (own_set HO4.out hn3 _) hn3 _) hn3 _⟩
    · rename_i hc
      rw [decide_eq_false hc] at hand
      generalize 64 * u.val + b % 64 = N at *
      split
      · have d1 : decide (1 < u.need) = true := decide_eq_true (by omega)
        (go_enter Try.func8, Try.ntmps8; go_wp2_with (fail))
        (refine (hg _).mono ?_; rintro e w1 ⟨rfl, x1, rfl⟩; go_wp2_with (fail))
        have HB : Hid (Blk (latr ((w.alloc (.cells (uc u) 23)).alloc (.cells #[.int .i64 0, .int .i64 0, .int .i64 0] 23)) x1) (w.heap.size + 1) 23 #[.int .i64 0, .int .i64 0, .int .i64 0]) := hid ((blk_new (by simp)).latr x1)
        have HB2 := hid (((((HB.out.far (p := ⟨w.heap.size, 1, none⟩) (by simp) (.int .i64 N)).far (p := ⟨w.heap.size, 0, none⟩) (by simp) (.int .i64 (u.need - 1))).set_ 0 (.int .i64 (u.need - 1))).set_ 1 (.int .i64 N)).set_ 2 (.int .i64 u.least))
        (obtain ⟨hcr0, hcr1, hcr2, hfr0, hfr1, hfr2, hgr⟩ := Blk.at3 (HB2.out))
        ((try simp only [Exit.inBlock, Exit.then]); refine bodyPost_ret (by simp [results, Try.results8, go_sem, hcr0, hcr1, hcr2]; try rfl) rfl ?_)
        exact ⟨_, rfl, by repeat (first | (with_reducible exact Later.refl _) | with_reducible apply Later.latr | with_reducible apply Later.alloc | with_reducible apply Later.drew | (with_reducible refine Later.set ?_ (by (simp; try omega)) _)), World.ownsRow_nil _ _ _ _⟩
      · have d1 : decide (1 < u.need) = false := decide_eq_false (by omega)
        have h16 := is16 N
        cases hr : isR N
        · rw [hr] at h16
          have hfix : fixR N u.least = 65533 := by unfold fixR; rw [if_neg]; rw [hr]; simp
          rw [hfix]
          (go_enter Try.func8, Try.ntmps8; go_wp2_with (fail))
          (refine (hg _).mono ?_; rintro e w1 ⟨rfl, x0, rfl⟩; go_wp2_with (fail))
          (refine (h16 _).mono ?_; rintro e w1 ⟨rfl, x1, rfl⟩; go_wp2_with (fail))
          obtain ⟨W, hW⟩ : ∃ W, W = ((latr (((latr ((w.alloc (.cells (uc u) 23)).alloc (.cells #[.int .i64 0, .int .i64 0, .int .i64 0] 23)) x0).setCell ⟨w.heap.size, 1, none⟩ (.int .i64 N)).setCell ⟨w.heap.size, 0, none⟩ (.int .i64 (u.need - 1))) x1).setCell ⟨w.heap.size, 1, none⟩ (.int .i64 65533)) := ⟨_, rfl⟩
          have HB0 : Hid (Blk W (w.heap.size + 1) 23 #[.int .i64 0, .int .i64 0, .int .i64 0]) := hid (by rw [hW]; exact (((((blk_new (by simp)).latr x0).far (p := ⟨w.heap.size, 1, none⟩) (by simp) _).far (p := ⟨w.heap.size, 0, none⟩) (by simp) _).latr x1).far (p := ⟨w.heap.size, 1, none⟩) (by simp) _)
          have HA0 : Hid (Blk W w.heap.size 23 #[.int .i64 (u.need - 1), .int .i64 65533, .int .i64 u.least]) := hid (by rw [hW]; exact ((((((Blk.new w 23 (uc u)).alloc _).latr x0).set_ 1 _).set_ 0 _).latr x1).set_ 1 _)
          have HL0 : Hid (Later w W) := hid (by rw [hW]; exact by repeat (first | (with_reducible exact Later.refl _) | with_reducible apply Later.latr | with_reducible apply Later.alloc | with_reducible apply Later.drew | (with_reducible refine Later.set ?_ (by (simp; try omega)) _)))
          rw [← hW]
          clear hW
          have hwp : w.heap.size ≤ w.heap.size + 1 := Nat.le_succ _
          have hne : w.heap.size ≠ w.heap.size + 1 := by omega
          generalize w.heap.size + 1 = p4 at *
          (obtain ⟨hcr0, hcr1, hcr2, hfr0, hfr1, hfr2, hgr⟩ := Blk.at3 (HB0.out))
          (obtain ⟨hca0, hca1, hca2, hfa0, hfa1, hfa2, hga⟩ := Blk.at3 (HA0.out))
          have hx : some p4 ≠ Value.ownBlock (.slice (some ⟨W.heap.size, 0, none⟩) 1 1) := by simp [Value.ownBlock]; omega
          have hsz := HL0.out.size
          have HZ := hid (((((HB0.out.set_ 0 (.int .i64 0)).set_ 1 (.int .i64 0)).set_ 2 (.int .i64 0)).alloc (.cells #[.int .i64 65533] 3)).drew)
          (obtain ⟨hcz0, hcz1, hcz2, hfz0, hfz1, hfz2, hgz⟩ := Blk.at3 (HZ.out))
          go_region
          all_goals
            go_wp2_with (fail)
            first | ((try simp only [Exit.inBlock, Exit.then]); refine bodyPost_ret (by simp [results, Try.results8, go_sem]; try rfl) rfl ?_) | ((try simp only [Exit.inBlock, Exit.then]); refine bodyPost_ret (by simp [results, Try.results8, go_sem, hcz0, hcz1, hcz2]; try rfl) rfl ?_)
            refine ⟨_, rfl, by repeat (first | (with_reducible exact Later.refl _) | (with_reducible exact HL0.out) | with_reducible apply Later.latr | with_reducible apply Later.alloc | with_reducible apply Later.drew | (with_reducible refine Later.set ?_ (by (simp; try omega)) _)), ?_⟩
            first
            | exact own_set (own_set (own_set (own_lit (W := W.drew) (xs := [.int .i64 65533]) (n := 1) rfl hsz rfl (by decide)) hx _) hx _) hx _
            | exact own_set (own_set (own_set (own_later (own_lit (W := W) (xs := [.int .i64 65533]) (n := 1) rfl hsz rfl (by decide)) (Later.refl _).drew) hx _) hx _) hx _
            | (exact own_later (own_lit (W := (((W.setCell ⟨p4, 0, none⟩ (.int .i64 0)).setCell ⟨p4, 1, none⟩ (.int .i64 0)).setCell ⟨p4, 2, none⟩ (.int .i64 0))) (xs := [.int .i64 65533]) (n := 1) (by simp) (by simp; exact hsz) rfl (by decide)) (Later.refl _).drew)
        · rw [hr] at h16
          by_cases hle : u.least ≤ N
          · have d2 : decide (N < u.least) = false := decide_eq_false (by omega)
            have hfix : fixR N u.least = N := by unfold fixR; rw [if_pos]; exact ⟨hr, hle⟩
            rw [hfix]
            (go_enter Try.func8, Try.ntmps8; go_wp2_with (fail))
            (refine (hg _).mono ?_; rintro e w1 ⟨rfl, x0, rfl⟩; go_wp2_with (fail))
            (refine (h16 _).mono ?_; rintro e w1 ⟨rfl, x1, rfl⟩; go_wp2_with (fail))
            obtain ⟨W, hW⟩ : ∃ W, W = (latr (((latr ((w.alloc (.cells (uc u) 23)).alloc (.cells #[.int .i64 0, .int .i64 0, .int .i64 0] 23)) x0).setCell ⟨w.heap.size, 1, none⟩ (.int .i64 N)).setCell ⟨w.heap.size, 0, none⟩ (.int .i64 (u.need - 1))) x1) := ⟨_, rfl⟩
            have HB0 : Hid (Blk W (w.heap.size + 1) 23 #[.int .i64 0, .int .i64 0, .int .i64 0]) := hid (by rw [hW]; exact ((((blk_new (by simp)).latr x0).far (p := ⟨w.heap.size, 1, none⟩) (by simp) _).far (p := ⟨w.heap.size, 0, none⟩) (by simp) _).latr x1)
            have HA0 : Hid (Blk W w.heap.size 23 #[.int .i64 (u.need - 1), .int .i64 N, .int .i64 u.least]) := hid (by rw [hW]; exact (((((Blk.new w 23 (uc u)).alloc _).latr x0).set_ 1 _).set_ 0 _).latr x1)
            have HL0 : Hid (Later w W) := hid (by rw [hW]; exact by repeat (first | (with_reducible exact Later.refl _) | with_reducible apply Later.latr | with_reducible apply Later.alloc | with_reducible apply Later.drew | (with_reducible refine Later.set ?_ (by (simp; try omega)) _)))
            rw [← hW]
            clear hW
            have hwp : w.heap.size ≤ w.heap.size + 1 := Nat.le_succ _
            have hne : w.heap.size ≠ w.heap.size + 1 := by omega
            generalize w.heap.size + 1 = p4 at *
            (obtain ⟨hcr0, hcr1, hcr2, hfr0, hfr1, hfr2, hgr⟩ := Blk.at3 (HB0.out))
            (obtain ⟨hca0, hca1, hca2, hfa0, hfa1, hfa2, hga⟩ := Blk.at3 (HA0.out))
            have hx : some p4 ≠ Value.ownBlock (.slice (some ⟨W.heap.size, 0, none⟩) 1 1) := by simp [Value.ownBlock]; omega
            have hsz := HL0.out.size
            have HZ := hid (((((HB0.out.set_ 0 (.int .i64 0)).set_ 1 (.int .i64 0)).set_ 2 (.int .i64 0)).alloc (.cells #[.int .i64 N] 3)).drew)
            (obtain ⟨hcz0, hcz1, hcz2, hfz0, hfz1, hfz2, hgz⟩ := Blk.at3 (HZ.out))
            go_region
            all_goals
              go_wp2_with (fail)
              first | ((try simp only [Exit.inBlock, Exit.then]); refine bodyPost_ret (by simp [results, Try.results8, go_sem]; try rfl) rfl ?_) | ((try simp only [Exit.inBlock, Exit.then]); refine bodyPost_ret (by simp [results, Try.results8, go_sem, hcz0, hcz1, hcz2]; try rfl) rfl ?_)
              refine ⟨_, rfl, by repeat (first | (with_reducible exact Later.refl _) | (with_reducible exact HL0.out) | with_reducible apply Later.latr | with_reducible apply Later.alloc | with_reducible apply Later.drew | (with_reducible refine Later.set ?_ (by (simp; try omega)) _)), ?_⟩
              first
              | exact own_set (own_set (own_set (own_lit (W := W.drew) (xs := [.int .i64 N]) (n := 1) rfl hsz rfl (by decide)) hx _) hx _) hx _
              | exact own_set (own_set (own_set (own_later (own_lit (W := W) (xs := [.int .i64 N]) (n := 1) rfl hsz rfl (by decide)) (Later.refl _).drew) hx _) hx _) hx _
              | (exact own_later (own_lit (W := (((W.setCell ⟨p4, 0, none⟩ (.int .i64 0)).setCell ⟨p4, 1, none⟩ (.int .i64 0)).setCell ⟨p4, 2, none⟩ (.int .i64 0))) (xs := [.int .i64 N]) (n := 1) (by simp) (by simp; exact hsz) rfl (by decide)) (Later.refl _).drew)
          · have d2 : decide (N < u.least) = true := decide_eq_true (by omega)
            have hfix : fixR N u.least = 65533 := by unfold fixR; rw [if_neg]; exact fun h => hle h.2
            rw [hfix]
            (go_enter Try.func8, Try.ntmps8; go_wp2_with (fail))
            (refine (hg _).mono ?_; rintro e w1 ⟨rfl, x0, rfl⟩; go_wp2_with (fail))
            (refine (h16 _).mono ?_; rintro e w1 ⟨rfl, x1, rfl⟩; go_wp2_with (fail))
            obtain ⟨W, hW⟩ : ∃ W, W = ((latr (((latr ((w.alloc (.cells (uc u) 23)).alloc (.cells #[.int .i64 0, .int .i64 0, .int .i64 0] 23)) x0).setCell ⟨w.heap.size, 1, none⟩ (.int .i64 N)).setCell ⟨w.heap.size, 0, none⟩ (.int .i64 (u.need - 1))) x1).setCell ⟨w.heap.size, 1, none⟩ (.int .i64 65533)) := ⟨_, rfl⟩
            have HB0 : Hid (Blk W (w.heap.size + 1) 23 #[.int .i64 0, .int .i64 0, .int .i64 0]) := hid (by rw [hW]; exact (((((blk_new (by simp)).latr x0).far (p := ⟨w.heap.size, 1, none⟩) (by simp) _).far (p := ⟨w.heap.size, 0, none⟩) (by simp) _).latr x1).far (p := ⟨w.heap.size, 1, none⟩) (by simp) _)
            have HA0 : Hid (Blk W w.heap.size 23 #[.int .i64 (u.need - 1), .int .i64 65533, .int .i64 u.least]) := hid (by rw [hW]; exact ((((((Blk.new w 23 (uc u)).alloc _).latr x0).set_ 1 _).set_ 0 _).latr x1).set_ 1 _)
            have HL0 : Hid (Later w W) := hid (by rw [hW]; exact by repeat (first | (with_reducible exact Later.refl _) | with_reducible apply Later.latr | with_reducible apply Later.alloc | with_reducible apply Later.drew | (with_reducible refine Later.set ?_ (by (simp; try omega)) _)))
            rw [← hW]
            clear hW
            have hwp : w.heap.size ≤ w.heap.size + 1 := Nat.le_succ _
            have hne : w.heap.size ≠ w.heap.size + 1 := by omega
            generalize w.heap.size + 1 = p4 at *
            (obtain ⟨hcr0, hcr1, hcr2, hfr0, hfr1, hfr2, hgr⟩ := Blk.at3 (HB0.out))
            (obtain ⟨hca0, hca1, hca2, hfa0, hfa1, hfa2, hga⟩ := Blk.at3 (HA0.out))
            have hx : some p4 ≠ Value.ownBlock (.slice (some ⟨W.heap.size, 0, none⟩) 1 1) := by simp [Value.ownBlock]; omega
            have hsz := HL0.out.size
            have HZ := hid (((((HB0.out.set_ 0 (.int .i64 0)).set_ 1 (.int .i64 0)).set_ 2 (.int .i64 0)).alloc (.cells #[.int .i64 65533] 3)).drew)
            (obtain ⟨hcz0, hcz1, hcz2, hfz0, hfz1, hfz2, hgz⟩ := Blk.at3 (HZ.out))
            go_region
            all_goals
              go_wp2_with (fail)
              first | ((try simp only [Exit.inBlock, Exit.then]); refine bodyPost_ret (by simp [results, Try.results8, go_sem]; try rfl) rfl ?_) | ((try simp only [Exit.inBlock, Exit.then]); refine bodyPost_ret (by simp [results, Try.results8, go_sem, hcz0, hcz1, hcz2]; try rfl) rfl ?_)
              refine ⟨_, rfl, by repeat (first | (with_reducible exact Later.refl _) | (with_reducible exact HL0.out) | with_reducible apply Later.latr | with_reducible apply Later.alloc | with_reducible apply Later.drew | (with_reducible refine Later.set ?_ (by (simp; try omega)) _)), ?_⟩
              first
              | exact own_set (own_set (own_set (own_lit (W := W.drew) (xs := [.int .i64 65533]) (n := 1) rfl hsz rfl (by decide)) hx _) hx _) hx _
              | exact own_set (own_set (own_set (own_later (own_lit (W := W) (xs := [.int .i64 65533]) (n := 1) rfl hsz rfl (by decide)) (Later.refl _).drew) hx _) hx _) hx _
              | (exact own_later (own_lit (W := (((W.setCell ⟨p4, 0, none⟩ (.int .i64 0)).setCell ⟨p4, 1, none⟩ (.int .i64 0)).setCell ⟨p4, 2, none⟩ (.int .i64 0))) (xs := [.int .i64 65533]) (n := 1) (by simp) (by simp; exact hsz) rfl (by decide)) (Later.refl _).drew)
            end Go.Proofs.Ytlkiogjjhhafnaa
