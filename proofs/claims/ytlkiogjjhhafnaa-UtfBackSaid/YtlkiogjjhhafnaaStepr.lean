/- The walk of what a rune is behind a byte: the reference's. No condition. -/
import Derived.Test.YtlkiogjjhhafnaaStep
namespace Go.Proofs.Ytlkiogjjhhafnaa
open Go.RowKit
attribute [local go_sem] ite_max ite_min
attribute [local go_sem] h_lt1 h_lt2 h_lt3 h_lt4 h_lt5 h_lt6 h_eq1 h_qe1 h_eq2 h_qe2 h_eq3 h_qe3 h_eq4 h_qe4 h_eq5 h_qe5 h_eq6 h_qe6

set_option maxHeartbeats 8000000 in
theorem step9 (u : Ut) (b : Int) (h0 : 0 ≤ b) (h1 : b < 256) (w : World) : Calls Try.prog 9 #[uv u, .int .u8 b] w (Made w (stepU u b)) := by
  have hg := goes17 u
  have hf := first18 b h0 h1
  have hlen := fst_len b
  unfold stepU
  cases hgo : goesU u
  · rw [hgo] at hg
    rw [if_pos rfl]
    generalize fstU b = r at *
    (go_enter Try.func9, Try.ntmps9; go_wp2_with (fail))
    (refine (hg _).mono ?_; rintro e w1 ⟨rfl, x1, rfl⟩; go_wp2_with (fail))
    refine (hf _).mono ?_
    rintro e W1 ⟨v, rfl, hl1, hA⟩
    have hp : w.heap.size + 1 < (latr ((w.alloc (.cells (uc u) 23)).alloc (.cells #[.int .i64 0, .int .i64 0, .int .i64 0] 23)) x1).heap.size := lt_latr _ x1 _ (by simp)
    have HA := hid (own_mono hA (Nat.le_of_lt hp))
    have HN := hid (own_ne_low hA hp)
    have HL := hid (Later.trans (a := w) (by repeat (first | (with_reducible exact Later.refl _) | with_reducible apply Later.latr | with_reducible apply Later.alloc | with_reducible apply Later.drew | (with_reducible refine Later.set ?_ (by (simp; try omega)) _))) hl1)
    have HB : Hid (Blk W1 (w.heap.size + 1) 23 #[.int .i64 0, .int .i64 0, .int .i64 0]) := hid (((blk_new (by simp)).latr x1).later hl1)
    clear hA hl1 hp
    (obtain ⟨hca0, hca1, hca2, hfa0, hfa1, hfa2, hga⟩ := Blk.at3 (HB.out))
    go_wp2_with (fail)
    have HB2 := hid (((HB.out.set_ 0 (.int .i64 r.1.need)).set_ 1 (.int .i64 r.1.val)).set_ 2 (.int .i64 r.1.least))
    (obtain ⟨hcr0, hcr1, hcr2, hfr0, hfr1, hfr2, hgr⟩ := Blk.at3 (HB2.out))
    ((try simp only [Exit.inBlock, Exit.then]); refine bodyPost_ret (by simp [results, Try.results9, go_sem, hcr0, hcr1, hcr2]; try rfl) rfl ?_)
    exact ⟨_, rfl, by repeat (first | (with_reducible exact Later.refl _) | (with_reducible exact HL.out) | with_reducible apply Later.latr | with_reducible apply Later.alloc | with_reducible apply Later.drew | (with_reducible refine Later.set ?_ (by (simp; try omega)) _)), own_mono (own_set (own_set (own_set HA.out HN.out _) HN.out _) HN.out _) (by omega)⟩
  · rw [hgo] at hg
    rw [if_neg (by decide)]
    unfold goesU at hgo
    simp only [Bool.and_eq_true, decide_eq_true_eq] at hgo
    obtain ⟨⟨⟨⟨q1, q2⟩, q3⟩, q4⟩, _⟩ := hgo
    have hm : b.tmod 64 = b % 64 := Int.tmod_eq_emod_of_nonneg h0
    split
    · rename_i hc
      generalize fstU b = r at *
      rcases (show decide (b < 128) = true ∨ (decide (b < 128) = false ∧ decide (191 < b) = true) by rcases hc with h | h; exact .inl (decide_eq_true h); exact .inr ⟨decide_eq_false (by omega), decide_eq_true h⟩) with s1 | ⟨s1, s2⟩
      all_goals
        (go_enter Try.func9, Try.ntmps9; go_wp2_with (fail))
        (refine (hg _).mono ?_; rintro e w1 ⟨rfl, x1, rfl⟩; go_wp2_with (fail))
        refine (hf _).mono ?_
        rintro e W1 ⟨v, rfl, hl1, hA⟩
        have hp : w.heap.size + 1 < (latr ((w.alloc (.cells (uc u) 23)).alloc (.cells #[.int .i64 0, .int .i64 0, .int .i64 0] 23)) x1).heap.size := lt_latr _ x1 _ (by simp)
        have HA := hid hA
        have HL := hid (Later.trans (a := w) (by repeat (first | (with_reducible exact Later.refl _) | with_reducible apply Later.latr | with_reducible apply Later.alloc | with_reducible apply Later.drew | (with_reducible refine Later.set ?_ (by (simp; try omega)) _))) hl1)
        have HB : Hid (Blk W1 (w.heap.size + 1) 23 #[.int .i64 0, .int .i64 0, .int .i64 0]) := hid (((blk_new (by simp)).latr x1).later hl1)
        have hw1 : w.heap.size + 1 < W1.heap.size := HB.out.lt
        clear hA hl1
        go_wp2_with (fail)
        have HB2 := hid (HB.out.alloc (.cells #[.int .i64 r.1.need, .int .i64 r.1.val, .int .i64 r.1.least] 23))
        have HQ2 := hid (Blk.new W1 23 #[.int .i64 r.1.need, .int .i64 r.1.val, .int .i64 r.1.least])
        have HL2 := hid (HL.out.alloc (.cells #[.int .i64 r.1.need, .int .i64 r.1.val, .int .i64 r.1.least] 23))
        have HA2 := hid (((Arr.of_own HA.out).alloc (.cells #[.int .i64 r.1.need, .int .i64 r.1.val, .int .i64 r.1.least] 23)))
        have HSH := hid (own_shape HA.out)
        have hw2 : W1.heap.size < (W1.alloc (.cells #[.int .i64 r.1.need, .int .i64 r.1.val, .int .i64 r.1.least] 23)).heap.size := by simp
        generalize W1.alloc (.cells #[.int .i64 r.1.need, .int .i64 r.1.val, .int .i64 r.1.least] 23) = W2 at *
        generalize W1.heap.size = p6 at *
        have hwp : w.heap.size ≤ w.heap.size + 1 := Nat.le_succ _
        clear HA hp HB
        generalize w.heap.size + 1 = p4 at *
        (obtain ⟨hcb0, hcb1, hcb2, hfb0, hfb1, hfb2, hgb⟩ := Blk.at3 (HB2.out))
        (obtain ⟨hcq0, hcq1, hcq2, hfq0, hfq1, hfq2, hgq⟩ := Blk.at3 (HQ2.out))
        obtain ⟨i0, hi0, hz0, hz1, hz2⟩ := info_parts info3
        have HO := hid (own_lit (W := W2.drew) (t := 3) (xs := [iv 65533]) (n := 1) (size := 1) (base := W2.heap.size) (g := W2.heap.size) rfl (Nat.le_refl _) rfl (by decide))
        have hn4 := own_ne_low HO.out HB2.out.lt
        have hn6 := own_ne_low HO.out HQ2.out.lt
        have HB3 := hid (HB2.out.drew.alloc (.cells #[iv 65533] 3))
        have HQ3 := hid (HQ2.out.drew.alloc (.cells #[iv 65533] 3))
        go_region_law (refine step_of rfl ?_; refine wp_append_arr _ (.tmp 31) (.tmp 32) 24 rfl W2.heap.size 3 i0 _ 1 8 Try.underlying24 hi0 hz0 hz1 hz2 rfl (by decide) _ 1 [iv 65533] rfl HO.out _ r.2.length (r.2.map iv) rfl (HA2.out.drew.alloc _) HSH.out (ints_one _) (by unfold maxLen; omega) (by omega) (by simp) ?_; intro v3 W3 hO3 hg3; obtain ⟨hd0, hd1, hd2, he0, he1, he2, hd3⟩ := Blk.at3 (HB3.out.grown hg3 hn4); obtain ⟨hh0, hh1, hh2, hk0, hk1, hk2, hh3⟩ := Blk.at3 (HQ3.out.grown hg3 hn6))
        all_goals
          have hw3 : Later w W3 := Later.grown (HL2.out.drew.alloc (.cells #[iv 65533] 3)) hg3 (own_lt HO.out HL2.out.size)
          have hn3 := own_ne_low hO3 HB2.out.lt
          have HB4 := hid ((((HB3.out.grown hg3 hn4).set_ 0 (.int .i64 r.1.need)).set_ 1 (.int .i64 r.1.val)).set_ 2 (.int .i64 r.1.least))
          have HO4 : Hid (W3.ownsRow w.heap.size 3 1 v3 (65533 :: r.2).length ((65533 :: r.2).map iv)) := hid (own_mono (by rw [List.length_cons, Nat.add_comm]; exact hO3) HL2.out.size)
          have HW3 := hid hw3
          clear hO3 hg3 hw3
          (obtain ⟨hcr0, hcr1, hcr2, hfr0, hfr1, hfr2, hgr⟩ := Blk.at3 (HB4.out))
          go_wp2_with (fail)
          ((try simp only [Exit.inBlock, Exit.then]); refine bodyPost_ret (by simp [results, Try.results9, go_sem, hcr0, hcr1, hcr2]; try rfl) rfl ?_)
          exact ⟨_, rfl, by repeat (first | (with_reducible exact Later.refl _) | (with_reducible exact HW3.out) | with_reducible apply Later.latr | with_reducible apply Later.alloc | with_reducible apply Later.drew | (with_reducible refine Later.set ?_ (by (simp; try omega)) _)), own_set (own_set (own_set HO4.out hn3 _) hn3 _) hn3 _⟩
    · rename_i hc
      have e1 : decide (b < 128) = false := decide_eq_false (by omega)
      have e2 : decide (191 < b) = false := decide_eq_false (by omega)
      generalize hN : 64 * u.val + b % 64 = N at *
      have hNr : 0 ≤ N ∧ N ≤ 2097151 := by omega
      split
      · have d1 : decide (1 < u.need) = true := decide_eq_true (by omega)
        (go_enter Try.func9, Try.ntmps9; go_wp2_with (fail))
        (refine (hg _).mono ?_; rintro e w1 ⟨rfl, x1, rfl⟩; go_wp2_with (fail))
        have HB2 := hid ((((Blk.cast (cs' := #[.int .i64 0, .int .i64 0, .int .i64 0]) ((blk_new (g := w.heap.size + 1) (by simp)).latr x1) rfl).set_ 0 (.int .i64 (u.need - 1))).set_ 1 (.int .i64 N)).set_ 2 (.int .i64 u.least))
        (obtain ⟨hcr0, hcr1, hcr2, hfr0, hfr1, hfr2, hgr⟩ := Blk.at3 (HB2.out))
        ((try simp only [Exit.inBlock, Exit.then]); refine bodyPost_ret (by simp [results, Try.results9, go_sem, hcr0, hcr1, hcr2]; try rfl) rfl ?_)
        exact ⟨_, rfl, by repeat (first | (with_reducible exact Later.refl _) | with_reducible apply Later.latr | with_reducible apply Later.alloc | with_reducible apply Later.drew | (with_reducible refine Later.set ?_ (by (simp; try omega)) _)), World.ownsRow_nil _ _ _ _⟩
      · have d1 : decide (1 < u.need) = false := decide_eq_false (by omega)
        have h19 := is19 N
        cases hr : isR N
        · rw [hr] at h19
          have hfix : fixR N u.least = 65533 := by unfold fixR; rw [if_neg]; rw [hr]; simp
          rw [hfix]
          (go_enter Try.func9, Try.ntmps9; go_wp2_with (fail))
          (refine (hg _).mono ?_; rintro e w1 ⟨rfl, x0, rfl⟩; go_wp2_with (fail))
          (refine (h19 _).mono ?_; rintro e w1 ⟨rfl, x1, rfl⟩)
          obtain ⟨W, hW⟩ : ∃ W, W = latr (latr ((w.alloc (.cells (uc u) 23)).alloc (.cells #[.int .i64 0, .int .i64 0, .int .i64 0] 23)) x0) x1 := ⟨_, rfl⟩
          have HB0 : Hid (Blk W (w.heap.size + 1) 23 #[.int .i64 0, .int .i64 0, .int .i64 0]) := hid (by rw [hW]; exact ((blk_new (by simp)).latr x0).latr x1)
          have HA0 : Hid (Blk W w.heap.size 23 (uc u)) := hid (by rw [hW]; exact (((Blk.new w 23 (uc u)).alloc _).latr x0).latr x1)
          have HL0 : Hid (Later w W) := hid (by rw [hW]; exact by repeat (first | (with_reducible exact Later.refl _) | with_reducible apply Later.latr | with_reducible apply Later.alloc | with_reducible apply Later.drew | (with_reducible refine Later.set ?_ (by (simp; try omega)) _)))
          rw [← hW]
          clear hW
          have hwp : w.heap.size ≤ w.heap.size + 1 := Nat.le_succ _
          have hne : w.heap.size ≠ w.heap.size + 1 := by omega
          generalize w.heap.size + 1 = p4 at *
          (obtain ⟨hcb0, hcb1, hcb2, hfb0, hfb1, hfb2, hgb⟩ := Blk.at3 (HB0.out))
          (obtain ⟨hca0, hca1, hca2, hfa0, hfa1, hfa2, hga⟩ := Blk.at3 (HA0.out))
          go_wp2_with (fail)
          have HB2 := hid ((((HB0.out.set_ 0 (.int .i64 0)).set_ 1 (.int .i64 0)).set_ 2 (.int .i64 0)).alloc (.cells #[.int .i64 65533] 3))
          (obtain ⟨hcr0, hcr1, hcr2, hfr0, hfr1, hfr2, hgr⟩ := Blk.at3 (HB2.out))
          ((try simp only [Exit.inBlock, Exit.then]); refine bodyPost_ret (by simp [results, Try.results9, go_sem, hcr0, hcr1, hcr2]; try rfl) rfl ?_)
          have hsz := HL0.out.size
          exact ⟨_, rfl, by repeat (first | (with_reducible exact Later.refl _) | (with_reducible exact HL0.out) | with_reducible apply Later.latr | with_reducible apply Later.alloc | with_reducible apply Later.drew | (with_reducible refine Later.set ?_ (by (simp; try omega)) _)), own_lit (W := (((W.setCell ⟨p4, 0, none⟩ (.int .i64 0)).setCell ⟨p4, 1, none⟩ (.int .i64 0)).setCell ⟨p4, 2, none⟩ (.int .i64 0))) (xs := [.int .i64 65533]) (n := 1) (by simp) (by simp; exact hsz) rfl (by decide)⟩
        · rw [hr] at h19
          by_cases hle : u.least ≤ N
          · have d2 : decide (N < u.least) = false := decide_eq_false (by omega)
            have hfix : fixR N u.least = N := by unfold fixR; rw [if_pos]; exact ⟨hr, hle⟩
            rw [hfix]
            (go_enter Try.func9, Try.ntmps9; go_wp2_with (fail))
            (refine (hg _).mono ?_; rintro e w1 ⟨rfl, x0, rfl⟩; go_wp2_with (fail))
            (refine (h19 _).mono ?_; rintro e w1 ⟨rfl, x1, rfl⟩)
            obtain ⟨W, hW⟩ : ∃ W, W = latr (latr ((w.alloc (.cells (uc u) 23)).alloc (.cells #[.int .i64 0, .int .i64 0, .int .i64 0] 23)) x0) x1 := ⟨_, rfl⟩
            have HB0 : Hid (Blk W (w.heap.size + 1) 23 #[.int .i64 0, .int .i64 0, .int .i64 0]) := hid (by rw [hW]; exact ((blk_new (by simp)).latr x0).latr x1)
            have HA0 : Hid (Blk W w.heap.size 23 (uc u)) := hid (by rw [hW]; exact (((Blk.new w 23 (uc u)).alloc _).latr x0).latr x1)
            have HL0 : Hid (Later w W) := hid (by rw [hW]; exact by repeat (first | (with_reducible exact Later.refl _) | with_reducible apply Later.latr | with_reducible apply Later.alloc | with_reducible apply Later.drew | (with_reducible refine Later.set ?_ (by (simp; try omega)) _)))
            rw [← hW]
            clear hW
            have hwp : w.heap.size ≤ w.heap.size + 1 := Nat.le_succ _
            have hne : w.heap.size ≠ w.heap.size + 1 := by omega
            generalize w.heap.size + 1 = p4 at *
            (obtain ⟨hcb0, hcb1, hcb2, hfb0, hfb1, hfb2, hgb⟩ := Blk.at3 (HB0.out))
            (obtain ⟨hca0, hca1, hca2, hfa0, hfa1, hfa2, hga⟩ := Blk.at3 (HA0.out))
            go_wp2_with (fail)
            have HB2 := hid ((((HB0.out.set_ 0 (.int .i64 0)).set_ 1 (.int .i64 0)).set_ 2 (.int .i64 0)).alloc (.cells #[.int .i64 N] 3))
            (obtain ⟨hcr0, hcr1, hcr2, hfr0, hfr1, hfr2, hgr⟩ := Blk.at3 (HB2.out))
            ((try simp only [Exit.inBlock, Exit.then]); refine bodyPost_ret (by simp [results, Try.results9, go_sem, hcr0, hcr1, hcr2]; try rfl) rfl ?_)
            have hsz := HL0.out.size
            exact ⟨_, rfl, by repeat (first | (with_reducible exact Later.refl _) | (with_reducible exact HL0.out) | with_reducible apply Later.latr | with_reducible apply Later.alloc | with_reducible apply Later.drew | (with_reducible refine Later.set ?_ (by (simp; try omega)) _)), own_lit (W := (((W.setCell ⟨p4, 0, none⟩ (.int .i64 0)).setCell ⟨p4, 1, none⟩ (.int .i64 0)).setCell ⟨p4, 2, none⟩ (.int .i64 0))) (xs := [.int .i64 N]) (n := 1) (by simp) (by simp; exact hsz) rfl (by decide)⟩
          · have d2 : decide (N < u.least) = true := decide_eq_true (by omega)
            have hfix : fixR N u.least = 65533 := by unfold fixR; rw [if_neg]; exact fun h => hle h.2
            rw [hfix]
            (go_enter Try.func9, Try.ntmps9; go_wp2_with (fail))
            (refine (hg _).mono ?_; rintro e w1 ⟨rfl, x0, rfl⟩; go_wp2_with (fail))
            (refine (h19 _).mono ?_; rintro e w1 ⟨rfl, x1, rfl⟩)
            obtain ⟨W, hW⟩ : ∃ W, W = latr (latr ((w.alloc (.cells (uc u) 23)).alloc (.cells #[.int .i64 0, .int .i64 0, .int .i64 0] 23)) x0) x1 := ⟨_, rfl⟩
            have HB0 : Hid (Blk W (w.heap.size + 1) 23 #[.int .i64 0, .int .i64 0, .int .i64 0]) := hid (by rw [hW]; exact ((blk_new (by simp)).latr x0).latr x1)
            have HA0 : Hid (Blk W w.heap.size 23 (uc u)) := hid (by rw [hW]; exact (((Blk.new w 23 (uc u)).alloc _).latr x0).latr x1)
            have HL0 : Hid (Later w W) := hid (by rw [hW]; exact by repeat (first | (with_reducible exact Later.refl _) | with_reducible apply Later.latr | with_reducible apply Later.alloc | with_reducible apply Later.drew | (with_reducible refine Later.set ?_ (by (simp; try omega)) _)))
            rw [← hW]
            clear hW
            have hwp : w.heap.size ≤ w.heap.size + 1 := Nat.le_succ _
            have hne : w.heap.size ≠ w.heap.size + 1 := by omega
            generalize w.heap.size + 1 = p4 at *
            (obtain ⟨hcb0, hcb1, hcb2, hfb0, hfb1, hfb2, hgb⟩ := Blk.at3 (HB0.out))
            (obtain ⟨hca0, hca1, hca2, hfa0, hfa1, hfa2, hga⟩ := Blk.at3 (HA0.out))
            go_wp2_with (fail)
            have HB2 := hid ((((HB0.out.set_ 0 (.int .i64 0)).set_ 1 (.int .i64 0)).set_ 2 (.int .i64 0)).alloc (.cells #[.int .i64 65533] 3))
            (obtain ⟨hcr0, hcr1, hcr2, hfr0, hfr1, hfr2, hgr⟩ := Blk.at3 (HB2.out))
            ((try simp only [Exit.inBlock, Exit.then]); refine bodyPost_ret (by simp [results, Try.results9, go_sem, hcr0, hcr1, hcr2]; try rfl) rfl ?_)
            have hsz := HL0.out.size
            exact ⟨_, rfl, by repeat (first | (with_reducible exact Later.refl _) | (with_reducible exact HL0.out) | with_reducible apply Later.latr | with_reducible apply Later.alloc | with_reducible apply Later.drew | (with_reducible refine Later.set ?_ (by (simp; try omega)) _)), own_lit (W := (((W.setCell ⟨p4, 0, none⟩ (.int .i64 0)).setCell ⟨p4, 1, none⟩ (.int .i64 0)).setCell ⟨p4, 2, none⟩ (.int .i64 0))) (xs := [.int .i64 65533]) (n := 1) (by simp) (by simp; exact hsz) rfl (by decide)⟩
end Go.Proofs.Ytlkiogjjhhafnaa
