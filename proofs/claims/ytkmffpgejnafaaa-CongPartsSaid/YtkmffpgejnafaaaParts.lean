/- CongParts: its walk, which answers true. Of slices that came in. -/
import Derived.Test.YtkmffpgejnafaaaAwake
import Derived.Test.YtkmffpgejnafaaaOnce
import Derived.Test.YtkmffpgejnafaaaArr
namespace Go.Proofs.Ytkmffpgejnafaaa
open Go.RowKit
attribute [local go_sem] ite_max ite_min
attribute [local go_sem] h_lt1 h_lt2 h_lt3 h_lt4 h_lt5 h_lt6 h_eq1 h_qe1 h_eq2 h_qe2 h_eq3 h_qe3 h_eq4 h_qe4 h_eq5 h_qe5 h_eq6 h_qe6

theorem snts_app (l m : List Snt) : snts (l ++ m) = snts l ++ snts m := by simp [snts]
theorem snts_one (l : List Snt) : ∀ u ∈ snts l, u.oneCell' = true := by
  intro u hu
  obtain ⟨s, _, hs⟩ := List.mem_flatMap.1 hu
  simp only [sc, List.mem_cons, List.not_mem_nil, or_false] at hs
  rcases hs with rfl | rfl | rfl | rfl | rfl <;> rfl

/-- slow growth, four times -/
def slow : Nat → Rn
  | 0 => { w := 4000, s := 512, c := 0, r := -1 }
  | k + 1 => ack (slow k) { k := 0, t := 0, z := 1000, e := true, p := false }
theorem slow_ok (k : Nat) : Ok (slow k) := by
  induction k with
  | zero => unfold slow Ok; dsimp only; omega
  | succ k ih => exact (ack_ok ih).1
theorem slow_end : (slow 4).w = 4246 ∨ (4200 < (slow 4).w ∧ (slow 4).w ≤ 4256) := by decide +kernel

set_option maxHeartbeats 8000000 in
theorem parts6 (r : Rn) (va vb : Value) (la lb : List Snt) (w : World) (ha : Arr w 5 va la.length (snts la)) (hb : Arr w 5 vb lb.length (snts lb)) (sa : Shape va) (sb : Shape vb) :
    Calls Try.prog 6 #[rv r, va, vb] w fun e w' => e = .returned (.bool true) ∧ Later w w' := by
  have hna : la.length ≤ 9223372036854775807 := by obtain ⟨_, _, _, _, h1, h2, _⟩ := ha; unfold maxLen at h2; omega
  have hnb : lb.length ≤ 9223372036854775807 := by obtain ⟨_, _, _, _, h1, h2, _⟩ := hb; unfold maxLen at h2; omega
  have hva : ∃ a c, va = .slice a la.length c := by obtain ⟨_, a, c, h, _⟩ := ha; exact ⟨a, c, h⟩
  have hvb : ∃ a c, vb = .slice a lb.length c := by obtain ⟨_, a, c, h, _⟩ := hb; exact ⟨a, c, h⟩
  have HA := hid ha
  have HB := hid hb
  have HAS := hid sa
  have HBS := hid sb
  clear ha hb sa sb
  by_cases h50 : la.length ≤ 50
  rotate_left
  · have hd : decide (50 < (la.length : Int)) = true := decide_eq_true (by omega)
    obtain ⟨a1, c1, rfl⟩ := hva
    clear hvb
    (go_enter Try.func6, Try.ntmps6; go_wp2_with (fail))
    (refine (awake9 _).mono ?_; rintro e w1 ⟨rfl, x1, rfl⟩; go_wp2_with (fail))
    go_ret
    exact ⟨rfl, by repeat (first | (with_reducible exact Later.refl _) | with_reducible apply Later.latr | with_reducible apply Later.alloc | with_reducible apply Later.drew | (with_reducible refine Later.set ?_ (by (simp; try omega)) _))⟩
  have hd : decide (50 < (la.length : Int)) = false := decide_eq_false (by omega)
  by_cases h51 : lb.length ≤ 50
  rotate_left
  · have hd' : decide (50 < (lb.length : Int)) = true := decide_eq_true (by omega)
    obtain ⟨a1, c1, rfl⟩ := hva
    obtain ⟨a2, c2, rfl⟩ := hvb
    (go_enter Try.func6, Try.ntmps6; go_wp2_with (fail))
    (refine (awake9 _).mono ?_; rintro e w1 ⟨rfl, x1, rfl⟩; go_wp2_with (fail))
    go_ret
    exact ⟨rfl, by repeat (first | (with_reducible exact Later.refl _) | with_reducible apply Later.latr | with_reducible apply Later.alloc | with_reducible apply Later.drew | (with_reducible refine Later.set ?_ (by (simp; try omega)) _))⟩
  have hd' : decide (50 < (lb.length : Int)) = false := decide_eq_false (by omega)
  obtain ⟨i0, hi0, hz0, hz1, hz2⟩ := info_parts info31
  have h1 := fun v W h => acked13 r v la W h
  have hok := (acks_ok la (ok_of r)).1
  have h2 := fun v W h => (acked13 (acks la (ofR r)) v lb W h).later
  have h3 : ∀ (v : Value) (W : World), Arr W 5 v (la.length + lb.length) (snts la ++ snts lb) → Gives Try.prog 13 #[rv r, v] W (rv (acks lb (acks la (ofR r)))) := by
    intro v W h
    have := acked13 r v (la ++ lb) W (by rw [List.length_append, snts_app]; exact h)
    rw [acks_app] at this
    exact this
  rw [of_ok hok] at h2
  generalize acks lb (acks la (ofR r)) = Q at *
  generalize acks la (ofR r) = Q1 at *
  have H1 := hid h1
  have H2 := hid h2
  have HC := hid h3
  clear h1 h2 h3 hok
  obtain ⟨a1, c1, hva⟩ := hva
  obtain ⟨a2, c2, hvb⟩ := hvb
  have hla : ((la.length : Nat) : Int) ≤ 50 := by omega
  subst hva hvb
  (go_enter Try.func6, Try.ntmps6; go_wp2_with (fail))
  refine (awake9 _).mono ?_
  rintro e w2 ⟨rfl, xx, rfl⟩
  obtain ⟨W0, hW0⟩ : ∃ W0, W0 = latr _ xx := ⟨_, rfl⟩
  rw [← hW0]
  have HL := hid (by rw [hW0]; exact (by repeat (first | (with_reducible exact Later.refl _) | with_reducible apply Later.latr | with_reducible apply Later.alloc | with_reducible apply Later.drew | (with_reducible refine Later.set ?_ (by (simp; try omega)) _))) : Later w W0)
  have hBr : Blk W0 w.heap.size 25 (rc r) := by rw [hW0]; exact (Blk.new _ _ _).latr _
  clear hW0
  have HBR := hid hBr
  (obtain ⟨hcr0, hcr1, hcr2, hcr3, hfr0, hfr1, hfr2, hfr3, hgr⟩ := Blk.at4 (hBr))
  clear hBr
  go_wp2_with (fail)
  refine (H1.out _ _ (HA.out.later HL.out)).later.mono ?_
  rintro e W1 ⟨rfl, hl1⟩
  have HL1 := hid (HL.out.trans hl1)
  have HBR1 := hid (HBR.out.later hl1)
  clear hl1
  go_wp2_with (fail)
  refine (H2.out _ _ (HB.out.later HL1.out)).mono ?_
  rintro e W2 ⟨rfl, hl2⟩
  have HL2 := hid (HL1.out.trans hl2)
  have HBR2 := hid (HBR1.out.later hl2)
  clear hl2
  go_wp2_with (fail)
  obtain ⟨w0, hw0⟩ : ∃ w0, w0 = W2.alloc (.cells #[.int .i64 Q.w, .int .i64 Q.s, .int .i64 Q.c, .int .i64 Q.r] 25) := ⟨_, rfl⟩
  rw [← hw0]
  have hQ : Blk w0 W2.heap.size 25 #[.int .i64 Q.w, .int .i64 Q.s, .int .i64 Q.c, .int .i64 Q.r] := by rw [hw0]; exact Blk.new _ _ _
  have hBR3 : Blk w0 w.heap.size 25 (rc r) := by rw [hw0]; exact HBR2.out.alloc _
  have hL3 : Later w w0 := by rw [hw0]; exact HL2.out.alloc _
  clear hw0
  have HQ := hid hQ
  have HBR3 := hid hBR3
  have HL3 := hid hL3
  clear hQ hBR3 hL3
  replace HA := hid (HA.out.later HL3.out)
  replace HB := hid (HB.out.later HL3.out)
  apply wp_region_spec [1, 3, 5, 6, 7, 8] _ (fun af F W => ∃ (p : Nat) (v0 v1 v2 : Value), F = (((((Act.put af (some 28) v0).put (some 30) v1).put (some 32) v2).put (some 33) (rv Q)).put (some 9) (.pointer (some ⟨p, 0, none⟩))) ∧ Later w0 W ∧ w0.heap.size ≤ p ∧ Blk W p 25 #[.int .i64 Q.w, .int .i64 Q.s, .int .i64 Q.c, .int .i64 Q.r]) (by kernel_rfl) (by kernel_rfl)
  case h =>
    intro u hu
    have hSu := HBR3.out.later hu
    (obtain ⟨hcs0, hcs1, hcs2, hcs3, hfs0, hfs1, hfs2, hfs3, hgs⟩ := Blk.at4 (hSu))
    clear hSu
    simp only [pickQ, List.contains, List.elem, Nat.reduceBEq, Nat.reduceAdd, Bool.false_eq_true, if_false, if_true]
    (repeat (go_big_quiet_step (fail)))
    exact wpQuiet_nil rfl
  case hs =>
    have hL : Later w0 w0.drew := (Later.refl _).drew
    refine wpSo_step [1, 7] (by kernel_rfl) (by decide) ?_
    intro i hi x K hK
    simp only [List.mem_cons, List.not_mem_nil, or_false] at hi
    rcases hi with rfl | rfl
    · (obtain ⟨U0, hU0⟩ : ∃ U0, U0 = latr _ x := ⟨_, rfl⟩; rw [← hU0])
      have hlx : Later _ U0 := hU0 ▸ latr_later _ x
      clear hU0
      replace hL : Later w0 U0 := hL.trans hlx
      clear hlx
      refine spec_one (by rfl) (by rfl) ?_
      go_simp
      refine hK _ _ (by repeat (first | (with_reducible exact Later.refl _) | (with_reducible exact hL) | with_reducible apply Later.latr | with_reducible apply Later.alloc | with_reducible apply Later.drew | (with_reducible refine Later.set ?_ (by (simp; try omega)) _))) ?_
      clear hK K
      have hO := World.ownsRow_made (base := w0.heap.size) (e := 31) (size := 5) U0 #[] 0 hL.size (by decide) rfl
      obtain ⟨v0, hv⟩ : ∃ v : Value, v = .slice (some ⟨U0.heap.size, 0, none⟩) 0 0 := ⟨_, rfl⟩
      rw [← hv] at hO
      simp only [← hv]
      clear hv
      replace hL := hL.alloc (.cells #[] 31)
      refine wpSo_step [3, 7] (by kernel_rfl) (by decide) ?_
      intro i hi x K hK
      simp only [List.mem_cons, List.not_mem_nil, or_false] at hi
      rcases hi with rfl | rfl
      · (obtain ⟨U1, hU1⟩ : ∃ U1, U1 = latr _ x := ⟨_, rfl⟩; rw [← hU1])
        have hlx : Later _ U1 := hU1 ▸ latr_later _ x
        clear hU1
        replace hL : Later w0 U1 := hL.trans hlx
        replace hO := own_later hO hlx
        clear hlx
        refine spec_one (by rfl) (by rfl) ?_
        refine wp_append_arr U1 (.tmp 28) (.tmp 29) 27 rfl w0.heap.size 31 i0 _ 5 32 Try.underlying27 hi0 hz0 hz1 hz2 rfl (by decide) _ 0 _ rfl hO _ la.length (snts la) rfl (HA.out.later hL) HAS.out (snts_one _) (by unfold maxLen; omega) (by omega) hL.size ?_
        intro v1 Wapp1 hO1 hg
        have hL1 := hL.grown hg (own_lt hO (Nat.le_refl _))
        refine hK _ _ hL1 ?_
        clear hK K hL hO hg
        have hL := hL1
        have hO := hO1
        rw [Nat.zero_add, List.nil_append] at hO
        clear hL1 hO1
        refine wpSo_step [5, 7] (by kernel_rfl) (by decide) ?_
        intro i hi x K hK
        simp only [List.mem_cons, List.not_mem_nil, or_false] at hi
        rcases hi with rfl | rfl
        · (obtain ⟨U2, hU2⟩ : ∃ U2, U2 = latr _ x := ⟨_, rfl⟩; rw [← hU2])
          have hlx : Later _ U2 := hU2 ▸ latr_later _ x
          clear hU2
          replace hL : Later w0 U2 := hL.trans hlx
          replace hO := own_later hO hlx
          clear hlx
          refine spec_one (by rfl) (by rfl) ?_
          refine wp_append_arr U2 (.tmp 30) (.tmp 31) 27 rfl w0.heap.size 31 i0 _ 5 32 Try.underlying27 hi0 hz0 hz1 hz2 rfl (by decide) _ la.length _ rfl hO _ lb.length (snts lb) rfl (HB.out.later hL) HBS.out (snts_one _) (by unfold maxLen; omega) (by omega) hL.size ?_
          intro v2 Wapp2 hO1 hg
          have hL1 := hL.grown hg (own_lt hO (Nat.le_refl _))
          refine hK _ _ hL1 ?_
          clear hK K hL hO hg
          have hL := hL1
          have hO := hO1
          clear hL1 hO1
          refine wpSo_step [6, 7] (by kernel_rfl) (by decide) ?_
          intro i hi x K hK
          simp only [List.mem_cons, List.not_mem_nil, or_false] at hi
          rcases hi with rfl | rfl
          · (obtain ⟨U3, hU3⟩ : ∃ U3, U3 = latr _ x := ⟨_, rfl⟩; rw [← hU3])
            have hlx : Later _ U3 := hU3 ▸ latr_later _ x
            clear hU3
            replace hL : Later w0 U3 := hL.trans hlx
            replace hO := own_later hO hlx
            clear hlx
            refine spec_one (by rfl) (by rfl) ?_
            go_simp
            refine (HC.out v2 _ (Arr.of_own hO)).mono ?_
            rintro e W3 ⟨rfl, y, rfl⟩
            refine hK _ _ (by repeat (first | (with_reducible exact Later.refl _) | (with_reducible exact hL) | with_reducible apply Later.latr | with_reducible apply Later.alloc | with_reducible apply Later.drew | (with_reducible refine Later.set ?_ (by (simp; try omega)) _))) ?_
            clear hK K
            replace hL := hL.latr y
            replace hO := own_latr hO y
            refine wpSo_step [7] (by kernel_rfl) (by decide) ?_
            intro i hi x K hK
            obtain rfl : i = 7 := by simpa using hi
            (obtain ⟨U4, hU4⟩ : ∃ U4, U4 = latr _ x := ⟨_, rfl⟩; rw [← hU4])
            have hlx : Later _ U4 := hU4 ▸ latr_later _ x
            clear hU4
            replace hL : Later w0 U4 := hL.trans hlx
            replace hO := own_later hO hlx
            clear hlx
            refine spec_one (by rfl) (by rfl) ?_
            go_simp
            refine hK _ _ (by repeat (first | (with_reducible exact Later.refl _) | (with_reducible exact hL) | with_reducible apply Later.latr | with_reducible apply Later.alloc | with_reducible apply Later.drew | (with_reducible refine Later.set ?_ (by (simp; try omega)) _))) ?_
            clear hK K
            have hP := Blk.new U4 25 #[.int .i64 0, .int .i64 0, .int .i64 0, .int .i64 0]
            have hp := hL.size
            replace hL := hL.alloc (.cells #[.int .i64 0, .int .i64 0, .int .i64 0, .int .i64 0] 25)
            replace hO := own_later hO ((Later.refl _).alloc (.cells #[.int .i64 0, .int .i64 0, .int .i64 0, .int .i64 0] 25))
            generalize U4.heap.size = p at *
            refine wpSo_step [8] (by kernel_rfl) (by decide) ?_
            intro i hi x K hK
            obtain rfl : i = 8 := by simpa using hi
            (obtain ⟨U5, hU5⟩ : ∃ U5, U5 = latr _ x := ⟨_, rfl⟩; rw [← hU5])
            have hlx : Later _ U5 := hU5 ▸ latr_later _ x
            clear hU5
            replace hL : Later w0 U5 := hL.trans hlx
            replace hO := own_later hO hlx
            replace hP := hP.later hlx
            clear hlx
            refine spec_one (by rfl) (by rfl) ?_
            (obtain ⟨hcp0, hcp1, hcp2, hcp3, hfp0, hfp1, hfp2, hfp3, hgp⟩ := Blk.at4 (hP))
            go_simp
            refine hK _ _ (by repeat (first | (with_reducible exact Later.refl _) | (with_reducible exact hL) | with_reducible apply Later.latr | with_reducible apply Later.alloc | with_reducible apply Later.drew | (with_reducible refine Later.set ?_ (by (simp; try omega)) _))) ?_
            clear hK K
            replace hP := (((hP.set_ 0 (.int .i64 Q.w)).set_ 1 (.int .i64 Q.s)).set_ 2 (.int .i64 Q.c)).set_ 3 (.int .i64 Q.r)
            refine wpSo_nil (fun x => ?_)
            exact ⟨p, v0, v1, v2, rfl, by repeat (first | (with_reducible exact Later.refl _) | (with_reducible exact hL) | with_reducible apply Later.latr | with_reducible apply Later.alloc | with_reducible apply Later.drew | (with_reducible refine Later.set ?_ (by (simp; try omega)) _)), hp, hP.latr x⟩
          · (obtain ⟨U3, hU3⟩ : ∃ U3, U3 = latr _ x := ⟨_, rfl⟩; rw [← hU3])
            have hlx : Later _ U3 := hU3 ▸ latr_later _ x
            clear hU3
            replace hL : Later w0 U3 := hL.trans hlx
            replace hO := own_later hO hlx
            clear hlx
            refine spec_one (by rfl) (by rfl) ?_
            go_simp
            refine hK _ _ (by repeat (first | (with_reducible exact Later.refl _) | (with_reducible exact hL) | with_reducible apply Later.latr | with_reducible apply Later.alloc | with_reducible apply Later.drew | (with_reducible refine Later.set ?_ (by (simp; try omega)) _))) ?_
            clear hK K
            have hP := Blk.new U3 25 #[.int .i64 0, .int .i64 0, .int .i64 0, .int .i64 0]
            have hp := hL.size
            replace hL := hL.alloc (.cells #[.int .i64 0, .int .i64 0, .int .i64 0, .int .i64 0] 25)
            replace hO := own_later hO ((Later.refl _).alloc (.cells #[.int .i64 0, .int .i64 0, .int .i64 0, .int .i64 0] 25))
            generalize U3.heap.size = p at *
            refine wpSo_step [6] (by kernel_rfl) (by decide) ?_
            intro i hi x K hK
            obtain rfl : i = 6 := by simpa using hi
            (obtain ⟨U4, hU4⟩ : ∃ U4, U4 = latr _ x := ⟨_, rfl⟩; rw [← hU4])
            have hlx : Later _ U4 := hU4 ▸ latr_later _ x
            clear hU4
            replace hL : Later w0 U4 := hL.trans hlx
            replace hO := own_later hO hlx
            replace hP := hP.later hlx
            clear hlx
            refine spec_one (by rfl) (by rfl) ?_
            go_simp
            refine (HC.out v2 _ (Arr.of_own hO)).mono ?_
            rintro e W3 ⟨rfl, y, rfl⟩
            refine hK _ _ (by repeat (first | (with_reducible exact Later.refl _) | (with_reducible exact hL) | with_reducible apply Later.latr | with_reducible apply Later.alloc | with_reducible apply Later.drew | (with_reducible refine Later.set ?_ (by (simp; try omega)) _))) ?_
            clear hK K
            replace hL := hL.latr y
            replace hO := own_latr hO y
            replace hP := hP.latr y
            refine wpSo_step [8] (by kernel_rfl) (by decide) ?_
            intro i hi x K hK
            obtain rfl : i = 8 := by simpa using hi
            (obtain ⟨U5, hU5⟩ : ∃ U5, U5 = latr _ x := ⟨_, rfl⟩; rw [← hU5])
            have hlx : Later _ U5 := hU5 ▸ latr_later _ x
            clear hU5
            replace hL : Later w0 U5 := hL.trans hlx
            replace hO := own_later hO hlx
            replace hP := hP.later hlx
            clear hlx
            refine spec_one (by rfl) (by rfl) ?_
            (obtain ⟨hcp0, hcp1, hcp2, hcp3, hfp0, hfp1, hfp2, hfp3, hgp⟩ := Blk.at4 (hP))
            go_simp
            refine hK _ _ (by repeat (first | (with_reducible exact Later.refl _) | (with_reducible exact hL) | with_reducible apply Later.latr | with_reducible apply Later.alloc | with_reducible apply Later.drew | (with_reducible refine Later.set ?_ (by (simp; try omega)) _))) ?_
            clear hK K
            replace hP := (((hP.set_ 0 (.int .i64 Q.w)).set_ 1 (.int .i64 Q.s)).set_ 2 (.int .i64 Q.c)).set_ 3 (.int .i64 Q.r)
            refine wpSo_nil (fun x => ?_)
            exact ⟨p, v0, v1, v2, rfl, by repeat (first | (with_reducible exact Later.refl _) | (with_reducible exact hL) | with_reducible apply Later.latr | with_reducible apply Later.alloc | with_reducible apply Later.drew | (with_reducible refine Later.set ?_ (by (simp; try omega)) _)), hp, hP.latr x⟩
        · (obtain ⟨U2, hU2⟩ : ∃ U2, U2 = latr _ x := ⟨_, rfl⟩; rw [← hU2])
          have hlx : Later _ U2 := hU2 ▸ latr_later _ x
          clear hU2
          replace hL : Later w0 U2 := hL.trans hlx
          replace hO := own_later hO hlx
          clear hlx
          refine spec_one (by rfl) (by rfl) ?_
          go_simp
          refine hK _ _ (by repeat (first | (with_reducible exact Later.refl _) | (with_reducible exact hL) | with_reducible apply Later.latr | with_reducible apply Later.alloc | with_reducible apply Later.drew | (with_reducible refine Later.set ?_ (by (simp; try omega)) _))) ?_
          clear hK K
          have hP := Blk.new U2 25 #[.int .i64 0, .int .i64 0, .int .i64 0, .int .i64 0]
          have hp := hL.size
          replace hL := hL.alloc (.cells #[.int .i64 0, .int .i64 0, .int .i64 0, .int .i64 0] 25)
          replace hO := own_later hO ((Later.refl _).alloc (.cells #[.int .i64 0, .int .i64 0, .int .i64 0, .int .i64 0] 25))
          generalize U2.heap.size = p at *
          refine wpSo_step [5] (by kernel_rfl) (by decide) ?_
          intro i hi x K hK
          obtain rfl : i = 5 := by simpa using hi
          (obtain ⟨U3, hU3⟩ : ∃ U3, U3 = latr _ x := ⟨_, rfl⟩; rw [← hU3])
          have hlx : Later _ U3 := hU3 ▸ latr_later _ x
          clear hU3
          replace hL : Later w0 U3 := hL.trans hlx
          replace hO := own_later hO hlx
          replace hP := hP.later hlx
          clear hlx
          refine spec_one (by rfl) (by rfl) ?_
          refine wp_append_arr U3 (.tmp 30) (.tmp 31) 27 rfl w0.heap.size 31 i0 _ 5 32 Try.underlying27 hi0 hz0 hz1 hz2 rfl (by decide) _ la.length _ rfl hO _ lb.length (snts lb) rfl (HB.out.later hL) HBS.out (snts_one _) (by unfold maxLen; omega) (by omega) hL.size ?_
          intro v2 Wapp2 hO1 hg
          have hL1 := hL.grown hg (own_lt hO (Nat.le_refl _))
          have hP1 := hP.grown hg (own_blk_ne hO hP (by decide))
          refine hK _ _ hL1 ?_
          clear hK K hL hO hg hP
          have hL := hL1
          have hO := hO1
          have hP := hP1
          clear hL1 hO1 hP1
          refine wpSo_step [6] (by kernel_rfl) (by decide) ?_
          intro i hi x K hK
          obtain rfl : i = 6 := by simpa using hi
          (obtain ⟨U4, hU4⟩ : ∃ U4, U4 = latr _ x := ⟨_, rfl⟩; rw [← hU4])
          have hlx : Later _ U4 := hU4 ▸ latr_later _ x
          clear hU4
          replace hL : Later w0 U4 := hL.trans hlx
          replace hO := own_later hO hlx
          replace hP := hP.later hlx
          clear hlx
          refine spec_one (by rfl) (by rfl) ?_
          go_simp
          refine (HC.out v2 _ (Arr.of_own hO)).mono ?_
          rintro e W3 ⟨rfl, y, rfl⟩
          refine hK _ _ (by repeat (first | (with_reducible exact Later.refl _) | (with_reducible exact hL) | with_reducible apply Later.latr | with_reducible apply Later.alloc | with_reducible apply Later.drew | (with_reducible refine Later.set ?_ (by (simp; try omega)) _))) ?_
          clear hK K
          replace hL := hL.latr y
          replace hO := own_latr hO y
          replace hP := hP.latr y
          refine wpSo_step [8] (by kernel_rfl) (by decide) ?_
          intro i hi x K hK
          obtain rfl : i = 8 := by simpa using hi
          (obtain ⟨U5, hU5⟩ : ∃ U5, U5 = latr _ x := ⟨_, rfl⟩; rw [← hU5])
          have hlx : Later _ U5 := hU5 ▸ latr_later _ x
          clear hU5
          replace hL : Later w0 U5 := hL.trans hlx
          replace hO := own_later hO hlx
          replace hP := hP.later hlx
          clear hlx
          refine spec_one (by rfl) (by rfl) ?_
          (obtain ⟨hcp0, hcp1, hcp2, hcp3, hfp0, hfp1, hfp2, hfp3, hgp⟩ := Blk.at4 (hP))
          go_simp
          refine hK _ _ (by repeat (first | (with_reducible exact Later.refl _) | (with_reducible exact hL) | with_reducible apply Later.latr | with_reducible apply Later.alloc | with_reducible apply Later.drew | (with_reducible refine Later.set ?_ (by (simp; try omega)) _))) ?_
          clear hK K
          replace hP := (((hP.set_ 0 (.int .i64 Q.w)).set_ 1 (.int .i64 Q.s)).set_ 2 (.int .i64 Q.c)).set_ 3 (.int .i64 Q.r)
          refine wpSo_nil (fun x => ?_)
          exact ⟨p, v0, v1, v2, rfl, by repeat (first | (with_reducible exact Later.refl _) | (with_reducible exact hL) | with_reducible apply Later.latr | with_reducible apply Later.alloc | with_reducible apply Later.drew | (with_reducible refine Later.set ?_ (by (simp; try omega)) _)), hp, hP.latr x⟩
      · (obtain ⟨U1, hU1⟩ : ∃ U1, U1 = latr _ x := ⟨_, rfl⟩; rw [← hU1])
        have hlx : Later _ U1 := hU1 ▸ latr_later _ x
        clear hU1
        replace hL : Later w0 U1 := hL.trans hlx
        replace hO := own_later hO hlx
        clear hlx
        refine spec_one (by rfl) (by rfl) ?_
        go_simp
        refine hK _ _ (by repeat (first | (with_reducible exact Later.refl _) | (with_reducible exact hL) | with_reducible apply Later.latr | with_reducible apply Later.alloc | with_reducible apply Later.drew | (with_reducible refine Later.set ?_ (by (simp; try omega)) _))) ?_
        clear hK K
        have hP := Blk.new U1 25 #[.int .i64 0, .int .i64 0, .int .i64 0, .int .i64 0]
        have hp := hL.size
        replace hL := hL.alloc (.cells #[.int .i64 0, .int .i64 0, .int .i64 0, .int .i64 0] 25)
        replace hO := own_later hO ((Later.refl _).alloc (.cells #[.int .i64 0, .int .i64 0, .int .i64 0, .int .i64 0] 25))
        generalize U1.heap.size = p at *
        refine wpSo_step [3] (by kernel_rfl) (by decide) ?_
        intro i hi x K hK
        obtain rfl : i = 3 := by simpa using hi
        (obtain ⟨U2, hU2⟩ : ∃ U2, U2 = latr _ x := ⟨_, rfl⟩; rw [← hU2])
        have hlx : Later _ U2 := hU2 ▸ latr_later _ x
        clear hU2
        replace hL : Later w0 U2 := hL.trans hlx
        replace hO := own_later hO hlx
        replace hP := hP.later hlx
        clear hlx
        refine spec_one (by rfl) (by rfl) ?_
        refine wp_append_arr U2 (.tmp 28) (.tmp 29) 27 rfl w0.heap.size 31 i0 _ 5 32 Try.underlying27 hi0 hz0 hz1 hz2 rfl (by decide) _ 0 _ rfl hO _ la.length (snts la) rfl (HA.out.later hL) HAS.out (snts_one _) (by unfold maxLen; omega) (by omega) hL.size ?_
        intro v1 Wapp1 hO1 hg
        have hL1 := hL.grown hg (own_lt hO (Nat.le_refl _))
        have hP1 := hP.grown hg (own_blk_ne hO hP (by decide))
        refine hK _ _ hL1 ?_
        clear hK K hL hO hg hP
        have hL := hL1
        have hO := hO1
        rw [Nat.zero_add, List.nil_append] at hO
        have hP := hP1
        clear hL1 hO1 hP1
        refine wpSo_step [5] (by kernel_rfl) (by decide) ?_
        intro i hi x K hK
        obtain rfl : i = 5 := by simpa using hi
        (obtain ⟨U3, hU3⟩ : ∃ U3, U3 = latr _ x := ⟨_, rfl⟩; rw [← hU3])
        have hlx : Later _ U3 := hU3 ▸ latr_later _ x
        clear hU3
        replace hL : Later w0 U3 := hL.trans hlx
        replace hO := own_later hO hlx
        replace hP := hP.later hlx
        clear hlx
        refine spec_one (by rfl) (by rfl) ?_
        refine wp_append_arr U3 (.tmp 30) (.tmp 31) 27 rfl w0.heap.size 31 i0 _ 5 32 Try.underlying27 hi0 hz0 hz1 hz2 rfl (by decide) _ la.length _ rfl hO _ lb.length (snts lb) rfl (HB.out.later hL) HBS.out (snts_one _) (by unfold maxLen; omega) (by omega) hL.size ?_
        intro v2 Wapp2 hO1 hg
        have hL1 := hL.grown hg (own_lt hO (Nat.le_refl _))
        have hP1 := hP.grown hg (own_blk_ne hO hP (by decide))
        refine hK _ _ hL1 ?_
        clear hK K hL hO hg hP
        have hL := hL1
        have hO := hO1
        have hP := hP1
        clear hL1 hO1 hP1
        refine wpSo_step [6] (by kernel_rfl) (by decide) ?_
        intro i hi x K hK
        obtain rfl : i = 6 := by simpa using hi
        (obtain ⟨U4, hU4⟩ : ∃ U4, U4 = latr _ x := ⟨_, rfl⟩; rw [← hU4])
        have hlx : Later _ U4 := hU4 ▸ latr_later _ x
        clear hU4
        replace hL : Later w0 U4 := hL.trans hlx
        replace hO := own_later hO hlx
        replace hP := hP.later hlx
        clear hlx
        refine spec_one (by rfl) (by rfl) ?_
        go_simp
        refine (HC.out v2 _ (Arr.of_own hO)).mono ?_
        rintro e W3 ⟨rfl, y, rfl⟩
        refine hK _ _ (by repeat (first | (with_reducible exact Later.refl _) | (with_reducible exact hL) | with_reducible apply Later.latr | with_reducible apply Later.alloc | with_reducible apply Later.drew | (with_reducible refine Later.set ?_ (by (simp; try omega)) _))) ?_
        clear hK K
        replace hL := hL.latr y
        replace hO := own_latr hO y
        replace hP := hP.latr y
        refine wpSo_step [8] (by kernel_rfl) (by decide) ?_
        intro i hi x K hK
        obtain rfl : i = 8 := by simpa using hi
        (obtain ⟨U5, hU5⟩ : ∃ U5, U5 = latr _ x := ⟨_, rfl⟩; rw [← hU5])
        have hlx : Later _ U5 := hU5 ▸ latr_later _ x
        clear hU5
        replace hL : Later w0 U5 := hL.trans hlx
        replace hO := own_later hO hlx
        replace hP := hP.later hlx
        clear hlx
        refine spec_one (by rfl) (by rfl) ?_
        (obtain ⟨hcp0, hcp1, hcp2, hcp3, hfp0, hfp1, hfp2, hfp3, hgp⟩ := Blk.at4 (hP))
        go_simp
        refine hK _ _ (by repeat (first | (with_reducible exact Later.refl _) | (with_reducible exact hL) | with_reducible apply Later.latr | with_reducible apply Later.alloc | with_reducible apply Later.drew | (with_reducible refine Later.set ?_ (by (simp; try omega)) _))) ?_
        clear hK K
        replace hP := (((hP.set_ 0 (.int .i64 Q.w)).set_ 1 (.int .i64 Q.s)).set_ 2 (.int .i64 Q.c)).set_ 3 (.int .i64 Q.r)
        refine wpSo_nil (fun x => ?_)
        exact ⟨p, v0, v1, v2, rfl, by repeat (first | (with_reducible exact Later.refl _) | (with_reducible exact hL) | with_reducible apply Later.latr | with_reducible apply Later.alloc | with_reducible apply Later.drew | (with_reducible refine Later.set ?_ (by (simp; try omega)) _)), hp, hP.latr x⟩
    · (obtain ⟨U0, hU0⟩ : ∃ U0, U0 = latr _ x := ⟨_, rfl⟩; rw [← hU0])
      have hlx : Later _ U0 := hU0 ▸ latr_later _ x
      clear hU0
      replace hL : Later w0 U0 := hL.trans hlx
      clear hlx
      refine spec_one (by rfl) (by rfl) ?_
      go_simp
      refine hK _ _ (by repeat (first | (with_reducible exact Later.refl _) | (with_reducible exact hL) | with_reducible apply Later.latr | with_reducible apply Later.alloc | with_reducible apply Later.drew | (with_reducible refine Later.set ?_ (by (simp; try omega)) _))) ?_
      clear hK K
      have hP := Blk.new U0 25 #[.int .i64 0, .int .i64 0, .int .i64 0, .int .i64 0]
      have hp := hL.size
      replace hL := hL.alloc (.cells #[.int .i64 0, .int .i64 0, .int .i64 0, .int .i64 0] 25)
      generalize U0.heap.size = p at *
      refine wpSo_step [1] (by kernel_rfl) (by decide) ?_
      intro i hi x K hK
      obtain rfl : i = 1 := by simpa using hi
      (obtain ⟨U1, hU1⟩ : ∃ U1, U1 = latr _ x := ⟨_, rfl⟩; rw [← hU1])
      have hlx : Later _ U1 := hU1 ▸ latr_later _ x
      clear hU1
      replace hL : Later w0 U1 := hL.trans hlx
      replace hP := hP.later hlx
      clear hlx
      refine spec_one (by rfl) (by rfl) ?_
      go_simp
      refine hK _ _ (by repeat (first | (with_reducible exact Later.refl _) | (with_reducible exact hL) | with_reducible apply Later.latr | with_reducible apply Later.alloc | with_reducible apply Later.drew | (with_reducible refine Later.set ?_ (by (simp; try omega)) _))) ?_
      clear hK K
      have hO := World.ownsRow_made (base := w0.heap.size) (e := 31) (size := 5) U1 #[] 0 hL.size (by decide) rfl
      obtain ⟨v0, hv⟩ : ∃ v : Value, v = .slice (some ⟨U1.heap.size, 0, none⟩) 0 0 := ⟨_, rfl⟩
      rw [← hv] at hO
      simp only [← hv]
      clear hv
      replace hL := hL.alloc (.cells #[] 31)
      replace hP := hP.alloc (.cells #[] 31)
      refine wpSo_step [3] (by kernel_rfl) (by decide) ?_
      intro i hi x K hK
      obtain rfl : i = 3 := by simpa using hi
      (obtain ⟨U2, hU2⟩ : ∃ U2, U2 = latr _ x := ⟨_, rfl⟩; rw [← hU2])
      have hlx : Later _ U2 := hU2 ▸ latr_later _ x
      clear hU2
      replace hL : Later w0 U2 := hL.trans hlx
      replace hO := own_later hO hlx
      replace hP := hP.later hlx
      clear hlx
      refine spec_one (by rfl) (by rfl) ?_
      refine wp_append_arr U2 (.tmp 28) (.tmp 29) 27 rfl w0.heap.size 31 i0 _ 5 32 Try.underlying27 hi0 hz0 hz1 hz2 rfl (by decide) _ 0 _ rfl hO _ la.length (snts la) rfl (HA.out.later hL) HAS.out (snts_one _) (by unfold maxLen; omega) (by omega) hL.size ?_
      intro v1 Wapp1 hO1 hg
      have hL1 := hL.grown hg (own_lt hO (Nat.le_refl _))
      have hP1 := hP.grown hg (own_blk_ne hO hP (by decide))
      refine hK _ _ hL1 ?_
      clear hK K hL hO hg hP
      have hL := hL1
      have hO := hO1
      rw [Nat.zero_add, List.nil_append] at hO
      have hP := hP1
      clear hL1 hO1 hP1
      refine wpSo_step [5] (by kernel_rfl) (by decide) ?_
      intro i hi x K hK
      obtain rfl : i = 5 := by simpa using hi
      (obtain ⟨U3, hU3⟩ : ∃ U3, U3 = latr _ x := ⟨_, rfl⟩; rw [← hU3])
      have hlx : Later _ U3 := hU3 ▸ latr_later _ x
      clear hU3
      replace hL : Later w0 U3 := hL.trans hlx
      replace hO := own_later hO hlx
      replace hP := hP.later hlx
      clear hlx
      refine spec_one (by rfl) (by rfl) ?_
      refine wp_append_arr U3 (.tmp 30) (.tmp 31) 27 rfl w0.heap.size 31 i0 _ 5 32 Try.underlying27 hi0 hz0 hz1 hz2 rfl (by decide) _ la.length _ rfl hO _ lb.length (snts lb) rfl (HB.out.later hL) HBS.out (snts_one _) (by unfold maxLen; omega) (by omega) hL.size ?_
      intro v2 Wapp2 hO1 hg
      have hL1 := hL.grown hg (own_lt hO (Nat.le_refl _))
      have hP1 := hP.grown hg (own_blk_ne hO hP (by decide))
      refine hK _ _ hL1 ?_
      clear hK K hL hO hg hP
      have hL := hL1
      have hO := hO1
      have hP := hP1
      clear hL1 hO1 hP1
      refine wpSo_step [6] (by kernel_rfl) (by decide) ?_
      intro i hi x K hK
      obtain rfl : i = 6 := by simpa using hi
      (obtain ⟨U4, hU4⟩ : ∃ U4, U4 = latr _ x := ⟨_, rfl⟩; rw [← hU4])
      have hlx : Later _ U4 := hU4 ▸ latr_later _ x
      clear hU4
      replace hL : Later w0 U4 := hL.trans hlx
      replace hO := own_later hO hlx
      replace hP := hP.later hlx
      clear hlx
      refine spec_one (by rfl) (by rfl) ?_
      go_simp
      refine (HC.out v2 _ (Arr.of_own hO)).mono ?_
      rintro e W3 ⟨rfl, y, rfl⟩
      refine hK _ _ (by repeat (first | (with_reducible exact Later.refl _) | (with_reducible exact hL) | with_reducible apply Later.latr | with_reducible apply Later.alloc | with_reducible apply Later.drew | (with_reducible refine Later.set ?_ (by (simp; try omega)) _))) ?_
      clear hK K
      replace hL := hL.latr y
      replace hO := own_latr hO y
      replace hP := hP.latr y
      refine wpSo_step [8] (by kernel_rfl) (by decide) ?_
      intro i hi x K hK
      obtain rfl : i = 8 := by simpa using hi
      (obtain ⟨U5, hU5⟩ : ∃ U5, U5 = latr _ x := ⟨_, rfl⟩; rw [← hU5])
      have hlx : Later _ U5 := hU5 ▸ latr_later _ x
      clear hU5
      replace hL : Later w0 U5 := hL.trans hlx
      replace hO := own_later hO hlx
      replace hP := hP.later hlx
      clear hlx
      refine spec_one (by rfl) (by rfl) ?_
      (obtain ⟨hcp0, hcp1, hcp2, hcp3, hfp0, hfp1, hfp2, hfp3, hgp⟩ := Blk.at4 (hP))
      go_simp
      refine hK _ _ (by repeat (first | (with_reducible exact Later.refl _) | (with_reducible exact hL) | with_reducible apply Later.latr | with_reducible apply Later.alloc | with_reducible apply Later.drew | (with_reducible refine Later.set ?_ (by (simp; try omega)) _))) ?_
      clear hK K
      replace hP := (((hP.set_ 0 (.int .i64 Q.w)).set_ 1 (.int .i64 Q.s)).set_ 2 (.int .i64 Q.c)).set_ 3 (.int .i64 Q.r)
      refine wpSo_nil (fun x => ?_)
      exact ⟨p, v0, v1, v2, rfl, by repeat (first | (with_reducible exact Later.refl _) | (with_reducible exact hL) | with_reducible apply Later.latr | with_reducible apply Later.alloc | with_reducible apply Later.drew | (with_reducible refine Later.set ?_ (by (simp; try omega)) _)), hp, hP.latr x⟩
  case hR =>
    rintro F W ⟨p, v0, v1, v2, rfl, hL, hp, hB⟩
    have HQ1 := hid (HQ.out.later hL)
    have HL4 := hid (HL3.out.trans hL)
    have HB4 := hid hB
    clear hL hp hB
    go_simp
    go_wp2_with (fail)
    obtain ⟨w5, hw5⟩ : ∃ w5, w5 = W.alloc (.cells #[.int .i64 4000, .int .i64 512, .int .i64 0, .int .i64 (-1)] 25) := ⟨_, rfl⟩
    rw [← hw5]
    have hS5 : Blk w5 W.heap.size 25 (rc (slow 0)) := by rw [hw5]; exact Blk.new _ _ _
    have hL5 : Later w w5 := by rw [hw5]; exact HL4.out.alloc _
    have hQ5 : Blk w5 W2.heap.size 25 #[.int .i64 Q.w, .int .i64 Q.s, .int .i64 Q.c, .int .i64 Q.r] := by rw [hw5]; exact HQ1.out.alloc _
    have hB5 : Blk w5 p 25 #[.int .i64 Q.w, .int .i64 Q.s, .int .i64 Q.c, .int .i64 Q.r] := by rw [hw5]; exact HB4.out.alloc _
    have hz1' : W2.heap.size < W.heap.size := HQ1.out.lt
    have hz2' : p < W.heap.size := HB4.out.lt
    have hz3' : w.heap.size ≤ W.heap.size := HL4.out.size
    clear hw5
    generalize W.heap.size = sp at *
    generalize W2.heap.size = qp at *
    go_loopw [11] (fun i wr => ∃ k : Nat, k ≤ 4 ∧ i = .int .i64 k ∧ Later w wr ∧ Blk wr qp 25 #[.int .i64 Q.w, .int .i64 Q.s, .int .i64 Q.c, .int .i64 Q.r] ∧ Blk wr p 25 #[.int .i64 Q.w, .int .i64 Q.s, .int .i64 Q.c, .int .i64 Q.r] ∧ Blk wr sp 25 (rc (slow k))) (fun i _ => 4 - (intOf i).toNat)
    case atStart => exact ⟨0, Nat.zero_le _, rfl, hL5, hQ5, hB5, hS5⟩
    case round =>
      obtain ⟨k, hk, rfl, hl, hq, hb, hs⟩ := hrel
      by_cases hlt : k < 4
      · have hc := fun v W (h : Arr W 5 v 1 [.int .i64 0, .int .i64 0, .int .i64 1000, .bool true, .bool false]) => (acked13 (slow k) v [{ k := 0, t := 0, z := 1000, e := true, p := false }] W h).later
        rw [of_ok (slow_ok k)] at hc
        have hsl : acks [{ k := 0, t := 0, z := 1000, e := true, p := false }] (slow k) = slow (k + 1) := rfl
        rw [hsl] at hc
        clear hsl
        obtain ⟨T, hT⟩ : ∃ T, T = slow (k + 1) := ⟨_, rfl⟩
        rw [← hT] at hc
        have HT := hid hT
        clear hT
        generalize slow k = S at *
        have HCC := hid hc
        have HLl := hid hl
        have HQq := hid hq
        have HBb := hid hb
        have HSs := hid hs
        (obtain ⟨hcs0, hcs1, hcs2, hcs3, hfs0, hfs1, hfs2, hfs3, hgs⟩ := Blk.at4 (hs))
        clear hc hl hq hb hs
        go_wp2_with (fail)
        refine (HCC.out _ _ (arr_new (by simp) rfl (by decide))).mono ?_
        rintro e W6 ⟨rfl, hl6⟩
        have HS6 := hid ((HSs.out.alloc _).later hl6)
        have HQ6 := hid ((HQq.out.alloc _).later hl6)
        have HB6 := hid ((HBb.out.alloc _).later hl6)
        have HL6 := hid ((HLl.out.alloc _).trans hl6)
        clear hl6
        (obtain ⟨hct0, hct1, hct2, hct3, hft0, hft1, hft2, hft3, hgt⟩ := Blk.at4 (HS6.out))
        go_wp2_with (fail)
        go_roundw
        case rel => exact ⟨k + 1, by omega, by go_num, by repeat (first | (with_reducible exact Later.refl _) | (with_reducible exact HL6.out) | with_reducible apply Later.latr | with_reducible apply Later.alloc | with_reducible apply Later.drew | (with_reducible refine Later.set ?_ (by (simp; try omega)) _)), ((((HQ6.out.far (by show qp ≠ sp; omega) _).far (by show qp ≠ sp; omega) _).far (by show qp ≠ sp; omega) _).far (by show qp ≠ sp; omega) _), ((((HB6.out.far (by show p ≠ sp; omega) _).far (by show p ≠ sp; omega) _).far (by show p ≠ sp; omega) _).far (by show p ≠ sp; omega) _), by rw [← HT.out]; exact (((HS6.out.set_ 0 _).set_ 1 _).set_ 2 _).set_ 3 _⟩
        case measure => simp [intOf]; omega
      · obtain rfl : k = 4 := by omega
        have he : 4200 < (slow 4).w ∧ (slow 4).w ≤ 4256 := by have := slow_end; omega
        obtain ⟨he1, he2⟩ := he
        generalize slow 4 = T at *
        (obtain ⟨hca0, hca1, hca2, hca3, hfa0, hfa1, hfa2, hfa3, hga⟩ := Blk.at4 (hq))
        (obtain ⟨hcb0, hcb1, hcb2, hcb3, hfb0, hfb1, hfb2, hfb3, hgb⟩ := Blk.at4 (hb))
        (obtain ⟨hcc0, hcc1, hcc2, hcc3, hfc0, hfc1, hfc2, hfc3, hgc⟩ := Blk.at4 (hs))
        have HLf := hid hl
        have hd3 : decide (4200 < T.w) = true := decide_eq_true he1
        have hd4 : decide (T.w ≤ 4256) = true := decide_eq_true he2
        clear hq hb hs hl
        go_wp2_with (fail)
        go_ret
        exact ⟨rfl, by repeat (first | (with_reducible exact Later.refl _) | (with_reducible exact HLf.out) | with_reducible apply Later.latr | with_reducible apply Later.alloc | with_reducible apply Later.drew | (with_reducible refine Later.set ?_ (by (simp; try omega)) _))⟩
end Go.Proofs.Ytkmffpgejnafaaa
