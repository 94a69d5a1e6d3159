/- CongLong: its law, and its walk, which answers true. Of arguments of their types. -/
import Derived.Test.YtkmffpgejnafaaaAwake
import Derived.Test.YtkmffpgejnafaaaLong
namespace Go.Proofs.Ytkmffpgejnafaaa
open Go.RowKit
attribute [local go_sem] ite_max ite_min
attribute [local go_sem] h_lt1 h_lt2 h_lt3 h_lt4 h_lt5 h_lt6 h_eq1 h_qe1 h_eq2 h_qe2 h_eq3 h_qe3 h_eq4 h_qe4 h_eq5 h_qe5 h_eq6 h_qe6

theorem long_two (wait a b : Int) (w0 : 0 ≤ wait) (w1 : wait ≤ 65535) (a0 : 0 ≤ a) (a1 : a ≤ 65535) (b0 : 0 ≤ b) (b1 : b ≤ 65535) :
    long1 wait [{ k := 0, t := a, z := 1, e := true, p := false }, { k := 0, t := b, z := 1, e := true, p := false }] = decide (3 * wait ≤ max a b - min a b) := by
  have h1 : cnt0 { k := 0, t := a, z := 1, e := true, p := false } = true := by
    unfold cnt0
    simp only [Bool.and_eq_true, inB_true, true_and]
    omega
  have h2 : cnt0 { k := 0, t := b, z := 1, e := true, p := false } = true := by
    unfold cnt0
    simp only [Bool.and_eq_true, inB_true, true_and]
    omega
  unfold long1 isLong lgs1 lgs1 lgs1 lg1 g1 clT
  rw [if_pos h1, if_pos h2]
  dsimp only
  rw [show decide (2 ≤ 0 + 1 + 1) = true from rfl, Bool.true_and]
  apply decide_eq_decide.2
  omega
/-- what the window is behind a packet, from a collapse on -/
theorem fall_grow (r : Rn) (z : Int) (hr : Ok r) (z0 : 1 ≤ z) (z1 : z ≤ 1500) :
    r.s ≤ 512 ∨ r.r = 1099511627776 ∨ (acks [{ k := 0, t := 1099511627776, z := z, e := true, p := false }] (fall r)).w = 512 + z := by
  obtain ⟨⟨a1, a2⟩, ⟨b1, b2⟩, ⟨c1, c2⟩, d1, d2⟩ := hr
  by_cases h1 : r.s ≤ 512
  · exact .inl h1
  by_cases h2 : r.r = 1099511627776
  · exact .inr (.inl h2)
  refine .inr (.inr ?_)
  have hc : cnt (fall r) { k := 0, t := 1099511627776, z := z, e := true, p := false } = true := by
    unfold cnt cnt0 fall
    simp only [Bool.and_eq_true, inB_true, true_and, decide_eq_true_eq]
    omega
  unfold acks acks ack
  rw [if_pos hc]
  unfold grow gr
  have h3 : (fall r).w < (fall r).s := by unfold fall; dsimp only; omega
  rw [if_pos h3]
  unfold cap fall
  dsimp only
  rw [if_neg (by omega)]

theorem call_lg (wait a b : Int) (t : Bool) (w0 : 0 ≤ wait) (w1 : wait ≤ 65535) (a0 : 0 ≤ a) (a1 : a ≤ 65535) (b0 : 0 ≤ b) (b1 : b ≤ 65535) (ht : decide (3 * wait ≤ max a b - min a b) = t) (v : Value) (W : World)
    (h : Arr W 5 v 2 [.int .i64 0, .int .i64 a, .int .i64 1, .bool true, .bool false, .int .i64 0, .int .i64 b, .int .i64 1, .bool true, .bool false]) : Gives Try.prog 21 #[.int .i64 wait, v] W (.bool t) := by
  have := long21 wait v [{ k := 0, t := a, z := 1, e := true, p := false }, { k := 0, t := b, z := 1, e := true, p := false }] W h
  rw [long_two wait a b w0 w1 a0 a1 b0 b1, ht] at this
  exact this

set_option maxHeartbeats 8000000 in
theorem long8 (a b wait size : Int) (r : Rn) (w : World) (a0 : 0 ≤ a) (a1 : a ≤ 65535) (b0 : 0 ≤ b) (b1 : b ≤ 65535) (w0 : 0 ≤ wait) (w1 : wait ≤ 65535) (s0 : 0 ≤ size) (s1 : size ≤ 65535) :
    Calls Try.prog 8 #[.int .u16 a, .int .u16 b, .int .u16 wait, .int .u16 size, rv r] w fun e w' => e = .returned (.bool true) ∧ Later w w' := by
  obtain ⟨t, ht⟩ : ∃ t : Bool, decide (3 * wait ≤ max a b - min a b) = t := ⟨_, rfl⟩
  have hc1 := call_lg wait a b t w0 w1 a0 a1 b0 b1 ht
  have hc2 := call_lg wait b a t w0 w1 b0 b1 a0 a1 (by rw [← ht]; apply decide_eq_decide.2; omega)
  have hf := fall11 r
  have hok := fall_ok (ok_of r)
  have hg := fall_grow (ofR r) (1 + size % 1500) (ok_of r) (by omega) (by omega)
  have hq : fall (ofR r) = { w := 512, s := (ofR r).s, c := 0, r := (ofR r).r } := rfl
  have hA := fun v' W (h : Arr W 5 v' 1 [.int .i64 0, .int .i64 1099511627776, .int .i64 (1 + size % 1500), .bool true, .bool false]) => (acked13 (fall (ofR r)) v' [{ k := 0, t := 1099511627776, z := 1 + size % 1500, e := true, p := false }] W h).later
  rw [of_ok hok] at hA
  generalize acks [{ k := 0, t := 1099511627776, z := 1 + size % 1500, e := true, p := false }] (fall (ofR r)) = D at *
  rw [hq] at hf hA
  clear hq hok
  generalize (ofR r).s = qs at *
  generalize (ofR r).r = qr at *
  obtain ⟨dw, ds, dc, dr⟩ := D
  dsimp only at *
  have H1 := hid hc1
  have H2 := hid hc2
  have HF := hid hf
  have HA := hid hA
  clear hc1 hc2 hf hA
  have m1 : size.tmod 1500 = size % 1500 := Int.tmod_eq_emod_of_nonneg s0
  have x1 : 0 ≤ size % 1500 := by omega
  have x2 : size % 1500 < 1500 := by omega
  have x3 : 0 ≤ max a b - min a b := by omega
  have x4 : max a b - min a b ≤ 65535 := by omega
  have HG := hid hg
  clear hg
  by_cases g1 : qs ≤ 512
  · have e1 : decide (qs ≤ 512) = true := decide_eq_true g1
    cases t
    all_goals
      (go_enter Try.func8, Try.ntmps8; go_wp2_with (fail))
      refine (awake9 _).mono ?_
      rintro e w2 ⟨rfl, xx, rfl⟩
      obtain ⟨W0, hW0⟩ : ∃ W0, W0 = latr _ xx := ⟨_, rfl⟩
      rw [← hW0]
      have HL := hid (by rw [hW0]; exact (by repeat (first | (with_reducible exact Later.refl _) | with_reducible apply Later.latr | with_reducible apply Later.alloc | with_reducible apply Later.drew | (with_reducible refine Later.set ?_ (by (simp; try omega)) _))) : Later w W0)
      have hBr : Blk W0 w.heap.size 25 (rc r) := by rw [hW0]; exact (Blk.new _ _ _).latr _
      clear hW0
      have hX : Blk ((W0.alloc (.cells #[.int .i64 0, .int .i64 a, .int .i64 1, .bool true, .bool false] 31)).alloc (.cells #[.int .i64 0, .int .i64 b, .int .i64 1, .bool true, .bool false] 31)) W0.heap.size 31 #[.int .i64 0, .int .i64 a, .int .i64 1, .bool true, .bool false] := (Blk.new _ _ _).alloc _
      have hY : Blk ((W0.alloc (.cells #[.int .i64 0, .int .i64 a, .int .i64 1, .bool true, .bool false] 31)).alloc (.cells #[.int .i64 0, .int .i64 b, .int .i64 1, .bool true, .bool false] 31)) (W0.heap.size + 1) 31 #[.int .i64 0, .int .i64 b, .int .i64 1, .bool true, .bool false] := blk_new (by simp)
      have HX := hid hX
      have HY := hid hY
      have HBR := hid hBr
      clear hX hY hBr
      go_wp2_with (fail)
      refine (H1.out _ _ (arr_new (by simp) rfl (by decide))).later.mono ?_
      rintro e W1 ⟨rfl, hl1⟩
      have HX1 := hid ((HX.out.alloc _).later hl1)
      have HY1 := hid ((HY.out.alloc _).later hl1)
      have HBR1 := hid ((((HBR.out.alloc _).alloc _).alloc _).later hl1)
      have HL1 := hid ((((HL.out.alloc _).alloc _).alloc _).trans hl1)
      clear hl1
      (obtain ⟨hcr0, hcr1, hcr2, hcr3, hfr0, hfr1, hfr2, hfr3, hgr⟩ := Blk.at4 (HBR1.out))
      go_wp2_with (fail)
      refine (HF.out _).later.mono ?_
      rintro e W2 ⟨rfl, hl2⟩
      have HX2 := hid (HX1.out.later hl2)
      have HY2 := hid (HY1.out.later hl2)
      have HL2 := hid (HL1.out.trans hl2)
      clear hl2
      go_wp2_with (fail)
      refine (HA.out _ _ (arr_new (by simp) rfl (by decide))).mono ?_
      rintro e W3 ⟨rfl, hl3⟩
      have HX3 := hid (((HX2.out.alloc _).alloc _).later hl3)
      have HY3 := hid (((HY2.out.alloc _).alloc _).later hl3)
      have HL3 := hid (((HL2.out.alloc _).alloc _).trans hl3)
      have hC3 := ((Blk.new W2 25 #[_, _, _, _]).alloc _).later hl3
      have HC3 := hid hC3
      clear hl3 hC3
      (obtain ⟨hcc0, hcc1, hcc2, hcc3, hfc0, hfc1, hfc2, hfc3, hgc⟩ := Blk.at4 (HC3.out))
      (obtain ⟨hcx0, hcx1, hcx2, hcx3, hcx4, hfx0, hfx1, hfx2, hfx3, hfx4, hgx⟩ := Blk.at5 (HX3.out))
      (obtain ⟨hcy0, hcy1, hcy2, hcy3, hcy4, hfy0, hfy1, hfy2, hfy3, hfy4, hgy⟩ := Blk.at5 (HY3.out))
      go_wp2_with (fail)
      refine (H2.out _ _ (arr_new (by simp) rfl (by decide))).later.mono ?_
      rintro e W4 ⟨rfl, hl4⟩
      have HL4 := hid (((HL3.out.alloc _).alloc _).trans hl4)
      have HC4 := hid (((HC3.out.alloc _).alloc _).later hl4)
      clear hl4
      (obtain ⟨hcd0, hcd1, hcd2, hcd3, hfd0, hfd1, hfd2, hfd3, hgd⟩ := Blk.at4 (HC4.out))
      go_wp2_with (fail)
      go_ret
      exact ⟨rfl, by repeat (first | (with_reducible exact Later.refl _) | (with_reducible exact HL4.out) | with_reducible apply Later.latr | with_reducible apply Later.alloc | with_reducible apply Later.drew | (with_reducible refine Later.set ?_ (by (simp; try omega)) _))⟩
  have e1 : decide (qs ≤ 512) = false := decide_eq_false g1
  by_cases g2 : qr = 1099511627776
  · subst g2
    cases t
    all_goals
      (go_enter Try.func8, Try.ntmps8; go_wp2_with (fail))
      refine (awake9 _).mono ?_
      rintro e w2 ⟨rfl, xx, rfl⟩
      obtain ⟨W0, hW0⟩ : ∃ W0, W0 = latr _ xx := ⟨_, rfl⟩
      rw [← hW0]
      have HL := hid (by rw [hW0]; exact (by repeat (first | (with_reducible exact Later.refl _) | with_reducible apply Later.latr | with_reducible apply Later.alloc | with_reducible apply Later.drew | (with_reducible refine Later.set ?_ (by (simp; try omega)) _))) : Later w W0)
      have hBr : Blk W0 w.heap.size 25 (rc r) := by rw [hW0]; exact (Blk.new _ _ _).latr _
      clear hW0
      have hX : Blk ((W0.alloc (.cells #[.int .i64 0, .int .i64 a, .int .i64 1, .bool true, .bool false] 31)).alloc (.cells #[.int .i64 0, .int .i64 b, .int .i64 1, .bool true, .bool false] 31)) W0.heap.size 31 #[.int .i64 0, .int .i64 a, .int .i64 1, .bool true, .bool false] := (Blk.new _ _ _).alloc _
      have hY : Blk ((W0.alloc (.cells #[.int .i64 0, .int .i64 a, .int .i64 1, .bool true, .bool false] 31)).alloc (.cells #[.int .i64 0, .int .i64 b, .int .i64 1, .bool true, .bool false] 31)) (W0.heap.size + 1) 31 #[.int .i64 0, .int .i64 b, .int .i64 1, .bool true, .bool false] := blk_new (by simp)
      have HX := hid hX
      have HY := hid hY
      have HBR := hid hBr
      clear hX hY hBr
      go_wp2_with (fail)
      refine (H1.out _ _ (arr_new (by simp) rfl (by decide))).later.mono ?_
      rintro e W1 ⟨rfl, hl1⟩
      have HX1 := hid ((HX.out.alloc _).later hl1)
      have HY1 := hid ((HY.out.alloc _).later hl1)
      have HBR1 := hid ((((HBR.out.alloc _).alloc _).alloc _).later hl1)
      have HL1 := hid ((((HL.out.alloc _).alloc _).alloc _).trans hl1)
      clear hl1
      (obtain ⟨hcr0, hcr1, hcr2, hcr3, hfr0, hfr1, hfr2, hfr3, hgr⟩ := Blk.at4 (HBR1.out))
      go_wp2_with (fail)
      refine (HF.out _).later.mono ?_
      rintro e W2 ⟨rfl, hl2⟩
      have HX2 := hid (HX1.out.later hl2)
      have HY2 := hid (HY1.out.later hl2)
      have HL2 := hid (HL1.out.trans hl2)
      clear hl2
      go_wp2_with (fail)
      refine (HA.out _ _ (arr_new (by simp) rfl (by decide))).mono ?_
      rintro e W3 ⟨rfl, hl3⟩
      have HX3 := hid (((HX2.out.alloc _).alloc _).later hl3)
      have HY3 := hid (((HY2.out.alloc _).alloc _).later hl3)
      have HL3 := hid (((HL2.out.alloc _).alloc _).trans hl3)
      have hC3 := ((Blk.new W2 25 #[_, _, _, _]).alloc _).later hl3
      have HC3 := hid hC3
      clear hl3 hC3
      (obtain ⟨hcc0, hcc1, hcc2, hcc3, hfc0, hfc1, hfc2, hfc3, hgc⟩ := Blk.at4 (HC3.out))
      (obtain ⟨hcx0, hcx1, hcx2, hcx3, hcx4, hfx0, hfx1, hfx2, hfx3, hfx4, hgx⟩ := Blk.at5 (HX3.out))
      (obtain ⟨hcy0, hcy1, hcy2, hcy3, hcy4, hfy0, hfy1, hfy2, hfy3, hfy4, hgy⟩ := Blk.at5 (HY3.out))
      go_wp2_with (fail)
      refine (H2.out _ _ (arr_new (by simp) rfl (by decide))).later.mono ?_
      rintro e W4 ⟨rfl, hl4⟩
      have HL4 := hid (((HL3.out.alloc _).alloc _).trans hl4)
      have HC4 := hid (((HC3.out.alloc _).alloc _).later hl4)
      clear hl4
      (obtain ⟨hcd0, hcd1, hcd2, hcd3, hfd0, hfd1, hfd2, hfd3, hgd⟩ := Blk.at4 (HC4.out))
      go_wp2_with (fail)
      go_ret
      exact ⟨rfl, by repeat (first | (with_reducible exact Later.refl _) | (with_reducible exact HL4.out) | with_reducible apply Later.latr | with_reducible apply Later.alloc | with_reducible apply Later.drew | (with_reducible refine Later.set ?_ (by (simp; try omega)) _))⟩
  have g3 : dw = 513 + size % 1500 := by have := HG.out; omega
  have e2 : decide (qr = 1099511627776) = false := decide_eq_false g2
  have e3 : (qr == 1099511627776) = false := by simpa using g2
  subst g3
  cases t
  all_goals
    (go_enter Try.func8, Try.ntmps8; go_wp2_with (fail))
    refine (awake9 _).mono ?_
    rintro e w2 ⟨rfl, xx, rfl⟩
    obtain ⟨W0, hW0⟩ : ∃ W0, W0 = latr _ xx := ⟨_, rfl⟩
    rw [← hW0]
    have HL := hid (by rw [hW0]; exact (by repeat (first | (with_reducible exact Later.refl _) | with_reducible apply Later.latr | with_reducible apply Later.alloc | with_reducible apply Later.drew | (with_reducible refine Later.set ?_ (by (simp; try omega)) _))) : Later w W0)
    have hBr : Blk W0 w.heap.size 25 (rc r) := by rw [hW0]; exact (Blk.new _ _ _).latr _
    clear hW0
    have hX : Blk ((W0.alloc (.cells #[.int .i64 0, .int .i64 a, .int .i64 1, .bool true, .bool false] 31)).alloc (.cells #[.int .i64 0, .int .i64 b, .int .i64 1, .bool true, .bool false] 31)) W0.heap.size 31 #[.int .i64 0, .int .i64 a, .int .i64 1, .bool true, .bool false] := (Blk.new _ _ _).alloc _
    have hY : Blk ((W0.alloc (.cells #[.int .i64 0, .int .i64 a, .int .i64 1, .bool true, .bool false] 31)).alloc (.cells #[.int .i64 0, .int .i64 b, .int .i64 1, .bool true, .bool false] 31)) (W0.heap.size + 1) 31 #[.int .i64 0, .int .i64 b, .int .i64 1, .bool true, .bool false] := blk_new (by simp)
    have HX := hid hX
    have HY := hid hY
    have HBR := hid hBr
    clear hX hY hBr
    go_wp2_with (fail)
    refine (H1.out _ _ (arr_new (by simp) rfl (by decide))).later.mono ?_
    rintro e W1 ⟨rfl, hl1⟩
    have HX1 := hid ((HX.out.alloc _).later hl1)
    have HY1 := hid ((HY.out.alloc _).later hl1)
    have HBR1 := hid ((((HBR.out.alloc _).alloc _).alloc _).later hl1)
    have HL1 := hid ((((HL.out.alloc _).alloc _).alloc _).trans hl1)
    clear hl1
    (obtain ⟨hcr0, hcr1, hcr2, hcr3, hfr0, hfr1, hfr2, hfr3, hgr⟩ := Blk.at4 (HBR1.out))
    go_wp2_with (fail)
    refine (HF.out _).later.mono ?_
    rintro e W2 ⟨rfl, hl2⟩
    have HX2 := hid (HX1.out.later hl2)
    have HY2 := hid (HY1.out.later hl2)
    have HL2 := hid (HL1.out.trans hl2)
    clear hl2
    go_wp2_with (fail)
    refine (HA.out _ _ (arr_new (by simp) rfl (by decide))).mono ?_
    rintro e W3 ⟨rfl, hl3⟩
    have HX3 := hid (((HX2.out.alloc _).alloc _).later hl3)
    have HY3 := hid (((HY2.out.alloc _).alloc _).later hl3)
    have HL3 := hid (((HL2.out.alloc _).alloc _).trans hl3)
    have hC3 := ((Blk.new W2 25 #[_, _, _, _]).alloc _).later hl3
    have HC3 := hid hC3
    clear hl3 hC3
    (obtain ⟨hcc0, hcc1, hcc2, hcc3, hfc0, hfc1, hfc2, hfc3, hgc⟩ := Blk.at4 (HC3.out))
    (obtain ⟨hcx0, hcx1, hcx2, hcx3, hcx4, hfx0, hfx1, hfx2, hfx3, hfx4, hgx⟩ := Blk.at5 (HX3.out))
    (obtain ⟨hcy0, hcy1, hcy2, hcy3, hcy4, hfy0, hfy1, hfy2, hfy3, hfy4, hgy⟩ := Blk.at5 (HY3.out))
    go_wp2_with (fail)
    refine (H2.out _ _ (arr_new (by simp) rfl (by decide))).later.mono ?_
    rintro e W4 ⟨rfl, hl4⟩
    have HL4 := hid (((HL3.out.alloc _).alloc _).trans hl4)
    have HC4 := hid (((HC3.out.alloc _).alloc _).later hl4)
    clear hl4
    (obtain ⟨hcd0, hcd1, hcd2, hcd3, hfd0, hfd1, hfd2, hfd3, hgd⟩ := Blk.at4 (HC4.out))
    go_wp2_with (fail)
    go_ret
    exact ⟨rfl, by repeat (first | (with_reducible exact Later.refl _) | (with_reducible exact HL4.out) | with_reducible apply Later.latr | with_reducible apply Later.alloc | with_reducible apply Later.drew | (with_reducible refine Later.set ?_ (by (simp; try omega)) _))⟩
end Go.Proofs.Ytkmffpgejnafaaa
