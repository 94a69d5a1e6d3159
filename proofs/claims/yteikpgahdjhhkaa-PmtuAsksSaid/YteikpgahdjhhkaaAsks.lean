/- PmtuAsks: its walk, which answers true. No condition. -/
import Derived.Test.YteikpgahdjhhkaaAwake
import Derived.Test.YteikpgahdjhhkaaAsksLaw
import Derived.Test.YteikpgahdjhhkaaSpet
namespace Go.Proofs.Yteikpgahdjhhkaa
open Go.RowKit
attribute [local go_sem] ite_max ite_min
attribute [local go_sem] h_lt1 h_lt2 h_lt3 h_lt4 h_lt5 h_lt6 h_eq1 h_qe1 h_eq2 h_qe2 h_eq3 h_qe3 h_eq4 h_qe4 h_eq5 h_qe5 h_eq6 h_qe6

set_option maxHeartbeats 16000000 in
set_option maxRecDepth 100000 in
theorem asks7 (q : Pt) (w : World) : Calls Try.prog 7 #[pv q] w fun e w' => e = .returned (.bool true) ∧ Later w w' := by
  have hck := check9 q
  have hnx := next11 q
  by_cases hok : Ok q
  rotate_left
  · have hf : chk q = false := by
      cases h : chk q
      · rfl
      · exact absurd ((chk_iff q).1 h) hok
    rw [hf] at hck
    have HCK := hid hck
    clear hck hf hnx
    (go_enter Try.func7, Try.ntmps7; go_wp2_with (fail))
    (refine (awake8 _).mono ?_; rintro e w1 ⟨rfl, x1, rfl⟩; go_wp2_with (fail))
    (refine (HCK.out _).mono ?_; rintro e w1 ⟨rfl, x1, rfl⟩; go_wp2_with (fail))
    go_ret
    exact ⟨rfl, by repeat (first | (with_reducible exact Later.refl _) | with_reducible apply Later.latr | with_reducible apply Later.alloc | with_reducible apply Later.drew | (with_reducible refine Later.set ?_ (by (simp; try omega)) _))⟩
  rw [(chk_iff q).2 hok] at hck
  rw [of_ok hok] at hnx
  by_cases hn : next q = 0
  · rw [hn] at hnx
    have HCK := hid hck
    have HNX := hid hnx
    clear hck hnx hn hok
    (go_enter Try.func7, Try.ntmps7; go_wp2_with (fail))
    (refine (awake8 _).mono ?_; rintro e w1 ⟨rfl, x1, rfl⟩; go_wp2_with (fail))
    (refine (HCK.out _).mono ?_; rintro e w1 ⟨rfl, x1, rfl⟩; go_wp2_with (fail))
    (refine (HNX.out _).mono ?_; rintro e w1 ⟨rfl, x1, rfl⟩; go_wp2_with (fail))
    go_ret
    exact ⟨rfl, by repeat (first | (with_reducible exact Later.refl _) | with_reducible apply Later.latr | with_reducible apply Later.alloc | with_reducible apply Later.drew | (with_reducible refine Later.set ?_ (by (simp; try omega)) _))⟩
  obtain ⟨l1, l2, l3, l4, l5, l6⟩ := ask_law hok hn
  obtain ⟨l7, l8⟩ := gs_law hok hn
  have hask := ask13 q
  rw [of_ok hok] at hask
  have hna := next11 (ask q)
  rw [of_ok (ask_ok hok), l1] at hna
  have hcm := fun v W h => (came15 (ask q) v [probe (next q)] W h).later
  rw [of_ok (ask_ok hok)] at hcm
  have hgs0 : ask q = gs q 0 := rfl
  have hgo : ∀ k, Ok (gs q k) := gs_ok hok
  have HG0 := hid hgs0
  have HGO := hid hgo
  have e1 : (next q == 0) = false := by simpa using hn
  have e2 : decide (next q = 0) = false := decide_eq_false hn
  generalize cames [probe (next q)] (ask q) = C at *
  generalize next q = n at *
  obtain ⟨A, hA⟩ : ∃ A, A = ask q := ⟨_, rfl⟩
  rw [← hA] at hask hna hcm l2
  have hA0 : gs q 0 = A := by rw [hA]; rfl
  have HA0 := hid hA0
  have hGE := hid (⟨l7, l8⟩ : (gs q 3).z = q.z ∧ (gs q 3).h < q.h)
  have HCK := hid hck
  have HNX := hid hnx
  have HASK := hid hask
  have HNA := hid hna
  have HCM := hid hcm
  obtain ⟨az, ah, aa, af, ab⟩ := A
  obtain ⟨cz, ch, ca, cf, cb⟩ := C
  dsimp only at l2 l5 l6
  subst l2 l5 l6
  clear hck hnx hask hna hcm hgs0 hgo hn l1 l7 l8 hA hA0 HG0
  have HOK := hid hok
  clear hok
  have d1 : decide (q.z < cz) = true := decide_eq_true l3
  have d2 : decide (cz ≤ q.h) = true := decide_eq_true l4
  (go_enter Try.func7, Try.ntmps7; go_wp2_with (fail))
  refine (awake8 _).mono ?_
  rintro e wa ⟨rfl, xx, rfl⟩
  obtain ⟨W0, hW0⟩ : ∃ W0, W0 = latr _ xx := ⟨_, rfl⟩
  rw [← hW0]
  have HL0 := hid (by rw [hW0]; exact (by repeat (first | (with_reducible exact Later.refl _) | with_reducible apply Later.latr | with_reducible apply Later.alloc | with_reducible apply Later.drew | (with_reducible refine Later.set ?_ (by (simp; try omega)) _))) : Later w W0)
  have HP0 : Hid (Blk W0 w.heap.size 23 (pc q)) := hid (by rw [hW0]; exact (Blk.new _ _ _).latr _)
  clear hW0
  (obtain ⟨hcp00, hcp01, hcp02, hcp03, hcp04, hfp00, hfp01, hfp02, hfp03, hfp04, hgp0⟩ := Blk.at5 (HP0.out))
  go_wp2_with (fail)
  refine (HCK.out _).later.mono ?_
  rintro e w1 ⟨rfl, hl1⟩
  have HL1 := hid (HL0.out.trans hl1)
  have HP1 := hid (HP0.out.later hl1)
  clear hl1
  (obtain ⟨hcp10, hcp11, hcp12, hcp13, hcp14, hfp10, hfp11, hfp12, hfp13, hfp14, hgp1⟩ := Blk.at5 (HP1.out))
  go_wp2_with (fail)
  refine (HNX.out _).later.mono ?_
  rintro e w2 ⟨rfl, hl2⟩
  have HL2 := hid (HL1.out.trans hl2)
  have HP2 := hid (HP1.out.later hl2)
  clear hl2
  (obtain ⟨hcp20, hcp21, hcp22, hcp23, hcp24, hfp20, hfp21, hfp22, hfp23, hfp24, hgp2⟩ := Blk.at5 (HP2.out))
  go_wp2_with (fail)
  refine (HNX.out _).later.mono ?_
  rintro e w3 ⟨rfl, hl3⟩
  have HL3 := hid (HL2.out.trans hl3)
  have HP3 := hid (HP2.out.later hl3)
  clear hl3
  (obtain ⟨hcp30, hcp31, hcp32, hcp33, hcp34, hfp30, hfp31, hfp32, hfp33, hfp34, hgp3⟩ := Blk.at5 (HP3.out))
  go_wp2_with (fail)
  refine (HASK.out _).later.mono ?_
  rintro e w4 ⟨rfl, hl4⟩
  have HL4 := hid (HL3.out.trans hl4)
  have HP4 := hid (HP3.out.later hl4)
  clear hl4
  go_wp2_with (fail)
  refine (HCM.out _ _ (arr_new (n := 1) (xs := [.int .i64 0, .int .i64 0, .int .i64 cz, .bool false, .bool true]) (by simp) rfl (by decide))).mono ?_
  rintro e w5 ⟨rfl, hl5⟩
  have HL5 := hid ((((HL4.out.alloc _).alloc _).alloc _).trans hl5)
  have HP5 := hid ((((HP4.out.alloc _).alloc _).alloc _).later hl5)
  have HQ5 := hid ((((Blk.new w4 23 #[.int .i64 az, .int .i64 ah, .int .i64 cz, .int .i64 af, .int .i64 ab]).alloc _).alloc _).later hl5)
  clear hl5
  have z1 : w.heap.size < w5.heap.size := HP5.out.lt
  have z2 : w4.heap.size < w5.heap.size := HQ5.out.lt
  (obtain ⟨hcq50, hcq51, hcq52, hcq53, hcq54, hfq50, hfq51, hfq52, hfq53, hfq54, hgq5⟩ := Blk.at5 (HQ5.out))
  go_wp2_with (fail)
  obtain ⟨W, hW⟩ : ∃ W, W = (w5.alloc (.cells #[.int .i64 cz, .int .i64 ch, .int .i64 0, .int .i64 cf, .int .i64 cb] 23)).alloc (.cells #[.int .i64 az, .int .i64 ah, .int .i64 cz, .int .i64 af, .int .i64 ab] 23) := ⟨_, rfl⟩
  rw [← hW]
  have HC6 : Hid (Blk W w5.heap.size 23 #[.int .i64 cz, .int .i64 ch, .int .i64 0, .int .i64 cf, .int .i64 cb]) := hid (by rw [hW]; exact (Blk.new _ _ _).alloc _)
  have HG6 : Hid (Blk W (w5.heap.size + 1) 23 (pc (gs q 0))) := hid (by rw [hW, HA0.out]; exact blk_new (by simp))
  have HP6 : Hid (Blk W w.heap.size 23 (pc q)) := hid (by rw [hW]; exact (HP5.out.alloc _).alloc _)
  have HQ6 : Hid (Blk W w4.heap.size 23 #[.int .i64 az, .int .i64 ah, .int .i64 cz, .int .i64 af, .int .i64 ab]) := hid (by rw [hW]; exact (HQ5.out.alloc _).alloc _)
  have HL6 : Hid (Later w W) := hid (by rw [hW]; exact (HL5.out.alloc _).alloc _)
  clear hW
  obtain ⟨gp, hgp⟩ : ∃ gp, gp = w5.heap.size + 1 := ⟨_, rfl⟩
  rw [← hgp] at HG6 ⊢
  generalize w5.heap.size = cp at *
  generalize w4.heap.size = qp at *
  have v1 : w.heap.size ≠ gp := by omega
  have v2 : qp ≠ gp := by omega
  have v3 : cp ≠ gp := by omega
  have v5 : w.heap.size ≤ gp := by omega
  clear hgp
  go_loopw [9] (fun ii wr => ∃ i : Nat, i ≤ 3 ∧ ii = .int .i64 i ∧ Later w wr ∧ Blk wr w.heap.size 23 (pc q) ∧ Blk wr qp 23 #[.int .i64 az, .int .i64 ah, .int .i64 cz, .int .i64 af, .int .i64 ab] ∧ Blk wr cp 23 #[.int .i64 cz, .int .i64 ch, .int .i64 0, .int .i64 cf, .int .i64 cb] ∧ Blk wr gp 23 (pc (gs q i))) (fun ii _ => 3 - (intOf ii).toNat)
  case atStart => exact ⟨0, by omega, rfl, HL6.out, HP6.out, HQ6.out, HC6.out, HG6.out⟩
  case round =>
    obtain ⟨k, hk, rfl, hl, hP, hQ, hC, hG⟩ := hrel
    clear HL6 HP6 HQ6 HC6 HG6 HL5 HP5 HQ5 HL4 HP4 HL3 HP3 HL2 HP2 HL1 HP1 HL0 HP0
    by_cases hlt : k < 3
    · have hr := HGO.out k
      have h13 := ask13 (gs q k)
      rw [of_ok hr] at h13
      have h17 := fun v W h => lost17 (ask (gs q k)) v [probe (ask (gs q k)).a] W h
      rw [of_ok (ask_ok hr)] at h17
      obtain ⟨T, hT⟩ : ∃ T, T = gs q (k + 1) := ⟨_, rfl⟩
      have hT2 : loses [probe (ask (gs q k)).a] (ask (gs q k)) = T := by rw [hT]; rfl
      rw [hT2] at h17
      have HT := hid hT
      generalize ask (gs q k) = B at *
      generalize gs q k = R at *
      have h13' : ∀ W, Gives Try.prog 13 #[pv R] W (.agg #[.int .i64 B.z, .int .i64 B.h, .int .i64 B.a, .int .i64 B.f, .int .i64 B.b]) := h13
      have H13 := hid h13'
      have H17 := hid h17
      have HL := hid hl
      have HP := hid hP
      have HQ := hid hQ
      have HC := hid hC
      have HG := hid hG
      clear hr h13 h13' h17 hT hT2 hl hP hQ hC hG
      have hdk : decide ((k : Int) < 3) = true := decide_eq_true (by omega)
      go_wp2_with (fail)
      apply wp_region_spect [6, 7] 8 _ (fun af F V => ∃ (v : Value) (U : World), F = ((Act.put af (some 41) v).put (some 42) (.agg #[.int .i64 T.z, .int .i64 T.h, .int .i64 T.a, .int .i64 T.f, .int .i64 T.b])) ∧ Later wr U ∧ V = (((((U.setCell ⟨gp, 0, none⟩ (.int .i64 T.z)).setCell ⟨gp, 1, none⟩ (.int .i64 T.h)).setCell ⟨gp, 2, none⟩ (.int .i64 T.a)).setCell ⟨gp, 3, none⟩ (.int .i64 T.f)).setCell ⟨gp, 4, none⟩ (.int .i64 T.b))) (by kernel_rfl) (by kernel_rfl)
      case h =>
        intro u hu
        have hGu : Blk u gp 23 (pc R) := HG.out.later hu
        have hfd : ∀ w : World, (Instr.field 23 (.agg #[.int .i64 B.z, .int .i64 B.h, .int .i64 B.a, .int .i64 B.f, .int .i64 B.b]) 2).run Try.prog w = .ok (.int .i64 B.a) w := fun _ => by kernel_rfl
        (obtain ⟨hcg0, hcg1, hcg2, hcg3, hcg4, hfg0, hfg1, hfg2, hfg3, hfg4, hgg⟩ := Blk.at5 (hGu))
        clear hGu
        simp only [pickQ, List.contains, List.elem, Nat.reduceBEq, Nat.reduceAdd, Bool.false_eq_true, if_false, if_true]
        (repeat (go_big_quiet_step (fail)))
        go_big_quiet_step ((go_at_call 13; exact calm_of (H13.out _)))
        (repeat (go_big_quiet_step (fail)))
        go_big_quiet_step ((go_at_call 13; exact calm_of (H13.out _)))
        (repeat (go_big_quiet_step (fail)))
        exact wpQuiet_nil rfl
      case hs =>
        have hL : Later wr wr.drew := (Later.refl _).drew
        refine wpSt_step [6] (by kernel_rfl) (by decide) ?_
        intro i hi x K hK
        obtain rfl : i = 6 := by simpa using hi
        (obtain ⟨U0, hU0⟩ : ∃ U0, U0 = latr _ x := ⟨_, rfl⟩; rw [← hU0])
        replace hL : Later wr U0 := by (rw [hU0]; (exact (by repeat (first | (with_reducible exact Later.refl _) | (with_reducible exact hL) | with_reducible apply Later.latr | with_reducible apply Later.alloc | with_reducible apply Later.drew | (with_reducible refine Later.set ?_ (by (simp; try omega)) _)))))
        clear hU0
        refine spet_one (by rfl) (by rfl) ?_
        go_simp
        refine hK _ _ (by repeat (first | (with_reducible exact Later.refl _) | (with_reducible exact hL) | with_reducible apply Later.latr | with_reducible apply Later.alloc | with_reducible apply Later.drew | (with_reducible refine Later.set ?_ (by (simp; try omega)) _))) ?_
        clear hK K
        have hA := Arr.new U0 40 [.int .i64 0, .int .i64 0, .int .i64 B.a, .bool false, .bool true] 1 5 rfl (by decide)
        obtain ⟨v, hv⟩ : ∃ v : Value, v = .slice (some ⟨U0.heap.size, 0, none⟩) 1 1 := ⟨_, rfl⟩
        rw [← hv] at hA
        simp only [← hv]
        clear hv
        replace hL := hL.alloc (.cells #[.int .i64 0, .int .i64 0, .int .i64 B.a, .bool false, .bool true] 40)
        refine wpSt_step [7] (by kernel_rfl) (by decide) ?_
        intro i hi x K hK
        obtain rfl : i = 7 := by simpa using hi
        (obtain ⟨U1, hU1⟩ : ∃ U1, U1 = latr _ x := ⟨_, rfl⟩; rw [← hU1])
        replace hL : Later wr U1 := by (rw [hU1]; (exact (by repeat (first | (with_reducible exact Later.refl _) | (with_reducible exact hL) | with_reducible apply Later.latr | with_reducible apply Later.alloc | with_reducible apply Later.drew | (with_reducible refine Later.set ?_ (by (simp; try omega)) _)))))
        replace hA : Arr U1 5 v 1 [.int .i64 0, .int .i64 0, .int .i64 B.a, .bool false, .bool true] := by (rw [hU1]; (exact (by repeat (first | (with_reducible exact hA) | with_reducible apply Arr.latr | (with_reducible refine Arr.alloc ?_ _) | (with_reducible refine Arr.drew ?_)))))
        clear hU1
        refine spet_one (by rfl) (by rfl) ?_
        go_simp
        refine (H17.out v _ hA).mono ?_
        rintro e W3 ⟨rfl, y, rfl⟩
        refine hK _ _ (by repeat (first | (with_reducible exact Later.refl _) | (with_reducible exact hL) | with_reducible apply Later.latr | with_reducible apply Later.alloc | with_reducible apply Later.drew | (with_reducible refine Later.set ?_ (by (simp; try omega)) _))) ?_
        clear hK K
        replace hL := hL.latr y
        refine wpSt_nil (by rfl) (by rfl) (fun x K hK => ?_)
        (obtain ⟨U2, hU2⟩ : ∃ U2, U2 = latr _ x := ⟨_, rfl⟩; rw [← hU2])
        replace hL : Later wr U2 := by (rw [hU2]; (exact (by repeat (first | (with_reducible exact Later.refl _) | (with_reducible exact hL) | with_reducible apply Later.latr | with_reducible apply Later.alloc | with_reducible apply Later.drew | (with_reducible refine Later.set ?_ (by (simp; try omega)) _)))))
        clear hU2
        have hG2 : Blk U2 gp 23 (pc R) := HG.out.later hL
        (obtain ⟨hcg0, hcg1, hcg2, hcg3, hcg4, hfg0, hfg1, hfg2, hfg3, hfg4, hgg⟩ := Blk.at5 (hG2))
        go_simp
        exact hK _ _ ⟨v, U2, rfl, hL, rfl⟩
      case hR =>
        rintro F V ⟨v, U, rfl, hL, rfl⟩
        have HL7 := hid (HL.out.trans hL)
        have HP7 := hid (HP.out.later hL)
        have HQ7 := hid (HQ.out.later hL)
        have HC7 := hid (HC.out.later hL)
        have HG7 := hid (HG.out.later hL)
        clear hL
        go_simp
        go_wp2_with (fail)
        go_roundw
        case rel => exact ⟨k + 1, by omega, by go_num, (((((HL7.out.set (p := ⟨gp, 0, none⟩) (v5) (.int .i64 T.z)).set (p := ⟨gp, 1, none⟩) (v5) (.int .i64 T.h)).set (p := ⟨gp, 2, none⟩) (v5) (.int .i64 T.a)).set (p := ⟨gp, 3, none⟩) (v5) (.int .i64 T.f)).set (p := ⟨gp, 4, none⟩) (v5) (.int .i64 T.b)), (((((HP7.out.far (p := ⟨gp, 0, none⟩) (v1) (.int .i64 T.z)).far (p := ⟨gp, 1, none⟩) (v1) (.int .i64 T.h)).far (p := ⟨gp, 2, none⟩) (v1) (.int .i64 T.a)).far (p := ⟨gp, 3, none⟩) (v1) (.int .i64 T.f)).far (p := ⟨gp, 4, none⟩) (v1) (.int .i64 T.b)), (((((HQ7.out.far (p := ⟨gp, 0, none⟩) (v2) (.int .i64 T.z)).far (p := ⟨gp, 1, none⟩) (v2) (.int .i64 T.h)).far (p := ⟨gp, 2, none⟩) (v2) (.int .i64 T.a)).far (p := ⟨gp, 3, none⟩) (v2) (.int .i64 T.f)).far (p := ⟨gp, 4, none⟩) (v2) (.int .i64 T.b)), (((((HC7.out.far (p := ⟨gp, 0, none⟩) (v3) (.int .i64 T.z)).far (p := ⟨gp, 1, none⟩) (v3) (.int .i64 T.h)).far (p := ⟨gp, 2, none⟩) (v3) (.int .i64 T.a)).far (p := ⟨gp, 3, none⟩) (v3) (.int .i64 T.f)).far (p := ⟨gp, 4, none⟩) (v3) (.int .i64 T.b)), by (rw [← HT.out]; exact (((((HG7.out.set_ 0 (.int .i64 T.z)).set_ 1 (.int .i64 T.h)).set_ 2 (.int .i64 T.a)).set_ 3 (.int .i64 T.f)).set_ 4 (.int .i64 T.b)))⟩
        case measure => simp [intOf]; omega
    · obtain rfl : k = 3 := by omega
      obtain ⟨g1, g2⟩ := hGE.out
      generalize gs q 3 = G at *
      obtain ⟨gz, gh, ga, gf, gb⟩ := G
      dsimp only at g1 g2
      subst g1
      have d3 : decide (gh < q.h) = true := decide_eq_true g2
      (obtain ⟨hca0, hca1, hca2, hca3, hca4, hfa0, hfa1, hfa2, hfa3, hfa4, hga⟩ := Blk.at5 (hP))
      (obtain ⟨hcb0, hcb1, hcb2, hcb3, hcb4, hfb0, hfb1, hfb2, hfb3, hfb4, hgb⟩ := Blk.at5 (hQ))
      (obtain ⟨hcc0, hcc1, hcc2, hcc3, hcc4, hfc0, hfc1, hfc2, hfc3, hfc4, hgc⟩ := Blk.at5 (hC))
      (obtain ⟨hcd0, hcd1, hcd2, hcd3, hcd4, hfd0, hfd1, hfd2, hfd3, hfd4, hgd⟩ := Blk.at5 (hG))
      have HLf := hid hl
      clear hl hP hQ hC hG
      go_wp2_with (fail)
      refine (HNA.out _).mono ?_
      rintro e w9 ⟨rfl, x9, rfl⟩
      go_wp2_with (fail)
      go_ret
      exact ⟨rfl, by repeat (first | (with_reducible exact Later.refl _) | (with_reducible exact HLf.out) | with_reducible apply Later.latr | with_reducible apply Later.alloc | with_reducible apply Later.drew | (with_reducible refine Later.set ?_ (by (simp; try omega)) _))⟩
end Go.Proofs.Yteikpgahdjhhkaa
