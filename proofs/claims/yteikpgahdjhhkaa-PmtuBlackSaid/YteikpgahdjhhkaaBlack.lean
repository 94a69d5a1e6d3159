/- PmtuBlack: its law, and its walk, which answers true. Of arguments of their types. -/
import Derived.Test.YteikpgahdjhhkaaAwake
namespace Go.Proofs.Yteikpgahdjhhkaa
open Go.RowKit
attribute [local go_sem] ite_max ite_min
attribute [local go_sem] h_lt1 h_lt2 h_lt3 h_lt4 h_lt5 h_lt6 h_eq1 h_qe1 h_eq2 h_qe2 h_eq3 h_qe3 h_eq4 h_qe4 h_eq5 h_qe5 h_eq6 h_qe6

/-- a path with so many greater ones lost -/
def bl (q : Pt) (j : Int) : Pt := { z := q.z, h := q.h, a := q.a, f := q.f, b := j }
def big (n : Int) : Snt := { k := 0, t := 0, z := n, e := true, p := false }
theorem bl_ok {q : Pt} (h : Ok q) {j : Int} (h0 : 0 ≤ j) (h1 : j < 6) : Ok (bl q j) := by
  obtain ⟨a1, a2, a3, a4, a5, a6, _, _⟩ := h
  exact ⟨a1, a2, a3, a4, a5, a6, h0, h1⟩
theorem came_big {q : Pt} {n : Int} (h : 256 < n) : cames [big n] q = bl q 0 := came_d (s := big n) rfl h
theorem lose_big {q : Pt} {n j : Int} (h : 256 < n) (hj : j < 5) : loses [big n] (bl q j) = bl q (j + 1) := by
  show lose (bl q j) (big n) = _
  rw [lose_d (s := big n) rfl h rfl]
  unfold black
  rw [if_neg (by unfold bl; dsimp only; omega)]
  rfl
theorem lose_end {q : Pt} {n : Int} (h : 256 < n) : loses [big n] (bl q 5) = start := by
  show lose (bl q 5) (big n) = _
  rw [lose_d (s := big n) rfl h rfl]
  rfl

set_option maxHeartbeats 16000000 in
set_option maxRecDepth 100000 in
theorem black6 (q : Pt) (size at_ : Int) (w : World) (s0 : 0 ≤ size) (s1 : size ≤ 65535) (t0 : 0 ≤ at_) (t1 : at_ ≤ 255) :
    Calls Try.prog 6 #[pv q, .int .u16 size, .int .u8 at_] w fun e w' => e = .returned (.bool true) ∧ Later w w' := by
  have hck := check9 q
  by_cases hok : Ok q
  rotate_left
  · have hf : chk q = false := by
      cases h : chk q
      · rfl
      · exact absurd ((chk_iff q).1 h) hok
    rw [hf] at hck
    have HCK := hid hck
    clear hck hf
    (go_enter Try.func6, Try.ntmps6; go_wp2_with (fail))
    (refine (awake8 _).mono ?_; rintro e w1 ⟨rfl, x1, rfl⟩; go_wp2_with (fail))
    (refine (HCK.out _).mono ?_; rintro e w1 ⟨rfl, x1, rfl⟩; go_wp2_with (fail))
    go_ret
    exact ⟨rfl, by repeat (first | (with_reducible exact Later.refl _) | with_reducible apply Later.latr | with_reducible apply Later.alloc | with_reducible apply Later.drew | (with_reducible refine Later.set ?_ (by (simp; try omega)) _))⟩
  rw [(chk_iff q).2 hok] at hck
  have HCK := hid hck
  clear hck
  have HOK := hid hok
  clear hok
  have m1 : size.tmod 1200 = size % 1200 := Int.tmod_eq_emod_of_nonneg s0
  have m2 : at_.tmod 5 = at_ % 5 := Int.tmod_eq_emod_of_nonneg t0
  have m3 : 0 ≤ size % 1200 := by omega
  have m4 : size % 1200 < 1200 := by omega
  have m5 : 0 ≤ at_ % 5 := by omega
  have m6 : at_ % 5 < 5 := by omega
  obtain ⟨n, hn⟩ : ∃ n, n = 257 + size % 1200 := ⟨_, rfl⟩
  have hn2 : 256 < n := by omega
  have hcm : ∀ (r : Pt), Ok r → ∀ v W, Arr W 5 v 1 [.int .i64 0, .int .i64 0, .int .i64 n, .bool true, .bool false] → Calls Try.prog 15 #[pv r, v] W fun e w' => e = .returned (pv (bl r 0)) ∧ Later W w' := by
    intro r hr v W h
    have := (came15 r v [big n] W h).later
    rw [of_ok hr, came_big hn2] at this
    exact this
  have hls : ∀ (r : Pt) (j : Int), Ok r → 0 ≤ j → j < 5 → ∀ v W, Arr W 5 v 1 [.int .i64 0, .int .i64 0, .int .i64 n, .bool true, .bool false] → Calls Try.prog 17 #[pv (bl r j), v] W fun e w' => e = .returned (pv (bl r (j + 1))) ∧ Later W w' := by
    intro r j hr h0 h1 v W h
    have := (lost17 (bl r j) v [big n] W h).later
    rw [of_ok (bl_ok hr h0 (by omega)), lose_big hn2 h1] at this
    exact this
  have hle : ∀ (r : Pt), Ok r → ∀ v W, Arr W 5 v 1 [.int .i64 0, .int .i64 0, .int .i64 n, .bool true, .bool false] → Calls Try.prog 17 #[pv (bl r 5), v] W fun e w' => e = .returned (pv start) ∧ Later W w' := by
    intro r hr v W h
    have := (lost17 (bl r 5) v [big n] W h).later
    rw [of_ok (bl_ok hr (by omega) (by omega)), lose_end hn2] at this
    exact this
  have HCM := hid hcm
  have HLS := hid hls
  have HLE := hid hle
  clear hcm hls hle hn2
  (go_enter Try.func6, Try.ntmps6; go_wp2_with (fail))
  refine (awake8 _).mono ?_
  rintro e wa ⟨rfl, xx, rfl⟩
  obtain ⟨W0, hW0⟩ : ∃ W0, W0 = latr _ xx := ⟨_, rfl⟩
  rw [← hW0]
  have HL0 := hid (by rw [hW0]; exact (by repeat (first | (with_reducible exact Later.refl _) | with_reducible apply Later.latr | with_reducible apply Later.alloc | with_reducible apply Later.drew | (with_reducible refine Later.set ?_ (by (simp; try omega)) _))) : Later w W0)
  have HP0 : Hid (Blk W0 w.heap.size 23 (pc q)) := hid (by rw [hW0]; exact (Blk.new _ _ _).latr _)
  clear hW0
  (obtain ⟨hcp0, hcp1, hcp2, hcp3, hcp4, hfp0, hfp1, hfp2, hfp3, hfp4, hgp⟩ := Blk.at5 (HP0.out))
  go_wp2_with (fail)
  refine (HCK.out _).later.mono ?_
  rintro e w1 ⟨rfl, hl1⟩
  have HL1 := hid (HL0.out.trans hl1)
  have HP1 := hid (HP0.out.later hl1)
  clear hl1
  (obtain ⟨hcq0, hcq1, hcq2, hcq3, hcq4, hfq0, hfq1, hfq2, hfq3, hfq4, hgq⟩ := Blk.at5 (HP1.out))
  have hna : 257 + size % 1200 = n := hn.symm
  have HNA := hid hna
  clear hn hna
  go_wp2_with (fail)
  rw [HNA.out]
  refine (HCM.out q HOK.out _ _ (arr_new (by simp) rfl (by decide))).mono ?_
  rintro e w2 ⟨rfl, hl2⟩
  have HL2 := hid (((HL1.out.alloc _).alloc _).trans hl2)
  have HP2 := hid (((HP1.out.alloc _).alloc _).later hl2)
  have HS2 := hid (((Blk.new w1 40 #[.int .i64 0, .int .i64 0, .int .i64 n, .bool true, .bool false]).alloc _).later hl2)
  clear hl2
  have z1 : w.heap.size < w2.heap.size := HP2.out.lt
  have z2 : w1.heap.size < w2.heap.size := HS2.out.lt
  go_wp2_with (fail)
  obtain ⟨W, hW⟩ : ∃ W, W = (w2.alloc (.cells #[.int .i64 (bl q 0).z, .int .i64 (bl q 0).h, .int .i64 (bl q 0).a, .int .i64 (bl q 0).f, .int .i64 (bl q 0).b] 23)).alloc (.cells #[.int .i64 (bl q 0).z, .int .i64 (bl q 0).h, .int .i64 (bl q 0).a, .int .i64 (bl q 0).f, .int .i64 (bl q 0).b] 23) := ⟨_, rfl⟩
  rw [← hW]
  have HQ3 : Hid (Blk W w2.heap.size 23 (pc (bl q 0))) := hid (by rw [hW]; exact (Blk.new _ _ _).alloc _)
  have HR3 : Hid (Blk W (w2.heap.size + 1) 23 (pc (bl q 0))) := hid (by rw [hW]; exact blk_new (by simp))
  have HP3 : Hid (Blk W w.heap.size 23 (pc q)) := hid (by rw [hW]; exact (HP2.out.alloc _).alloc _)
  have HS3 : Hid (Blk W w1.heap.size 40 #[.int .i64 0, .int .i64 0, .int .i64 n, .bool true, .bool false]) := hid (by rw [hW]; exact (HS2.out.alloc _).alloc _)
  have HL3 : Hid (Later w W) := hid (by rw [hW]; exact (HL2.out.alloc _).alloc _)
  have z3 : w.heap.size ≤ w1.heap.size := HL1.out.size
  clear hW
  obtain ⟨rp, hrp⟩ : ∃ rp, rp = w2.heap.size + 1 := ⟨_, rfl⟩
  rw [← hrp] at HR3 ⊢
  generalize w2.heap.size = qp at *
  generalize w1.heap.size = sp at *
  have r1 : w.heap.size ≠ rp := by omega
  have r2 : sp ≠ rp := by omega
  have r3 : qp ≠ rp := by omega
  have r4 : w.heap.size ≤ rp := by omega
  clear hrp
  go_loopw [11] (fun i wr => ∃ k : Nat, k ≤ 5 ∧ i = .int .i64 k ∧ Later w wr ∧ Blk wr w.heap.size 23 (pc q) ∧ Blk wr sp 40 #[.int .i64 0, .int .i64 0, .int .i64 n, .bool true, .bool false] ∧ Blk wr qp 23 (pc (bl q 0)) ∧ Blk wr rp 23 (pc (bl q k))) (fun i _ => 5 - (intOf i).toNat)
  case atStart => exact ⟨0, by omega, rfl, HL3.out, HP3.out, HS3.out, HQ3.out, HR3.out⟩
  case round =>
    obtain ⟨k, hk, rfl, hl, hP, hS, hQ, hR⟩ := hrel
    by_cases hlt : k < 5
    · have HC := hid (HLS.out q k HOK.out (by omega) (by omega))
      have hnx : bl q ((k : Int) + 1) = bl q ((k + 1 : Nat) : Int) := by congr 1
      rw [hnx] at HC
      have HL := hid hl
      have HP := hid hP
      have HS := hid hS
      have HQ := hid hQ
      have HR := hid hR
      have hfin : bl q ((k + 1 : Nat) : Int) = bl q ((k + 1 : Nat) : Int) := rfl
      obtain ⟨T, hT⟩ : ∃ T, T = bl q ((k + 1 : Nat) : Int) := ⟨_, rfl⟩
      rw [← hT] at HC
      have HT := hid hT
      generalize bl q (k : Int) = R at *
      generalize bl q 0 = Q0 at *
      clear hl hP hS hQ hR hnx hfin hT
      (obtain ⟨hcr0, hcr1, hcr2, hcr3, hcr4, hfr0, hfr1, hfr2, hfr3, hfr4, hgr⟩ := Blk.at5 (HR.out))
      (obtain ⟨hcs0, hcs1, hcs2, hcs3, hcs4, hfs0, hfs1, hfs2, hfs3, hfs4, hgs⟩ := Blk.at5 (HS.out))
      go_wp2_with (fail)
      refine (HC.out _ _ (arr_new (by simp) rfl (by decide))).mono ?_
      rintro e w3 ⟨rfl, hl3⟩
      have HL4 := hid ((HL.out.alloc _).trans hl3)
      have HP4 := hid ((HP.out.alloc _).later hl3)
      have HS4 := hid ((HS.out.alloc _).later hl3)
      have HQ4 := hid ((HQ.out.alloc _).later hl3)
      have HR4 := hid ((HR.out.alloc _).later hl3)
      clear hl3
      (obtain ⟨hct0, hct1, hct2, hct3, hct4, hft0, hft1, hft2, hft3, hft4, hgt⟩ := Blk.at5 (HR4.out))
      go_wp2_with (fail)
      go_roundw
      case rel => exact ⟨k + 1, by omega, by go_num, (((((HL4.out.set (p := ⟨rp, 0, none⟩) (r4) (.int .i64 T.z)).set (p := ⟨rp, 1, none⟩) (r4) (.int .i64 T.h)).set (p := ⟨rp, 2, none⟩) (r4) (.int .i64 T.a)).set (p := ⟨rp, 3, none⟩) (r4) (.int .i64 T.f)).set (p := ⟨rp, 4, none⟩) (r4) (.int .i64 T.b)), (((((HP4.out.far (p := ⟨rp, 0, none⟩) (r1) (.int .i64 T.z)).far (p := ⟨rp, 1, none⟩) (r1) (.int .i64 T.h)).far (p := ⟨rp, 2, none⟩) (r1) (.int .i64 T.a)).far (p := ⟨rp, 3, none⟩) (r1) (.int .i64 T.f)).far (p := ⟨rp, 4, none⟩) (r1) (.int .i64 T.b)), (((((HS4.out.far (p := ⟨rp, 0, none⟩) (r2) (.int .i64 T.z)).far (p := ⟨rp, 1, none⟩) (r2) (.int .i64 T.h)).far (p := ⟨rp, 2, none⟩) (r2) (.int .i64 T.a)).far (p := ⟨rp, 3, none⟩) (r2) (.int .i64 T.f)).far (p := ⟨rp, 4, none⟩) (r2) (.int .i64 T.b)), (((((HQ4.out.far (p := ⟨rp, 0, none⟩) (r3) (.int .i64 T.z)).far (p := ⟨rp, 1, none⟩) (r3) (.int .i64 T.h)).far (p := ⟨rp, 2, none⟩) (r3) (.int .i64 T.a)).far (p := ⟨rp, 3, none⟩) (r3) (.int .i64 T.f)).far (p := ⟨rp, 4, none⟩) (r3) (.int .i64 T.b)), by (rw [← HT.out]; exact (((((HR4.out.set_ 0 (.int .i64 T.z)).set_ 1 (.int .i64 T.h)).set_ 2 (.int .i64 T.a)).set_ 3 (.int .i64 T.f)).set_ 4 (.int .i64 T.b)))⟩
      case measure => simp [intOf]; omega
    · obtain rfl : k = 5 := by omega
      have HC := hid (HLE.out q HOK.out)
      have HL := hid hl
      have HP := hid hP
      have HS := hid hS
      have HQ := hid hQ
      have hR' : Blk wr rp 23 (pc (bl q 5)) := hR
      have HR := hid hR'
      have hb0 : (bl q 5).b = 5 := rfl
      have hb1 : (bl q 5).z = q.z := rfl
      clear hl hP hS hQ hR hR'
      (obtain ⟨hcr0, hcr1, hcr2, hcr3, hcr4, hfr0, hfr1, hfr2, hfr3, hfr4, hgr⟩ := Blk.at5 (HR.out))
      (obtain ⟨hcs0, hcs1, hcs2, hcs3, hcs4, hfs0, hfs1, hfs2, hfs3, hfs4, hgs⟩ := Blk.at5 (HS.out))
      go_wp2_with (fail)
      refine (HC.out _ _ (arr_new (by simp) rfl (by decide))).mono ?_
      rintro e w3 ⟨rfl, hl3⟩
      have HL4 := hid ((HL.out.alloc _).trans hl3)
      have HP4 := hid ((HP.out.alloc _).later hl3)
      have HS4 := hid ((HS.out.alloc _).later hl3)
      have HQ4 := hid ((HQ.out.alloc _).later hl3)
      have HR4 := hid ((HR.out.alloc _).later hl3)
      clear hl3
      (obtain ⟨hcq40, hcq41, hcq42, hcq43, hcq44, hfq40, hfq41, hfq42, hfq43, hfq44, hgq4⟩ := Blk.at5 (HQ4.out))
      go_wp2_with (fail)
      obtain ⟨W, hW⟩ : ∃ W, W = (w3.alloc (.cells #[.int .i64 start.z, .int .i64 start.h, .int .i64 start.a, .int .i64 start.f, .int .i64 start.b] 23)).alloc (.cells #[.int .i64 (bl q 0).z, .int .i64 (bl q 0).h, .int .i64 (bl q 0).a, .int .i64 (bl q 0).f, .int .i64 (bl q 0).b] 23) := ⟨_, rfl⟩
      rw [← hW]
      have HT5 : Hid (Blk W w3.heap.size 23 #[.int .i64 256, .int .i64 1500, .int .i64 0, .int .i64 0, .int .i64 0]) := hid (by rw [hW]; exact (Blk.new _ _ _).alloc _)
      have HU5 : Hid (Blk W (w3.heap.size + 1) 23 (pc (bl q 0))) := hid (by rw [hW]; exact blk_new (by simp))
      have HP5 : Hid (Blk W w.heap.size 23 (pc q)) := hid (by rw [hW]; exact (HP4.out.alloc _).alloc _)
      have HS5 : Hid (Blk W sp 40 #[.int .i64 0, .int .i64 0, .int .i64 n, .bool true, .bool false]) := hid (by rw [hW]; exact (HS4.out.alloc _).alloc _)
      have HR5 : Hid (Blk W rp 23 #[.int .i64 q.z, .int .i64 q.h, .int .i64 q.a, .int .i64 q.f, .int .i64 5]) := hid (by rw [hW]; exact (HR4.out.alloc _).alloc _)
      have HL5 : Hid (Later w W) := hid (by rw [hW]; exact (HL4.out.alloc _).alloc _)
      have y1 : w.heap.size < w3.heap.size := HP4.out.lt
      have y2 : sp < w3.heap.size := HS4.out.lt
      have y3 : rp < w3.heap.size := HR4.out.lt
      clear hW
      obtain ⟨up, hup⟩ : ∃ up, up = w3.heap.size + 1 := ⟨_, rfl⟩
      rw [← hup] at HU5 ⊢
      generalize w3.heap.size = tp at *
      have v1 : w.heap.size ≠ up := by omega
      have v2 : sp ≠ up := by omega
      have v3 : rp ≠ up := by omega
      have v4 : tp ≠ up := by omega
      have v5 : w.heap.size ≤ up := by omega
      clear hup
      go_loopw [14] (fun ii wr => ∃ i j : Nat, i ≤ 8 ∧ ii = .int .i64 i ∧ (i ≤ 4 → j ≤ i) ∧ (5 ≤ i → j + 5 ≤ i) ∧ j ≤ 5 ∧ Later w wr ∧ Blk wr w.heap.size 23 (pc q) ∧ Blk wr sp 40 #[.int .i64 0, .int .i64 0, .int .i64 n, .bool true, .bool false] ∧ Blk wr rp 23 #[.int .i64 q.z, .int .i64 q.h, .int .i64 q.a, .int .i64 q.f, .int .i64 5] ∧
        Blk wr tp 23 #[.int .i64 256, .int .i64 1500, .int .i64 0, .int .i64 0, .int .i64 0] ∧ Blk wr up 23 (pc (bl q j))) (fun ii _ => 8 - (intOf ii).toNat)
      case atStart => exact ⟨0, 0, by omega, rfl, by omega, by omega, by omega, HL5.out, HP5.out, HS5.out, HR5.out, HT5.out, HU5.out⟩
      case round =>
        obtain ⟨i, j, hi, rfl, hj1, hj2, hj3, hl, hP, hS, hR, hT, hU⟩ := hrel
        clear HL4 HP4 HS4 HQ4 HR4 HL5 HP5 HS5 HR5 HT5 HU5 HL HP HS HQ HR
        by_cases hlt : i < 8
        · have hj5 : j < 5 := by omega
          have HC := hid (HLS.out q j HOK.out (by omega) (by omega))
          have hnx : bl q ((j : Int) + 1) = bl q ((j + 1 : Nat) : Int) := by congr 1
          rw [hnx] at HC
          have HTO := hid (bl_ok HOK.out (j := ((j + 1 : Nat) : Int)) (by omega) (by omega))
          have hT0 := hid (show bl (bl q ((j + 1 : Nat) : Int)) 0 = bl q 0 from rfl)
          have HZ := hid (show bl q ((0 : Nat) : Int) = bl q 0 from rfl)
          obtain ⟨T, hTT⟩ : ∃ T, T = bl q ((j + 1 : Nat) : Int) := ⟨_, rfl⟩
          rw [← hTT] at HC HTO hT0
          have HTT := hid hTT
          generalize bl q (j : Int) = R at *
          have HL5 := hid hl
          have HP5 := hid hP
          have HS5 := hid hS
          have HR5 := hid hR
          have HT5 := hid hT
          have HU5 := hid hU
          (obtain ⟨hcu0, hcu1, hcu2, hcu3, hcu4, hfu0, hfu1, hfu2, hfu3, hfu4, hgu⟩ := Blk.at5 (hU))
          (obtain ⟨hcs0, hcs1, hcs2, hcs3, hcs4, hfs0, hfs1, hfs2, hfs3, hfs4, hgs⟩ := Blk.at5 (hS))
          clear hl hP hS hR hT hU hnx hTT
          by_cases hc1 : (i : Int) = at_ % 5
          · have c1 : ((i : Int) == at_ % 5) = true := by simpa using hc1
            have c2 : decide ((i : Int) = at_ % 5) = true := decide_eq_true hc1
            have hcc : i ≤ 4 := by omega
            clear hc1
            have tok : True := trivial
            go_wp2_with (fail)
            refine (HC.out _ _ (arr_new (by simp) rfl (by decide))).mono ?_
            rintro e w5 ⟨rfl, hl5⟩
            have HL6 := hid ((HL5.out.alloc _).trans hl5)
            have HP6 := hid ((HP5.out.alloc _).later hl5)
            have HS6 := hid ((HS5.out.alloc _).later hl5)
            have HR6 := hid ((HR5.out.alloc _).later hl5)
            have HT6 := hid ((HT5.out.alloc _).later hl5)
            have HU6 := hid ((HU5.out.alloc _).later hl5)
            clear hl5
            (obtain ⟨hcu60, hcu61, hcu62, hcu63, hcu64, hfu60, hfu61, hfu62, hfu63, hfu64, hgu6⟩ := Blk.at5 (HU6.out))
            (obtain ⟨hcs60, hcs61, hcs62, hcs63, hcs64, hfs60, hfs61, hfs62, hfs63, hfs64, hgs6⟩ := Blk.at5 (HS6.out))
            go_wp2_with (fail)
            obtain ⟨V, hV⟩ : ∃ V, V = (((((w5.setCell ⟨up, 0, none⟩ (.int .i64 T.z)).setCell ⟨up, 1, none⟩ (.int .i64 T.h)).setCell ⟨up, 2, none⟩ (.int .i64 T.a)).setCell ⟨up, 3, none⟩ (.int .i64 T.f)).setCell ⟨up, 4, none⟩ (.int .i64 T.b)) := ⟨_, rfl⟩
            have HL7 : Hid (Later w V) := hid (by rw [hV]; exact (((((HL6.out.set (p := ⟨up, 0, none⟩) (v5) (.int .i64 T.z)).set (p := ⟨up, 1, none⟩) (v5) (.int .i64 T.h)).set (p := ⟨up, 2, none⟩) (v5) (.int .i64 T.a)).set (p := ⟨up, 3, none⟩) (v5) (.int .i64 T.f)).set (p := ⟨up, 4, none⟩) (v5) (.int .i64 T.b)))
            have HP7 : Hid (Blk V w.heap.size 23 (pc q)) := hid (by rw [hV]; exact (((((HP6.out.far (p := ⟨up, 0, none⟩) (v1) (.int .i64 T.z)).far (p := ⟨up, 1, none⟩) (v1) (.int .i64 T.h)).far (p := ⟨up, 2, none⟩) (v1) (.int .i64 T.a)).far (p := ⟨up, 3, none⟩) (v1) (.int .i64 T.f)).far (p := ⟨up, 4, none⟩) (v1) (.int .i64 T.b)))
            have HS7 : Hid (Blk V sp 40 #[.int .i64 0, .int .i64 0, .int .i64 n, .bool true, .bool false]) := hid (by rw [hV]; exact (((((HS6.out.far (p := ⟨up, 0, none⟩) (v2) (.int .i64 T.z)).far (p := ⟨up, 1, none⟩) (v2) (.int .i64 T.h)).far (p := ⟨up, 2, none⟩) (v2) (.int .i64 T.a)).far (p := ⟨up, 3, none⟩) (v2) (.int .i64 T.f)).far (p := ⟨up, 4, none⟩) (v2) (.int .i64 T.b)))
            have HR7 : Hid (Blk V rp 23 #[.int .i64 q.z, .int .i64 q.h, .int .i64 q.a, .int .i64 q.f, .int .i64 5]) := hid (by rw [hV]; exact (((((HR6.out.far (p := ⟨up, 0, none⟩) (v3) (.int .i64 T.z)).far (p := ⟨up, 1, none⟩) (v3) (.int .i64 T.h)).far (p := ⟨up, 2, none⟩) (v3) (.int .i64 T.a)).far (p := ⟨up, 3, none⟩) (v3) (.int .i64 T.f)).far (p := ⟨up, 4, none⟩) (v3) (.int .i64 T.b)))
            have HT7 : Hid (Blk V tp 23 #[.int .i64 256, .int .i64 1500, .int .i64 0, .int .i64 0, .int .i64 0]) := hid (by rw [hV]; exact (((((HT6.out.far (p := ⟨up, 0, none⟩) (v4) (.int .i64 T.z)).far (p := ⟨up, 1, none⟩) (v4) (.int .i64 T.h)).far (p := ⟨up, 2, none⟩) (v4) (.int .i64 T.a)).far (p := ⟨up, 3, none⟩) (v4) (.int .i64 T.f)).far (p := ⟨up, 4, none⟩) (v4) (.int .i64 T.b)))
            have HU7 : Hid (Blk V up 23 (pc T)) := hid (by rw [hV]; exact (((((HU6.out.set_ 0 (.int .i64 T.z)).set_ 1 (.int .i64 T.h)).set_ 2 (.int .i64 T.a)).set_ 3 (.int .i64 T.f)).set_ 4 (.int .i64 T.b)))
            have HD := hid (HCM.out T HTO.out)
            have HD0 := hid (hT0.out)
            have HVS : Hid (w5.heap.size = V.heap.size) := hid (by rw [hV]; simp)
            rw [← hV]
            clear hV
            refine (HD.out _ _ (arr_new HVS.out rfl (by decide))).mono ?_
            rintro e w6 ⟨rfl, hl6⟩
            have HL8 := hid ((HL7.out.alloc _).trans hl6)
            have HP8 := hid ((HP7.out.alloc _).later hl6)
            have HS8 := hid ((HS7.out.alloc _).later hl6)
            have HR8 := hid ((HR7.out.alloc _).later hl6)
            have HT8 := hid ((HT7.out.alloc _).later hl6)
            have HU8 := hid ((HU7.out.alloc _).later hl6)
            clear hl6
            (obtain ⟨hcu80, hcu81, hcu82, hcu83, hcu84, hfu80, hfu81, hfu82, hfu83, hfu84, hgu8⟩ := Blk.at5 (HU8.out))
            rw [HD0.out]
            go_wp2_with (fail)
            go_roundw
            case rel => exact ⟨i + 1, 0, by omega, by go_num, by omega, by omega, by omega, (((((HL8.out.set (p := ⟨up, 0, none⟩) (v5) (.int .i64 (bl q 0).z)).set (p := ⟨up, 1, none⟩) (v5) (.int .i64 (bl q 0).h)).set (p := ⟨up, 2, none⟩) (v5) (.int .i64 (bl q 0).a)).set (p := ⟨up, 3, none⟩) (v5) (.int .i64 (bl q 0).f)).set (p := ⟨up, 4, none⟩) (v5) (.int .i64 (bl q 0).b)), (((((HP8.out.far (p := ⟨up, 0, none⟩) (v1) (.int .i64 (bl q 0).z)).far (p := ⟨up, 1, none⟩) (v1) (.int .i64 (bl q 0).h)).far (p := ⟨up, 2, none⟩) (v1) (.int .i64 (bl q 0).a)).far (p := ⟨up, 3, none⟩) (v1) (.int .i64 (bl q 0).f)).far (p := ⟨up, 4, none⟩) (v1) (.int .i64 (bl q 0).b)), (((((HS8.out.far (p := ⟨up, 0, none⟩) (v2) (.int .i64 (bl q 0).z)).far (p := ⟨up, 1, none⟩) (v2) (.int .i64 (bl q 0).h)).far (p := ⟨up, 2, none⟩) (v2) (.int .i64 (bl q 0).a)).far (p := ⟨up, 3, none⟩) (v2) (.int .i64 (bl q 0).f)).far (p := ⟨up, 4, none⟩) (v2) (.int .i64 (bl q 0).b)), (((((HR8.out.far (p := ⟨up, 0, none⟩) (v3) (.int .i64 (bl q 0).z)).far (p := ⟨up, 1, none⟩) (v3) (.int .i64 (bl q 0).h)).far (p := ⟨up, 2, none⟩) (v3) (.int .i64 (bl q 0).a)).far (p := ⟨up, 3, none⟩) (v3) (.int .i64 (bl q 0).f)).far (p := ⟨up, 4, none⟩) (v3) (.int .i64 (bl q 0).b)), (((((HT8.out.far (p := ⟨up, 0, none⟩) (v4) (.int .i64 (bl q 0).z)).far (p := ⟨up, 1, none⟩) (v4) (.int .i64 (bl q 0).h)).far (p := ⟨up, 2, none⟩) (v4) (.int .i64 (bl q 0).a)).far (p := ⟨up, 3, none⟩) (v4) (.int .i64 (bl q 0).f)).far (p := ⟨up, 4, none⟩) (v4) (.int .i64 (bl q 0).b)), by (rw [HZ.out]; exact (((((HU8.out.set_ 0 (.int .i64 (bl q 0).z)).set_ 1 (.int .i64 (bl q 0).h)).set_ 2 (.int .i64 (bl q 0).a)).set_ 3 (.int .i64 (bl q 0).f)).set_ 4 (.int .i64 (bl q 0).b)))⟩
            case measure => simp [intOf]; omega
          · have c1 : ((i : Int) == at_ % 5) = false := by simpa using hc1
            have c2 : decide ((i : Int) = at_ % 5) = false := decide_eq_false hc1
            by_cases hc3 : (i : Int) = 4
            · have c3 : ((i : Int) == 4) = true := by simpa using hc3
              have c4 : decide ((i : Int) = 4) = true := decide_eq_true hc3
              have hcc : i ≤ 4 := by omega
              clear hc1 hc3
              have tok : True := trivial
              go_wp2_with (fail)
              refine (HC.out _ _ (arr_new (by simp) rfl (by decide))).mono ?_
              rintro e w5 ⟨rfl, hl5⟩
              have HL6 := hid ((HL5.out.alloc _).trans hl5)
              have HP6 := hid ((HP5.out.alloc _).later hl5)
              have HS6 := hid ((HS5.out.alloc _).later hl5)
              have HR6 := hid ((HR5.out.alloc _).later hl5)
              have HT6 := hid ((HT5.out.alloc _).later hl5)
              have HU6 := hid ((HU5.out.alloc _).later hl5)
              clear hl5
              (obtain ⟨hcu60, hcu61, hcu62, hcu63, hcu64, hfu60, hfu61, hfu62, hfu63, hfu64, hgu6⟩ := Blk.at5 (HU6.out))
              (obtain ⟨hcs60, hcs61, hcs62, hcs63, hcs64, hfs60, hfs61, hfs62, hfs63, hfs64, hgs6⟩ := Blk.at5 (HS6.out))
              go_wp2_with (fail)
              obtain ⟨V, hV⟩ : ∃ V, V = (((((w5.setCell ⟨up, 0, none⟩ (.int .i64 T.z)).setCell ⟨up, 1, none⟩ (.int .i64 T.h)).setCell ⟨up, 2, none⟩ (.int .i64 T.a)).setCell ⟨up, 3, none⟩ (.int .i64 T.f)).setCell ⟨up, 4, none⟩ (.int .i64 T.b)) := ⟨_, rfl⟩
              have HL7 : Hid (Later w V) := hid (by rw [hV]; exact (((((HL6.out.set (p := ⟨up, 0, none⟩) (v5) (.int .i64 T.z)).set (p := ⟨up, 1, none⟩) (v5) (.int .i64 T.h)).set (p := ⟨up, 2, none⟩) (v5) (.int .i64 T.a)).set (p := ⟨up, 3, none⟩) (v5) (.int .i64 T.f)).set (p := ⟨up, 4, none⟩) (v5) (.int .i64 T.b)))
              have HP7 : Hid (Blk V w.heap.size 23 (pc q)) := hid (by rw [hV]; exact (((((HP6.out.far (p := ⟨up, 0, none⟩) (v1) (.int .i64 T.z)).far (p := ⟨up, 1, none⟩) (v1) (.int .i64 T.h)).far (p := ⟨up, 2, none⟩) (v1) (.int .i64 T.a)).far (p := ⟨up, 3, none⟩) (v1) (.int .i64 T.f)).far (p := ⟨up, 4, none⟩) (v1) (.int .i64 T.b)))
              have HS7 : Hid (Blk V sp 40 #[.int .i64 0, .int .i64 0, .int .i64 n, .bool true, .bool false]) := hid (by rw [hV]; exact (((((HS6.out.far (p := ⟨up, 0, none⟩) (v2) (.int .i64 T.z)).far (p := ⟨up, 1, none⟩) (v2) (.int .i64 T.h)).far (p := ⟨up, 2, none⟩) (v2) (.int .i64 T.a)).far (p := ⟨up, 3, none⟩) (v2) (.int .i64 T.f)).far (p := ⟨up, 4, none⟩) (v2) (.int .i64 T.b)))
              have HR7 : Hid (Blk V rp 23 #[.int .i64 q.z, .int .i64 q.h, .int .i64 q.a, .int .i64 q.f, .int .i64 5]) := hid (by rw [hV]; exact (((((HR6.out.far (p := ⟨up, 0, none⟩) (v3) (.int .i64 T.z)).far (p := ⟨up, 1, none⟩) (v3) (.int .i64 T.h)).far (p := ⟨up, 2, none⟩) (v3) (.int .i64 T.a)).far (p := ⟨up, 3, none⟩) (v3) (.int .i64 T.f)).far (p := ⟨up, 4, none⟩) (v3) (.int .i64 T.b)))
              have HT7 : Hid (Blk V tp 23 #[.int .i64 256, .int .i64 1500, .int .i64 0, .int .i64 0, .int .i64 0]) := hid (by rw [hV]; exact (((((HT6.out.far (p := ⟨up, 0, none⟩) (v4) (.int .i64 T.z)).far (p := ⟨up, 1, none⟩) (v4) (.int .i64 T.h)).far (p := ⟨up, 2, none⟩) (v4) (.int .i64 T.a)).far (p := ⟨up, 3, none⟩) (v4) (.int .i64 T.f)).far (p := ⟨up, 4, none⟩) (v4) (.int .i64 T.b)))
              have HU7 : Hid (Blk V up 23 (pc T)) := hid (by rw [hV]; exact (((((HU6.out.set_ 0 (.int .i64 T.z)).set_ 1 (.int .i64 T.h)).set_ 2 (.int .i64 T.a)).set_ 3 (.int .i64 T.f)).set_ 4 (.int .i64 T.b)))
              have HD := hid (HCM.out T HTO.out)
              have HD0 := hid (hT0.out)
              have HVS : Hid (w5.heap.size = V.heap.size) := hid (by rw [hV]; simp)
              rw [← hV]
              clear hV
              refine (HD.out _ _ (arr_new HVS.out rfl (by decide))).mono ?_
              rintro e w6 ⟨rfl, hl6⟩
              have HL8 := hid ((HL7.out.alloc _).trans hl6)
              have HP8 := hid ((HP7.out.alloc _).later hl6)
              have HS8 := hid ((HS7.out.alloc _).later hl6)
              have HR8 := hid ((HR7.out.alloc _).later hl6)
              have HT8 := hid ((HT7.out.alloc _).later hl6)
              have HU8 := hid ((HU7.out.alloc _).later hl6)
              clear hl6
              (obtain ⟨hcu80, hcu81, hcu82, hcu83, hcu84, hfu80, hfu81, hfu82, hfu83, hfu84, hgu8⟩ := Blk.at5 (HU8.out))
              rw [HD0.out]
              go_wp2_with (fail)
              go_roundw
              case rel => exact ⟨i + 1, 0, by omega, by go_num, by omega, by omega, by omega, (((((HL8.out.set (p := ⟨up, 0, none⟩) (v5) (.int .i64 (bl q 0).z)).set (p := ⟨up, 1, none⟩) (v5) (.int .i64 (bl q 0).h)).set (p := ⟨up, 2, none⟩) (v5) (.int .i64 (bl q 0).a)).set (p := ⟨up, 3, none⟩) (v5) (.int .i64 (bl q 0).f)).set (p := ⟨up, 4, none⟩) (v5) (.int .i64 (bl q 0).b)), (((((HP8.out.far (p := ⟨up, 0, none⟩) (v1) (.int .i64 (bl q 0).z)).far (p := ⟨up, 1, none⟩) (v1) (.int .i64 (bl q 0).h)).far (p := ⟨up, 2, none⟩) (v1) (.int .i64 (bl q 0).a)).far (p := ⟨up, 3, none⟩) (v1) (.int .i64 (bl q 0).f)).far (p := ⟨up, 4, none⟩) (v1) (.int .i64 (bl q 0).b)), (((((HS8.out.far (p := ⟨up, 0, none⟩) (v2) (.int .i64 (bl q 0).z)).far (p := ⟨up, 1, none⟩) (v2) (.int .i64 (bl q 0).h)).far (p := ⟨up, 2, none⟩) (v2) (.int .i64 (bl q 0).a)).far (p := ⟨up, 3, none⟩) (v2) (.int .i64 (bl q 0).f)).far (p := ⟨up, 4, none⟩) (v2) (.int .i64 (bl q 0).b)), (((((HR8.out.far (p := ⟨up, 0, none⟩) (v3) (.int .i64 (bl q 0).z)).far (p := ⟨up, 1, none⟩) (v3) (.int .i64 (bl q 0).h)).far (p := ⟨up, 2, none⟩) (v3) (.int .i64 (bl q 0).a)).far (p := ⟨up, 3, none⟩) (v3) (.int .i64 (bl q 0).f)).far (p := ⟨up, 4, none⟩) (v3) (.int .i64 (bl q 0).b)), (((((HT8.out.far (p := ⟨up, 0, none⟩) (v4) (.int .i64 (bl q 0).z)).far (p := ⟨up, 1, none⟩) (v4) (.int .i64 (bl q 0).h)).far (p := ⟨up, 2, none⟩) (v4) (.int .i64 (bl q 0).a)).far (p := ⟨up, 3, none⟩) (v4) (.int .i64 (bl q 0).f)).far (p := ⟨up, 4, none⟩) (v4) (.int .i64 (bl q 0).b)), by (rw [HZ.out]; exact (((((HU8.out.set_ 0 (.int .i64 (bl q 0).z)).set_ 1 (.int .i64 (bl q 0).h)).set_ 2 (.int .i64 (bl q 0).a)).set_ 3 (.int .i64 (bl q 0).f)).set_ 4 (.int .i64 (bl q 0).b)))⟩
              case measure => simp [intOf]; omega
            · have c3 : ((i : Int) == 4) = false := by simpa using hc3
              have c4 : decide ((i : Int) = 4) = false := decide_eq_false hc3
              have hcc : i ≠ 4 := by omega
              clear hc1 hc3
              have tok : True := trivial
              go_wp2_with (fail)
              refine (HC.out _ _ (arr_new (by simp) rfl (by decide))).mono ?_
              rintro e w5 ⟨rfl, hl5⟩
              have HL6 := hid ((HL5.out.alloc _).trans hl5)
              have HP6 := hid ((HP5.out.alloc _).later hl5)
              have HS6 := hid ((HS5.out.alloc _).later hl5)
              have HR6 := hid ((HR5.out.alloc _).later hl5)
              have HT6 := hid ((HT5.out.alloc _).later hl5)
              have HU6 := hid ((HU5.out.alloc _).later hl5)
              clear hl5
              (obtain ⟨hcu60, hcu61, hcu62, hcu63, hcu64, hfu60, hfu61, hfu62, hfu63, hfu64, hgu6⟩ := Blk.at5 (HU6.out))
              (obtain ⟨hcs60, hcs61, hcs62, hcs63, hcs64, hfs60, hfs61, hfs62, hfs63, hfs64, hgs6⟩ := Blk.at5 (HS6.out))
              go_wp2_with (fail)
              go_roundw
              case rel => exact ⟨i + 1, j + 1, by omega, by go_num, by omega, by omega, by omega, (((((HL6.out.set (p := ⟨up, 0, none⟩) (v5) (.int .i64 T.z)).set (p := ⟨up, 1, none⟩) (v5) (.int .i64 T.h)).set (p := ⟨up, 2, none⟩) (v5) (.int .i64 T.a)).set (p := ⟨up, 3, none⟩) (v5) (.int .i64 T.f)).set (p := ⟨up, 4, none⟩) (v5) (.int .i64 T.b)), (((((HP6.out.far (p := ⟨up, 0, none⟩) (v1) (.int .i64 T.z)).far (p := ⟨up, 1, none⟩) (v1) (.int .i64 T.h)).far (p := ⟨up, 2, none⟩) (v1) (.int .i64 T.a)).far (p := ⟨up, 3, none⟩) (v1) (.int .i64 T.f)).far (p := ⟨up, 4, none⟩) (v1) (.int .i64 T.b)), (((((HS6.out.far (p := ⟨up, 0, none⟩) (v2) (.int .i64 T.z)).far (p := ⟨up, 1, none⟩) (v2) (.int .i64 T.h)).far (p := ⟨up, 2, none⟩) (v2) (.int .i64 T.a)).far (p := ⟨up, 3, none⟩) (v2) (.int .i64 T.f)).far (p := ⟨up, 4, none⟩) (v2) (.int .i64 T.b)), (((((HR6.out.far (p := ⟨up, 0, none⟩) (v3) (.int .i64 T.z)).far (p := ⟨up, 1, none⟩) (v3) (.int .i64 T.h)).far (p := ⟨up, 2, none⟩) (v3) (.int .i64 T.a)).far (p := ⟨up, 3, none⟩) (v3) (.int .i64 T.f)).far (p := ⟨up, 4, none⟩) (v3) (.int .i64 T.b)), (((((HT6.out.far (p := ⟨up, 0, none⟩) (v4) (.int .i64 T.z)).far (p := ⟨up, 1, none⟩) (v4) (.int .i64 T.h)).far (p := ⟨up, 2, none⟩) (v4) (.int .i64 T.a)).far (p := ⟨up, 3, none⟩) (v4) (.int .i64 T.f)).far (p := ⟨up, 4, none⟩) (v4) (.int .i64 T.b)), by (rw [← HTT.out]; exact (((((HU6.out.set_ 0 (.int .i64 T.z)).set_ 1 (.int .i64 T.h)).set_ 2 (.int .i64 T.a)).set_ 3 (.int .i64 T.f)).set_ 4 (.int .i64 T.b)))⟩
              case measure => simp [intOf]; omega
        · obtain rfl : i = 8 := by omega
          have hU' : Blk wr up 23 #[.int .i64 q.z, .int .i64 q.h, .int .i64 q.a, .int .i64 q.f, .int .i64 j] := hU
          (obtain ⟨hca0, hca1, hca2, hca3, hca4, hfa0, hfa1, hfa2, hfa3, hfa4, hga⟩ := Blk.at5 (hP))
          (obtain ⟨hcb0, hcb1, hcb2, hcb3, hcb4, hfb0, hfb1, hfb2, hfb3, hfb4, hgb⟩ := Blk.at5 (hR))
          (obtain ⟨hcc0, hcc1, hcc2, hcc3, hcc4, hfc0, hfc1, hfc2, hfc3, hfc4, hgc⟩ := Blk.at5 (hT))
          (obtain ⟨hcd0, hcd1, hcd2, hcd3, hcd4, hfd0, hfd1, hfd2, hfd3, hfd4, hgd⟩ := Blk.at5 (hU'))
          have HLf := hid hl
          have hst : ∀ W, Gives Try.prog 21 #[] W (.agg #[.int .i64 256, .int .i64 1500, .int .i64 0, .int .i64 0, .int .i64 0]) := start21
          have HST := hid hst
          clear hl hP hS hR hT hU hU' hst
          go_wp2_with (fail)
          (refine wp_region_calm (by kernel_rfl) (by kernel_rfl) ?_; (repeat (go_big_quiet_step (fail))); go_big_quiet_step ((go_at_call 21; exact calm_of (HST.out _))); (repeat (go_big_quiet_step (fail))); refine wpQuiet_nil ?_; rintro _ ⟨x, rfl⟩; go_wp2_with (fail))
          go_ret
          exact ⟨rfl, by repeat (first | (with_reducible exact Later.refl _) | (with_reducible exact HLf.out) | with_reducible apply Later.latr | with_reducible apply Later.alloc | with_reducible apply Later.drew | (with_reducible refine Later.set ?_ (by (simp; try omega)) _))⟩
end Go.Proofs.Yteikpgahdjhhkaa
