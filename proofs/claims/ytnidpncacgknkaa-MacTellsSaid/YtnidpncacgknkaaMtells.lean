/- The walk of MacTells: it answers true. Of any key, texts and name. -/
import Derived.Test.YtnidpncacgknkaaRtag
import Derived.Test.YtnidpncacgknkaaMawake
namespace Go.Proofs.Ytnidpncacgknkaa
open Go.RowKit
attribute [local go_sem] ite_max ite_min
attribute [local go_sem ↓] Go.wp_at_zero Go.wp_at_succ
attribute [local go_sem] conv_sb Lib.bytesWorld_size
attribute [local go_sem] h_lt1 h_lt2 h_lt3 h_lt4 h_lt5 h_lt6 h_eq1 h_qe1 h_eq2 h_qe2 h_eq3 h_qe3 h_eq4 h_qe4 h_eq5 h_qe5 h_eq6 h_qe6
set_option maxRecDepth 100000 in
set_option maxHeartbeats 8000000 in
theorem macTells8 (kv : Value) (key : List B8) (tv : Value) (ts : List (List B8)) (s : ByteArray) (w : World) (hk : Arr w 1 kv key.length (bl key)) (hks : Shape kv) (ht : Texts w tv ts) :
    Gives Try.prog 8 #[kv, tv, .string s] w (.bool true) := by
  apply gives_of
  have HK := hid hk
  have HT := hid ht
  have HKS := hid hks
  obtain ⟨_, ka, kcap, rfl, _⟩ := hk
  clear hks ht
  by_cases hk3 : 300 < key.length
  · have d1 : decide (300 < (key.length : Int)) = true := decide_eq_true (by omega)
    (go_enter Try.func8, Try.ntmps8; go_wp2_with (fail))
    (refine (awake11 _).mono ?_; rintro e w1 ⟨rfl, x1, rfl⟩; go_wp2_with (fail))
    go_ret
    exact ⟨rfl, by repeat (first | (with_reducible exact Later.refl _) | with_reducible apply Later.latr | with_reducible apply Later.alloc | with_reducible apply Later.drew | (with_reducible refine Later.set ?_ (by (simp; try omega)) _))⟩
  have d1 : decide (300 < (key.length : Int)) = false := decide_eq_false (by omega)
  cases hF : fewB ts
  · (go_enter Try.func8, Try.ntmps8; go_wp2_with (fail))
    refine (awake11 _).later.mono ?_
    rintro e W0 ⟨rfl, hl0⟩
    go_wp2_with (fail)
    refine (few21 _ ts _ (HT.out.later hl0)).later.mono ?_
    rw [hF]
    rintro e W1 ⟨rfl, hl1⟩
    go_wp2_with (fail)
    go_ret
    exact ⟨rfl, hl0.trans hl1⟩
  by_cases hs3 : 300 < s.size
  · have d2 : decide (300 < (s.size : Int)) = true := decide_eq_true (by omega)
    (go_enter Try.func8, Try.ntmps8; go_wp2_with (fail))
    refine (awake11 _).later.mono ?_
    rintro e W0 ⟨rfl, hl0⟩
    go_wp2_with (fail)
    refine (few21 _ ts _ (HT.out.later hl0)).later.mono ?_
    rw [hF]
    rintro e W1 ⟨rfl, hl1⟩
    go_wp2_with (fail)
    go_ret
    exact ⟨rfl, hl0.trans hl1⟩
  have d2 : decide (300 < (s.size : Int)) = false := decide_eq_false (by omega)
  have hfl := few_len hF
  (go_enter Try.func8, Try.ntmps8; go_wp2_with (fail))
  refine (awake11 _).later.mono ?_
  rintro e W0 ⟨rfl, hl0⟩
  go_wp2_with (fail)
  refine (few21 _ ts _ (HT.out.later hl0)).later.mono ?_
  rw [hF]
  clear hF
  rintro e W1 ⟨rfl, hl1⟩
  have HL1 := hid (hl0.trans hl1)
  clear hl0 hl1
  go_wp2_with (fail)
  refine (join22 _ ts _ (HT.out.later HL1.out) (by omega)).mono ?_
  rintro e W2 ⟨o, rfl, hl2, hO2⟩
  have HL2 := hid (HL1.out.trans hl2)
  have HO2 := hid hO2
  obtain ⟨pa, pc, hq⟩ := own_is_slice hO2
  subst hq
  have hflat : ∃ T, T = ts.flatten := ⟨_, rfl⟩
  obtain ⟨T, hTe⟩ := hflat
  rw [← hTe] at HO2 hfl ⊢
  have HTE := hid hTe
  have lC := hmac_len key T
  clear hl2 hO2 HL1 hTe
  go_wp2_with (fail)
  refine (mac12 _ key _ ts _ (HK.out.later HL2.out) HKS.out (HT.out.later HL2.out) (by omega) (by rw [← HTE.out]; omega)).later.mono ?_
  rw [← HTE.out]
  rintro e W3 ⟨rfl, hl3⟩
  have HL3 := hid (HL2.out.trans hl3)
  replace HO2 := hid (own_later HO2.out hl3)
  clear hl3 HL2
  go_wp2_with (fail)
  refine (refmac23 _ key _ T _ (HK.out.later HL3.out) HKS.out (Arr.of_own HO2.out) (own_shape HO2.out) (by omega) (by omega)).later.mono ?_
  rintro e W4 ⟨rfl, hl4⟩
  have HL4 := hid (HL3.out.trans hl4)
  replace HO2 := hid (own_later HO2.out hl4)
  clear hl4 HL3
  (try simp only [])
  (iterate 1 go_step)
  refine list_on (by kernel_rfl) ?_
  refine wp_eq24 (hmac key T) (hmac key T) rfl rfl lC lC ?_
  rw [same_self]
  have lg : ((hmac key T).take 16).length = 16 := by rw [List.length_take, lC]; rfl
  go_wp2_with (fail)
  refine (tag13 _ key _ ts _ (HK.out.later HL4.out) HKS.out (HT.out.later HL4.out) (by omega) (by rw [← HTE.out]; omega)).later.mono ?_
  rw [← HTE.out]
  rintro e W5 ⟨rfl, hl5⟩
  have HL5 := hid (HL4.out.trans hl5)
  replace HO2 := hid (own_later HO2.out hl5)
  clear hl5 HL4
  go_wp2_with (fail)
  refine (reftag24 _ key _ T _ (HK.out.later HL5.out) HKS.out (Arr.of_own HO2.out) (own_shape HO2.out) (by omega) (by omega)).later.mono ?_
  rintro e W6 ⟨rfl, hl6⟩
  have HL6 := hid (HL5.out.trans hl6)
  clear hl6 HL5 HO2
  (try simp only [])
  (iterate 1 go_step)
  refine list_on (by kernel_rfl) ?_
  refine wp_eq26 ((hmac key T).take 16) ((hmac key T).take 16) rfl rfl lg lg ?_
  rw [same_self]
  go_wp2_with (fail)
  refine (key14 _ key s _ (HK.out.later HL6.out) HKS.out (by omega) (by omega)).later.mono ?_
  rintro e W7 ⟨rfl, hl7⟩
  have HL7 := hid (HL6.out.trans hl7)
  clear hl7 HL6 lC lg
  have lN := hmac_len key (strBytes s)
  go_wp2_with (fail)
  have hlW : Later W7 (Lib.bytesWorld W7 5 s) := later_sb s _
  have hA := arr_sb s W7 (by unfold maxLen; omega)
  have HL8 := hid (HL7.out.trans hlW)
  have hsb := strBytes_len s
  generalize grownCap W7 s.size 0 5 = gc at *
  generalize Lib.bytesWorld W7 5 s = W8 at *
  refine (refmac23 _ key _ (strBytes s) _ (HK.out.later HL8.out) HKS.out (by rw [hsb] at hA ⊢; exact hA) (.inr ⟨_, _, _, rfl⟩) (by omega) (by omega)).later.mono ?_
  rintro e W9 ⟨rfl, hl9⟩
  (try simp only [])
  (iterate 1 go_step)
  refine list_on (by kernel_rfl) ?_
  refine wp_eq24 (hmac key (strBytes s)) (hmac key (strBytes s)) rfl rfl lN lN ?_
  rw [same_self]
  go_wp2_with (fail)
  go_ret
  exact ⟨rfl, HL8.out.trans hl9⟩
end Go.Proofs.Ytnidpncacgknkaa
