/- The walk of MacNames: it answers true. Of any secret, name and text. -/
import Derived.Test.YtnidpncacgknkaaMawake
import Derived.Test.YtnidpncacgknkaaPred
import Derived.Test.YtnidpncacgknkaaSteps
namespace Go.Proofs.Ytnidpncacgknkaa
open Go.RowKit
attribute [local go_sem] ite_max ite_min
attribute [local go_sem ↓] Go.wp_at_zero Go.wp_at_succ
attribute [local go_sem] conv_sb Lib.bytesWorld_size
attribute [local go_sem] h_lt1 h_lt2 h_lt3 h_lt4 h_lt5 h_lt6 h_eq1 h_qe1 h_eq2 h_qe2 h_eq3 h_qe3 h_eq4 h_qe4 h_eq5 h_qe5 h_eq6 h_qe6
set_option maxRecDepth 100000 in
set_option maxHeartbeats 8000000 in
theorem macNames3 (kv : Value) (key : List B8) (s : ByteArray) (tv : Value) (text : List B8) (w : World) (hk : Arr w 1 kv key.length (bl key)) (hks : Shape kv) (ht : Arr w 1 tv text.length (bl text)) (hts : Shape tv) :
    Gives Try.prog 3 #[kv, .string s, tv] w (.bool true) := by
  apply gives_of
  have HK := hid hk
  have HT := hid ht
  obtain ⟨_, ka, kcap, rfl, _⟩ := hk
  obtain ⟨_, ta, tcap, rfl, _⟩ := ht
  by_cases hk3 : 300 < key.length
  · have d1 : decide (300 < (key.length : Int)) = true := decide_eq_true (by omega)
    (go_enter Try.func3, Try.ntmps3; go_wp2_with (fail))
    (refine (awake11 _).mono ?_; rintro e w1 ⟨rfl, x1, rfl⟩; go_wp2_with (fail))
    go_ret
    exact ⟨rfl, by repeat (first | (with_reducible exact Later.refl _) | with_reducible apply Later.latr | with_reducible apply Later.alloc | with_reducible apply Later.drew | (with_reducible refine Later.set ?_ (by (simp; try omega)) _))⟩
  have d1 : decide (300 < (key.length : Int)) = false := decide_eq_false (by omega)
  by_cases hs3 : 300 < s.size
  · have d2 : decide (300 < (s.size : Int)) = true := decide_eq_true (by omega)
    (go_enter Try.func3, Try.ntmps3; go_wp2_with (fail))
    (refine (awake11 _).mono ?_; rintro e w1 ⟨rfl, x1, rfl⟩; go_wp2_with (fail))
    go_ret
    exact ⟨rfl, by repeat (first | (with_reducible exact Later.refl _) | with_reducible apply Later.latr | with_reducible apply Later.alloc | with_reducible apply Later.drew | (with_reducible refine Later.set ?_ (by (simp; try omega)) _))⟩
  have d2 : decide (300 < (s.size : Int)) = false := decide_eq_false (by omega)
  by_cases ht3 : 300 < text.length
  · have d3 : decide (300 < (text.length : Int)) = true := decide_eq_true (by omega)
    (go_enter Try.func3, Try.ntmps3; go_wp2_with (fail))
    (refine (awake11 _).mono ?_; rintro e w1 ⟨rfl, x1, rfl⟩; go_wp2_with (fail))
    go_ret
    exact ⟨rfl, by repeat (first | (with_reducible exact Later.refl _) | with_reducible apply Later.latr | with_reducible apply Later.alloc | with_reducible apply Later.drew | (with_reducible refine Later.set ?_ (by (simp; try omega)) _))⟩
  have d3 : decide (300 < (text.length : Int)) = false := decide_eq_false (by omega)
  (go_enter Try.func3, Try.ntmps3; go_wp2_with (fail))
  refine (awake11 _).later.mono ?_
  rintro e W0 ⟨rfl, hl0⟩
  have HL0 := hid hl0
  replace HT := hid (HT.out.later hl0)
  replace HK := hid (HK.out.later hl0)
  clear hl0
  go_wp2_with (fail)
  have hlW : Later W0 (Lib.bytesWorld W0 5 s) := later_sb s _
  have hA := arr_sb s W0 (by unfold maxLen; omega)
  have hsz : (Lib.bytesWorld W0 5 s).heap.size = W0.heap.size + 1 := by rw [Lib.bytesWorld_size]
  replace HK := hid (HK.out.later hlW)
  replace HT := hid (HT.out.later hlW)
  have HL1 := hid (HL0.out.trans hlW)
  generalize Lib.bytesWorld W0 5 s = W1 at *
  have hT := texts1 (w := W1.alloc (.cells #[.slice (some ⟨W0.heap.size, 0, none⟩) s.size (grownCap W0 s.size 0 5)] 22)) (arr_new (xs := [_]) (n := 1) (size := 1) hsz.symm rfl (by decide)) ((by rw [strBytes_len] at hA ⊢; exact hA : Arr W1 1 _ (strBytes s).length (bl (strBytes s))).alloc _) (.inr ⟨_, _, _, rfl⟩)
  generalize grownCap W0 s.size 0 5 = gc at *
  have hls := strBytes_len s
  have hH : hmac key [strBytes s].flatten = hmac key (strBytes s) := by rw [show [strBytes s].flatten = strBytes s by simp]
  refine (mac12 _ key _ _ _ (HK.out.alloc _) hks hT (by omega) (by simp; omega)).later.mono ?_
  rw [hH]
  have hcn := hid (rfl : hmac key (strBytes s) = hmac key (strBytes s))
  have ln := hmac_len key (strBytes s)
  generalize hcne : hmac key (strBytes s) = cn at ln ⊢
  replace hcn : Hid (hmac key (strBytes s) = cn) := hid hcne
  clear hH hT hcne hls
  rintro e W2 ⟨rfl, hl2⟩
  have HL2 := hid (Later.trans (a := w) (by repeat (first | (with_reducible exact Later.refl _) | (with_reducible exact HL1.out) | with_reducible apply Later.latr | with_reducible apply Later.alloc | with_reducible apply Later.drew | (with_reducible refine Later.set ?_ (by (simp; try omega)) _))) hl2)
  replace HK := hid (HK.out.later (Later.trans (a := W1) (by repeat (first | (with_reducible exact Later.refl _) | with_reducible apply Later.latr | with_reducible apply Later.alloc | with_reducible apply Later.drew | (with_reducible refine Later.set ?_ (by (simp; try omega)) _))) hl2))
  replace HT := hid (HT.out.later (Later.trans (a := W1) (by repeat (first | (with_reducible exact Later.refl _) | with_reducible apply Later.latr | with_reducible apply Later.alloc | with_reducible apply Later.drew | (with_reducible refine Later.set ?_ (by (simp; try omega)) _))) hl2))
  clear hl2 hlW hA hsz HL1
  have ht_U8 := (Blk.new W2 24 z24).thereN 32 z24_size
  (try simp only [])
  (iterate 8 go_step)
  obtain ⟨U8, hU8⟩ : ∃ U, U = (W2.alloc (.cells z24 24)).setCells W2.heap.size 0 (bl cn) := ⟨_, rfl⟩
  have hlU8 : Later W2 U8 := by rw [hU8]; exact later_sets (by repeat (first | (with_reducible exact Later.refl _) | with_reducible apply Later.latr | with_reducible apply Later.alloc | with_reducible apply Later.drew | (with_reducible refine Later.set ?_ (by (simp; try omega)) _))) (Nat.le_refl _) _ _
  have HB8 : Hid (Blk U8 W2.heap.size 24 (bl cn).toArray) := hid (by rw [hU8]; exact set24 _ ln (Blk.new W2 24 _) z24_size)
  rw [← hU8]
  have HL3 := hid (HL2.out.trans hlU8)
  replace HK := hid (HK.out.later hlU8)
  replace HT := hid (HT.out.later hlU8)
  clear hU8 hlU8 ht_U8 HL2
  generalize W2.heap.size = b8 at *
  go_wp2_with (fail)
  have hH : hmac key [text].flatten = hmac key text := by rw [show [text].flatten = text by simp]
  refine (mac12 _ key _ [text] _ (HK.out.alloc _) hks (texts1 (arr_new (xs := [_]) (n := 1) (size := 1) rfl rfl (by decide)) (HT.out.alloc _) hts) (by omega) (by simp; omega)).later.mono ?_
  rw [hH]
  have lt := hmac_len key text
  have hct : ∃ ct, ct = hmac key text := ⟨_, rfl⟩
  obtain ⟨ct, hct⟩ := hct
  rw [← hct] at lt ⊢
  rintro e W3 ⟨rfl, hl3⟩
  have hl3U := Later.trans (a := U8) (by repeat (first | (with_reducible exact Later.refl _) | with_reducible apply Later.latr | with_reducible apply Later.alloc | with_reducible apply Later.drew | (with_reducible refine Later.set ?_ (by (simp; try omega)) _))) hl3
  have HL4 := hid (HL3.out.trans hl3U)
  replace HK := hid (HK.out.later hl3U)
  replace HT := hid (HT.out.later hl3U)
  replace HB8 := hid (HB8.out.later hl3U)
  have HCT := hid hct
  clear hl3 hl3U hH hct HL3
  have ht_U9 := (Blk.new W3 24 z24).thereN 32 z24_size
  (try simp only [])
  (iterate 8 go_step)
  obtain ⟨U9, hU9⟩ : ∃ U, U = (W3.alloc (.cells z24 24)).setCells W3.heap.size 0 (bl ct) := ⟨_, rfl⟩
  have hlU9 : Later W3 U9 := by rw [hU9]; exact later_sets (by repeat (first | (with_reducible exact Later.refl _) | with_reducible apply Later.latr | with_reducible apply Later.alloc | with_reducible apply Later.drew | (with_reducible refine Later.set ?_ (by (simp; try omega)) _))) (Nat.le_refl _) _ _
  have HB9 : Hid (Blk U9 W3.heap.size 24 (bl ct).toArray) := hid (by rw [hU9]; exact set24 _ lt (Blk.new W3 24 _) z24_size)
  rw [← hU9]
  have HL5 := hid (HL4.out.trans hlU9)
  replace HK := hid (HK.out.later hlU9)
  replace HT := hid (HT.out.later hlU9)
  replace HB8 := hid (HB8.out.later hlU9)
  clear hU9 hlU9 ht_U9 HL4
  generalize W3.heap.size = b9 at *
  go_wp2_with (fail)
  have hH : (hmac key [text].flatten).take 16 = ct.take 16 := by rw [show [text].flatten = text by simp, ← HCT.out]
  have hcg2 : (hmac key [text, []].flatten).take 16 = ct.take 16 := by rw [show [text, []].flatten = text by simp, ← HCT.out]
  refine (tag13 _ key _ [text] _ (HK.out.alloc _) hks (texts1 (arr_new (xs := [_]) (n := 1) (size := 1) rfl rfl (by decide)) (HT.out.alloc _) hts) (by omega) (by simp; omega)).later.mono ?_
  rw [hH]
  obtain ⟨cg, hcge⟩ : ∃ cg, cg = ct.take 16 := ⟨_, rfl⟩
  have lg : cg.length = 16 := by rw [hcge, List.length_take, lt]; rfl
  rw [← hcge]
  have hcc := hid hcge.symm
  have hcg := hid (hcg2.trans hcge.symm)
  rintro e W4 ⟨rfl, hl4⟩
  have hl4U := Later.trans (a := U9) (by repeat (first | (with_reducible exact Later.refl _) | with_reducible apply Later.latr | with_reducible apply Later.alloc | with_reducible apply Later.drew | (with_reducible refine Later.set ?_ (by (simp; try omega)) _))) hl4
  have HL6 := hid (HL5.out.trans hl4U)
  replace HK := hid (HK.out.later hl4U)
  replace HT := hid (HT.out.later hl4U)
  replace HB8 := hid (HB8.out.later hl4U)
  replace HB9 := hid (HB9.out.later hl4U)
  clear hl4 hl4U hH hcg2 hcge HL5
  have ht_W := (Blk.new W4 26 z26).thereN 16 z26_size
  (try simp only [])
  (iterate 8 go_step)
  obtain ⟨W, hW⟩ : ∃ U, U = (W4.alloc (.cells z26 26)).setCells W4.heap.size 0 (bl cg) := ⟨_, rfl⟩
  have hlW : Later W4 W := by rw [hW]; exact later_sets (by repeat (first | (with_reducible exact Later.refl _) | with_reducible apply Later.latr | with_reducible apply Later.alloc | with_reducible apply Later.drew | (with_reducible refine Later.set ?_ (by (simp; try omega)) _))) (Nat.le_refl _) _ _
  have HB10 : Hid (Blk W W4.heap.size 26 (bl cg).toArray) := hid (by rw [hW]; exact set26 _ lg (Blk.new W4 26 _) z26_size)
  rw [← hW]
  have HLW := hid (HL6.out.trans hlW)
  replace HK := hid (HK.out.later hlW)
  replace HT := hid (HT.out.later hlW)
  replace HB8 := hid (HB8.out.later hlW)
  replace HB9 := hid (HB9.out.later hlW)
  clear hW hlW ht_W HL6
  generalize W4.heap.size = b10 at *
  go_wp2_with (fail)
  -- the region, group by group
  refine wp_region_pred [.eq (.bool true), .eq (.bool true), .eq (.slice ka key.length kcap), .eq (.string s), .eq (bagg cn), .eq (bagg cn), .eq (.bool true), .eq (.bool true), .eq (.bool true), .eq (.slice (some ⟨b10, 0, none⟩) 16 16), .eq (.string (strB cg)), .eq (.slice (some ⟨b9, 0, none⟩) 16 32), .eq (.string (strB cg)), .eq (.bool true), .eq (.bool true), .eq (.bool true), .eq (bagg cg), .eq (.slice ka key.length kcap), .eq (.slice ta text.length tcap), .pr (fun v u => Texts u v [text, []]), .eq (bagg cg), .eq (.bool true), .eq (.bool true), .eq (.bool true)] (by kernel_rfl) (by kernel_rfl) (by repeat (first | exact stable_nil | refine stable_cons (Kd.stable_eq _) ?_ | refine stable_cons (fun _ _ _ hl h => Texts.later h hl) ?_)) ?_
  refine ⟨by kernel_rfl, fun u hu hk K hK => ?_, fun v0 K hK => ?_⟩
  · replace hk := hid hk
    go_simp
    exact hK.out _ _ _ rfl (Later.refl _) (rfl)
  go_simp
  refine hK.out _ ?_
  clear hK K
  refine ⟨by kernel_rfl, fun u hu hk K hK => ?_, fun v1 K hK => ?_⟩
  · replace hk := hid hk
    go_simp
    exact hK.out _ _ _ rfl (Later.refl _) (rfl)
  go_simp
  refine hK.out _ ?_
  clear hK K
  refine ⟨by kernel_rfl, fun u hu hk K hK => ?_, fun v2 K hK => ?_⟩
  · replace hk := hid hk
    go_simp
    exact hK.out _ _ _ rfl (Later.refl _) (rfl)
  go_simp
  refine hK.out _ ?_
  clear hK K
  refine ⟨by kernel_rfl, fun u hu hk K hK => ?_, fun v3 K hK => ?_⟩
  · replace hk := hid hk
    go_simp
    exact hK.out _ _ _ rfl (Later.refl _) (rfl)
  go_simp
  refine hK.out _ ?_
  clear hK K
  refine ⟨by kernel_rfl, fun u hu hk K hK => ?_, fun v4 K hK => ?_⟩
  · replace hk := hid hk
    go_simp
    go_wp2_with (first | (go_at_call 14; refine (key14 _ key _ _ (HK.out.later hu) hks (by omega) (by omega)).later.mono ?_; rw [hcn.out]; rintro e W6 ⟨rfl, hl6⟩))
    exact hK.out _ _ _ rfl (hl6) (rfl)
  go_simp
  refine hK.out _ ?_
  clear hK K
  refine ⟨by kernel_rfl, fun u hu hk K hK => ?_, fun v5 K hK => ?_⟩
  · replace hk := hid hk
    have T8 := (HB8.out.later hu).there0 32 ((bl_len _).trans ln)
    have A8 := (HB8.out.later hu).agg 32 ((bl_len _).trans ln)
    change _ = bagg cn at A8
    go_simp
    exact hK.out _ _ _ rfl (Later.refl _) (rfl)
  go_simp
  refine hK.out _ ?_
  clear hK K
  refine ⟨by kernel_rfl, fun u hu hk K hK => ?_, fun v6 K hK => ?_⟩
  · replace hk := hid hk
    refine wp_eq24 cn cn rfl rfl ln ln ?_; rw [same_self]
    exact hK.out _ _ _ rfl (Later.refl _) (rfl)
  go_simp
  refine hK.out _ ?_
  clear hK K
  refine ⟨by kernel_rfl, fun u hu hk K hK => ?_, fun v7 K hK => ?_⟩
  · replace hk := hid hk
    go_simp
    exact hK.out _ _ _ rfl (Later.refl _) (rfl)
  go_simp
  refine hK.out _ ?_
  clear hK K
  refine ⟨by kernel_rfl, fun u hu hk K hK => ?_, fun v8 K hK => ?_⟩
  · replace hk := hid hk
    go_simp
    exact hK.out _ _ _ rfl (Later.refl _) (rfl)
  go_simp
  refine hK.out _ ?_
  clear hK K
  refine ⟨by kernel_rfl, fun u hu hk K hK => ?_, fun v9 K hK => ?_⟩
  · replace hk := hid hk
    go_simp
    exact hK.out _ _ _ rfl (Later.refl _) (rfl)
  go_simp
  refine hK.out _ ?_
  clear hK K
  refine ⟨by kernel_rfl, fun u hu hk K hK => ?_, fun v10 K hK => ?_⟩
  · replace hk := hid hk
    have c1 := conv_whole (HB10.out.later hu) lg (by decide)
    go_simp
    exact hK.out _ _ _ rfl (Later.refl _) (rfl)
  go_simp
  refine hK.out _ ?_
  clear hK K
  refine ⟨by kernel_rfl, fun u hu hk K hK => ?_, fun v11 K hK => ?_⟩
  · replace hk := hid hk
    go_simp
    exact hK.out _ _ _ rfl (Later.refl _) (rfl)
  go_simp
  refine hK.out _ ?_
  clear hK K
  refine ⟨by kernel_rfl, fun u hu hk K hK => ?_, fun v12 K hK => ?_⟩
  · replace hk := hid hk
    have c2 := cut_head (k := 16) (HB9.out.later hu) lt (by decide) (by decide) hcc.out lg
    go_simp
    exact hK.out _ _ _ rfl (Later.refl _) (rfl)
  go_simp
  refine hK.out _ ?_
  clear hK K
  refine ⟨by kernel_rfl, fun u hu hk K hK => ?_, fun v13 K hK => ?_⟩
  · replace hk := hid hk
    go_simp
    exact hK.out _ _ _ rfl (Later.refl _) (rfl)
  go_simp
  refine hK.out _ ?_
  clear hK K
  refine ⟨by kernel_rfl, fun u hu hk K hK => ?_, fun v14 K hK => ?_⟩
  · replace hk := hid hk
    go_simp
    exact hK.out _ _ _ rfl (Later.refl _) (rfl)
  go_simp
  refine hK.out _ ?_
  clear hK K
  refine ⟨by kernel_rfl, fun u hu hk K hK => ?_, fun v15 K hK => ?_⟩
  · replace hk := hid hk
    go_simp
    exact hK.out _ _ _ rfl (Later.refl _) (rfl)
  go_simp
  refine hK.out _ ?_
  clear hK K
  refine ⟨by kernel_rfl, fun u hu hk K hK => ?_, fun v16 K hK => ?_⟩
  · replace hk := hid hk
    have T8 := (HB10.out.later hu).there0 16 ((bl_len _).trans lg)
    have A8 := (HB10.out.later hu).agg 16 ((bl_len _).trans lg)
    change _ = bagg cg at A8
    go_simp
    exact hK.out _ _ _ rfl (Later.refl _) (rfl)
  go_simp
  refine hK.out _ ?_
  clear hK K
  refine ⟨by kernel_rfl, fun u hu hk K hK => ?_, fun v17 K hK => ?_⟩
  · replace hk := hid hk
    go_simp
    exact hK.out _ _ _ rfl (Later.refl _) (rfl)
  go_simp
  refine hK.out _ ?_
  clear hK K
  refine ⟨by kernel_rfl, fun u hu hk K hK => ?_, fun v18 K hK => ?_⟩
  · replace hk := hid hk
    go_simp
    exact hK.out _ _ _ rfl (Later.refl _) (rfl)
  go_simp
  refine hK.out _ ?_
  clear hK K
  refine ⟨by kernel_rfl, fun u hu hk K hK => ?_, fun v19 K hK => ?_⟩
  · replace hk := hid hk
    go_simp
    exact hK.out _ _ _ rfl (by repeat (first | (with_reducible exact Later.refl _) | (with_reducible assumption) | with_reducible apply Later.latr | with_reducible apply Later.alloc | with_reducible apply Later.drew | (with_reducible refine Later.set ?_ (by (simp; try omega)) _))) (texts2 (arr_new (xs := [_, _]) (n := 2) (size := 1) rfl rfl (by decide)) ((HT.out.later hu).alloc _) hts (Arr.nil _ _) (.inl rfl))
  go_simp
  refine hK.out _ ?_
  clear hK K
  refine ⟨by kernel_rfl, fun u hu hk K hK => ?_, fun v20 K hK => ?_⟩
  · replace hk := hid hk
    have hT : Texts u v19 [text, []] := hk.out ⟨19, .data⟩ (by simp) rfl (.pr (fun v u => Texts u v [text, []]), v19) (by kernel_rfl)
    go_simp
    go_wp2_with (first | (go_at_call 13; refine (tag13 _ key _ [text, []] _ (HK.out.later hu) hks hT (by omega) (by simp; omega)).later.mono ?_; rw [hcg.out]; rintro e W6 ⟨rfl, hl6⟩))
    exact hK.out _ _ _ rfl (hl6) (rfl)
  go_simp
  refine hK.out _ ?_
  clear hK K
  refine ⟨by kernel_rfl, fun u hu hk K hK => ?_, fun v21 K hK => ?_⟩
  · replace hk := hid hk
    go_simp
    go_wp2_with (first | (go_at_call 15; refine (equal15 cg cg _ lg lg).later.mono ?_; rw [same_self]; rintro e W7 ⟨rfl, hl7⟩))
    exact hK.out _ _ _ rfl (hl7) (rfl)
  go_simp
  refine hK.out _ ?_
  clear hK K
  refine ⟨by kernel_rfl, fun u hu hk K hK => ?_, fun v22 K hK => ?_⟩
  · replace hk := hid hk
    go_simp
    exact hK.out _ _ _ rfl (Later.refl _) (rfl)
  go_simp
  refine hK.out _ ?_
  clear hK K
  refine ⟨by kernel_rfl, fun u hu hk K hK => ?_, fun v23 K hK => ?_⟩
  · replace hk := hid hk
    go_simp
    exact hK.out _ _ _ rfl (Later.refl _) (rfl)
  go_simp
  refine hK.out _ ?_
  clear hK K
  intro u hu
  go_wp2_with (fail)
  go_ret
  exact ⟨rfl, Later.trans (a := w) HLW.out hu⟩
end Go.Proofs.Ytnidpncacgknkaa
