/- The walks of the references' Sum and Tag of package bobstayref05: a code, and the first half of it. Of keys and texts of at most five hundred thousand bytes. -/
import Derived.Test.YtnidpncacgknkaaRmac
import Derived.Test.YtnidpncacgknkaaTag
namespace Go.Proofs.Ytnidpncacgknkaa
open Go.RowKit
attribute [local go_sem] ite_max ite_min
attribute [local go_sem ↓] Go.wp_at_zero Go.wp_at_succ
attribute [local go_sem] h_lt1 h_lt2 h_lt3 h_lt4 h_lt5 h_lt6 h_eq1 h_qe1 h_eq2 h_qe2 h_eq3 h_qe3 h_eq4 h_qe4 h_eq5 h_qe5 h_eq6 h_qe6
set_option maxRecDepth 100000 in
set_option maxHeartbeats 8000000 in
theorem refmac23 (kv : Value) (key : List B8) (tv : Value) (text : List B8) (w : World) (hk : Arr w 1 kv key.length (bl key)) (hks : Shape kv) (ht : Arr w 1 tv text.length (bl text)) (hts : Shape tv) (hlk : key.length ≤ 500000) (hlt : text.length ≤ 500000) :
    Gives Try.prog 23 #[kv, tv] w (bagg (hmac key text)) := by
  apply gives_of
  obtain ⟨i0, hi0, hz0, hz1, hz2⟩ := info_parts info5
  have HK := hid hk
  have HT := hid ht
  have HKS := hid hks
  have HTS := hid hts
  obtain ⟨_, ka, kcap, rfl, _⟩ := hk
  obtain ⟨_, ta, tcap, rfl, _⟩ := ht
  clear hks hts
  have HC := hid (show sha (padBy (short key) 92#8 ++ sha (padBy (short key) 54#8 ++ text)) = hmac key text from rfl)
  (go_enter Try.func23, Try.ntmps23; go_wp2_with (fail))
  refine (pad32 _ key 54#8 _ (HK.out.alloc _) HKS.out hlk).mono ?_
  rintro e W1 ⟨o, rfl, hl1, hO1⟩
  have l54 : (padBy (short key) 54#8).length ≤ 64 := by rw [pad_len]; omega
  obtain ⟨P1, hP1⟩ : ∃ P1, P1 = padBy (short key) 54#8 := ⟨_, rfl⟩
  rw [← hP1] at l54 hO1 HC
  clear hP1
  have HB4 := hid ((Blk.new w 24 z24).later hl1)
  have HL1 := hid (Later.trans (a := w) (by repeat (first | (with_reducible exact Later.refl _) | with_reducible apply Later.latr | with_reducible apply Later.alloc | with_reducible apply Later.drew | (with_reducible refine Later.set ?_ (by (simp; try omega)) _))) hl1)
  have hw1 := hl1.size
  have HO1 := hid hO1
  obtain ⟨pa, pc, hq⟩ := own_is_slice hO1
  subst hq
  clear hl1 hO1
  have hbase : (w.alloc (.cells z24 24)).heap.size = w.heap.size + 1 := by simp
  rw [hbase] at hw1 HO1
  go_wp2_with (first
    | (at_builtin
       refine list_of_wp (by rfl) ?_
       refine wp_append_arr _ (.tmp 7) (.tmp 8) 22 rfl (w.heap.size + 1) 5 i0 _ 1 1 Try.underlying22 hi0 hz0 hz1 hz2 rfl (by decide) (.slice pa P1.length pc) _ _ rfl HO1.out _ _ _ rfl (HT.out.later HL1.out) HTS.out (bl_one _) (by unfold maxLen; omega) (by omega) hw1 ?_
       intro v2 W2 hO2 hg2))
  have HO2 := hid (app_own hO2)
  have HL2 := hid (Later.grown HL1.out hg2 (fun i hi => by have := (HO1.out.lt i hi).1; omega))
  replace HB4 := hid (HB4.out.grown hg2 (own_blk_ne HO1.out HB4.out (by decide)))
  clear hO2 hg2 HO1 HL1 hw1 hbase
  refine (refsum18 _ (P1 ++ text) _ (Arr.of_own HO2.out) (own_shape HO2.out) (by rw [List.length_append]; omega)).later.mono ?_
  rintro e W3 ⟨rfl, hl3⟩
  have ls := sha_len (P1 ++ text)
  generalize sha (P1 ++ text) = s1 at *
  have HL3 := hid (HL2.out.trans hl3)
  replace HB4 := hid (HB4.out.later hl3)
  have hb45 : w.heap.size < W3.heap.size := HB4.out.lt
  have ht3 := (Blk.new W3 24 z24).thereN 32 z24_size
  clear hl3 HL2 HO2 l54
  (try simp only [])
  (iterate 8 go_step)
  obtain ⟨U, hU⟩ : ∃ U, U = (W3.alloc (.cells z24 24)).setCells W3.heap.size 0 (bl s1) := ⟨_, rfl⟩
  have hlU : Later W3 U := by rw [hU]; exact later_sets (by repeat (first | (with_reducible exact Later.refl _) | with_reducible apply Later.latr | with_reducible apply Later.alloc | with_reducible apply Later.drew | (with_reducible refine Later.set ?_ (by (simp; try omega)) _))) (Nat.le_refl _) _ _
  have HB5 : Hid (Blk U W3.heap.size 24 (bl s1).toArray) := hid (by rw [hU]; exact set24 _ ls (Blk.new W3 24 _) z24_size)
  rw [← hU]
  have HLU := hid (HL3.out.trans hlU)
  replace HB4 := hid (HB4.out.later hlU)
  clear hU hlU ht3 HL3
  generalize W3.heap.size = b5 at *
  have l92 : (padBy (short key) 92#8).length ≤ 64 := by rw [pad_len]; omega
  obtain ⟨P2, hP2⟩ : ∃ P2, P2 = padBy (short key) 92#8 := ⟨_, rfl⟩
  have HP2 := hid hP2.symm
  rw [← hP2] at l92 HC
  clear hP2
  have lC := hmac_len key text
  have hwU := HLU.out.size
  go_wp2_with (fail)
  refine wp_region_any (by kernel_rfl) ?_
  (try (change wpAny _ _ _ _ _ _ _ (World.drew _)))
  refine wpAny_ready (rs := [0, 2]) (by kernel_rfl) (by simp) ?_
  refine AllReady.cons rfl (fun K hK => ?_) ?_
  · go_simp
    refine hK _ _ ?_
    clear hK K
    refine wpAny_ready (rs := [1, 2]) (by kernel_rfl) (by simp) ?_
    refine AllReady.cons rfl (fun K hK => ?_) ?_
    · go_simp
      go_wp2_with (first | (go_at_call 32; refine (pad32 _ key 92#8 _ (HK.out.later (Later.trans (a := w) HLU.out (by repeat (first | (with_reducible exact Later.refl _) | (with_reducible assumption) | with_reducible apply Later.latr | with_reducible apply Later.alloc | with_reducible apply Later.drew | (with_reducible refine Later.set ?_ (by (simp; try omega)) _))))) HKS.out hlk).mono ?_; rintro e W6 ⟨o6, rfl, hl6, hO6⟩; rw [HP2.out] at hO6; have hl6U : Later U W6 := Later.trans (a := U) (by repeat (first | (with_reducible exact Later.refl _) | (with_reducible assumption) | with_reducible apply Later.latr | with_reducible apply Later.alloc | with_reducible apply Later.drew | (with_reducible refine Later.set ?_ (by (simp; try omega)) _))) hl6; have HO6 : Hid (W6.ownsRow U.heap.size 5 1 o6 P2.length (bl P2)) := hid hO6; clear hO6))
      (try (refine hK _ _ ?_; clear hK K))
      refine wpAny_ready (rs := [2]) (by kernel_rfl) (by simp) ?_
      refine AllReady.cons rfl (fun K hK => ?_) ?_
      · go_simp
        refine hK _ _ ?_
        clear hK K
        refine wpAny_ready (rs := [3]) (by kernel_rfl) (by simp) ?_
        refine AllReady.cons rfl (fun K hK => ?_) ?_
        · rw [if_pos (by kernel_rfl)]
          obtain ⟨qa, qc, hq⟩ := own_is_slice HO6.out
          subst hq
          have hA5 : Arr W6 1 (.slice (some ⟨b5, 0, none⟩) 32 32) s1.length (bl s1) := by
            have := arr_blk (HB5.out.later hl6U) (by rw [ls]; decide)
            rw [ls] at this ⊢
            exact this
          rw [ls] at hA5
          refine wp_append_arr _ (.tmp 12) (.tmp 13) 22 rfl U.heap.size 5 i0 _ 1 1 Try.underlying22 hi0 hz0 hz1 hz2 rfl (by decide) (.slice qa P2.length qc) _ _ rfl HO6.out _ _ _ rfl hA5 (.inr ⟨_, _, _, rfl⟩) (bl_one _) (by unfold maxLen; omega) (by omega) hl6U.size ?_
          intro v7 W7 hO7 hg7
          rw [← ls] at hO7
          have HO7 := hid (app_own hO7)
          have HL7 := hid (Later.grown (HLU.out.trans hl6U) hg7 (fun i hi => by have := (HO6.out.lt i hi).1; omega))
          have HB7 := hid ((HB4.out.later hl6U).grown hg7 (own_blk_ne HO6.out (HB4.out.later hl6U) (by decide)))
          clear hO7 hg7 hA5
          go_simp
          refine hK _ _ ?_
          clear hK K
          refine wpAny_ready (rs := [4]) (by kernel_rfl) (by simp) ?_
          refine AllReady.cons rfl (fun K hK => ?_) ?_
          · go_simp
            go_wp2_with (first | (go_at_call 18; refine (refsum18 _ (P2 ++ s1) _ (Arr.of_own HO7.out) (own_shape HO7.out) (by rw [List.length_append]; omega)).later.mono ?_; rw [HC.out]; rintro e W8 ⟨rfl, hl8⟩; have HB8 := HB7.out.later hl8; have ht8 := HB8.thereN 32 z24_size))
            (try (refine hK _ _ ?_; clear hK K))
            refine wpAny_ready (rs := [5]) (by kernel_rfl) (by simp) ?_
            refine AllReady.cons rfl (fun K hK => ?_) ?_
            · go_simp
              refine hK _ _ ?_
              clear hK K
              refine _root_.Go.wpAny_done (by kernel_rfl) ?_ _
              (try simp only [])
              (repeat go_step)
              exact fin_cell rfl rfl rfl (ret24 _ lC (set24 _ lC HB8 z24_size)) ⟨rfl, later_sets (HL7.out.trans hl8) (Nat.le_refl _) _ _⟩
            exact AllReady.nil
          exact AllReady.nil
        exact AllReady.nil
      exact AllReady.nil
    refine AllReady.cons rfl (fun K hK => ?_) ?_
    · go_simp
      refine hK _ _ ?_
      clear hK K
      refine wpAny_ready (rs := [1]) (by kernel_rfl) (by simp) ?_
      refine AllReady.cons rfl (fun K hK => ?_) ?_
      · go_simp
        go_wp2_with (first | (go_at_call 32; refine (pad32 _ key 92#8 _ (HK.out.later (Later.trans (a := w) HLU.out (by repeat (first | (with_reducible exact Later.refl _) | (with_reducible assumption) | with_reducible apply Later.latr | with_reducible apply Later.alloc | with_reducible apply Later.drew | (with_reducible refine Later.set ?_ (by (simp; try omega)) _))))) HKS.out hlk).mono ?_; rintro e W6 ⟨o6, rfl, hl6, hO6⟩; rw [HP2.out] at hO6; have hl6U : Later U W6 := Later.trans (a := U) (by repeat (first | (with_reducible exact Later.refl _) | (with_reducible assumption) | with_reducible apply Later.latr | with_reducible apply Later.alloc | with_reducible apply Later.drew | (with_reducible refine Later.set ?_ (by (simp; try omega)) _))) hl6; have HO6 : Hid (W6.ownsRow U.heap.size 5 1 o6 P2.length (bl P2)) := hid hO6; clear hO6))
        (try (refine hK _ _ ?_; clear hK K))
        refine wpAny_ready (rs := [3]) (by kernel_rfl) (by simp) ?_
        refine AllReady.cons rfl (fun K hK => ?_) ?_
        · rw [if_pos (by kernel_rfl)]
          obtain ⟨qa, qc, hq⟩ := own_is_slice HO6.out
          subst hq
          have hA5 : Arr W6 1 (.slice (some ⟨b5, 0, none⟩) 32 32) s1.length (bl s1) := by
            have := arr_blk (HB5.out.later hl6U) (by rw [ls]; decide)
            rw [ls] at this ⊢
            exact this
          rw [ls] at hA5
          refine wp_append_arr _ (.tmp 12) (.tmp 13) 22 rfl U.heap.size 5 i0 _ 1 1 Try.underlying22 hi0 hz0 hz1 hz2 rfl (by decide) (.slice qa P2.length qc) _ _ rfl HO6.out _ _ _ rfl hA5 (.inr ⟨_, _, _, rfl⟩) (bl_one _) (by unfold maxLen; omega) (by omega) hl6U.size ?_
          intro v7 W7 hO7 hg7
          rw [← ls] at hO7
          have HO7 := hid (app_own hO7)
          have HL7 := hid (Later.grown (HLU.out.trans hl6U) hg7 (fun i hi => by have := (HO6.out.lt i hi).1; omega))
          have HB7 := hid ((HB4.out.later hl6U).grown hg7 (own_blk_ne HO6.out (HB4.out.later hl6U) (by decide)))
          clear hO7 hg7 hA5
          go_simp
          refine hK _ _ ?_
          clear hK K
          refine wpAny_ready (rs := [4]) (by kernel_rfl) (by simp) ?_
          refine AllReady.cons rfl (fun K hK => ?_) ?_
          · go_simp
            go_wp2_with (first | (go_at_call 18; refine (refsum18 _ (P2 ++ s1) _ (Arr.of_own HO7.out) (own_shape HO7.out) (by rw [List.length_append]; omega)).later.mono ?_; rw [HC.out]; rintro e W8 ⟨rfl, hl8⟩; have HB8 := HB7.out.later hl8; have ht8 := HB8.thereN 32 z24_size))
            (try (refine hK _ _ ?_; clear hK K))
            refine wpAny_ready (rs := [5]) (by kernel_rfl) (by simp) ?_
            refine AllReady.cons rfl (fun K hK => ?_) ?_
            · go_simp
              refine hK _ _ ?_
              clear hK K
              refine _root_.Go.wpAny_done (by kernel_rfl) ?_ _
              (try simp only [])
              (repeat go_step)
              exact fin_cell rfl rfl rfl (ret24 _ lC (set24 _ lC HB8 z24_size)) ⟨rfl, later_sets (HL7.out.trans hl8) (Nat.le_refl _) _ _⟩
            exact AllReady.nil
          exact AllReady.nil
        exact AllReady.nil
      exact AllReady.nil
    exact AllReady.nil
  refine AllReady.cons rfl (fun K hK => ?_) ?_
  · go_simp
    refine hK _ _ ?_
    clear hK K
    refine wpAny_ready (rs := [0]) (by kernel_rfl) (by simp) ?_
    refine AllReady.cons rfl (fun K hK => ?_) ?_
    · go_simp
      refine hK _ _ ?_
      clear hK K
      refine wpAny_ready (rs := [1]) (by kernel_rfl) (by simp) ?_
      refine AllReady.cons rfl (fun K hK => ?_) ?_
      · go_simp
        go_wp2_with (first | (go_at_call 32; refine (pad32 _ key 92#8 _ (HK.out.later (Later.trans (a := w) HLU.out (by repeat (first | (with_reducible exact Later.refl _) | (with_reducible assumption) | with_reducible apply Later.latr | with_reducible apply Later.alloc | with_reducible apply Later.drew | (with_reducible refine Later.set ?_ (by (simp; try omega)) _))))) HKS.out hlk).mono ?_; rintro e W6 ⟨o6, rfl, hl6, hO6⟩; rw [HP2.out] at hO6; have hl6U : Later U W6 := Later.trans (a := U) (by repeat (first | (with_reducible exact Later.refl _) | (with_reducible assumption) | with_reducible apply Later.latr | with_reducible apply Later.alloc | with_reducible apply Later.drew | (with_reducible refine Later.set ?_ (by (simp; try omega)) _))) hl6; have HO6 : Hid (W6.ownsRow U.heap.size 5 1 o6 P2.length (bl P2)) := hid hO6; clear hO6))
        (try (refine hK _ _ ?_; clear hK K))
        refine wpAny_ready (rs := [3]) (by kernel_rfl) (by simp) ?_
        refine AllReady.cons rfl (fun K hK => ?_) ?_
        · rw [if_pos (by kernel_rfl)]
          obtain ⟨qa, qc, hq⟩ := own_is_slice HO6.out
          subst hq
          have hA5 : Arr W6 1 (.slice (some ⟨b5, 0, none⟩) 32 32) s1.length (bl s1) := by
            have := arr_blk (HB5.out.later hl6U) (by rw [ls]; decide)
            rw [ls] at this ⊢
            exact this
          rw [ls] at hA5
          refine wp_append_arr _ (.tmp 12) (.tmp 13) 22 rfl U.heap.size 5 i0 _ 1 1 Try.underlying22 hi0 hz0 hz1 hz2 rfl (by decide) (.slice qa P2.length qc) _ _ rfl HO6.out _ _ _ rfl hA5 (.inr ⟨_, _, _, rfl⟩) (bl_one _) (by unfold maxLen; omega) (by omega) hl6U.size ?_
          intro v7 W7 hO7 hg7
          rw [← ls] at hO7
          have HO7 := hid (app_own hO7)
          have HL7 := hid (Later.grown (HLU.out.trans hl6U) hg7 (fun i hi => by have := (HO6.out.lt i hi).1; omega))
          have HB7 := hid ((HB4.out.later hl6U).grown hg7 (own_blk_ne HO6.out (HB4.out.later hl6U) (by decide)))
          clear hO7 hg7 hA5
          go_simp
          refine hK _ _ ?_
          clear hK K
          refine wpAny_ready (rs := [4]) (by kernel_rfl) (by simp) ?_
          refine AllReady.cons rfl (fun K hK => ?_) ?_
          · go_simp
            go_wp2_with (first | (go_at_call 18; refine (refsum18 _ (P2 ++ s1) _ (Arr.of_own HO7.out) (own_shape HO7.out) (by rw [List.length_append]; omega)).later.mono ?_; rw [HC.out]; rintro e W8 ⟨rfl, hl8⟩; have HB8 := HB7.out.later hl8; have ht8 := HB8.thereN 32 z24_size))
            (try (refine hK _ _ ?_; clear hK K))
            refine wpAny_ready (rs := [5]) (by kernel_rfl) (by simp) ?_
            refine AllReady.cons rfl (fun K hK => ?_) ?_
            · go_simp
              refine hK _ _ ?_
              clear hK K
              refine _root_.Go.wpAny_done (by kernel_rfl) ?_ _
              (try simp only [])
              (repeat go_step)
              exact fin_cell rfl rfl rfl (ret24 _ lC (set24 _ lC HB8 z24_size)) ⟨rfl, later_sets (HL7.out.trans hl8) (Nat.le_refl _) _ _⟩
            exact AllReady.nil
          exact AllReady.nil
        exact AllReady.nil
      exact AllReady.nil
    exact AllReady.nil
  exact AllReady.nil
/-- sixteen bytes 0 -/
def zt : List B8 := List.replicate 16 0#8
theorem zt_len : zt.length = 16 := by simp [zt]
theorem zt_cells : (bl zt).toArray = z26 := rfl
theorem big26_of {o : Oper} {g i : Nat} {v : Value} {a : Act} {w : World} {K : Act → World → Prop} {Q : Exit → Act → World → Prop} (l : List B8) (hv : v = bagg l) (hl : l.length = 16) (h : w.there g i 16)
    (hK : K (a.put o.dst undef) (w.setCells g i (bl l))) : bigStore o 26 (.pointer (some ⟨g, i, none⟩)) v a w K Q := by
  subst hv
  rw [bs26 o g i l a K Q hl h]
  exact hK
/-- the half, of which k bytes stand -/
def tcells (s : List B8) (k : Nat) : Array Value := ((List.range 16).map fun j => if j < k then bb (s.getD j 0) else bb 0#8).toArray
theorem tc_size (s : List B8) (k : Nat) : (tcells s k).size = 16 := by simp [tcells]
theorem tc_set (s : List B8) {k : Nat} (hk : k < 16) : (tcells s k).setIfInBounds k (bb (s.getD k 0)) = tcells s (k + 1) := by
  apply Array.ext_getElem?
  intro j
  by_cases hj : j < 16
  · by_cases h : k = j
    · subst h
      rw [Array.getElem?_setIfInBounds_self_of_lt (by rw [tc_size]; exact hk)]
      simp [tcells, hk]
    · rw [Array.getElem?_setIfInBounds_ne h]
      simp only [tcells, List.getElem?_toArray, List.getElem?_map, List.getElem?_range hj, Option.map_some]
      by_cases hjk : j < k
      · rw [if_pos hjk, if_pos (by omega)]
      · rw [if_neg hjk, if_neg (by omega)]
  · rw [Array.getElem?_eq_none (by simp [tc_size]; omega), Array.getElem?_eq_none (by simp [tc_size]; omega)]
theorem tc_zero (s : List B8) : z26 = tcells s 0 := by
  apply Array.ext_getElem?
  intro j
  by_cases hj : j < 16
  · have e : z26[j]? = some (bb 0#8) := by
      unfold z26 bl
      rw [List.getElem?_toArray, List.getElem?_map, List.getElem?_replicate_of_lt hj]
      rfl
    rw [e]
    simp [tcells, hj]
  · rw [Array.getElem?_eq_none (by rw [z26_size]; omega), Array.getElem?_eq_none (by rw [tc_size]; omega)]
theorem tc_full (s : List B8) (h : s.length = 32) : tcells s 16 = (bl (s.take 16)).toArray := by
  apply Array.ext_getElem?
  intro j
  by_cases hj : j < 16
  · simp only [tcells, bl, List.getElem?_toArray, List.getElem?_map, List.getElem?_range hj, Option.map_some, if_pos hj, List.getElem?_take_of_lt hj]
    have : j < s.length := by omega
    simp [List.getD_eq_getElem?_getD, this]
  · rw [Array.getElem?_eq_none (by rw [tc_size]; omega), Array.getElem?_eq_none (by simp [bl]; omega)]
set_option maxRecDepth 100000 in
set_option maxHeartbeats 8000000 in
theorem reftag24 (kv : Value) (key : List B8) (tv : Value) (text : List B8) (w : World) (hk : Arr w 1 kv key.length (bl key)) (hks : Shape kv) (ht : Arr w 1 tv text.length (bl text)) (hts : Shape tv) (hlk : key.length ≤ 500000) (hlt : text.length ≤ 500000) :
    Gives Try.prog 24 #[kv, tv] w (bagg ((hmac key text).take 16)) := by
  apply gives_of
  have HK := hid hk
  have HT := hid ht
  obtain ⟨_, ka, kcap, rfl, _⟩ := hk
  obtain ⟨_, ta, tcap, rfl, _⟩ := ht
  (go_enter Try.func24, Try.ntmps24; go_wp2_with (fail))
  refine (refmac23 _ key _ text _ (HK.out.alloc _) hks (HT.out.alloc _) hts hlk hlt).later.mono ?_
  rintro e W1 ⟨rfl, hl1⟩
  have ls := hmac_len key text
  obtain ⟨s, hse⟩ : ∃ s, s = hmac key text := ⟨_, rfl⟩
  rw [← hse] at ls ⊢
  have HS := hid hse
  clear hse
  have HB4 := hid ((Blk.new w 26 z26).later hl1)
  have HL1 := hid (Later.trans (a := w) (by repeat (first | (with_reducible exact Later.refl _) | with_reducible apply Later.latr | with_reducible apply Later.alloc | with_reducible apply Later.drew | (with_reducible refine Later.set ?_ (by (simp; try omega)) _))) hl1)
  have hb4 : w.heap.size < W1.heap.size := HB4.out.lt
  have ht1 := (Blk.new W1 24 z24).thereN 32 z24_size
  clear hl1
  (try simp only [])
  (iterate 8 go_step)
  obtain ⟨U, hU⟩ : ∃ U, U = (W1.alloc (.cells z24 24)).setCells W1.heap.size 0 (bl s) := ⟨_, rfl⟩
  have hlU : Later W1 U := by rw [hU]; exact later_sets (by repeat (first | (with_reducible exact Later.refl _) | with_reducible apply Later.latr | with_reducible apply Later.alloc | with_reducible apply Later.drew | (with_reducible refine Later.set ?_ (by (simp; try omega)) _))) (Nat.le_refl _) _ _
  have HB5 : Hid (Blk U W1.heap.size 24 (bl s).toArray) := hid (by rw [hU]; exact set24 _ ls (Blk.new W1 24 _) z24_size)
  rw [← hU]
  have HLU := hid (HL1.out.trans hlU)
  replace HB4 := hid (HB4.out.later hlU)
  clear hU hlU ht1 HL1
  generalize hb5e : W1.heap.size = b5 at *
  clear hb5e
  have hb5U := HB5.out.lt
  have ht2 := (Blk.new U 26 z26).thereN 16 z26_size
  (try simp only [])
  (repeat (first | (refine big26_of zt rfl zt_len ht2 ?_) | go_step))
  obtain ⟨V, hV⟩ : ∃ V, V = (U.alloc (.cells z26 26)).setCells U.heap.size 0 (bl zt) := ⟨_, rfl⟩
  have hlV : Later U V := by rw [hV]; exact later_sets (by repeat (first | (with_reducible exact Later.refl _) | with_reducible apply Later.latr | with_reducible apply Later.alloc | with_reducible apply Later.drew | (with_reducible refine Later.set ?_ (by (simp; try omega)) _))) (Nat.le_refl _) _ _
  have HB6 : Hid (Blk V U.heap.size 26 (tcells s 0)) := hid (by rw [hV, ← tc_zero, ← zt_cells]; exact set26 zt zt_len (Blk.new U 26 _) z26_size)
  rw [← hV]
  have HLV := hid (HLU.out.trans hlV)
  replace HB4 := hid (HB4.out.later hlV)
  replace HB5 := hid (HB5.out.later hlV)
  have hwU := HLU.out.size
  clear hV hlV ht2 HLU
  generalize hb6e : U.heap.size = b6 at *
  clear hb6e
  go_loopw [7] (fun i wr => ∃ k : Nat, k ≤ 16 ∧ i = .int .i64 k ∧ Wr V wr b6 ∧ Blk wr b6 26 (tcells s k)) (fun i _ => 16 - (intOf i).toNat)
  case atStart => exact ⟨0, Nat.zero_le _, rfl, wr_refl _ _, HB6.out⟩
  case round =>
    obtain ⟨k, hk, rfl, hWr, hB⟩ := hrel
    by_cases hk16 : k < 16
    · have hd : decide ((k : Int) < 16) = true := decide_eq_true (by omega)
      have ca := (hWr.blk HB5.out (by omega)).cell k
      have hks32 : k < s.length := by omega
      have ca2 : wr.cell? ⟨b5, k, none⟩ = some (bb (s.getD k 0)) := by rw [ca]; simp [bl, hks32]
      have fo := hB.frozen k
      have co : wr.cell? ⟨b6, k, none⟩ = some (bb 0#8) := by rw [hB.cell]; simp [tcells, hk16]
      have hoc := hid (tc_set s hk16)
      have hg5 : b5 < wr.heap.size := (hWr.blk HB5.out (by omega)).lt
      have hg6 : b6 < wr.heap.size := hB.lt
      have k32 : (k : Int) < 32 := by omega
      have k16 : (k : Int) < 16 := by omega
      clear ca
      generalize s.getD k 0 = y at *
      go_wp2_with (fail)
      refine ⟨⟨k + 1, by omega, by go_num, hWr.set k _, ?_⟩, by simp [intOf]; omega⟩
      exact (hB.set_ k _).cast hoc.out
    · obtain rfl : k = 16 := by omega
      rw [tc_full s ls] at hB
      have hl16 : (s.take 16).length = 16 := by rw [List.length_take, ls]; rfl
      have hLe := HLV.out.wr hWr (by omega)
      have hOe := hWr.blk HB4.out (by omega)
      have ht1 := hB.there0 16 ((bl_len _).trans hl16)
      have ha1 := hB.agg 16 ((bl_len _).trans hl16)
      change _ = bagg (s.take 16) at ha1
      have ht2 := hOe.thereN 16 z26_size
      rw [show ((16 : Nat) : Int) = 16 from rfl]
      (try simp only [])
      (repeat go_step)
      exact fin_cell rfl rfl rfl (ret26 _ hl16 (set26 _ hl16 hOe z26_size)) ⟨by rw [HS.out], later_sets hLe (Nat.le_refl _) _ _⟩
end Go.Proofs.Ytnidpncacgknkaa
