/- The walk of MacKeys: it answers true. Of any key, text, tag, place and byte. -/
import Derived.Test.YtnidpncacgknkaaMequal
import Derived.Test.YtnidpncacgknkaaSteps
import Derived.Test.YtnidpncacgknkaaRpad
namespace Go.Proofs.Ytnidpncacgknkaa
open Go.RowKit
attribute [local go_sem] ite_max ite_min
attribute [local go_sem ↓] Go.wp_at_zero Go.wp_at_succ
attribute [local go_sem] h_lt1 h_lt2 h_lt3 h_lt4 h_lt5 h_lt6 h_eq1 h_qe1 h_eq2 h_qe2 h_eq3 h_qe3 h_eq4 h_qe4 h_eq5 h_qe5 h_eq6 h_qe6
theorem hmac_long (key t : List B8) (h : 64 < key.length) : hmac (sha key) t = hmac key t := by
  have e : short (sha key) = short key := by
    unfold short
    rw [if_neg (by rw [sha_len]; omega), if_pos h]
  unfold hmac
  rw [e]
theorem pad_zeros (key : List B8) (k : Nat) (x : B8) : padBy (key ++ List.replicate k 0#8) x = padBy key x := by
  unfold padBy
  refine List.map_congr_left fun i _ => ?_
  unfold padAt
  rw [List.length_append, List.length_replicate]
  by_cases h1 : i < key.length
  · rw [if_pos (by omega), if_pos h1]
    simp [List.getD_eq_getElem?_getD, List.getElem?_append_left h1]
  · rw [if_neg h1]
    by_cases h2 : i < key.length + k
    · rw [if_pos h2]
      have e : (key ++ List.replicate k 0#8).getD i 0 = 0#8 := by
        rw [List.getD_eq_getElem?_getD, List.getElem?_append_right (by omega), List.getElem?_replicate_of_lt (by omega)]
        rfl
      rw [e, BitVec.xor_zero]
    · rw [if_neg h2]
theorem hmac_zeros (key t : List B8) (k : Nat) (h : key.length + k ≤ 64) : hmac (key ++ List.replicate k 0#8) t = hmac key t := by
  have e : short (key ++ List.replicate k 0#8) = key ++ List.replicate k 0#8 := by
    unfold short
    rw [if_neg (by simp; omega)]
  have e2 : short key = key := by
    unfold short
    rw [if_neg (by omega)]
  unfold hmac
  rw [e, e2, pad_zeros, pad_zeros]
set_option maxRecDepth 100000 in
set_option maxHeartbeats 8000000 in
theorem macKeys10 (kv : Value) (key : List B8) (zr : B8) (tv : Value) (text a : List B8) (at_ by_ : B8) (w : World) (hk : Arr w 1 kv key.length (bl key)) (hks : Shape kv) (ht : Arr w 1 tv text.length (bl text)) (hts : Shape tv) (hla : a.length = 16) :
    Gives Try.prog 10 #[kv, bb zr, tv, bagg a, bb at_, bb by_] w (.bool true) := by
  apply gives_of
  obtain ⟨i0, hi0, hz0, hz1, hz2⟩ := info_parts info5
  obtain ⟨z, hz, hz6⟩ : ∃ z : Nat, bn zr = (z : Int) ∧ z < 256 := ⟨zr.toNat, rfl, zr.isLt⟩
  show Calls Try.prog 10 #[kv, .int .u8 (bn zr), tv, bagg a, bb at_, bb by_] w _
  rw [hz]
  clear hz
  have HK := hid hk
  have HT := hid ht
  have HKS := hid hks
  have HTS := hid hts
  obtain ⟨_, ka, kcap, rfl, _⟩ := hk
  obtain ⟨_, ta, tcap, rfl, _⟩ := ht
  clear hks hts
  by_cases hk3 : 300 < key.length
  · have d1 : decide (300 < (key.length : Int)) = true := decide_eq_true (by omega)
    (go_enter Try.func10, Try.ntmps10; go_wp2_with (fail))
    (refine (awake11 _).mono ?_; rintro e w1 ⟨rfl, x1, rfl⟩; go_wp2_with (fail))
    go_ret
    exact ⟨rfl, by repeat (first | (with_reducible exact Later.refl _) | with_reducible apply Later.latr | with_reducible apply Later.alloc | with_reducible apply Later.drew | (with_reducible refine Later.set ?_ (by (simp; try omega)) _))⟩
  have d1 : decide (300 < (key.length : Int)) = false := decide_eq_false (by omega)
  by_cases ht3 : 300 < text.length
  · have d2 : decide (300 < (text.length : Int)) = true := decide_eq_true (by omega)
    (go_enter Try.func10, Try.ntmps10; go_wp2_with (fail))
    (refine (awake11 _).mono ?_; rintro e w1 ⟨rfl, x1, rfl⟩; go_wp2_with (fail))
    go_ret
    exact ⟨rfl, by repeat (first | (with_reducible exact Later.refl _) | with_reducible apply Later.latr | with_reducible apply Later.alloc | with_reducible apply Later.drew | (with_reducible refine Later.set ?_ (by (simp; try omega)) _))⟩
  have d2 : decide (300 < (text.length : Int)) = false := decide_eq_false (by omega)
  (go_enter Try.func10, Try.ntmps10; go_wp2_with (fail))
  refine (awake11 _).later.mono ?_
  rintro e W0 ⟨rfl, hl0⟩
  have HB9 := hid ((Blk.new w 26 (bl a).toArray).later hl0)
  have HL0 := hid (Later.trans (a := w) (by repeat (first | (with_reducible exact Later.refl _) | with_reducible apply Later.latr | with_reducible apply Later.alloc | with_reducible apply Later.drew | (with_reducible refine Later.set ?_ (by (simp; try omega)) _))) hl0)
  have hw0 := HL0.out.size
  have A1 : (W0.alloc (.cells #[] 5)).ownsRow w.heap.size 5 1 (.slice (some ⟨W0.heap.size, 0, none⟩) 0 0) 0 [] := lit_own (xs := []) rfl hw0 rfl (by decide)
  have hw1 : w.heap.size ≤ (W0.alloc (.cells #[] 5)).heap.size := by simp; omega
  clear hl0
  go_wp2_with (first
    | (at_builtin
       refine list_of_wp (by rfl) ?_
       refine wp_append_arr _ (.tmp 29) (.tmp 30) 22 rfl w.heap.size 5 i0 _ 1 1 Try.underlying22 hi0 hz0 hz1 hz2 rfl (by decide) _ 0 [] rfl A1 _ _ _ rfl (HK.out.later (HL0.out.alloc _)) HKS.out (bl_one _) (by unfold maxLen; omega) (by omega) hw1 ?_
       intro v1 W2 hO2 hg2))
  have HL2 := hid (Later.grown (HL0.out.alloc _) hg2 (fun i hi => (A1.lt i hi).1))
  have HO2 : Hid (W2.ownsRow w.heap.size 5 1 v1 key.length (bl key)) := hid (by simpa using hO2)
  replace HB9 := hid ((HB9.out.alloc _).grown hg2 (own_blk_ne A1 (HB9.out.alloc _) (by decide)))
  clear hO2 hg2 A1 hw1 HL0 hw0
  go_loopw [14, 15] (fun long i wr => ∃ k : Nat, i = .int .i64 k ∧ k ≤ z ∧ (k = 0 ∨ key.length + k ≤ 64) ∧ Later w wr ∧ Blk wr w.heap.size 26 (bl a).toArray ∧ wr.ownsRow w.heap.size 5 1 long (key ++ List.replicate k 0#8).length (bl (key ++ List.replicate k 0#8))) (fun _ i _ => 1000 - (intOf i).toNat)
  case atStart => exact ⟨0, rfl, Nat.zero_le _, .inl rfl, HL2.out, HB9.out, by simpa using HO2.out⟩
  case round =>
    obtain ⟨k, rfl, hkz, hk64, hl, hB, hO⟩ := hrel
    have HL := hid hl
    have HB := hid hB
    have HO := hid hO
    have hle := hl.size
    have hll : (key ++ List.replicate k 0#8).length = key.length + k := by simp
    have HTT := hid (show key ++ List.replicate (k + 1) 0#8 = (key ++ List.replicate k 0#8) ++ [0#8] by rw [List.replicate_succ', ← List.append_assoc])
    have hZ : Hid (key.length ≤ 64 → hmac (key ++ List.replicate k 0#8) text = hmac key text) := hid fun h => hmac_zeros key text k (by omega)
    have hlm : (key ++ List.replicate k 0#8).length ≤ 400 := by omega
    clear hl hB hO
    generalize key ++ List.replicate k 0#8 = L at *
    obtain ⟨pa, pc, hq⟩ := own_is_slice HO.out
    subst hq
    have HLL := hid hll
    clear hll
    by_cases hz1 : k < z
    · have e1 : decide ((k : Int) < (z : Int)) = true := decide_eq_true (by omega)
      have e1' : decide (k < z) = true := decide_eq_true hz1
      by_cases hL64 : L.length < 64
      · have e2 : decide ((L.length : Int) < 64) = true := decide_eq_true (by omega)
        go_wp2_with (first
          | (at_builtin
             (refine append_new rfl (.tmp 43) (.tmp 44) 22 rfl w.heap.size 5 i0 _ 1 1 Try.underlying22 hi0 hz0 (by assumption) hz2 rfl (by decide) _ 5 (.slice pa L.length pc) _ _ rfl HO.out _ 1 [_] rfl rfl rfl (by simp [Value.oneCell']) (by unfold maxLen; omega) (by omega) hle ?_)
             intro v3 W5 hO5 hg5))
        have hl5 := Later.grown HL.out hg5 (own_lt HO.out (Nat.le_refl _))
        have hB5 := HB.out.grown hg5 (own_blk_ne HO.out HB.out (by decide))
        have hkk : key.length + k = L.length := HLL.out.symm
        exact ⟨⟨k + 1, by go_num, by omega, .inr (by omega), hl5, hB5, by rw [HTT.out]; exact snoc_own (x := 0#8) hO5⟩, by simp [intOf]; omega⟩
      · have e2 : decide ((L.length : Int) < 64) = false := decide_eq_false (by omega)
        clear hlm hL64
        have hll4 : L.length ≤ 400 := by have := HLL.out; omega
        have T9 := HB.out.there0 16 ((bl_len _).trans hla)
        have A9 := HB.out.agg 16 ((bl_len _).trans hla)
        change _ = bagg a at A9
        have ht2 := (Blk.new wr 26 z26).thereN 16 z26_size
        (try simp only [])
        (iterate 50 go_step)
        obtain ⟨U2, hU2⟩ : ∃ U, U = (wr.alloc (.cells z26 26)).setCells wr.heap.size 0 (bl a) := ⟨_, rfl⟩
        have HB2 : Hid (Blk U2 wr.heap.size 26 (bl a).toArray) := hid (by rw [hU2]; exact set26 _ hla (Blk.new wr 26 _) z26_size)
        have hlu2 : Later wr U2 := by rw [hU2]; exact later_sets (by repeat (first | (with_reducible exact Later.refl _) | with_reducible apply Later.latr | with_reducible apply Later.alloc | with_reducible apply Later.drew | (with_reducible refine Later.set ?_ (by (simp; try omega)) _))) (Nat.le_refl _) _ _
        have hb12 : w.heap.size < wr.heap.size := HB.out.lt
        have HB1 := hid (HB.out.later hlu2)
        have HLU2 := hid (HL.out.trans hlu2)
        have HOU2 := hid (own_later HO.out hlu2)
        have HPB : Hid (∀ i, (Value.slice pa L.length pc).ownBlock = some i → i < wr.heap.size) := hid fun i hi => (HO.out.lt i hi).2
        rw [← hU2]
        clear hU2 hlu2 ht2 T9 A9 HL HB HO
        generalize hb2e : wr.heap.size = b2 at *
        clear hb2e
        obtain ⟨i, hi, hi16⟩ : ∃ i : Nat, bn at_ % (16 : Int) = (i : Int) ∧ i < 16 := ⟨at_.toNat % 16, by unfold bn; omega, by omega⟩
        have hi2 : Int.tmod (bn at_) 16 = (i : Int) := by rw [Int.tmod_eq_emod_of_nonneg (bn_range at_).1]; exact hi
        have s1 : (i : Int) < 16 := by omega
        have c0 : U2.cell? ⟨b2, i, none⟩ = some (bb (a.getD i 0)) := by
          rw [HB2.out.cell]
          have : i < a.length := by omega
          simp [bl, this]
        have f0 := HB2.out.frozen i
        have hbu2 := HB2.out.lt
        have hsame := hid (same_set a i by_ (by omega))
        have hlen2 : (a.set i (a.getD i 0 ^^^ by_)).length = 16 := by simp [hla]
        have hset := hid (show (bl a).toArray.setIfInBounds i (bb (a.getD i 0 ^^^ by_)) = (bl (a.set i (a.getD i 0 ^^^ by_))).toArray by simp [bl, List.map_set])
        generalize a.getD i 0 = y at *
        obtain ⟨U3, hU3⟩ : ∃ U, U = U2.setCell ⟨b2, i, none⟩ (bb (y ^^^ by_)) := ⟨_, rfl⟩
        have HB23 : Hid (Blk U3 b2 26 (bl (a.set i (y ^^^ by_))).toArray) := hid (by rw [hU3]; exact (HB2.out.set_ i _).cast hset.out)
        have HB13 : Hid (Blk U3 w.heap.size 26 (bl a).toArray) := hid (by rw [hU3]; exact HB1.out.far (p := ⟨b2, i, none⟩) (by simp; omega) _)
        have HLU3 : Hid (Later w U3) := hid (by rw [hU3]; exact HLU2.out.set (p := ⟨b2, i, none⟩) (by show w.heap.size ≤ b2; omega) _)
        have HOU3 : Hid (U3.ownsRow w.heap.size 5 1 (.slice pa L.length pc) L.length (bl L)) := hid (by rw [hU3]; exact own_set HOU2.out (fun he => by have := HPB.out b2 he.symm; omega) _)
        have T1 := HB13.out.there0 16 ((bl_len _).trans hla)
        have A1 := HB13.out.agg 16 ((bl_len _).trans hla)
        change _ = bagg a at A1
        have T2 := HB23.out.there0 16 ((bl_len _).trans hlen2)
        have A2 := HB23.out.agg 16 ((bl_len _).trans hlen2)
        change _ = bagg (a.set i (y ^^^ by_)) at A2
        rw [hU3] at T1 A1 T2 A2
        (repeat go_step)
        rw [← hU3]
        clear T1 A1 T2 A2 hU3 HB1 HB2 HLU2 HOU2 HPB hset c0 f0 hi hi2 s1
        have hs1 := hsame.out
        have hs1h := hid hs1
        clear hsame
        generalize a.set i (y ^^^ by_) = th at *
        refine (equal15 a th _ hla hlen2).later.mono ?_
        rintro e W5 ⟨rfl, hl5⟩
        rw [hs1]
        replace HLU3 := hid (HLU3.out.trans hl5)
        replace HOU3 := hid (own_later HOU3.out hl5)
        have hbs : ((bn by_ == 0) == (bn by_ == 0)) = true := by simp
        clear hl5 hs1 HB23 HB13
        have lC := hmac_len key text
        have hlen1 : [text].flatten.length ≤ 500000 := by simp; omega
        have hcK : hmac key [text].flatten = hmac key text := by rw [show [text].flatten = text by simp]
        have hcL : key.length ≤ 64 → hmac L [text].flatten = hmac key text := fun h => by rw [show [text].flatten = text by simp, hZ.out h]
        have hcS : 64 < key.length → hmac (sha key) [text].flatten = hmac key text := fun h => by rw [show [text].flatten = text by simp, hmac_long key text h]
        have HCK := hid hcK
        have HCL := hid hcL
        have HCS := hid hcS
        clear hcK hcL hcS hZ HTT HLL
        by_cases h64 : 64 < key.length
        · have d6 : decide (64 < (key.length : Int)) = true := decide_eq_true (by omega)
          go_wp2_with (fail)
          refine (sum17 _ key _ (HK.out.later HLU3.out) HKS.out (by omega)).later.mono ?_
          rintro e W6 ⟨rfl, hl6⟩
          have ls := sha_len key
          have HCS1 := hid (HCS.out h64)
          generalize sha key = s1 at *
          have HL6 := hid (HLU3.out.trans hl6)
          have ht6 := (Blk.new W6 24 z24).thereN 32 z24_size
          clear hl6 HCS
          (try simp only [])
          (iterate 8 go_step)
          obtain ⟨W, hW⟩ : ∃ U, U = (W6.alloc (.cells z24 24)).setCells W6.heap.size 0 (bl s1) := ⟨_, rfl⟩
          have hlW : Later W6 W := by rw [hW]; exact later_sets (by repeat (first | (with_reducible exact Later.refl _) | with_reducible apply Later.latr | with_reducible apply Later.alloc | with_reducible apply Later.drew | (with_reducible refine Later.set ?_ (by (simp; try omega)) _))) (Nat.le_refl _) _ _
          have HB18 : Hid (Blk W W6.heap.size 24 (bl s1).toArray) := hid (by rw [hW]; exact set24 _ ls (Blk.new W6 24 _) z24_size)
          rw [← hW]
          have HLW := hid (HL6.out.trans hlW)
          have HKW := hid (HK.out.later HLW.out)
          have HTW := hid (HT.out.later HLW.out)
          clear hW hlW ht6 HL6 HLU3 HOU3
          generalize W6.heap.size = b18 at *
          have hA18 : Hid (∀ u, Later W u → Arr u 1 (.slice (some ⟨b18, 0, none⟩) 32 32) s1.length (bl s1)) := hid (fun u hu => by
            have := arr_blk (HB18.out.later hu) (by rw [ls]; decide)
            rw [ls] at this ⊢
            exact this)
          go_wp2_with (fail)
          refine wp_region_pred [.eq (.bool true), .eq (.bool true), .eq (.bool true), .eq (.bool true), .eq (.bool true), .eq (.slice ka key.length kcap), .eq (.slice ta text.length tcap), .pr (fun v u => Texts u v [text]), .eq (bagg (hmac key text)), .eq (.slice (some ⟨b18, 0, none⟩) 32 32), .eq (.slice ta text.length tcap), .pr (fun v u => Texts u v [text]), .eq (bagg (hmac key text)), .eq (.bool true), .eq (.bool true), .eq (.bool true)] (by kernel_rfl) (by kernel_rfl) (by repeat (first | exact stable_nil | refine stable_cons (Kd.stable_eq _) ?_ | refine stable_cons (fun _ _ _ hl h => Texts.later h hl) ?_)) ?_
          refine ⟨by kernel_rfl, fun u hu hk K hK => ?_, fun v0 K hK => ?_⟩
          · replace hk := hid hk
            go_simp
            exact hK.out _ _ _ rfl (Later.refl _) (rfl)
          go_simp
          refine hK.out _ ?_
          clear hK K
          refine ⟨by kernel_rfl, fun u hu hk K hK => ?_, fun v1 K hK => ?_⟩
          · replace hk := hid hk
            go_simp
            exact hK.out _ _ _ rfl (Later.refl _) (rfl)
          go_simp
          refine hK.out _ ?_
          clear hK K
          refine ⟨by kernel_rfl, fun u hu hk K hK => ?_, fun v2 K hK => ?_⟩
          · replace hk := hid hk
            go_simp
            exact hK.out _ _ _ rfl (Later.refl _) (rfl)
          go_simp
          refine hK.out _ ?_
          clear hK K
          refine ⟨by kernel_rfl, fun u hu hk K hK => ?_, fun v3 K hK => ?_⟩
          · replace hk := hid hk
            go_simp
            exact hK.out _ _ _ rfl (Later.refl _) (rfl)
          go_simp
          refine hK.out _ ?_
          clear hK K
          refine ⟨by kernel_rfl, fun u hu hk K hK => ?_, fun v4 K hK => ?_⟩
          · replace hk := hid hk
            go_simp
            exact hK.out _ _ _ rfl (Later.refl _) (rfl)
          go_simp
          refine hK.out _ ?_
          clear hK K
          refine ⟨by kernel_rfl, fun u hu hk K hK => ?_, fun v5 K hK => ?_⟩
          · replace hk := hid hk
            go_simp
            exact hK.out _ _ _ rfl (Later.refl _) (rfl)
          go_simp
          refine hK.out _ ?_
          clear hK K
          refine ⟨by kernel_rfl, fun u hu hk K hK => ?_, fun v6 K hK => ?_⟩
          · replace hk := hid hk
            go_simp
            exact hK.out _ _ _ rfl (Later.refl _) (rfl)
          go_simp
          refine hK.out _ ?_
          clear hK K
          refine ⟨by kernel_rfl, fun u hu hk K hK => ?_, fun v7 K hK => ?_⟩
          · replace hk := hid hk
            go_simp
            exact hK.out _ _ _ rfl (by repeat (first | (with_reducible exact Later.refl _) | (with_reducible assumption) | with_reducible apply Later.latr | with_reducible apply Later.alloc | with_reducible apply Later.drew | (with_reducible refine Later.set ?_ (by (simp; try omega)) _))) (texts1 (arr_new (xs := [_]) (n := 1) (size := 1) rfl rfl (by decide)) ((HTW.out.later hu).alloc _) HTS.out)
          go_simp
          refine hK.out _ ?_
          clear hK K
          refine ⟨by kernel_rfl, fun u hu hk K hK => ?_, fun v8 K hK => ?_⟩
          · replace hk := hid hk
            have hT : (fun v u => Texts u v [text]) v7 u := hk.out ⟨7, .data⟩ (by simp) rfl (.pr (fun v u => Texts u v [text]), v7) (by kernel_rfl)
            go_simp
            go_wp2_with (first | (go_at_call 12; refine (mac12 _ key _ [text] _ (HKW.out.later hu) (HKS.out) hT (by omega) hlen1).later.mono ?_; rw [HCK.out]; rintro e W8 ⟨rfl, hl8⟩))
            exact hK.out _ _ _ rfl (hl8) (rfl)
          go_simp
          refine hK.out _ ?_
          clear hK K
          refine ⟨by kernel_rfl, fun u hu hk K hK => ?_, fun v9 K hK => ?_⟩
          · replace hk := hid hk
            go_simp
            exact hK.out _ _ _ rfl (Later.refl _) (rfl)
          go_simp
          refine hK.out _ ?_
          clear hK K
          refine ⟨by kernel_rfl, fun u hu hk K hK => ?_, fun v10 K hK => ?_⟩
          · replace hk := hid hk
            go_simp
            exact hK.out _ _ _ rfl (Later.refl _) (rfl)
          go_simp
          refine hK.out _ ?_
          clear hK K
          refine ⟨by kernel_rfl, fun u hu hk K hK => ?_, fun v11 K hK => ?_⟩
          · replace hk := hid hk
            go_simp
            exact hK.out _ _ _ rfl (by repeat (first | (with_reducible exact Later.refl _) | (with_reducible assumption) | with_reducible apply Later.latr | with_reducible apply Later.alloc | with_reducible apply Later.drew | (with_reducible refine Later.set ?_ (by (simp; try omega)) _))) (texts1 (arr_new (xs := [_]) (n := 1) (size := 1) rfl rfl (by decide)) ((HTW.out.later hu).alloc _) HTS.out)
          go_simp
          refine hK.out _ ?_
          clear hK K
          refine ⟨by kernel_rfl, fun u hu hk K hK => ?_, fun v12 K hK => ?_⟩
          · replace hk := hid hk
            have hT : (fun v u => Texts u v [text]) v11 u := hk.out ⟨11, .data⟩ (by simp) rfl (.pr (fun v u => Texts u v [text]), v11) (by kernel_rfl)
            go_simp
            go_wp2_with (first | (go_at_call 12; refine (mac12 _ s1 _ [text] _ (hA18.out u hu) (.inr ⟨_, _, _, rfl⟩) hT (by omega) hlen1).later.mono ?_; rw [HCS1.out]; rintro e W8 ⟨rfl, hl8⟩))
            exact hK.out _ _ _ rfl (hl8) (rfl)
          go_simp
          refine hK.out _ ?_
          clear hK K
          refine ⟨by kernel_rfl, fun u hu hk K hK => ?_, fun v13 K hK => ?_⟩
          · replace hk := hid hk
            refine wp_eq24 (hmac key text) (hmac key text) rfl rfl lC lC ?_; rw [same_self]
            exact hK.out _ _ _ rfl (Later.refl _) (rfl)
          go_simp
          refine hK.out _ ?_
          clear hK K
          refine ⟨by kernel_rfl, fun u hu hk K hK => ?_, fun v14 K hK => ?_⟩
          · replace hk := hid hk
            go_simp
            exact hK.out _ _ _ rfl (Later.refl _) (rfl)
          go_simp
          refine hK.out _ ?_
          clear hK K
          refine ⟨by kernel_rfl, fun u hu hk K hK => ?_, fun v15 K hK => ?_⟩
          · replace hk := hid hk
            go_simp
            exact hK.out _ _ _ rfl (Later.refl _) (rfl)
          go_simp
          refine hK.out _ ?_
          clear hK K
          intro u hu
          go_wp2_with (fail)
          go_ret
          exact ⟨rfl, Later.trans (a := w) HLW.out hu⟩
        · have d6 : decide (64 < (key.length : Int)) = false := decide_eq_false (by omega)
          have HCL1 := hid (HCL.out (by omega))
          have HLW := hid HLU3.out
          have HKW := hid (HK.out.later HLW.out)
          have HTW := hid (HT.out.later HLW.out)
          clear HLU3 HCL HCS
          generalize W5 = W at *
          go_wp2_with (fail)
          refine (mac12 _ L _ [text] _ ((Arr.of_own HOU3.out).alloc _) (own_shape HOU3.out) (texts1 (arr_new (xs := [_]) (n := 1) (size := 1) rfl rfl (by decide)) (HTW.out.alloc _) HTS.out) (by omega) hlen1).later.mono ?_
          rw [HCL1.out]
          rintro e W8 ⟨rfl, hl8⟩
          have hl8U : Later W W8 := Later.trans (a := W) (by repeat (first | (with_reducible exact Later.refl _) | with_reducible apply Later.latr | with_reducible apply Later.alloc | with_reducible apply Later.drew | (with_reducible refine Later.set ?_ (by (simp; try omega)) _))) hl8
          go_wp2_with (fail)
          refine (mac12 _ key _ [text] _ ((HKW.out.later hl8U).alloc _) HKS.out (texts1 (arr_new (xs := [_]) (n := 1) (size := 1) rfl rfl (by decide)) ((HTW.out.later hl8U).alloc _) HTS.out) (by omega) hlen1).later.mono ?_
          rw [HCK.out]
          rintro e W9 ⟨rfl, hl9⟩
          (try simp only [])
          (iterate 1 go_step)
          refine list_on (by kernel_rfl) ?_
          refine wp_eq24 (hmac key text) (hmac key text) rfl rfl lC lC ?_
          rw [same_self]
          go_wp2_with (fail)
          go_ret
          exact ⟨rfl, Later.trans (a := w) HLW.out (hl8U.trans (Later.trans (a := W8) (by repeat (first | (with_reducible exact Later.refl _) | with_reducible apply Later.latr | with_reducible apply Later.alloc | with_reducible apply Later.drew | (with_reducible refine Later.set ?_ (by (simp; try omega)) _))) hl9))⟩
    · have e1 : decide ((k : Int) < (z : Int)) = false := decide_eq_false (by omega)
      have e1' : decide (k < z) = false := decide_eq_false hz1
      clear hlm
      have hll4 : L.length ≤ 400 := by have := HLL.out; omega
      have T9 := HB.out.there0 16 ((bl_len _).trans hla)
      have A9 := HB.out.agg 16 ((bl_len _).trans hla)
      change _ = bagg a at A9
      have ht2 := (Blk.new wr 26 z26).thereN 16 z26_size
      (try simp only [])
      (iterate 50 go_step)
      obtain ⟨U2, hU2⟩ : ∃ U, U = (wr.alloc (.cells z26 26)).setCells wr.heap.size 0 (bl a) := ⟨_, rfl⟩
      have HB2 : Hid (Blk U2 wr.heap.size 26 (bl a).toArray) := hid (by rw [hU2]; exact set26 _ hla (Blk.new wr 26 _) z26_size)
      have hlu2 : Later wr U2 := by rw [hU2]; exact later_sets (by repeat (first | (with_reducible exact Later.refl _) | with_reducible apply Later.latr | with_reducible apply Later.alloc | with_reducible apply Later.drew | (with_reducible refine Later.set ?_ (by (simp; try omega)) _))) (Nat.le_refl _) _ _
      have hb12 : w.heap.size < wr.heap.size := HB.out.lt
      have HB1 := hid (HB.out.later hlu2)
      have HLU2 := hid (HL.out.trans hlu2)
      have HOU2 := hid (own_later HO.out hlu2)
      have HPB : Hid (∀ i, (Value.slice pa L.length pc).ownBlock = some i → i < wr.heap.size) := hid fun i hi => (HO.out.lt i hi).2
      rw [← hU2]
      clear hU2 hlu2 ht2 T9 A9 HL HB HO
      generalize hb2e : wr.heap.size = b2 at *
      clear hb2e
      obtain ⟨i, hi, hi16⟩ : ∃ i : Nat, bn at_ % (16 : Int) = (i : Int) ∧ i < 16 := ⟨at_.toNat % 16, by unfold bn; omega, by omega⟩
      have hi2 : Int.tmod (bn at_) 16 = (i : Int) := by rw [Int.tmod_eq_emod_of_nonneg (bn_range at_).1]; exact hi
      have s1 : (i : Int) < 16 := by omega
      have c0 : U2.cell? ⟨b2, i, none⟩ = some (bb (a.getD i 0)) := by
        rw [HB2.out.cell]
        have : i < a.length := by omega
        simp [bl, this]
      have f0 := HB2.out.frozen i
      have hbu2 := HB2.out.lt
      have hsame := hid (same_set a i by_ (by omega))
      have hlen2 : (a.set i (a.getD i 0 ^^^ by_)).length = 16 := by simp [hla]
      have hset := hid (show (bl a).toArray.setIfInBounds i (bb (a.getD i 0 ^^^ by_)) = (bl (a.set i (a.getD i 0 ^^^ by_))).toArray by simp [bl, List.map_set])
      generalize a.getD i 0 = y at *
      obtain ⟨U3, hU3⟩ : ∃ U, U = U2.setCell ⟨b2, i, none⟩ (bb (y ^^^ by_)) := ⟨_, rfl⟩
      have HB23 : Hid (Blk U3 b2 26 (bl (a.set i (y ^^^ by_))).toArray) := hid (by rw [hU3]; exact (HB2.out.set_ i _).cast hset.out)
      have HB13 : Hid (Blk U3 w.heap.size 26 (bl a).toArray) := hid (by rw [hU3]; exact HB1.out.far (p := ⟨b2, i, none⟩) (by simp; omega) _)
      have HLU3 : Hid (Later w U3) := hid (by rw [hU3]; exact HLU2.out.set (p := ⟨b2, i, none⟩) (by show w.heap.size ≤ b2; omega) _)
      have HOU3 : Hid (U3.ownsRow w.heap.size 5 1 (.slice pa L.length pc) L.length (bl L)) := hid (by rw [hU3]; exact own_set HOU2.out (fun he => by have := HPB.out b2 he.symm; omega) _)
      have T1 := HB13.out.there0 16 ((bl_len _).trans hla)
      have A1 := HB13.out.agg 16 ((bl_len _).trans hla)
      change _ = bagg a at A1
      have T2 := HB23.out.there0 16 ((bl_len _).trans hlen2)
      have A2 := HB23.out.agg 16 ((bl_len _).trans hlen2)
      change _ = bagg (a.set i (y ^^^ by_)) at A2
      rw [hU3] at T1 A1 T2 A2
      (repeat go_step)
      rw [← hU3]
      clear T1 A1 T2 A2 hU3 HB1 HB2 HLU2 HOU2 HPB hset c0 f0 hi hi2 s1
      have hs1 := hsame.out
      have hs1h := hid hs1
      clear hsame
      generalize a.set i (y ^^^ by_) = th at *
      refine (equal15 a th _ hla hlen2).later.mono ?_
      rintro e W5 ⟨rfl, hl5⟩
      rw [hs1]
      replace HLU3 := hid (HLU3.out.trans hl5)
      replace HOU3 := hid (own_later HOU3.out hl5)
      have hbs : ((bn by_ == 0) == (bn by_ == 0)) = true := by simp
      clear hl5 hs1 HB23 HB13
      have lC := hmac_len key text
      have hlen1 : [text].flatten.length ≤ 500000 := by simp; omega
      have hcK : hmac key [text].flatten = hmac key text := by rw [show [text].flatten = text by simp]
      have hcL : key.length ≤ 64 → hmac L [text].flatten = hmac key text := fun h => by rw [show [text].flatten = text by simp, hZ.out h]
      have hcS : 64 < key.length → hmac (sha key) [text].flatten = hmac key text := fun h => by rw [show [text].flatten = text by simp, hmac_long key text h]
      have HCK := hid hcK
      have HCL := hid hcL
      have HCS := hid hcS
      clear hcK hcL hcS hZ HTT HLL
      by_cases h64 : 64 < key.length
      · have d6 : decide (64 < (key.length : Int)) = true := decide_eq_true (by omega)
        go_wp2_with (fail)
        refine (sum17 _ key _ (HK.out.later HLU3.out) HKS.out (by omega)).later.mono ?_
        rintro e W6 ⟨rfl, hl6⟩
        have ls := sha_len key
        have HCS1 := hid (HCS.out h64)
        generalize sha key = s1 at *
        have HL6 := hid (HLU3.out.trans hl6)
        have ht6 := (Blk.new W6 24 z24).thereN 32 z24_size
        clear hl6 HCS
        (try simp only [])
        (iterate 8 go_step)
        obtain ⟨W, hW⟩ : ∃ U, U = (W6.alloc (.cells z24 24)).setCells W6.heap.size 0 (bl s1) := ⟨_, rfl⟩
        have hlW : Later W6 W := by rw [hW]; exact later_sets (by repeat (first | (with_reducible exact Later.refl _) | with_reducible apply Later.latr | with_reducible apply Later.alloc | with_reducible apply Later.drew | (with_reducible refine Later.set ?_ (by (simp; try omega)) _))) (Nat.le_refl _) _ _
        have HB18 : Hid (Blk W W6.heap.size 24 (bl s1).toArray) := hid (by rw [hW]; exact set24 _ ls (Blk.new W6 24 _) z24_size)
        rw [← hW]
        have HLW := hid (HL6.out.trans hlW)
        have HKW := hid (HK.out.later HLW.out)
        have HTW := hid (HT.out.later HLW.out)
        clear hW hlW ht6 HL6 HLU3 HOU3
        generalize W6.heap.size = b18 at *
        have hA18 : Hid (∀ u, Later W u → Arr u 1 (.slice (some ⟨b18, 0, none⟩) 32 32) s1.length (bl s1)) := hid (fun u hu => by
          have := arr_blk (HB18.out.later hu) (by rw [ls]; decide)
          rw [ls] at this ⊢
          exact this)
        go_wp2_with (fail)
        refine wp_region_pred [.eq (.bool true), .eq (.bool true), .eq (.bool true), .eq (.bool true), .eq (.bool true), .eq (.slice ka key.length kcap), .eq (.slice ta text.length tcap), .pr (fun v u => Texts u v [text]), .eq (bagg (hmac key text)), .eq (.slice (some ⟨b18, 0, none⟩) 32 32), .eq (.slice ta text.length tcap), .pr (fun v u => Texts u v [text]), .eq (bagg (hmac key text)), .eq (.bool true), .eq (.bool true), .eq (.bool true)] (by kernel_rfl) (by kernel_rfl) (by repeat (first | exact stable_nil | refine stable_cons (Kd.stable_eq _) ?_ | refine stable_cons (fun _ _ _ hl h => Texts.later h hl) ?_)) ?_
        refine ⟨by kernel_rfl, fun u hu hk K hK => ?_, fun v0 K hK => ?_⟩
        · replace hk := hid hk
          go_simp
          exact hK.out _ _ _ rfl (Later.refl _) (rfl)
        go_simp
        refine hK.out _ ?_
        clear hK K
        refine ⟨by kernel_rfl, fun u hu hk K hK => ?_, fun v1 K hK => ?_⟩
        · replace hk := hid hk
          go_simp
          exact hK.out _ _ _ rfl (Later.refl _) (rfl)
        go_simp
        refine hK.out _ ?_
        clear hK K
        refine ⟨by kernel_rfl, fun u hu hk K hK => ?_, fun v2 K hK => ?_⟩
        · replace hk := hid hk
          go_simp
          exact hK.out _ _ _ rfl (Later.refl _) (rfl)
        go_simp
        refine hK.out _ ?_
        clear hK K
        refine ⟨by kernel_rfl, fun u hu hk K hK => ?_, fun v3 K hK => ?_⟩
        · replace hk := hid hk
          go_simp
          exact hK.out _ _ _ rfl (Later.refl _) (rfl)
        go_simp
        refine hK.out _ ?_
        clear hK K
        refine ⟨by kernel_rfl, fun u hu hk K hK => ?_, fun v4 K hK => ?_⟩
        · replace hk := hid hk
          go_simp
          exact hK.out _ _ _ rfl (Later.refl _) (rfl)
        go_simp
        refine hK.out _ ?_
        clear hK K
        refine ⟨by kernel_rfl, fun u hu hk K hK => ?_, fun v5 K hK => ?_⟩
        · replace hk := hid hk
          go_simp
          exact hK.out _ _ _ rfl (Later.refl _) (rfl)
        go_simp
        refine hK.out _ ?_
        clear hK K
        refine ⟨by kernel_rfl, fun u hu hk K hK => ?_, fun v6 K hK => ?_⟩
        · replace hk := hid hk
          go_simp
          exact hK.out _ _ _ rfl (Later.refl _) (rfl)
        go_simp
        refine hK.out _ ?_
        clear hK K
        refine ⟨by kernel_rfl, fun u hu hk K hK => ?_, fun v7 K hK => ?_⟩
        · replace hk := hid hk
          go_simp
          exact hK.out _ _ _ rfl (by repeat (first | (with_reducible exact Later.refl _) | (with_reducible assumption) | with_reducible apply Later.latr | with_reducible apply Later.alloc | with_reducible apply Later.drew | (with_reducible refine Later.set ?_ (by (simp; try omega)) _))) (texts1 (arr_new (xs := [_]) (n := 1) (size := 1) rfl rfl (by decide)) ((HTW.out.later hu).alloc _) HTS.out)
        go_simp
        refine hK.out _ ?_
        clear hK K
        refine ⟨by kernel_rfl, fun u hu hk K hK => ?_, fun v8 K hK => ?_⟩
        · replace hk := hid hk
          have hT : (fun v u => Texts u v [text]) v7 u := hk.out ⟨7, .data⟩ (by simp) rfl (.pr (fun v u => Texts u v [text]), v7) (by kernel_rfl)
          go_simp
          go_wp2_with (first | (go_at_call 12; refine (mac12 _ key _ [text] _ (HKW.out.later hu) (HKS.out) hT (by omega) hlen1).later.mono ?_; rw [HCK.out]; rintro e W8 ⟨rfl, hl8⟩))
          exact hK.out _ _ _ rfl (hl8) (rfl)
        go_simp
        refine hK.out _ ?_
        clear hK K
        refine ⟨by kernel_rfl, fun u hu hk K hK => ?_, fun v9 K hK => ?_⟩
        · replace hk := hid hk
          go_simp
          exact hK.out _ _ _ rfl (Later.refl _) (rfl)
        go_simp
        refine hK.out _ ?_
        clear hK K
        refine ⟨by kernel_rfl, fun u hu hk K hK => ?_, fun v10 K hK => ?_⟩
        · replace hk := hid hk
          go_simp
          exact hK.out _ _ _ rfl (Later.refl _) (rfl)
        go_simp
        refine hK.out _ ?_
        clear hK K
        refine ⟨by kernel_rfl, fun u hu hk K hK => ?_, fun v11 K hK => ?_⟩
        · replace hk := hid hk
          go_simp
          exact hK.out _ _ _ rfl (by repeat (first | (with_reducible exact Later.refl _) | (with_reducible assumption) | with_reducible apply Later.latr | with_reducible apply Later.alloc | with_reducible apply Later.drew | (with_reducible refine Later.set ?_ (by (simp; try omega)) _))) (texts1 (arr_new (xs := [_]) (n := 1) (size := 1) rfl rfl (by decide)) ((HTW.out.later hu).alloc _) HTS.out)
        go_simp
        refine hK.out _ ?_
        clear hK K
        refine ⟨by kernel_rfl, fun u hu hk K hK => ?_, fun v12 K hK => ?_⟩
        · replace hk := hid hk
          have hT : (fun v u => Texts u v [text]) v11 u := hk.out ⟨11, .data⟩ (by simp) rfl (.pr (fun v u => Texts u v [text]), v11) (by kernel_rfl)
          go_simp
          go_wp2_with (first | (go_at_call 12; refine (mac12 _ s1 _ [text] _ (hA18.out u hu) (.inr ⟨_, _, _, rfl⟩) hT (by omega) hlen1).later.mono ?_; rw [HCS1.out]; rintro e W8 ⟨rfl, hl8⟩))
          exact hK.out _ _ _ rfl (hl8) (rfl)
        go_simp
        refine hK.out _ ?_
        clear hK K
        refine ⟨by kernel_rfl, fun u hu hk K hK => ?_, fun v13 K hK => ?_⟩
        · replace hk := hid hk
          refine wp_eq24 (hmac key text) (hmac key text) rfl rfl lC lC ?_; rw [same_self]
          exact hK.out _ _ _ rfl (Later.refl _) (rfl)
        go_simp
        refine hK.out _ ?_
        clear hK K
        refine ⟨by kernel_rfl, fun u hu hk K hK => ?_, fun v14 K hK => ?_⟩
        · replace hk := hid hk
          go_simp
          exact hK.out _ _ _ rfl (Later.refl _) (rfl)
        go_simp
        refine hK.out _ ?_
        clear hK K
        refine ⟨by kernel_rfl, fun u hu hk K hK => ?_, fun v15 K hK => ?_⟩
        · replace hk := hid hk
          go_simp
          exact hK.out _ _ _ rfl (Later.refl _) (rfl)
        go_simp
        refine hK.out _ ?_
        clear hK K
        intro u hu
        go_wp2_with (fail)
        go_ret
        exact ⟨rfl, Later.trans (a := w) HLW.out hu⟩
      · have d6 : decide (64 < (key.length : Int)) = false := decide_eq_false (by omega)
        have HCL1 := hid (HCL.out (by omega))
        have HLW := hid HLU3.out
        have HKW := hid (HK.out.later HLW.out)
        have HTW := hid (HT.out.later HLW.out)
        clear HLU3 HCL HCS
        generalize W5 = W at *
        go_wp2_with (fail)
        refine (mac12 _ L _ [text] _ ((Arr.of_own HOU3.out).alloc _) (own_shape HOU3.out) (texts1 (arr_new (xs := [_]) (n := 1) (size := 1) rfl rfl (by decide)) (HTW.out.alloc _) HTS.out) (by omega) hlen1).later.mono ?_
        rw [HCL1.out]
        rintro e W8 ⟨rfl, hl8⟩
        have hl8U : Later W W8 := Later.trans (a := W) (by repeat (first | (with_reducible exact Later.refl _) | with_reducible apply Later.latr | with_reducible apply Later.alloc | with_reducible apply Later.drew | (with_reducible refine Later.set ?_ (by (simp; try omega)) _))) hl8
        go_wp2_with (fail)
        refine (mac12 _ key _ [text] _ ((HKW.out.later hl8U).alloc _) HKS.out (texts1 (arr_new (xs := [_]) (n := 1) (size := 1) rfl rfl (by decide)) ((HTW.out.later hl8U).alloc _) HTS.out) (by omega) hlen1).later.mono ?_
        rw [HCK.out]
        rintro e W9 ⟨rfl, hl9⟩
        (try simp only [])
        (iterate 1 go_step)
        refine list_on (by kernel_rfl) ?_
        refine wp_eq24 (hmac key text) (hmac key text) rfl rfl lC lC ?_
        rw [same_self]
        go_wp2_with (fail)
        go_ret
        exact ⟨rfl, Later.trans (a := w) HLW.out (hl8U.trans (Later.trans (a := W8) (by repeat (first | (with_reducible exact Later.refl _) | with_reducible apply Later.latr | with_reducible apply Later.alloc | with_reducible apply Later.drew | (with_reducible refine Later.set ?_ (by (simp; try omega)) _))) hl9))⟩
end Go.Proofs.Ytnidpncacgknkaa
