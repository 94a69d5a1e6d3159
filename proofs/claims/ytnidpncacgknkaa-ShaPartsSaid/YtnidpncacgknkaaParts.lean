/- The walk of ShaParts: it answers true. Of any parts. -/
import Derived.Test.YtnidpncacgknkaaHashn
import Derived.Test.YtnidpncacgknkaaStrb
import Derived.Test.YtnidpncacgknkaaSteps
import Derived.Test.YtnidpncacgknkaaRpad
namespace Go.Proofs.Ytnidpncacgknkaa
open Go.RowKit
attribute [local go_sem] ite_max ite_min
attribute [local go_sem ↓] Go.wp_at_zero Go.wp_at_succ
attribute [local go_sem] conv_sb Lib.bytesWorld_size
attribute [local go_sem] h_lt1 h_lt2 h_lt3 h_lt4 h_lt5 h_lt6 h_eq1 h_qe1 h_eq2 h_qe2 h_eq3 h_qe3 h_eq4 h_qe4 h_eq5 h_qe5 h_eq6 h_qe6
theorem str_bytes (l : List B8) : strBytes (strB l) = l := by
  unfold strBytes strB
  rw [strOfNums_data, List.map_map, List.map_map]
  conv => rhs; rw [← List.map_id l]
  refine List.map_congr_left fun b _ => ?_
  have := b.isLt
  apply BitVec.eq_of_toNat_eq
  simp [bn]
  try omega
theorem str_size (l : List B8) : (strB l).size = l.length := by unfold strB; rw [strOfNums_size, List.length_map]
set_option maxRecDepth 100000 in
set_option maxHeartbeats 8000000 in
theorem shaParts6 (tv : Value) (ts : List (List B8)) (w : World) (ht : Texts w tv ts) : Gives Try.prog 6 #[tv] w (.bool true) := by
  apply gives_of
  obtain ⟨i0, hi0, hz0, hz1, hz2⟩ := info_parts info5
  obtain ⟨vs, hvl, hva, hvs⟩ := ht
  obtain ⟨_, ta, tcap, rfl, htcap, htmax, hvc⟩ := hva
  unfold maxLen at htmax
  have HVC := hid hvc
  have HVS := hid hvs
  clear hvc hvs
  by_cases h20 : 20 < ts.length
  · have d1 : decide (20 < (ts.length : Int)) = true := decide_eq_true (by omega)
    (go_enter Try.func6, Try.ntmps6; go_wp2_with (fail))
    (refine (awake16 _).mono ?_; rintro e w1 ⟨rfl, x1, rfl⟩; go_wp2_with (fail))
    go_ret
    exact ⟨rfl, by repeat (first | (with_reducible exact Later.refl _) | with_reducible apply Later.latr | with_reducible apply Later.alloc | with_reducible apply Later.drew | (with_reducible refine Later.set ?_ (by (simp; try omega)) _))⟩
  have d1 : decide (20 < (ts.length : Int)) = false := decide_eq_false (by omega)
  (go_enter Try.func6, Try.ntmps6; go_wp2_with (fail))
  refine (awake16 _).later.mono ?_
  rintro e W0 ⟨rfl, hl0⟩
  have HL0 := hid hl0
  clear hl0
  go_wp2_with (fail)
  have hH0 : HashAt (W0.alloc (.cells z39 39)) W0.heap.size [] := .zero (Blk.new W0 39 _)
  have hwg : w.heap.size ≤ W0.heap.size := HL0.out.size
  obtain ⟨X, hX⟩ : ∃ X, X = W0.alloc (.cells z39 39) := ⟨_, rfl⟩
  have HL1 : Hid (Later w X) := hid (by rw [hX]; exact HL0.out.alloc _)
  rw [← hX] at hH0 ⊢
  clear hX HL0
  generalize W0.heap.size = g at *
  have HH0 := hid hH0
  clear hH0
  go_loopw [5, 6] (fun all i wr => ∃ k : Nat, k ≤ ts.length ∧ i = .int .i64 k ∧ Later w wr ∧ HashAt wr g (ts.take k).flatten ∧ wr.ownsRow w.heap.size 5 1 all (ts.take k).flatten.length (bl (ts.take k).flatten) ∧ (ts.take k).flatten.length ≤ 300 * k) (fun _ i _ => ts.length - (intOf i).toNat)
  case atStart => exact ⟨0, Nat.zero_le _, rfl, HL1.out, HH0.out, World.ownsRow_nil _ _ _ _, Nat.le_refl _⟩
  case round =>
    obtain ⟨k, hk, rfl, hl, hH, hO, hle⟩ := hrel
    have HL := hid hl
    have HH := hid hH
    have HO := hid hO
    have hgw := hH.lt
    have hwW := hl.size
    clear hl hH hO
    by_cases hkl : k < ts.length
    · have hd3 : decide ((k : Int) < (ts.length : Int)) = true := decide_eq_true (by omega)
      have hd4 : decide (k < ts.length) = true := decide_eq_true (by omega)
      obtain ⟨b, off, rfl, hb, hc⟩ := HVC.out (by omega)
      have hkv : k < vs.length := by omega
      obtain ⟨hat, hst⟩ := HVS.out k vs[k] ts[k] (List.getElem?_eq_getElem hkv) (List.getElem?_eq_getElem hkl)
      have c0 : wr.cell? ⟨b, off + k, none⟩ = some vs[k] := (HL.out.cell hb).trans (hc k _ (List.getElem?_eq_getElem hkv))
      have hcw : w.cell? ⟨b, off + k, none⟩ = some vs[k] := hc k _ (List.getElem?_eq_getElem hkv)
      have hfl : (ts.take (k + 1)).flatten = (ts.take k).flatten ++ ts[k] := by rw [take_succ_ ts k hkl, List.flatten_append]; simp
      have HFL := hid hfl
      have hat2 := hat
      obtain ⟨_, va, vcap, hvk, hvc2, _⟩ := hat2
      have HAT := hid hat
      have HCW := hid hcw
      clear hc hfl hcw hat
      generalize (ts.take k).flatten = T at *
      generalize vs[k] = vk at *
      generalize ts[k] = tk at *
      subst hvk
      by_cases h300 : 300 < tk.length
      · have d2 : decide (300 < (tk.length : Int)) = true := decide_eq_true (by omega)
        go_wp2_with (fail)
        go_ret
        exact ⟨rfl, HL.out⟩
      have d2 : decide (300 < (tk.length : Int)) = false := decide_eq_false (by omega)
      obtain ⟨pa, pc, hq⟩ := own_is_slice HO.out
      subst hq
      go_wp2_with (fail)
      refine (add19n g _ _ tk _ HH.out (HAT.out.later HL.out) hst (arr_off HAT.out hwg) (by omega)).mono ?_
      rintro e W2 ⟨rfl, hw2, hf2⟩
      have HL2 := hid (Later.wr (a := w) HL.out hw2 hwg)
      have hBg : ∃ t cs, Blk wr g t cs ∧ 5 ≠ t := by obtain ⟨s, v, r, bg, h1, _⟩ := HH.out; exact ⟨39, _, h1, by decide⟩
      have HO2 := hid (HO.out.kept hw2 (by
        obtain ⟨t, cs, h1, h2⟩ := hBg
        have := own_blk_ne HO.out h1 h2
        exact .inr fun he => this he.symm))
      have HF2 := hid hf2
      have HLT := hid (fun i (hi : (Value.slice pa T.length pc).ownBlock = some i) => (HO.out.lt i hi).2)
      have c2 : W2.cell? ⟨b, off + k, none⟩ = some (.slice va tk.length vcap) := (HL2.out.cell hb).trans HCW.out
      have hwW2 := HL2.out.size
      have hgW2 : g < W2.heap.size := hf2.at_.lt
      clear hw2 hf2 hBg HH HO HL c0
      go_wp2_with (first
        | (at_builtin
           refine list_of_wp (by rfl) ?_
           refine wp_append_arr _ (.tmp 35) (.tmp 39) 22 rfl w.heap.size 5 i0 _ 1 1 Try.underlying22 hi0 hz0 hz1 hz2 rfl (by decide) (.slice pa T.length pc) _ _ rfl HO2.out _ _ _ rfl (HAT.out.later HL2.out) hst (bl_one _) (by unfold maxLen; omega) (by omega) hwW2 ?_
           intro v3 W3 hO3 hg3))
      have HL3 := hid (Later.grown HL2.out hg3 (own_lt HO2.out (Nat.le_refl _)))
      have hh3 := HF2.out.grown hg3 (by
        obtain ⟨s, v, r, bg, h1, _⟩ := HF2.out
        exact own_blk_ne HO2.out h1 (by decide)) HLT.out
      have HO3 := hid (app_own hO3)
      clear hO3 hg3 HO2 HF2 HLT HL2 c2 hwW2 hgW2
      have hTl : (T ++ tk).length ≤ 300 * (k + 1) := by rw [List.length_append]; omega
      generalize hTT : T ++ tk = S at *
      have HFL2 := hid HFL.out
      clear HFL hTT
      have lS := sha_len S
      refine (done20 g S _ hh3 (by omega)).later.mono ?_
      rintro e W4 ⟨rfl, hl4⟩
      have HL4 := hid (HL3.out.trans hl4)
      have HO4 := hid (own_later HO3.out hl4)
      have HH4 := hid (hh3.later hl4)
      clear hl4 HL3 HO3 hh3
      go_wp2_with (fail)
      refine (sum17 _ S _ (Arr.of_own HO4.out) (own_shape HO4.out) (by omega)).later.mono ?_
      rintro e W5 ⟨rfl, hl5⟩
      have HL5 := hid (HL4.out.trans hl5)
      have HO5 := hid (own_later HO4.out hl5)
      have HH5 := hid (HH4.out.later hl5)
      clear hl5 HL4 HO4 HH4
      go_wp2_with (fail)
      go_roundw
      case rel => exact ⟨k + 1, by omega, by go_num, HL5.out, by rw [HFL2.out]; exact HH5.out, by rw [HFL2.out]; exact HO5.out, by rw [HFL2.out]; exact hTl⟩
      case measure => simp [intOf]; omega
    obtain rfl : k = ts.length := by omega
    rw [List.take_length] at HH HO hle
    generalize ts.flatten = T at *
    have lc := sha_len T
    have hcT := hid (rfl : sha T = sha T)
    obtain ⟨pa, pc, hq⟩ := own_is_slice HO.out
    subst hq
    have kc := conv_arr (l := T) (Arr.of_own HO.out)
    go_wp2_with (fail)
    refine (sum17 _ T _ (Arr.of_own HO.out) (own_shape HO.out) (by omega)).later.mono ?_
    generalize hcTe : sha T = cT at lc ⊢
    replace hcT : Hid (sha T = cT) := hid hcTe
    clear hcTe kc
    rintro e W1 ⟨rfl, hl1⟩
    replace HL := hid (HL.out.trans hl1)
    replace HH := hid (HH.out.later hl1)
    replace HO := hid (own_later HO.out hl1)
    have ht_W := (Blk.new W1 24 z24).thereN 32 z24_size
    (try simp only [])
    (iterate 8 go_step)
    obtain ⟨W, hW⟩ : ∃ U, U = (W1.alloc (.cells z24 24)).setCells W1.heap.size 0 (bl cT) := ⟨_, rfl⟩
    have hlW : Later W1 W := by rw [hW]; exact later_sets (by repeat (first | (with_reducible exact Later.refl _) | with_reducible apply Later.latr | with_reducible apply Later.alloc | with_reducible apply Later.drew | (with_reducible refine Later.set ?_ (by (simp; try omega)) _))) (Nat.le_refl _) _ _
    have HB8 : Hid (Blk W W1.heap.size 24 (bl cT).toArray) := hid (by rw [hW]; exact set24 _ lc (Blk.new W1 24 _) z24_size)
    rw [← hW]
    have HLW := hid (HL.out.trans hlW)
    replace HH := hid (HH.out.later hlW)
    replace HO := hid (own_later HO.out hlW)
    clear hW hlW ht_W HL hl1
    generalize W1.heap.size = b8 at *
    go_wp2_with (fail)
    -- the region, group by group
    refine wp_region_pred [.eq (.bool true), .eq (.bool true), .eq (.pointer (some ⟨g, 0, none⟩)), .eq (bagg cT), .eq (bagg cT), .eq (.bool true), .eq (.bool true), .eq (.bool true), .eq (.string (strB T)), .pr (fun v u => Arr u 1 v T.length (bl T) ∧ Shape v), .eq (bagg cT), .eq (bagg cT), .eq (.bool true), .eq (.bool true), .eq (.bool true), .eq (.slice pa T.length pc), .eq (.string (strB T)), .eq (.string (strB T)), .eq (.bool true), .eq (.bool true), .eq (.bool true)] (by kernel_rfl) (by kernel_rfl) (by repeat (first | exact stable_nil | refine stable_cons (Kd.stable_eq _) ?_ | refine stable_cons (fun _ _ _ hl h => ⟨h.1.later hl, h.2⟩) ?_)) ?_
    refine ⟨by kernel_rfl, fun u hu hk K hK => ?_, fun v0 K hK => ?_⟩
    · replace hk := hid hk
      go_simp
      exact hK.out _ _ _ rfl (Later.refl _) (rfl)
    go_simp
    refine hK.out _ ?_
    clear hK K
    refine ⟨by kernel_rfl, fun u hu hk K hK => ?_, fun v1 K hK => ?_⟩
    · replace hk := hid hk
      go_simp
      exact hK.out _ _ _ rfl (Later.refl _) (rfl)
    go_simp
    refine hK.out _ ?_
    clear hK K
    refine ⟨by kernel_rfl, fun u hu hk K hK => ?_, fun v2 K hK => ?_⟩
    · replace hk := hid hk
      go_simp
      exact hK.out _ _ _ rfl (Later.refl _) (rfl)
    go_simp
    refine hK.out _ ?_
    clear hK K
    refine ⟨by kernel_rfl, fun u hu hk K hK => ?_, fun v3 K hK => ?_⟩
    · replace hk := hid hk
      go_simp
      go_wp2_with (first | (go_at_call 20; refine (done20 g T _ (HH.out.later hu) (by omega)).later.mono ?_; rw [hcT.out]; rintro e W6 ⟨rfl, hl6⟩))
      exact hK.out _ _ _ rfl (hl6) (rfl)
    go_simp
    refine hK.out _ ?_
    clear hK K
    refine ⟨by kernel_rfl, fun u hu hk K hK => ?_, fun v4 K hK => ?_⟩
    · replace hk := hid hk
      have T8 := (HB8.out.later hu).there0 32 ((bl_len _).trans lc)
      have A8 := (HB8.out.later hu).agg 32 ((bl_len _).trans lc)
      change _ = bagg cT at A8
      go_simp
      exact hK.out _ _ _ rfl (Later.refl _) (rfl)
    go_simp
    refine hK.out _ ?_
    clear hK K
    refine ⟨by kernel_rfl, fun u hu hk K hK => ?_, fun v5 K hK => ?_⟩
    · replace hk := hid hk
      refine wp_eq24 cT cT rfl rfl lc lc ?_; rw [same_self]
      exact hK.out _ _ _ rfl (Later.refl _) (rfl)
    go_simp
    refine hK.out _ ?_
    clear hK K
    refine ⟨by kernel_rfl, fun u hu hk K hK => ?_, fun v6 K hK => ?_⟩
    · replace hk := hid hk
      go_simp
      exact hK.out _ _ _ rfl (Later.refl _) (rfl)
    go_simp
    refine hK.out _ ?_
    clear hK K
    refine ⟨by kernel_rfl, fun u hu hk K hK => ?_, fun v7 K hK => ?_⟩
    · replace hk := hid hk
      go_simp
      exact hK.out _ _ _ rfl (Later.refl _) (rfl)
    go_simp
    refine hK.out _ ?_
    clear hK K
    refine ⟨by kernel_rfl, fun u hu hk K hK => ?_, fun v8 K hK => ?_⟩
    · replace hk := hid hk
      go_simp
      exact hK.out _ _ _ rfl (Later.refl _) (rfl)
    go_simp
    refine hK.out _ ?_
    clear hK K
    refine ⟨by kernel_rfl, fun u hu hk K hK => ?_, fun v9 K hK => ?_⟩
    · replace hk := hid hk
      go_simp
      exact hK.out _ _ _ rfl (later_sb (strB T) u) (⟨by have q := arr_sb (strB T) u (by rw [str_size]; unfold maxLen; omega); rw [str_bytes] at q; exact q, .inr ⟨_, _, _, rfl⟩⟩)
    go_simp
    refine hK.out _ ?_
    clear hK K
    refine ⟨by kernel_rfl, fun u hu hk K hK => ?_, fun v10 K hK => ?_⟩
    · replace hk := hid hk
      have hT : Arr u 1 v9 T.length (bl T) ∧ Shape v9 := hk.out ⟨9, .data⟩ (by simp) rfl (.pr (fun v u => Arr u 1 v T.length (bl T) ∧ Shape v), v9) (by kernel_rfl)
      go_simp
      go_wp2_with (first | (go_at_call 17; refine (sum17 _ T _ hT.1 hT.2 (by omega)).later.mono ?_; rw [hcT.out]; rintro e W6 ⟨rfl, hl6⟩))
      exact hK.out _ _ _ rfl (hl6) (rfl)
    go_simp
    refine hK.out _ ?_
    clear hK K
    refine ⟨by kernel_rfl, fun u hu hk K hK => ?_, fun v11 K hK => ?_⟩
    · replace hk := hid hk
      have T8 := (HB8.out.later hu).there0 32 ((bl_len _).trans lc)
      have A8 := (HB8.out.later hu).agg 32 ((bl_len _).trans lc)
      change _ = bagg cT at A8
      go_simp
      exact hK.out _ _ _ rfl (Later.refl _) (rfl)
    go_simp
    refine hK.out _ ?_
    clear hK K
    refine ⟨by kernel_rfl, fun u hu hk K hK => ?_, fun v12 K hK => ?_⟩
    · replace hk := hid hk
      refine wp_eq24 cT cT rfl rfl lc lc ?_; rw [same_self]
      exact hK.out _ _ _ rfl (Later.refl _) (rfl)
    go_simp
    refine hK.out _ ?_
    clear hK K
    refine ⟨by kernel_rfl, fun u hu hk K hK => ?_, fun v13 K hK => ?_⟩
    · replace hk := hid hk
      go_simp
      exact hK.out _ _ _ rfl (Later.refl _) (rfl)
    go_simp
    refine hK.out _ ?_
    clear hK K
    refine ⟨by kernel_rfl, fun u hu hk K hK => ?_, fun v14 K hK => ?_⟩
    · replace hk := hid hk
      go_simp
      exact hK.out _ _ _ rfl (Later.refl _) (rfl)
    go_simp
    refine hK.out _ ?_
    clear hK K
    refine ⟨by kernel_rfl, fun u hu hk K hK => ?_, fun v15 K hK => ?_⟩
    · replace hk := hid hk
      go_simp
      exact hK.out _ _ _ rfl (Later.refl _) (rfl)
    go_simp
    refine hK.out _ ?_
    clear hK K
    refine ⟨by kernel_rfl, fun u hu hk K hK => ?_, fun v16 K hK => ?_⟩
    · replace hk := hid hk
      have c1 := conv_arr (l := T) (Arr.of_own (own_later HO.out hu))
      go_simp
      exact hK.out _ _ _ rfl (Later.refl _) (rfl)
    go_simp
    refine hK.out _ ?_
    clear hK K
    refine ⟨by kernel_rfl, fun u hu hk K hK => ?_, fun v17 K hK => ?_⟩
    · replace hk := hid hk
      go_simp
      exact hK.out _ _ _ rfl (Later.refl _) (rfl)
    go_simp
    refine hK.out _ ?_
    clear hK K
    refine ⟨by kernel_rfl, fun u hu hk K hK => ?_, fun v18 K hK => ?_⟩
    · replace hk := hid hk
      go_simp
      exact hK.out _ _ _ rfl (Later.refl _) (rfl)
    go_simp
    refine hK.out _ ?_
    clear hK K
    refine ⟨by kernel_rfl, fun u hu hk K hK => ?_, fun v19 K hK => ?_⟩
    · replace hk := hid hk
      go_simp
      exact hK.out _ _ _ rfl (Later.refl _) (rfl)
    go_simp
    refine hK.out _ ?_
    clear hK K
    refine ⟨by kernel_rfl, fun u hu hk K hK => ?_, fun v20 K hK => ?_⟩
    · replace hk := hid hk
      go_simp
      exact hK.out _ _ _ rfl (Later.refl _) (rfl)
    go_simp
    refine hK.out _ ?_
    clear hK K
    intro u hu
    go_wp2_with (fail)
    go_ret
    exact ⟨rfl, Later.trans (a := w) HLW.out hu⟩
end Go.Proofs.Ytnidpncacgknkaa
