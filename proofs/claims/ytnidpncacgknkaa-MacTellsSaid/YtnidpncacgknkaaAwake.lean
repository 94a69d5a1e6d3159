/- The walk of package bobstaylaw04's head (awake): it answers true. No condition. -/
import Derived.Test.YtnidpncacgknkaaBoxes
import Derived.Lib.SlBytesConst
import Derived.Deep.RegionWith
import Derived.Deep.DrawnRows
namespace Go.Proofs.Ytnidpncacgknkaa
open Go.RowKit
attribute [local go_sem] ite_max ite_min
attribute [local go_sem ↓] Go.wp_at_zero Go.wp_at_succ
attribute [local go_sem] h_lt1 h_lt2 h_lt3 h_lt4 h_lt5 h_lt6 h_eq1 h_qe1 h_eq2 h_qe2 h_eq3 h_qe3 h_eq4 h_qe4 h_eq5 h_qe5 h_eq6 h_qe6
abbrev abc : List B8 := [97#8, 98#8, 99#8]
theorem sha_abc8 : (sha abc).take 8 = [0xba#8, 0x78#8, 0x16#8, 0xbf#8, 0x8f#8, 0x01#8, 0xcf#8, 0xea#8] := by decide +kernel
theorem sha_abc28 : (sha abc).drop 28 = [0xf2#8, 0x00#8, 0x15#8, 0xad#8] := by decide +kernel
theorem sha_nil4 : (sha []).take 4 = [0xe3#8, 0xb0#8, 0xc4#8, 0x42#8] := by decide +kernel
theorem sha_a_abc : sha [97#8] ≠ sha abc := by decide +kernel
theorem conv_same (w : World) (C : Array Value) (n c : Nat) : (convert 22 22 (.slice (some ⟨w.heap.size, 0, none⟩) n c)).run Try.prog (w.alloc (.cells C 5)) = .ok (.slice (some ⟨w.heap.size, 0, none⟩) n c) (w.alloc (.cells C 5 (C.size, C.size + 1))) :=
  Lib.run_convert_bytes_const w 22 5 C n c Try.underlying22 Try.underlying5
attribute [local go_sem] conv_same
theorem Arr.newf (w : World) (t : TypeId) (xs : List Value) (n size : Nat) (fr : Nat × Nat) (hn : xs.length = n * size) (hm : n ≤ maxLen) : Arr (w.alloc (.cells xs.toArray t fr)) size (.slice (some ⟨w.heap.size, 0, none⟩) n n) n xs :=
  Arr.lits hn hm (by simp) fun j u hu => by
    have : (w.alloc (.cells xs.toArray t fr)).heap[w.heap.size]? = some (.cells xs.toArray t fr) := heap_alloc_new w _
    simp only [World.cell?, this]
    simpa using hu
abbrev d8 : List B8 := [0xba#8, 0x78#8, 0x16#8, 0xbf#8, 0x8f#8, 0x01#8, 0xcf#8, 0xea#8]
abbrev d4 : List B8 := [0xf2#8, 0x00#8, 0x15#8, 0xad#8]
abbrev e4 : List B8 := [0xe3#8, 0xb0#8, 0xc4#8, 0x42#8]
abbrev O8 : Obj := .cells #[.int .u8 186, .int .u8 120, .int .u8 22, .int .u8 191, .int .u8 143, .int .u8 1, .int .u8 207, .int .u8 234] 5
abbrev O4 : Obj := .cells #[.int .u8 242, .int .u8 0, .int .u8 21, .int .u8 173] 5
abbrev P4 : Obj := .cells #[.int .u8 227, .int .u8 176, .int .u8 196, .int .u8 66] 5
theorem arr_blk {w : World} {g : Nat} {t : TypeId} {l : List B8} (h : Blk w g t (bl l).toArray) (hm : l.length ≤ maxLen) : Arr w 1 (.slice (some ⟨g, 0, none⟩) l.length l.length) l.length (bl l) :=
  Arr.lits (by rw [bl_len, Nat.mul_one]) hm h.lt fun j u hu => by rw [h.cell j]; simpa using hu
theorem cut_head {w : World} {g : Nat} {l m : List B8} {n k : Nat} (h : Blk w g 24 (bl l).toArray) (hl : l.length = n) (hn : n ≤ maxLen) (hk : k ≤ n) (hm : l.take k = m) (hml : m.length = k) : (convert 22 9 (.slice (some ⟨g, 0, none⟩) k n)).run Try.prog w = .ok (.string (strB m)) w := by
  subst hl hm
  have := arr_head (arr_blk h hn) hk
  rw [show (bl l).take k = bl (l.take k) by unfold bl; rw [List.map_take]] at this
  rw [← hml] at this ⊢
  rw [hml] at this ⊢
  exact conv_arr (l := l.take k) (by rw [hml]; exact this)
theorem cut_tail {w : World} {g : Nat} {l m : List B8} {n k : Nat} (h : Blk w g 24 (bl l).toArray) (hl : l.length = n) (hn : n ≤ maxLen) (hk : k ≤ n) (hm : l.drop k = m) : (convert 22 9 (.slice (some ⟨g, 0 + k, none⟩) (n - k) (n - k))).run Try.prog w = .ok (.string (strB m)) w := by
  subst hl hm
  have := arr_tail (arr_blk h hn) hk
  rw [show (bl l).drop k = bl (l.drop k) by unfold bl; rw [List.map_drop]] at this
  exact conv_arr (l := l.drop k) (by rw [List.length_drop]; exact this)
/-- orders of a group meet -/
theorem cut_any {P : Program} {md : Region.Mode} {ops : Array Oper} {Q : Exit → Act → World → Prop} {f f' : Nat} {L : Array Bool} {a : Act} {w : World} (L' : Array Bool) (a' : Act) (w' : World)
    (h1 : (∀ L2, L2 = L' → wpAny P md ops Q f' L2 a' w') → wpAny P md ops Q f L a w) (h2 : wpAny P md ops Q f' L' a' w') : wpAny P md ops Q f L a w := h1 fun _ e => e ▸ h2
theorem eq24r {w : World} (l l' : List B8) (h : l.length = 32) (h' : l'.length = 32) : (binOp .eql 24 (.agg (bl l).toArray) (.agg (bl l').toArray)).run Try.prog w = .ok (.bool (same l l')) w := eq24 l l' h h'
theorem ne24r {w : World} (l l' : List B8) (h : l.length = 32) (h' : l'.length = 32) : (binOp .neq 24 (.agg (bl l).toArray) (.agg (bl l').toArray)).run Try.prog w = .ok (.bool (!same l l')) w := ne24 l l' h h'
set_option maxRecDepth 100000 in
set_option maxHeartbeats 8000000 in
theorem awake16 (w : World) : Gives Try.prog 16 #[] w (.bool true) := by
  apply gives_of
  have la := sha_len abc
  have ln := sha_len []
  have lb := sha_len [97#8]
  (go_enter Try.func16, Try.ntmps16; go_wp2_with (fail))
  refine (sum17 _ abc _ (Arr.newf w 5 (bl abc) 3 1 (3, 4) rfl (by decide)) (.inr ⟨_, _, _, rfl⟩) (by decide)).later.mono ?_
  rintro e W1 ⟨rfl, hl1⟩
  have HL1 := hid (Later.trans (a := w) (by repeat (first | (with_reducible exact Later.refl _) | with_reducible apply Later.latr | with_reducible apply Later.alloc | with_reducible apply Later.drew | (with_reducible refine Later.set ?_ (by (simp; try omega)) _))) hl1)
  have ht1 := (Blk.new W1 24 z24).thereN 32 z24_size
  clear hl1
  (try simp only [])
  (repeat go_step)
  obtain ⟨U1, hU1⟩ : ∃ U, U = (W1.alloc (.cells z24 24)).setCells W1.heap.size 0 (bl (sha abc)) := ⟨_, rfl⟩
  have HB1 : Hid (Blk U1 W1.heap.size 24 (bl (sha abc)).toArray) := hid (by rw [hU1]; exact set24 _ la (Blk.new W1 24 _) z24_size)
  have HLU1 : Hid (Later w U1) := hid (by rw [hU1]; exact later_sets (HL1.out.alloc _) HL1.out.size _ _)
  rw [← hU1]
  clear hU1 HL1 ht1
  generalize W1.heap.size = b1 at *
  refine (sum17 _ [] _ (Arr.nil _ _) (.inl rfl) (by decide)).later.mono ?_
  rintro e W2 ⟨rfl, hl2⟩
  have ht2 := (Blk.new W2 24 z24).thereN 32 z24_size
  replace HB1 := hid (HB1.out.later hl2)
  have HL2 := hid (HLU1.out.trans hl2)
  clear hl2 HLU1
  (try simp only [])
  (repeat go_step)
  obtain ⟨U2, hU2⟩ : ∃ U, U = (W2.alloc (.cells z24 24)).setCells W2.heap.size 0 (bl (sha [])) := ⟨_, rfl⟩
  have HB2 : Hid (Blk U2 W2.heap.size 24 (bl (sha [])).toArray) := hid (by rw [hU2]; exact set24 _ ln (Blk.new W2 24 _) z24_size)
  have HLU2 : Hid (Later w U2) := hid (by rw [hU2]; exact later_sets (HL2.out.alloc _) HL2.out.size _ _)
  have hb12 : b1 < W2.heap.size := HB1.out.lt
  replace HB1 : Hid (Blk U2 b1 24 (bl (sha abc)).toArray) := hid (by rw [hU2]; exact far_sets (HB1.out.alloc _) (by omega) _ _)
  have hgU : U2.heap.size = W2.heap.size + 1 := by rw [hU2]; simp [size_sets]
  rw [← hU2]
  clear hU2 HL2 ht2
  have hH : HashAt (U2.alloc (.cells z39 39)) (W2.heap.size + 1) [] := .zero (by rw [← hgU]; exact Blk.new U2 39 _)
  have hb2 : W2.heap.size < W2.heap.size + 1 := by omega
  have hwg : w.heap.size ≤ W2.heap.size + 1 := by have := HLU2.out.size; omega
  generalize hgg : W2.heap.size + 1 = g at *
  generalize W2.heap.size = b2 at *
  refine (add19 g [] _ [97#8] _ (hH.later (by repeat (first | (with_reducible exact Later.refl _) | with_reducible apply Later.latr | with_reducible apply Later.alloc | with_reducible apply Later.drew | (with_reducible refine Later.set ?_ (by (simp; try omega)) _)))) (arr_new (xs := bl [97#8]) (n := 1) (size := 1) (by simp [hgU]) rfl (by decide)) (.inr ⟨_, _, _, rfl⟩) (off_new (b := g + 1) (by omega)) (by decide)).mono ?_
  rintro e W3 ⟨rfl, hw3, hh3⟩
  replace HB1 := hid (hw3.blk ((HB1.out.alloc _).alloc _) (by omega))
  replace HB2 := hid (hw3.blk ((HB2.out.alloc _).alloc _) (by omega))
  have HL3 := hid (Later.wr (a := w) (by repeat (first | (with_reducible exact Later.refl _) | (with_reducible exact HLU2.out) | with_reducible apply Later.latr | with_reducible apply Later.alloc | with_reducible apply Later.drew | (with_reducible refine Later.set ?_ (by (simp; try omega)) _))) hw3 (by have := HLU2.out.size; omega))
  clear hw3 hH HLU2 hgU hgg
  go_wp2_with (fail)
  refine (done20 g _ _ hh3 (by decide)).later.mono ?_
  rintro e W4 ⟨rfl, hl4⟩
  have ht4 := (Blk.new W4 24 z24).thereN 32 z24_size
  have hg4 : g < W4.heap.size := (hh3.later hl4).lt
  replace HB1 := hid (HB1.out.later hl4)
  replace HB2 := hid (HB2.out.later hl4)
  have HL4 := hid (HL3.out.trans hl4)
  have HH4 := hid (hh3.later hl4)
  clear hl4 hh3 HL3
  simp only [List.nil_append]
  (try simp only [])
  (iterate 12 go_step)
  obtain ⟨U4, hU4⟩ : ∃ U, U = (W4.alloc (.cells z24 24)).setCells W4.heap.size 0 (bl (sha [97#8])) := ⟨_, rfl⟩
  have hl4 : Later W4 U4 := by rw [hU4]; exact later_sets (by repeat (first | (with_reducible exact Later.refl _) | with_reducible apply Later.latr | with_reducible apply Later.alloc | with_reducible apply Later.drew | (with_reducible refine Later.set ?_ (by (simp; try omega)) _))) (Nat.le_refl _) _ _
  have HB4 : Hid (Blk U4 W4.heap.size 24 (bl (sha [97#8])).toArray) := hid (by rw [hU4]; exact set24 _ lb (Blk.new W4 24 _) z24_size)
  rw [← hU4]
  replace HB1 := hid (HB1.out.later hl4)
  replace HB2 := hid (HB2.out.later hl4)
  replace HL4 := hid (HL4.out.trans hl4)
  replace HH4 := hid (HH4.out.later hl4)
  have hb24 : g < U4.heap.size := HH4.out.lt
  clear hU4 hl4 ht4
  generalize W4.heap.size = b4 at *
  go_wp2_with (fail)
  refine (add19 g _ _ [98#8, 99#8] _ (HH4.out.later (by repeat (first | (with_reducible exact Later.refl _) | with_reducible apply Later.latr | with_reducible apply Later.alloc | with_reducible apply Later.drew | (with_reducible refine Later.set ?_ (by (simp; try omega)) _)))) (Arr.new U4 5 (bl [98#8, 99#8]) 2 1 rfl (by decide)) (.inr ⟨_, _, _, rfl⟩) (off_new (b := U4.heap.size) (by omega)) (by decide)).mono ?_
  rintro e W5 ⟨rfl, hw5, hh5⟩
  replace HB1 := hid (hw5.blk (HB1.out.alloc _) (by omega))
  replace HB2 := hid (hw5.blk (HB2.out.alloc _) (by omega))
  replace HB4 := hid (hw5.blk (HB4.out.alloc _) (by omega))
  have HL5 := hid (Later.wr (a := w) (by repeat (first | (with_reducible exact Later.refl _) | (with_reducible exact HL4.out) | with_reducible apply Later.latr | with_reducible apply Later.alloc | with_reducible apply Later.drew | (with_reducible refine Later.set ?_ (by (simp; try omega)) _))) hw5 (by omega))
  have HH5 := hid hh5
  clear hw5 hh5 HH4 HL4
  have HL5' := HL5.out.size
  go_wp2_with (fail)
  have hu24 := Try.underlying24
  have hi1 : (Try.prog.info? 24).map (·.size) = some (bl (sha abc)).length := by rw [bl_len, la]; exact size24
  have hi4 : (Try.prog.info? 24).map (·.size) = some (bl (sha [97#8])).length := by rw [bl_len, lb]; exact size24
  have D0 : Later W5 W5.drew := (Later.refl _).drew
  have D1 : Later W5 (W5.alloc O8).drew := ((Later.refl _).alloc O8).drew
  have D2 : Later W5 ((W5.alloc O8).alloc O4).drew := (((Later.refl _).alloc O8).alloc O4).drew
  have D3 : Later W5 (((W5.alloc O8).alloc O4).alloc P4).drew := ((((Later.refl _).alloc O8).alloc O4).alloc P4).drew
  have k0 := fun (V : World) (hV : Later W5 V) => cut_head (k := 8) (HB1.out.later hV) la (by decide) (by decide) sha_abc8 rfl
  have k1 := fun (V : World) (hV : Later W5 V) => cut_tail (k := 28) (HB1.out.later hV) la (by decide) (by decide) sha_abc28
  have k2 := fun (V : World) (hV : Later W5 V) => cut_head (k := 4) (HB2.out.later hV) ln (by decide) (by decide) sha_nil4 rfl
  have k00 := k0 _ D0
  have k01 := k0 _ D1
  have k0l : (convert 22 9 (.slice (some ⟨W5.heap.size, 0, none⟩) 8 8)).run Try.prog (W5.alloc O8).drew = .ok (.string (strB d8)) (W5.alloc O8).drew := conv_arr (l := d8) (Arr.new W5 5 (bl d8) 8 1 rfl (by decide)).drew
  have k11 := k1 _ D1
  have k12 := k1 _ D2
  have k1l : (convert 22 9 (.slice (some ⟨W5.heap.size + 1, 0, none⟩) 4 4)).run Try.prog ((W5.alloc O8).alloc O4).drew = .ok (.string (strB d4)) ((W5.alloc O8).alloc O4).drew := conv_arr (l := d4) (arr_new (xs := bl d4) (n := 4) (size := 1) (by simp) rfl (by decide)).drew
  have k22 := k2 _ D2
  have k23 := k2 _ D3
  have k2l : (convert 22 9 (.slice (some ⟨W5.heap.size + 1 + 1, 0, none⟩) 4 4)).run Try.prog (((W5.alloc O8).alloc O4).alloc P4).drew = .ok (.string (strB e4)) (((W5.alloc O8).alloc O4).alloc P4).drew := conv_arr (l := e4) (arr_new (xs := bl e4) (n := 4) (size := 1) (by simp) rfl (by decide)).drew
  have T1 := (HB1.out.later D3).there0 32 ((bl_len _).trans la)
  have A1 := (HB1.out.later D3).agg 32 ((bl_len _).trans la)
  change _ = bagg (sha abc) at A1
  have T4 := (HB4.out.later D3).there0 32 ((bl_len _).trans lb)
  have A4 := (HB4.out.later D3).agg 32 ((bl_len _).trans lb)
  change _ = bagg (sha [97#8]) at A4
  have ne : same (sha [97#8]) (sha abc) = false := decide_eq_false sha_a_abc
  clear k0 k1 k2 D0 D1 D2 D3 hu24 hi1 hi4
  -- the region, group by group
  refine wp_region_any (by kernel_rfl) ?_
  (try (change wpAny _ _ _ _ _ _ _ (World.drew _)))
  refine cut_any (f' := 25) (#[true, true, true, true, true, true, false, false, false, false, false, false, false, false, false, false, false, false, false, false, false, false, false, false, false, false, false, false, false, false, false]) ?_ ?_ ?_ ?_
  rotate_left 2
  · intro hc
    refine wpAny_ready (rs := [0, 2]) (by kernel_rfl) (by simp) ?_
    refine AllReady.cons rfl (fun K hK => ?_) ?_
    · go_simp
      refine hK _ _ ?_
      clear hK K
      refine wpAny_ready (rs := [1, 2]) (by kernel_rfl) (by simp) ?_
      refine AllReady.cons rfl (fun K hK => ?_) ?_
      · go_simp
        refine hK _ _ ?_
        clear hK K
        refine wpAny_ready (rs := [2]) (by kernel_rfl) (by simp) ?_
        refine AllReady.cons rfl (fun K hK => ?_) ?_
        · go_simp
          refine hK _ _ ?_
          clear hK K
          refine wpAny_ready (rs := [3]) (by kernel_rfl) (by simp) ?_
          refine AllReady.cons rfl (fun K hK => ?_) ?_
          · go_simp
            refine hK _ _ ?_
            clear hK K
            refine wpAny_ready (rs := [4]) (by kernel_rfl) (by simp) ?_
            refine AllReady.cons rfl (fun K hK => ?_) ?_
            · go_simp
              refine hK _ _ ?_
              clear hK K
              refine wpAny_ready (rs := [5]) (by kernel_rfl) (by simp) ?_
              refine AllReady.cons rfl (fun K hK => ?_) ?_
              · go_simp
                refine hK _ _ ?_
                clear hK K
                exact hc _ (by kernel_rfl)
              exact AllReady.nil
            exact AllReady.nil
          exact AllReady.nil
        exact AllReady.nil
      refine AllReady.cons rfl (fun K hK => ?_) ?_
      · go_simp
        refine hK _ _ ?_
        clear hK K
        refine wpAny_ready (rs := [1, 3]) (by kernel_rfl) (by simp) ?_
        refine AllReady.cons rfl (fun K hK => ?_) ?_
        · go_simp
          refine hK _ _ ?_
          clear hK K
          refine wpAny_ready (rs := [3]) (by kernel_rfl) (by simp) ?_
          refine AllReady.cons rfl (fun K hK => ?_) ?_
          · go_simp
            refine hK _ _ ?_
            clear hK K
            refine wpAny_ready (rs := [4]) (by kernel_rfl) (by simp) ?_
            refine AllReady.cons rfl (fun K hK => ?_) ?_
            · go_simp
              refine hK _ _ ?_
              clear hK K
              refine wpAny_ready (rs := [5]) (by kernel_rfl) (by simp) ?_
              refine AllReady.cons rfl (fun K hK => ?_) ?_
              · go_simp
                refine hK _ _ ?_
                clear hK K
                exact hc _ (by kernel_rfl)
              exact AllReady.nil
            exact AllReady.nil
          exact AllReady.nil
        refine AllReady.cons rfl (fun K hK => ?_) ?_
        · go_simp
          refine hK _ _ ?_
          clear hK K
          refine wpAny_ready (rs := [1]) (by kernel_rfl) (by simp) ?_
          refine AllReady.cons rfl (fun K hK => ?_) ?_
          · go_simp
            refine hK _ _ ?_
            clear hK K
            refine wpAny_ready (rs := [4]) (by kernel_rfl) (by simp) ?_
            refine AllReady.cons rfl (fun K hK => ?_) ?_
            · go_simp
              refine hK _ _ ?_
              clear hK K
              refine wpAny_ready (rs := [5]) (by kernel_rfl) (by simp) ?_
              refine AllReady.cons rfl (fun K hK => ?_) ?_
              · go_simp
                refine hK _ _ ?_
                clear hK K
                exact hc _ (by kernel_rfl)
              exact AllReady.nil
            exact AllReady.nil
          exact AllReady.nil
        exact AllReady.nil
      exact AllReady.nil
    refine AllReady.cons rfl (fun K hK => ?_) ?_
    · go_simp
      refine hK _ _ ?_
      clear hK K
      refine wpAny_ready (rs := [0, 3]) (by kernel_rfl) (by simp) ?_
      refine AllReady.cons rfl (fun K hK => ?_) ?_
      · go_simp
        refine hK _ _ ?_
        clear hK K
        refine wpAny_ready (rs := [1, 3]) (by kernel_rfl) (by simp) ?_
        refine AllReady.cons rfl (fun K hK => ?_) ?_
        · go_simp
          refine hK _ _ ?_
          clear hK K
          refine wpAny_ready (rs := [3]) (by kernel_rfl) (by simp) ?_
          refine AllReady.cons rfl (fun K hK => ?_) ?_
          · go_simp
            refine hK _ _ ?_
            clear hK K
            refine wpAny_ready (rs := [4]) (by kernel_rfl) (by simp) ?_
            refine AllReady.cons rfl (fun K hK => ?_) ?_
            · go_simp
              refine hK _ _ ?_
              clear hK K
              refine wpAny_ready (rs := [5]) (by kernel_rfl) (by simp) ?_
              refine AllReady.cons rfl (fun K hK => ?_) ?_
              · go_simp
                refine hK _ _ ?_
                clear hK K
                exact hc _ (by kernel_rfl)
              exact AllReady.nil
            exact AllReady.nil
          exact AllReady.nil
        refine AllReady.cons rfl (fun K hK => ?_) ?_
        · go_simp
          refine hK _ _ ?_
          clear hK K
          refine wpAny_ready (rs := [1]) (by kernel_rfl) (by simp) ?_
          refine AllReady.cons rfl (fun K hK => ?_) ?_
          · go_simp
            refine hK _ _ ?_
            clear hK K
            refine wpAny_ready (rs := [4]) (by kernel_rfl) (by simp) ?_
            refine AllReady.cons rfl (fun K hK => ?_) ?_
            · go_simp
              refine hK _ _ ?_
              clear hK K
              refine wpAny_ready (rs := [5]) (by kernel_rfl) (by simp) ?_
              refine AllReady.cons rfl (fun K hK => ?_) ?_
              · go_simp
                refine hK _ _ ?_
                clear hK K
                exact hc _ (by kernel_rfl)
              exact AllReady.nil
            exact AllReady.nil
          exact AllReady.nil
        exact AllReady.nil
      refine AllReady.cons rfl (fun K hK => ?_) ?_
      · go_simp
        refine hK _ _ ?_
        clear hK K
        refine wpAny_ready (rs := [0]) (by kernel_rfl) (by simp) ?_
        refine AllReady.cons rfl (fun K hK => ?_) ?_
        · go_simp
          refine hK _ _ ?_
          clear hK K
          refine wpAny_ready (rs := [1]) (by kernel_rfl) (by simp) ?_
          refine AllReady.cons rfl (fun K hK => ?_) ?_
          · go_simp
            refine hK _ _ ?_
            clear hK K
            refine wpAny_ready (rs := [4]) (by kernel_rfl) (by simp) ?_
            refine AllReady.cons rfl (fun K hK => ?_) ?_
            · go_simp
              refine hK _ _ ?_
              clear hK K
              refine wpAny_ready (rs := [5]) (by kernel_rfl) (by simp) ?_
              refine AllReady.cons rfl (fun K hK => ?_) ?_
              · go_simp
                refine hK _ _ ?_
                clear hK K
                exact hc _ (by kernel_rfl)
              exact AllReady.nil
            exact AllReady.nil
          exact AllReady.nil
        exact AllReady.nil
      exact AllReady.nil
    exact AllReady.nil
  refine cut_any (f' := 18) (#[true, true, true, true, true, true, true, true, true, true, true, true, true, false, false, false, false, false, false, false, false, false, false, false, false, false, false, false, false, false, false]) ?_ ?_ ?_ ?_
  rotate_left 2
  · intro hc
    refine wpAny_ready (rs := [6, 8]) (by kernel_rfl) (by simp) ?_
    refine AllReady.cons rfl (fun K hK => ?_) ?_
    · go_simp
      refine hK _ _ ?_
      clear hK K
      refine wpAny_ready (rs := [7, 8]) (by kernel_rfl) (by simp) ?_
      refine AllReady.cons rfl (fun K hK => ?_) ?_
      · go_simp
        refine hK _ _ ?_
        clear hK K
        refine wpAny_ready (rs := [8]) (by kernel_rfl) (by simp) ?_
        refine AllReady.cons rfl (fun K hK => ?_) ?_
        · go_simp
          refine hK _ _ ?_
          clear hK K
          refine wpAny_ready (rs := [9]) (by kernel_rfl) (by simp) ?_
          refine AllReady.cons rfl (fun K hK => ?_) ?_
          · go_simp
            refine hK _ _ ?_
            clear hK K
            refine wpAny_ready (rs := [10]) (by kernel_rfl) (by simp) ?_
            refine AllReady.cons rfl (fun K hK => ?_) ?_
            · go_simp
              refine hK _ _ ?_
              clear hK K
              refine wpAny_ready (rs := [11]) (by kernel_rfl) (by simp) ?_
              refine AllReady.cons rfl (fun K hK => ?_) ?_
              · go_simp
                refine hK _ _ ?_
                clear hK K
                refine wpAny_ready (rs := [12]) (by kernel_rfl) (by simp) ?_
                refine AllReady.cons rfl (fun K hK => ?_) ?_
                · go_simp
                  refine hK _ _ ?_
                  clear hK K
                  exact hc _ (by kernel_rfl)
                exact AllReady.nil
              exact AllReady.nil
            exact AllReady.nil
          exact AllReady.nil
        exact AllReady.nil
      refine AllReady.cons rfl (fun K hK => ?_) ?_
      · go_simp
        refine hK _ _ ?_
        clear hK K
        refine wpAny_ready (rs := [7, 9]) (by kernel_rfl) (by simp) ?_
        refine AllReady.cons rfl (fun K hK => ?_) ?_
        · go_simp
          refine hK _ _ ?_
          clear hK K
          refine wpAny_ready (rs := [9]) (by kernel_rfl) (by simp) ?_
          refine AllReady.cons rfl (fun K hK => ?_) ?_
          · go_simp
            refine hK _ _ ?_
            clear hK K
            refine wpAny_ready (rs := [10]) (by kernel_rfl) (by simp) ?_
            refine AllReady.cons rfl (fun K hK => ?_) ?_
            · go_simp
              refine hK _ _ ?_
              clear hK K
              refine wpAny_ready (rs := [11]) (by kernel_rfl) (by simp) ?_
              refine AllReady.cons rfl (fun K hK => ?_) ?_
              · go_simp
                refine hK _ _ ?_
                clear hK K
                refine wpAny_ready (rs := [12]) (by kernel_rfl) (by simp) ?_
                refine AllReady.cons rfl (fun K hK => ?_) ?_
                · go_simp
                  refine hK _ _ ?_
                  clear hK K
                  exact hc _ (by kernel_rfl)
                exact AllReady.nil
              exact AllReady.nil
            exact AllReady.nil
          exact AllReady.nil
        refine AllReady.cons rfl (fun K hK => ?_) ?_
        · go_simp
          refine hK _ _ ?_
          clear hK K
          refine wpAny_ready (rs := [7]) (by kernel_rfl) (by simp) ?_
          refine AllReady.cons rfl (fun K hK => ?_) ?_
          · go_simp
            refine hK _ _ ?_
            clear hK K
            refine wpAny_ready (rs := [10]) (by kernel_rfl) (by simp) ?_
            refine AllReady.cons rfl (fun K hK => ?_) ?_
            · go_simp
              refine hK _ _ ?_
              clear hK K
              refine wpAny_ready (rs := [11]) (by kernel_rfl) (by simp) ?_
              refine AllReady.cons rfl (fun K hK => ?_) ?_
              · go_simp
                refine hK _ _ ?_
                clear hK K
                refine wpAny_ready (rs := [12]) (by kernel_rfl) (by simp) ?_
                refine AllReady.cons rfl (fun K hK => ?_) ?_
                · go_simp
                  refine hK _ _ ?_
                  clear hK K
                  exact hc _ (by kernel_rfl)
                exact AllReady.nil
              exact AllReady.nil
            exact AllReady.nil
          exact AllReady.nil
        exact AllReady.nil
      exact AllReady.nil
    refine AllReady.cons rfl (fun K hK => ?_) ?_
    · go_simp
      refine hK _ _ ?_
      clear hK K
      refine wpAny_ready (rs := [6, 9]) (by kernel_rfl) (by simp) ?_
      refine AllReady.cons rfl (fun K hK => ?_) ?_
      · go_simp
        refine hK _ _ ?_
        clear hK K
        refine wpAny_ready (rs := [7, 9]) (by kernel_rfl) (by simp) ?_
        refine AllReady.cons rfl (fun K hK => ?_) ?_
        · go_simp
          refine hK _ _ ?_
          clear hK K
          refine wpAny_ready (rs := [9]) (by kernel_rfl) (by simp) ?_
          refine AllReady.cons rfl (fun K hK => ?_) ?_
          · go_simp
            refine hK _ _ ?_
            clear hK K
            refine wpAny_ready (rs := [10]) (by kernel_rfl) (by simp) ?_
            refine AllReady.cons rfl (fun K hK => ?_) ?_
            · go_simp
              refine hK _ _ ?_
              clear hK K
              refine wpAny_ready (rs := [11]) (by kernel_rfl) (by simp) ?_
              refine AllReady.cons rfl (fun K hK => ?_) ?_
              · go_simp
                refine hK _ _ ?_
                clear hK K
                refine wpAny_ready (rs := [12]) (by kernel_rfl) (by simp) ?_
                refine AllReady.cons rfl (fun K hK => ?_) ?_
                · go_simp
                  refine hK _ _ ?_
                  clear hK K
                  exact hc _ (by kernel_rfl)
                exact AllReady.nil
              exact AllReady.nil
            exact AllReady.nil
          exact AllReady.nil
        refine AllReady.cons rfl (fun K hK => ?_) ?_
        · go_simp
          refine hK _ _ ?_
          clear hK K
          refine wpAny_ready (rs := [7]) (by kernel_rfl) (by simp) ?_
          refine AllReady.cons rfl (fun K hK => ?_) ?_
          · go_simp
            refine hK _ _ ?_
            clear hK K
            refine wpAny_ready (rs := [10]) (by kernel_rfl) (by simp) ?_
            refine AllReady.cons rfl (fun K hK => ?_) ?_
            · go_simp
              refine hK _ _ ?_
              clear hK K
              refine wpAny_ready (rs := [11]) (by kernel_rfl) (by simp) ?_
              refine AllReady.cons rfl (fun K hK => ?_) ?_
              · go_simp
                refine hK _ _ ?_
                clear hK K
                refine wpAny_ready (rs := [12]) (by kernel_rfl) (by simp) ?_
                refine AllReady.cons rfl (fun K hK => ?_) ?_
                · go_simp
                  refine hK _ _ ?_
                  clear hK K
                  exact hc _ (by kernel_rfl)
                exact AllReady.nil
              exact AllReady.nil
            exact AllReady.nil
          exact AllReady.nil
        exact AllReady.nil
      refine AllReady.cons rfl (fun K hK => ?_) ?_
      · go_simp
        refine hK _ _ ?_
        clear hK K
        refine wpAny_ready (rs := [6]) (by kernel_rfl) (by simp) ?_
        refine AllReady.cons rfl (fun K hK => ?_) ?_
        · go_simp
          refine hK _ _ ?_
          clear hK K
          refine wpAny_ready (rs := [7]) (by kernel_rfl) (by simp) ?_
          refine AllReady.cons rfl (fun K hK => ?_) ?_
          · go_simp
            refine hK _ _ ?_
            clear hK K
            refine wpAny_ready (rs := [10]) (by kernel_rfl) (by simp) ?_
            refine AllReady.cons rfl (fun K hK => ?_) ?_
            · go_simp
              refine hK _ _ ?_
              clear hK K
              refine wpAny_ready (rs := [11]) (by kernel_rfl) (by simp) ?_
              refine AllReady.cons rfl (fun K hK => ?_) ?_
              · go_simp
                refine hK _ _ ?_
                clear hK K
                refine wpAny_ready (rs := [12]) (by kernel_rfl) (by simp) ?_
                refine AllReady.cons rfl (fun K hK => ?_) ?_
                · go_simp
                  refine hK _ _ ?_
                  clear hK K
                  exact hc _ (by kernel_rfl)
                exact AllReady.nil
              exact AllReady.nil
            exact AllReady.nil
          exact AllReady.nil
        exact AllReady.nil
      exact AllReady.nil
    exact AllReady.nil
  refine cut_any (f' := 11) (#[true, true, true, true, true, true, true, true, true, true, true, true, true, true, true, true, true, true, true, true, false, false, false, false, false, false, false, false, false, false, false]) ?_ ?_ ?_ ?_
  rotate_left 2
  · intro hc
    refine wpAny_ready (rs := [13, 15]) (by kernel_rfl) (by simp) ?_
    refine AllReady.cons rfl (fun K hK => ?_) ?_
    · go_simp
      refine hK _ _ ?_
      clear hK K
      refine wpAny_ready (rs := [14, 15]) (by kernel_rfl) (by simp) ?_
      refine AllReady.cons rfl (fun K hK => ?_) ?_
      · go_simp
        refine hK _ _ ?_
        clear hK K
        refine wpAny_ready (rs := [15]) (by kernel_rfl) (by simp) ?_
        refine AllReady.cons rfl (fun K hK => ?_) ?_
        · go_simp
          refine hK _ _ ?_
          clear hK K
          refine wpAny_ready (rs := [16]) (by kernel_rfl) (by simp) ?_
          refine AllReady.cons rfl (fun K hK => ?_) ?_
          · go_simp
            refine hK _ _ ?_
            clear hK K
            refine wpAny_ready (rs := [17]) (by kernel_rfl) (by simp) ?_
            refine AllReady.cons rfl (fun K hK => ?_) ?_
            · go_simp
              refine hK _ _ ?_
              clear hK K
              refine wpAny_ready (rs := [18]) (by kernel_rfl) (by simp) ?_
              refine AllReady.cons rfl (fun K hK => ?_) ?_
              · go_simp
                refine hK _ _ ?_
                clear hK K
                refine wpAny_ready (rs := [19]) (by kernel_rfl) (by simp) ?_
                refine AllReady.cons rfl (fun K hK => ?_) ?_
                · go_simp
                  refine hK _ _ ?_
                  clear hK K
                  exact hc _ (by kernel_rfl)
                exact AllReady.nil
              exact AllReady.nil
            exact AllReady.nil
          exact AllReady.nil
        exact AllReady.nil
      refine AllReady.cons rfl (fun K hK => ?_) ?_
      · go_simp
        refine hK _ _ ?_
        clear hK K
        refine wpAny_ready (rs := [14, 16]) (by kernel_rfl) (by simp) ?_
        refine AllReady.cons rfl (fun K hK => ?_) ?_
        · go_simp
          refine hK _ _ ?_
          clear hK K
          refine wpAny_ready (rs := [16]) (by kernel_rfl) (by simp) ?_
          refine AllReady.cons rfl (fun K hK => ?_) ?_
          · go_simp
            refine hK _ _ ?_
            clear hK K
            refine wpAny_ready (rs := [17]) (by kernel_rfl) (by simp) ?_
            refine AllReady.cons rfl (fun K hK => ?_) ?_
            · go_simp
              refine hK _ _ ?_
              clear hK K
              refine wpAny_ready (rs := [18]) (by kernel_rfl) (by simp) ?_
              refine AllReady.cons rfl (fun K hK => ?_) ?_
              · go_simp
                refine hK _ _ ?_
                clear hK K
                refine wpAny_ready (rs := [19]) (by kernel_rfl) (by simp) ?_
                refine AllReady.cons rfl (fun K hK => ?_) ?_
                · go_simp
                  refine hK _ _ ?_
                  clear hK K
                  exact hc _ (by kernel_rfl)
                exact AllReady.nil
              exact AllReady.nil
            exact AllReady.nil
          exact AllReady.nil
        refine AllReady.cons rfl (fun K hK => ?_) ?_
        · go_simp
          refine hK _ _ ?_
          clear hK K
          refine wpAny_ready (rs := [14]) (by kernel_rfl) (by simp) ?_
          refine AllReady.cons rfl (fun K hK => ?_) ?_
          · go_simp
            refine hK _ _ ?_
            clear hK K
            refine wpAny_ready (rs := [17]) (by kernel_rfl) (by simp) ?_
            refine AllReady.cons rfl (fun K hK => ?_) ?_
            · go_simp
              refine hK _ _ ?_
              clear hK K
              refine wpAny_ready (rs := [18]) (by kernel_rfl) (by simp) ?_
              refine AllReady.cons rfl (fun K hK => ?_) ?_
              · go_simp
                refine hK _ _ ?_
                clear hK K
                refine wpAny_ready (rs := [19]) (by kernel_rfl) (by simp) ?_
                refine AllReady.cons rfl (fun K hK => ?_) ?_
                · go_simp
                  refine hK _ _ ?_
                  clear hK K
                  exact hc _ (by kernel_rfl)
                exact AllReady.nil
              exact AllReady.nil
            exact AllReady.nil
          exact AllReady.nil
        exact AllReady.nil
      exact AllReady.nil
    refine AllReady.cons rfl (fun K hK => ?_) ?_
    · go_simp
      refine hK _ _ ?_
      clear hK K
      refine wpAny_ready (rs := [13, 16]) (by kernel_rfl) (by simp) ?_
      refine AllReady.cons rfl (fun K hK => ?_) ?_
      · go_simp
        refine hK _ _ ?_
        clear hK K
        refine wpAny_ready (rs := [14, 16]) (by kernel_rfl) (by simp) ?_
        refine AllReady.cons rfl (fun K hK => ?_) ?_
        · go_simp
          refine hK _ _ ?_
          clear hK K
          refine wpAny_ready (rs := [16]) (by kernel_rfl) (by simp) ?_
          refine AllReady.cons rfl (fun K hK => ?_) ?_
          · go_simp
            refine hK _ _ ?_
            clear hK K
            refine wpAny_ready (rs := [17]) (by kernel_rfl) (by simp) ?_
            refine AllReady.cons rfl (fun K hK => ?_) ?_
            · go_simp
              refine hK _ _ ?_
              clear hK K
              refine wpAny_ready (rs := [18]) (by kernel_rfl) (by simp) ?_
              refine AllReady.cons rfl (fun K hK => ?_) ?_
              · go_simp
                refine hK _ _ ?_
                clear hK K
                refine wpAny_ready (rs := [19]) (by kernel_rfl) (by simp) ?_
                refine AllReady.cons rfl (fun K hK => ?_) ?_
                · go_simp
                  refine hK _ _ ?_
                  clear hK K
                  exact hc _ (by kernel_rfl)
                exact AllReady.nil
              exact AllReady.nil
            exact AllReady.nil
          exact AllReady.nil
        refine AllReady.cons rfl (fun K hK => ?_) ?_
        · go_simp
          refine hK _ _ ?_
          clear hK K
          refine wpAny_ready (rs := [14]) (by kernel_rfl) (by simp) ?_
          refine AllReady.cons rfl (fun K hK => ?_) ?_
          · go_simp
            refine hK _ _ ?_
            clear hK K
            refine wpAny_ready (rs := [17]) (by kernel_rfl) (by simp) ?_
            refine AllReady.cons rfl (fun K hK => ?_) ?_
            · go_simp
              refine hK _ _ ?_
              clear hK K
              refine wpAny_ready (rs := [18]) (by kernel_rfl) (by simp) ?_
              refine AllReady.cons rfl (fun K hK => ?_) ?_
              · go_simp
                refine hK _ _ ?_
                clear hK K
                refine wpAny_ready (rs := [19]) (by kernel_rfl) (by simp) ?_
                refine AllReady.cons rfl (fun K hK => ?_) ?_
                · go_simp
                  refine hK _ _ ?_
                  clear hK K
                  exact hc _ (by kernel_rfl)
                exact AllReady.nil
              exact AllReady.nil
            exact AllReady.nil
          exact AllReady.nil
        exact AllReady.nil
      refine AllReady.cons rfl (fun K hK => ?_) ?_
      · go_simp
        refine hK _ _ ?_
        clear hK K
        refine wpAny_ready (rs := [13]) (by kernel_rfl) (by simp) ?_
        refine AllReady.cons rfl (fun K hK => ?_) ?_
        · go_simp
          refine hK _ _ ?_
          clear hK K
          refine wpAny_ready (rs := [14]) (by kernel_rfl) (by simp) ?_
          refine AllReady.cons rfl (fun K hK => ?_) ?_
          · go_simp
            refine hK _ _ ?_
            clear hK K
            refine wpAny_ready (rs := [17]) (by kernel_rfl) (by simp) ?_
            refine AllReady.cons rfl (fun K hK => ?_) ?_
            · go_simp
              refine hK _ _ ?_
              clear hK K
              refine wpAny_ready (rs := [18]) (by kernel_rfl) (by simp) ?_
              refine AllReady.cons rfl (fun K hK => ?_) ?_
              · go_simp
                refine hK _ _ ?_
                clear hK K
                refine wpAny_ready (rs := [19]) (by kernel_rfl) (by simp) ?_
                refine AllReady.cons rfl (fun K hK => ?_) ?_
                · go_simp
                  refine hK _ _ ?_
                  clear hK K
                  exact hc _ (by kernel_rfl)
                exact AllReady.nil
              exact AllReady.nil
            exact AllReady.nil
          exact AllReady.nil
        exact AllReady.nil
      exact AllReady.nil
    exact AllReady.nil
  refine cut_any (f' := 6) (#[true, true, true, true, true, true, true, true, true, true, true, true, true, true, true, true, true, true, true, true, true, true, true, true, true, false, false, false, false, false, false]) ?_ ?_ ?_ ?_
  rotate_left 2
  · intro hc
    refine wpAny_ready (rs := [20, 21]) (by kernel_rfl) (by simp) ?_
    refine AllReady.cons rfl (fun K hK => ?_) ?_
    · go_simp
      refine hK _ _ ?_
      clear hK K
      refine wpAny_ready (rs := [21]) (by kernel_rfl) (by simp) ?_
      refine AllReady.cons rfl (fun K hK => ?_) ?_
      · go_simp
        refine hK _ _ ?_
        clear hK K
        refine wpAny_ready (rs := [22]) (by kernel_rfl) (by simp) ?_
        refine AllReady.cons rfl (fun K hK => ?_) ?_
        · go_simp
          refine hK _ _ ?_
          clear hK K
          refine wpAny_ready (rs := [23]) (by kernel_rfl) (by simp) ?_
          refine AllReady.cons rfl (fun K hK => ?_) ?_
          · go_simp
            refine hK _ _ ?_
            clear hK K
            refine wpAny_ready (rs := [24]) (by kernel_rfl) (by simp) ?_
            refine AllReady.cons rfl (fun K hK => ?_) ?_
            · go_simp
              refine hK _ _ ?_
              clear hK K
              exact hc _ (by kernel_rfl)
            exact AllReady.nil
          exact AllReady.nil
        exact AllReady.nil
      exact AllReady.nil
    refine AllReady.cons rfl (fun K hK => ?_) ?_
    · go_simp
      refine hK _ _ ?_
      clear hK K
      refine wpAny_ready (rs := [20]) (by kernel_rfl) (by simp) ?_
      refine AllReady.cons rfl (fun K hK => ?_) ?_
      · go_simp
        refine hK _ _ ?_
        clear hK K
        refine wpAny_ready (rs := [22]) (by kernel_rfl) (by simp) ?_
        refine AllReady.cons rfl (fun K hK => ?_) ?_
        · go_simp
          refine hK _ _ ?_
          clear hK K
          refine wpAny_ready (rs := [23]) (by kernel_rfl) (by simp) ?_
          refine AllReady.cons rfl (fun K hK => ?_) ?_
          · go_simp
            refine hK _ _ ?_
            clear hK K
            refine wpAny_ready (rs := [24]) (by kernel_rfl) (by simp) ?_
            refine AllReady.cons rfl (fun K hK => ?_) ?_
            · go_simp
              refine hK _ _ ?_
              clear hK K
              exact hc _ (by kernel_rfl)
            exact AllReady.nil
          exact AllReady.nil
        exact AllReady.nil
      exact AllReady.nil
    exact AllReady.nil
  refine wpAny_ready (rs := [25, 27]) (by kernel_rfl) (by simp) ?_
  refine AllReady.cons rfl (fun K hK => ?_) ?_
  · go_simp
    refine hK _ _ ?_
    clear hK K
    refine wpAny_ready (rs := [26, 27]) (by kernel_rfl) (by simp) ?_
    refine AllReady.cons rfl (fun K hK => ?_) ?_
    · go_simp
      go_wp2_with (first | (go_at_call 20; refine (done20 g abc _ (HH5.out.later (by repeat (first | (with_reducible exact Later.refl _) | (with_reducible assumption) | with_reducible apply Later.latr | with_reducible apply Later.alloc | with_reducible apply Later.drew | (with_reducible refine Later.set ?_ (by (simp; try omega)) _)))) (by decide)).later.mono ?_; rintro e W6 ⟨rfl, hl6⟩; have hl6U : Later W5 W6 := Later.trans (a := W5) (by repeat (first | (with_reducible exact Later.refl _) | (with_reducible assumption) | with_reducible apply Later.latr | with_reducible apply Later.alloc | with_reducible apply Later.drew | (with_reducible refine Later.set ?_ (by (simp; try omega)) _))) hl6; have T6 := (HB1.out.later hl6U).there0 32 ((bl_len _).trans la); have A6 := (HB1.out.later hl6U).agg 32 ((bl_len _).trans la); change _ = bagg (sha abc) at A6))
      (try (refine hK _ _ ?_; clear hK K))
      refine wpAny_ready (rs := [27]) (by kernel_rfl) (by simp) ?_
      refine AllReady.cons rfl (fun K hK => ?_) ?_
      · go_simp
        refine hK _ _ ?_
        clear hK K
        refine wpAny_ready (rs := [28]) (by kernel_rfl) (by simp) ?_
        refine AllReady.cons rfl (fun K hK => ?_) ?_
        · go_simp
          refine hK _ _ ?_
          clear hK K
          refine wpAny_ready (rs := [29]) (by kernel_rfl) (by simp) ?_
          refine AllReady.cons rfl (fun K hK => ?_) ?_
          · go_simp
            refine hK _ _ ?_
            clear hK K
            refine wpAny_ready (rs := [30]) (by kernel_rfl) (by simp) ?_
            refine AllReady.cons rfl (fun K hK => ?_) ?_
            · go_simp
              refine hK _ _ ?_
              clear hK K
              refine _root_.Go.wpAny_done (by kernel_rfl) ?_ _
              go_wp2_with (fail)
              go_ret
              exact ⟨rfl, Later.trans (a := w) HL5.out (by repeat (first | (with_reducible exact Later.refl _) | (with_reducible assumption) | with_reducible apply Later.latr | with_reducible apply Later.alloc | with_reducible apply Later.drew | (with_reducible refine Later.set ?_ (by (simp; try omega)) _)))⟩
            exact AllReady.nil
          exact AllReady.nil
        exact AllReady.nil
      exact AllReady.nil
    refine AllReady.cons rfl (fun K hK => ?_) ?_
    · go_simp
      refine hK _ _ ?_
      clear hK K
      refine wpAny_ready (rs := [26]) (by kernel_rfl) (by simp) ?_
      refine AllReady.cons rfl (fun K hK => ?_) ?_
      · go_simp
        go_wp2_with (first | (go_at_call 20; refine (done20 g abc _ (HH5.out.later (by repeat (first | (with_reducible exact Later.refl _) | (with_reducible assumption) | with_reducible apply Later.latr | with_reducible apply Later.alloc | with_reducible apply Later.drew | (with_reducible refine Later.set ?_ (by (simp; try omega)) _)))) (by decide)).later.mono ?_; rintro e W6 ⟨rfl, hl6⟩; have hl6U : Later W5 W6 := Later.trans (a := W5) (by repeat (first | (with_reducible exact Later.refl _) | (with_reducible assumption) | with_reducible apply Later.latr | with_reducible apply Later.alloc | with_reducible apply Later.drew | (with_reducible refine Later.set ?_ (by (simp; try omega)) _))) hl6; have T6 := (HB1.out.later hl6U).there0 32 ((bl_len _).trans la); have A6 := (HB1.out.later hl6U).agg 32 ((bl_len _).trans la); change _ = bagg (sha abc) at A6))
        (try (refine hK _ _ ?_; clear hK K))
        refine wpAny_ready (rs := [28]) (by kernel_rfl) (by simp) ?_
        refine AllReady.cons rfl (fun K hK => ?_) ?_
        · go_simp
          refine hK _ _ ?_
          clear hK K
          refine wpAny_ready (rs := [29]) (by kernel_rfl) (by simp) ?_
          refine AllReady.cons rfl (fun K hK => ?_) ?_
          · go_simp
            refine hK _ _ ?_
            clear hK K
            refine wpAny_ready (rs := [30]) (by kernel_rfl) (by simp) ?_
            refine AllReady.cons rfl (fun K hK => ?_) ?_
            · go_simp
              refine hK _ _ ?_
              clear hK K
              refine _root_.Go.wpAny_done (by kernel_rfl) ?_ _
              go_wp2_with (fail)
              go_ret
              exact ⟨rfl, Later.trans (a := w) HL5.out (by repeat (first | (with_reducible exact Later.refl _) | (with_reducible assumption) | with_reducible apply Later.latr | with_reducible apply Later.alloc | with_reducible apply Later.drew | (with_reducible refine Later.set ?_ (by (simp; try omega)) _)))⟩
            exact AllReady.nil
          exact AllReady.nil
        exact AllReady.nil
      exact AllReady.nil
    exact AllReady.nil
  refine AllReady.cons rfl (fun K hK => ?_) ?_
  · go_simp
    refine hK _ _ ?_
    clear hK K
    refine wpAny_ready (rs := [25]) (by kernel_rfl) (by simp) ?_
    refine AllReady.cons rfl (fun K hK => ?_) ?_
    · go_simp
      refine hK _ _ ?_
      clear hK K
      refine wpAny_ready (rs := [26]) (by kernel_rfl) (by simp) ?_
      refine AllReady.cons rfl (fun K hK => ?_) ?_
      · go_simp
        go_wp2_with (first | (go_at_call 20; refine (done20 g abc _ (HH5.out.later (by repeat (first | (with_reducible exact Later.refl _) | (with_reducible assumption) | with_reducible apply Later.latr | with_reducible apply Later.alloc | with_reducible apply Later.drew | (with_reducible refine Later.set ?_ (by (simp; try omega)) _)))) (by decide)).later.mono ?_; rintro e W6 ⟨rfl, hl6⟩; have hl6U : Later W5 W6 := Later.trans (a := W5) (by repeat (first | (with_reducible exact Later.refl _) | (with_reducible assumption) | with_reducible apply Later.latr | with_reducible apply Later.alloc | with_reducible apply Later.drew | (with_reducible refine Later.set ?_ (by (simp; try omega)) _))) hl6; have T6 := (HB1.out.later hl6U).there0 32 ((bl_len _).trans la); have A6 := (HB1.out.later hl6U).agg 32 ((bl_len _).trans la); change _ = bagg (sha abc) at A6))
        (try (refine hK _ _ ?_; clear hK K))
        refine wpAny_ready (rs := [28]) (by kernel_rfl) (by simp) ?_
        refine AllReady.cons rfl (fun K hK => ?_) ?_
        · go_simp
          refine hK _ _ ?_
          clear hK K
          refine wpAny_ready (rs := [29]) (by kernel_rfl) (by simp) ?_
          refine AllReady.cons rfl (fun K hK => ?_) ?_
          · go_simp
            refine hK _ _ ?_
            clear hK K
            refine wpAny_ready (rs := [30]) (by kernel_rfl) (by simp) ?_
            refine AllReady.cons rfl (fun K hK => ?_) ?_
            · go_simp
              refine hK _ _ ?_
              clear hK K
              refine _root_.Go.wpAny_done (by kernel_rfl) ?_ _
              go_wp2_with (fail)
              go_ret
              exact ⟨rfl, Later.trans (a := w) HL5.out (by repeat (first | (with_reducible exact Later.refl _) | (with_reducible assumption) | with_reducible apply Later.latr | with_reducible apply Later.alloc | with_reducible apply Later.drew | (with_reducible refine Later.set ?_ (by (simp; try omega)) _)))⟩
            exact AllReady.nil
          exact AllReady.nil
        exact AllReady.nil
      exact AllReady.nil
    exact AllReady.nil
  exact AllReady.nil
end Go.Proofs.Ytnidpncacgknkaa
