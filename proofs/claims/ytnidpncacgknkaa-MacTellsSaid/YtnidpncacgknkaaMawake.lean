/- The walk of package bobstaylaw05's head (awake): it answers true. No condition. -/
import Derived.Test.YtnidpncacgknkaaKey
namespace Go.Proofs.Ytnidpncacgknkaa
open Go.RowKit
attribute [local go_sem] ite_max ite_min
attribute [local go_sem ↓] Go.wp_at_zero Go.wp_at_succ
theorem conv_same2 (w : World) (C : Array Value) (g n c : Nat) (hg : g = w.heap.size) : (convert 22 22 (.slice (some ⟨g, 0, none⟩) n c)).run Try.prog (w.alloc (.cells C 5)) = .ok (.slice (some ⟨g, 0, none⟩) n c) (w.alloc (.cells C 5 (C.size, C.size + 1))) := by
  subst hg
  exact conv_same w C n c
attribute [local go_sem] conv_same2
attribute [local go_sem] h_lt1 h_lt2 h_lt3 h_lt4 h_lt5 h_lt6 h_eq1 h_qe1 h_eq2 h_qe2 h_eq3 h_qe3 h_eq4 h_qe4 h_eq5 h_qe5 h_eq6 h_qe6
/-- orders of a group meet in a world that came later -/
theorem cut_later {P : Program} {md : Region.Mode} {ops : Array Oper} {Q : Exit → Act → World → Prop} {f f' : Nat} {L : Array Bool} {a : Act} {w : World} (L' : Array Bool) (a' : Act)
    (h1 : (∀ L2 w', L2 = L' → Later w w' → wpAny P md ops Q f' L2 a' w') → wpAny P md ops Q f L a w) (h2 : ∀ w', Later w w' → wpAny P md ops Q f' L' a' w') : wpAny P md ops Q f L a w := h1 fun _ _ e hl => e ▸ h2 _ hl
theorem Later.of_drew {a w : World} (h : Later a w) : Later a.drew w := ⟨h.os, h.tape, h.output, h.size, h.block⟩
theorem conv_whole {w : World} {g : Nat} {t : TypeId} {l : List B8} {n : Nat} (h : Blk w g t (bl l).toArray) (hl : l.length = n) (hn : n ≤ maxLen) : (convert 22 9 (.slice (some ⟨g, 0, none⟩) n n)).run Try.prog w = .ok (.string (strB l)) w := by
  subst hl
  exact conv_arr (l := l) (arr_blk h hn)
abbrev jefe : List B8 := [74#8, 101#8, 102#8, 101#8]
abbrev tx1 : List B8 := [119#8, 104#8, 97#8, 116#8, 32#8, 100#8, 111#8, 32#8, 121#8, 97#8, 32#8, 119#8, 97#8, 110#8, 116#8, 32#8]
abbrev tx2 : List B8 := [102#8, 111#8, 114#8, 32#8, 110#8, 111#8, 116#8, 104#8, 105#8, 110#8, 103#8, 63#8]
abbrev txt : List B8 := tx1 ++ tx2
abbrev e1 : List B8 := [0x5b#8, 0xdc#8, 0xc1#8, 0x46#8]
abbrev e2 : List B8 := [0x64#8, 0xec#8, 0x38#8, 0x43#8]
abbrev zer : List B8 := List.replicate 16 0#8
theorem code_head : (hmac jefe txt).take 4 = e1 := by decide +kernel
theorem code_tail0 : (hmac jefe txt).drop 28 = e2 := by decide +kernel
theorem tag_zero : (hmac jefe txt).take 16 ≠ zer := by decide +kernel
abbrev O1 : Obj := .cells #[.int .u8 91, .int .u8 220, .int .u8 193, .int .u8 70] 5
abbrev O2 : Obj := .cells #[.int .u8 100, .int .u8 236, .int .u8 56, .int .u8 67] 5
abbrev OJ : Obj := .cells #[.int .u8 74, .int .u8 101, .int .u8 102, .int .u8 101] 5
abbrev OJF : Obj := .cells #[.int .u8 74, .int .u8 101, .int .u8 102, .int .u8 101] 5 (4, 5)
theorem texts2 {w : World} {tv v1 v2 : Value} {t1 t2 : List B8} (h : Arr w 1 tv 2 [v1, v2]) (h1 : Arr w 1 v1 t1.length (bl t1)) (s1 : Shape v1) (h2 : Arr w 1 v2 t2.length (bl t2)) (s2 : Shape v2) : Texts w tv [t1, t2] := by
  refine ⟨[v1, v2], rfl, h, fun i v t hv ht => ?_⟩
  match i, hv, ht with
  | 0, hv, ht => simp at hv ht; subst hv ht; exact ⟨h1, s1⟩
  | 1, hv, ht => simp at hv ht; subst hv ht; exact ⟨h2, s2⟩
  | i + 2, hv, _ => simp at hv
theorem texts1 {w : World} {tv v1 : Value} {t1 : List B8} (h : Arr w 1 tv 1 [v1]) (h1 : Arr w 1 v1 t1.length (bl t1)) (s1 : Shape v1) : Texts w tv [t1] := by
  refine ⟨[v1], rfl, h, fun i v t hv ht => ?_⟩
  match i, hv, ht with
  | 0, hv, ht => simp at hv ht; subst hv ht; exact ⟨h1, s1⟩
  | i + 1, hv, _ => simp at hv
theorem arr_newf {W : World} {t : TypeId} {xs : List Value} {n size g : Nat} {fr : Nat × Nat} (hg : g = W.heap.size) (hn : xs.length = n * size) (hm : n ≤ maxLen) : Arr (W.alloc (.cells xs.toArray t fr)) size (.slice (some ⟨g, 0, none⟩) n n) n xs := by
  subst hg
  exact Arr.newf W t xs n size fr hn hm
set_option maxRecDepth 100000 in
set_option maxHeartbeats 8000000 in
theorem awake11 (w : World) : Gives Try.prog 11 #[] w (.bool true) := by
  apply gives_of
  (go_enter Try.func11, Try.ntmps11; go_wp2_with (fail))
  have hH : hmac jefe [tx1, tx2].flatten = hmac jefe txt := by rw [show [tx1, tx2].flatten = txt from rfl]
  have hG : (hmac jefe [txt].flatten).take 16 = (hmac jefe txt).take 16 := by rw [show [txt].flatten = txt from rfl]
  have lcode := hmac_len jefe txt
  have code_tail := code_tail0
  have code_hd := code_head
  have tz := tag_zero
  have aJ := (((arr_newf (W := w) (t := 5) (xs := bl jefe) (n := 4) (size := 1) (fr := (4, 5)) rfl rfl (by decide)).alloc (.cells (bl tx1).toArray 5 (16, 17))).alloc (.cells (bl tx2).toArray 5 (12, 13))).alloc (.cells #[.slice (some ⟨w.heap.size + 1, 0, none⟩) 16 16, .slice (some ⟨w.heap.size + 1 + 1, 0, none⟩) 12 12] 22)
  have a1 := ((arr_newf (W := w.alloc (.cells (bl jefe).toArray 5 (4, 5))) (t := 5) (xs := bl tx1) (n := 16) (size := 1) (g := w.heap.size + 1) (fr := (16, 17)) (by simp) rfl (by decide)).alloc (.cells (bl tx2).toArray 5 (12, 13))).alloc (.cells #[.slice (some ⟨w.heap.size + 1, 0, none⟩) 16 16, .slice (some ⟨w.heap.size + 1 + 1, 0, none⟩) 12 12] 22)
  have a2 := (arr_newf (W := (w.alloc (.cells (bl jefe).toArray 5 (4, 5))).alloc (.cells (bl tx1).toArray 5 (16, 17))) (t := 5) (xs := bl tx2) (n := 12) (size := 1) (g := w.heap.size + 1 + 1) (fr := (12, 13)) (by simp) rfl (by decide)).alloc (.cells #[.slice (some ⟨w.heap.size + 1, 0, none⟩) 16 16, .slice (some ⟨w.heap.size + 1 + 1, 0, none⟩) 12 12] 22)
  refine (mac12 _ jefe _ [tx1, tx2] _ aJ (.inr ⟨_, _, _, rfl⟩) (texts2 (arr_new (xs := [_, _]) (n := 2) (size := 1) (by simp) rfl (by decide)) a1 (.inr ⟨_, _, _, rfl⟩) a2 (.inr ⟨_, _, _, rfl⟩)) (by decide) (by decide)).later.mono ?_
  clear aJ a1 a2
  have ltg : ((hmac jefe txt).take 16).length = 16 := by rw [List.length_take, lcode]; rfl
  have str_txt : hmac jefe (strBytes { data := #[119, 104, 97, 116, 32, 100, 111, 32, 121, 97, 32, 119, 97, 110, 116, 32, 102, 111, 114, 32, 110, 111, 116, 104, 105, 110, 103, 63] }) = hmac jefe txt := by rw [show strBytes { data := #[119, 104, 97, 116, 32, 100, 111, 32, 121, 97, 32, 119, 97, 110, 116, 32, 102, 111, 114, 32, 110, 111, 116, 104, 105, 110, 103, 63] } = txt from by decide]
  obtain ⟨code, hcode⟩ : ∃ c, c = hmac jefe txt := ⟨_, rfl⟩
  rw [← hcode] at hH hG lcode code_tail code_hd tz ltg str_txt
  rw [hH]
  obtain ⟨tg, htg⟩ : ∃ t, t = code.take 16 := ⟨_, rfl⟩
  rw [← htg] at hG tz ltg
  have HTG := hid htg.symm
  clear hH hcode htg
  rintro e W1 ⟨rfl, hl1⟩
  have HL1 := hid (Later.trans (a := w) (by repeat (first | (with_reducible exact Later.refl _) | with_reducible apply Later.latr | with_reducible apply Later.alloc | with_reducible apply Later.drew | (with_reducible refine Later.set ?_ (by (simp; try omega)) _))) hl1)
  have ht1 := (Blk.new W1 24 z24).thereN 32 z24_size
  clear hl1
  (try simp only [])
  (iterate 8 go_step)
  obtain ⟨U1, hU1⟩ : ∃ U, U = (W1.alloc (.cells z24 24)).setCells W1.heap.size 0 (bl code) := ⟨_, rfl⟩
  have HB1 : Hid (Blk U1 W1.heap.size 24 (bl code).toArray) := hid (by rw [hU1]; exact set24 _ lcode (Blk.new W1 24 _) z24_size)
  have HLU1 : Hid (Later w U1) := hid (by rw [hU1]; exact later_sets (HL1.out.alloc _) HL1.out.size _ _)
  rw [← hU1]
  clear hU1 HL1 ht1
  generalize W1.heap.size = b1 at *
  go_wp2_with (fail)
  have aJ := ((arr_newf (W := U1) (t := 5) (xs := bl jefe) (n := 4) (size := 1) (fr := (4, 5)) rfl rfl (by decide)).alloc (.cells (bl txt).toArray 5 (28, 29))).alloc (.cells #[.slice (some ⟨U1.heap.size + 1, 0, none⟩) 28 28] 22)
  have a1 := (arr_newf (W := U1.alloc (.cells (bl jefe).toArray 5 (4, 5))) (t := 5) (xs := bl txt) (n := 28) (size := 1) (g := U1.heap.size + 1) (fr := (28, 29)) (by simp) rfl (by decide)).alloc (.cells #[.slice (some ⟨U1.heap.size + 1, 0, none⟩) 28 28] 22)
  refine (tag13 _ jefe _ [txt] _ aJ (.inr ⟨_, _, _, rfl⟩) (texts1 (arr_new (xs := [_]) (n := 1) (size := 1) (by simp) rfl (by decide)) a1 (.inr ⟨_, _, _, rfl⟩)) (by decide) (by decide)).later.mono ?_
  clear aJ a1
  rw [hG]
  rintro e W2 ⟨rfl, hl2⟩
  have hl2U := Later.trans (a := U1) (by repeat (first | (with_reducible exact Later.refl _) | with_reducible apply Later.latr | with_reducible apply Later.alloc | with_reducible apply Later.drew | (with_reducible refine Later.set ?_ (by (simp; try omega)) _))) hl2
  replace HB1 := hid (HB1.out.later hl2U)
  have HL2 := hid (HLU1.out.trans hl2U)
  have ht2 := (Blk.new W2 26 z26).thereN 16 z26_size
  clear hl2 hl2U HLU1 hG
  (try simp only [])
  (iterate 8 go_step)
  obtain ⟨W, hW⟩ : ∃ U, U = (W2.alloc (.cells z26 26)).setCells W2.heap.size 0 (bl tg) := ⟨_, rfl⟩
  have hlW : Later W2 W := by rw [hW]; exact later_sets (by repeat (first | (with_reducible exact Later.refl _) | with_reducible apply Later.latr | with_reducible apply Later.alloc | with_reducible apply Later.drew | (with_reducible refine Later.set ?_ (by (simp; try omega)) _))) (Nat.le_refl _) _ _
  have HB2 : Hid (Blk W W2.heap.size 26 (bl tg).toArray) := hid (by rw [hW]; exact set26 _ ltg (Blk.new W2 26 _) z26_size)
  have HLW : Hid (Later w W) := hid (HL2.out.trans hlW)
  replace HB1 := hid (HB1.out.later hlW)
  rw [← hW]
  clear hW hlW HL2 ht2
  generalize W2.heap.size = b2 at *
  go_wp2_with (fail)
  have D0 : Later W W.drew := (Later.refl _).drew
  have D1 : Later W (W.alloc O1).drew := ((Later.refl _).alloc O1).drew
  have k00 := cut_head (k := 4) (HB1.out.later D0) lcode (by decide) (by decide) code_hd rfl
  have k01 := cut_head (k := 4) (HB1.out.later D1) lcode (by decide) (by decide) code_hd rfl
  have k0l : (convert 22 9 (.slice (some ⟨W.heap.size, 0, none⟩) 4 4)).run Try.prog (W.alloc O1).drew = .ok (.string (strB e1)) (W.alloc O1).drew := conv_arr (l := e1) (Arr.new W 5 (bl e1) 4 1 rfl (by decide)).drew
  have ne : same tg zer = false := decide_eq_false tz
  have hct := hid code_tail
  clear D0 D1 code_hd code_tail tz
  -- the region, group by group
  refine wp_region_any (by kernel_rfl) ?_
  (try (change wpAny _ _ _ _ _ _ _ (World.drew _)))
  refine cut_later (f' := 32) (#[true, true, true, true, true, true, false, false, false, false, false, false, false, false, false, false, false, false, false, false, false, false, false, false, false, false, false, false, false, false, false, false, false, false, false, false, false, false]) ?_ ?_ ?_
  rotate_left 1
  · intro hc
    refine wpAny_ready (rs := [0, 2]) (by kernel_rfl) (by simp) ?_
    refine AllReady.cons rfl (fun K hK => ?_) ?_
    · go_simp
      refine hK _ _ ?_
      clear hK K
      refine wpAny_ready (rs := [1, 2]) (by kernel_rfl) (by simp) ?_
      refine AllReady.cons rfl (fun K hK => ?_) ?_
      · go_simp
        refine hK _ _ ?_
        clear hK K
        refine wpAny_ready (rs := [2]) (by kernel_rfl) (by simp) ?_
        refine AllReady.cons rfl (fun K hK => ?_) ?_
        · go_simp
          refine hK _ _ ?_
          clear hK K
          refine wpAny_ready (rs := [3]) (by kernel_rfl) (by simp) ?_
          refine AllReady.cons rfl (fun K hK => ?_) ?_
          · go_simp
            refine hK _ _ ?_
            clear hK K
            refine wpAny_ready (rs := [4]) (by kernel_rfl) (by simp) ?_
            refine AllReady.cons rfl (fun K hK => ?_) ?_
            · go_simp
              refine hK _ _ ?_
              clear hK K
              refine wpAny_ready (rs := [5]) (by kernel_rfl) (by simp) ?_
              refine AllReady.cons rfl (fun K hK => ?_) ?_
              · go_simp
                refine hK _ _ ?_
                clear hK K
                refine hc _ _ (by kernel_rfl) ?_
                exact (Later.of_drew (by repeat (first | (with_reducible exact Later.refl _) | (with_reducible assumption) | with_reducible apply Later.latr | with_reducible apply Later.alloc | with_reducible apply Later.drew | (with_reducible refine Later.set ?_ (by (simp; try omega)) _))))
              exact AllReady.nil
            exact AllReady.nil
          exact AllReady.nil
        exact AllReady.nil
      refine AllReady.cons rfl (fun K hK => ?_) ?_
      · go_simp
        refine hK _ _ ?_
        clear hK K
        refine wpAny_ready (rs := [1, 3]) (by kernel_rfl) (by simp) ?_
        refine AllReady.cons rfl (fun K hK => ?_) ?_
        · go_simp
          refine hK _ _ ?_
          clear hK K
          refine wpAny_ready (rs := [3]) (by kernel_rfl) (by simp) ?_
          refine AllReady.cons rfl (fun K hK => ?_) ?_
          · go_simp
            refine hK _ _ ?_
            clear hK K
            refine wpAny_ready (rs := [4]) (by kernel_rfl) (by simp) ?_
            refine AllReady.cons rfl (fun K hK => ?_) ?_
            · go_simp
              refine hK _ _ ?_
              clear hK K
              refine wpAny_ready (rs := [5]) (by kernel_rfl) (by simp) ?_
              refine AllReady.cons rfl (fun K hK => ?_) ?_
              · go_simp
                refine hK _ _ ?_
                clear hK K
                refine hc _ _ (by kernel_rfl) ?_
                exact (Later.of_drew (by repeat (first | (with_reducible exact Later.refl _) | (with_reducible assumption) | with_reducible apply Later.latr | with_reducible apply Later.alloc | with_reducible apply Later.drew | (with_reducible refine Later.set ?_ (by (simp; try omega)) _))))
              exact AllReady.nil
            exact AllReady.nil
          exact AllReady.nil
        refine AllReady.cons rfl (fun K hK => ?_) ?_
        · go_simp
          refine hK _ _ ?_
          clear hK K
          refine wpAny_ready (rs := [1]) (by kernel_rfl) (by simp) ?_
          refine AllReady.cons rfl (fun K hK => ?_) ?_
          · go_simp
            refine hK _ _ ?_
            clear hK K
            refine wpAny_ready (rs := [4]) (by kernel_rfl) (by simp) ?_
            refine AllReady.cons rfl (fun K hK => ?_) ?_
            · go_simp
              refine hK _ _ ?_
              clear hK K
              refine wpAny_ready (rs := [5]) (by kernel_rfl) (by simp) ?_
              refine AllReady.cons rfl (fun K hK => ?_) ?_
              · go_simp
                refine hK _ _ ?_
                clear hK K
                refine hc _ _ (by kernel_rfl) ?_
                exact (Later.of_drew (by repeat (first | (with_reducible exact Later.refl _) | (with_reducible assumption) | with_reducible apply Later.latr | with_reducible apply Later.alloc | with_reducible apply Later.drew | (with_reducible refine Later.set ?_ (by (simp; try omega)) _))))
              exact AllReady.nil
            exact AllReady.nil
          exact AllReady.nil
        exact AllReady.nil
      exact AllReady.nil
    refine AllReady.cons rfl (fun K hK => ?_) ?_
    · go_simp
      refine hK _ _ ?_
      clear hK K
      refine wpAny_ready (rs := [0, 3]) (by kernel_rfl) (by simp) ?_
      refine AllReady.cons rfl (fun K hK => ?_) ?_
      · go_simp
        refine hK _ _ ?_
        clear hK K
        refine wpAny_ready (rs := [1, 3]) (by kernel_rfl) (by simp) ?_
        refine AllReady.cons rfl (fun K hK => ?_) ?_
        · go_simp
          refine hK _ _ ?_
          clear hK K
          refine wpAny_ready (rs := [3]) (by kernel_rfl) (by simp) ?_
          refine AllReady.cons rfl (fun K hK => ?_) ?_
          · go_simp
            refine hK _ _ ?_
            clear hK K
            refine wpAny_ready (rs := [4]) (by kernel_rfl) (by simp) ?_
            refine AllReady.cons rfl (fun K hK => ?_) ?_
            · go_simp
              refine hK _ _ ?_
              clear hK K
              refine wpAny_ready (rs := [5]) (by kernel_rfl) (by simp) ?_
              refine AllReady.cons rfl (fun K hK => ?_) ?_
              · go_simp
                refine hK _ _ ?_
                clear hK K
                refine hc _ _ (by kernel_rfl) ?_
                exact (Later.of_drew (by repeat (first | (with_reducible exact Later.refl _) | (with_reducible assumption) | with_reducible apply Later.latr | with_reducible apply Later.alloc | with_reducible apply Later.drew | (with_reducible refine Later.set ?_ (by (simp; try omega)) _))))
              exact AllReady.nil
            exact AllReady.nil
          exact AllReady.nil
        refine AllReady.cons rfl (fun K hK => ?_) ?_
        · go_simp
          refine hK _ _ ?_
          clear hK K
          refine wpAny_ready (rs := [1]) (by kernel_rfl) (by simp) ?_
          refine AllReady.cons rfl (fun K hK => ?_) ?_
          · go_simp
            refine hK _ _ ?_
            clear hK K
            refine wpAny_ready (rs := [4]) (by kernel_rfl) (by simp) ?_
            refine AllReady.cons rfl (fun K hK => ?_) ?_
            · go_simp
              refine hK _ _ ?_
              clear hK K
              refine wpAny_ready (rs := [5]) (by kernel_rfl) (by simp) ?_
              refine AllReady.cons rfl (fun K hK => ?_) ?_
              · go_simp
                refine hK _ _ ?_
                clear hK K
                refine hc _ _ (by kernel_rfl) ?_
                exact (Later.of_drew (by repeat (first | (with_reducible exact Later.refl _) | (with_reducible assumption) | with_reducible apply Later.latr | with_reducible apply Later.alloc | with_reducible apply Later.drew | (with_reducible refine Later.set ?_ (by (simp; try omega)) _))))
              exact AllReady.nil
            exact AllReady.nil
          exact AllReady.nil
        exact AllReady.nil
      refine AllReady.cons rfl (fun K hK => ?_) ?_
      · go_simp
        refine hK _ _ ?_
        clear hK K
        refine wpAny_ready (rs := [0]) (by kernel_rfl) (by simp) ?_
        refine AllReady.cons rfl (fun K hK => ?_) ?_
        · go_simp
          refine hK _ _ ?_
          clear hK K
          refine wpAny_ready (rs := [1]) (by kernel_rfl) (by simp) ?_
          refine AllReady.cons rfl (fun K hK => ?_) ?_
          · go_simp
            refine hK _ _ ?_
            clear hK K
            refine wpAny_ready (rs := [4]) (by kernel_rfl) (by simp) ?_
            refine AllReady.cons rfl (fun K hK => ?_) ?_
            · go_simp
              refine hK _ _ ?_
              clear hK K
              refine wpAny_ready (rs := [5]) (by kernel_rfl) (by simp) ?_
              refine AllReady.cons rfl (fun K hK => ?_) ?_
              · go_simp
                refine hK _ _ ?_
                clear hK K
                refine hc _ _ (by kernel_rfl) ?_
                exact (Later.of_drew (by repeat (first | (with_reducible exact Later.refl _) | (with_reducible assumption) | with_reducible apply Later.latr | with_reducible apply Later.alloc | with_reducible apply Later.drew | (with_reducible refine Later.set ?_ (by (simp; try omega)) _))))
              exact AllReady.nil
            exact AllReady.nil
          exact AllReady.nil
        exact AllReady.nil
      exact AllReady.nil
    exact AllReady.nil
  intro V1 hlV1
  have hV1 : Later W V1 := Later.trans (a := W) (Later.refl _).drew hlV1
  have c1 := cut_tail (k := 28) (HB1.out.later hV1) lcode (by decide) (by decide) hct.out
  have c2 := cut_tail (k := 28) (HB1.out.later (hV1.alloc O2)) lcode (by decide) (by decide) hct.out
  have c3 : (convert 22 9 (.slice (some ⟨V1.heap.size, 0, none⟩) 4 4)).run Try.prog (V1.alloc O2) = .ok (.string (strB e2)) (V1.alloc O2) := conv_arr (l := e2) (Arr.new V1 5 (bl e2) 4 1 rfl (by decide))
  clear hlV1 k00 k01 k0l
  refine cut_later (f' := 25) (#[true, true, true, true, true, true, true, true, true, true, true, true, true, false, false, false, false, false, false, false, false, false, false, false, false, false, false, false, false, false, false, false, false, false, false, false, false, false]) ?_ ?_ ?_
  rotate_left 1
  · intro hc
    refine wpAny_ready (rs := [6, 8]) (by kernel_rfl) (by simp) ?_
    refine AllReady.cons rfl (fun K hK => ?_) ?_
    · go_simp
      refine hK _ _ ?_
      clear hK K
      refine wpAny_ready (rs := [7, 8]) (by kernel_rfl) (by simp) ?_
      refine AllReady.cons rfl (fun K hK => ?_) ?_
      · go_simp
        refine hK _ _ ?_
        clear hK K
        refine wpAny_ready (rs := [8]) (by kernel_rfl) (by simp) ?_
        refine AllReady.cons rfl (fun K hK => ?_) ?_
        · go_simp
          refine hK _ _ ?_
          clear hK K
          refine wpAny_ready (rs := [9]) (by kernel_rfl) (by simp) ?_
          refine AllReady.cons rfl (fun K hK => ?_) ?_
          · go_simp
            refine hK _ _ ?_
            clear hK K
            refine wpAny_ready (rs := [10]) (by kernel_rfl) (by simp) ?_
            refine AllReady.cons rfl (fun K hK => ?_) ?_
            · go_simp
              refine hK _ _ ?_
              clear hK K
              refine wpAny_ready (rs := [11]) (by kernel_rfl) (by simp) ?_
              refine AllReady.cons rfl (fun K hK => ?_) ?_
              · go_simp
                refine hK _ _ ?_
                clear hK K
                refine wpAny_ready (rs := [12]) (by kernel_rfl) (by simp) ?_
                refine AllReady.cons rfl (fun K hK => ?_) ?_
                · go_simp
                  refine hK _ _ ?_
                  clear hK K
                  refine hc _ _ (by kernel_rfl) ?_
                  exact (by repeat (first | (with_reducible exact Later.refl _) | (with_reducible assumption) | with_reducible apply Later.latr | with_reducible apply Later.alloc | with_reducible apply Later.drew | (with_reducible refine Later.set ?_ (by (simp; try omega)) _)))
                exact AllReady.nil
              exact AllReady.nil
            exact AllReady.nil
          exact AllReady.nil
        exact AllReady.nil
      refine AllReady.cons rfl (fun K hK => ?_) ?_
      · go_simp
        refine hK _ _ ?_
        clear hK K
        refine wpAny_ready (rs := [7, 9]) (by kernel_rfl) (by simp) ?_
        refine AllReady.cons rfl (fun K hK => ?_) ?_
        · go_simp
          refine hK _ _ ?_
          clear hK K
          refine wpAny_ready (rs := [9]) (by kernel_rfl) (by simp) ?_
          refine AllReady.cons rfl (fun K hK => ?_) ?_
          · go_simp
            refine hK _ _ ?_
            clear hK K
            refine wpAny_ready (rs := [10]) (by kernel_rfl) (by simp) ?_
            refine AllReady.cons rfl (fun K hK => ?_) ?_
            · go_simp
              refine hK _ _ ?_
              clear hK K
              refine wpAny_ready (rs := [11]) (by kernel_rfl) (by simp) ?_
              refine AllReady.cons rfl (fun K hK => ?_) ?_
              · go_simp
                refine hK _ _ ?_
                clear hK K
                refine wpAny_ready (rs := [12]) (by kernel_rfl) (by simp) ?_
                refine AllReady.cons rfl (fun K hK => ?_) ?_
                · go_simp
                  refine hK _ _ ?_
                  clear hK K
                  refine hc _ _ (by kernel_rfl) ?_
                  exact (by repeat (first | (with_reducible exact Later.refl _) | (with_reducible assumption) | with_reducible apply Later.latr | with_reducible apply Later.alloc | with_reducible apply Later.drew | (with_reducible refine Later.set ?_ (by (simp; try omega)) _)))
                exact AllReady.nil
              exact AllReady.nil
            exact AllReady.nil
          exact AllReady.nil
        refine AllReady.cons rfl (fun K hK => ?_) ?_
        · go_simp
          refine hK _ _ ?_
          clear hK K
          refine wpAny_ready (rs := [7]) (by kernel_rfl) (by simp) ?_
          refine AllReady.cons rfl (fun K hK => ?_) ?_
          · go_simp
            refine hK _ _ ?_
            clear hK K
            refine wpAny_ready (rs := [10]) (by kernel_rfl) (by simp) ?_
            refine AllReady.cons rfl (fun K hK => ?_) ?_
            · go_simp
              refine hK _ _ ?_
              clear hK K
              refine wpAny_ready (rs := [11]) (by kernel_rfl) (by simp) ?_
              refine AllReady.cons rfl (fun K hK => ?_) ?_
              · go_simp
                refine hK _ _ ?_
                clear hK K
                refine wpAny_ready (rs := [12]) (by kernel_rfl) (by simp) ?_
                refine AllReady.cons rfl (fun K hK => ?_) ?_
                · go_simp
                  refine hK _ _ ?_
                  clear hK K
                  refine hc _ _ (by kernel_rfl) ?_
                  exact (by repeat (first | (with_reducible exact Later.refl _) | (with_reducible assumption) | with_reducible apply Later.latr | with_reducible apply Later.alloc | with_reducible apply Later.drew | (with_reducible refine Later.set ?_ (by (simp; try omega)) _)))
                exact AllReady.nil
              exact AllReady.nil
            exact AllReady.nil
          exact AllReady.nil
        exact AllReady.nil
      exact AllReady.nil
    refine AllReady.cons rfl (fun K hK => ?_) ?_
    · go_simp
      refine hK _ _ ?_
      clear hK K
      refine wpAny_ready (rs := [6, 9]) (by kernel_rfl) (by simp) ?_
      refine AllReady.cons rfl (fun K hK => ?_) ?_
      · go_simp
        refine hK _ _ ?_
        clear hK K
        refine wpAny_ready (rs := [7, 9]) (by kernel_rfl) (by simp) ?_
        refine AllReady.cons rfl (fun K hK => ?_) ?_
        · go_simp
          refine hK _ _ ?_
          clear hK K
          refine wpAny_ready (rs := [9]) (by kernel_rfl) (by simp) ?_
          refine AllReady.cons rfl (fun K hK => ?_) ?_
          · go_simp
            refine hK _ _ ?_
            clear hK K
            refine wpAny_ready (rs := [10]) (by kernel_rfl) (by simp) ?_
            refine AllReady.cons rfl (fun K hK => ?_) ?_
            · go_simp
              refine hK _ _ ?_
              clear hK K
              refine wpAny_ready (rs := [11]) (by kernel_rfl) (by simp) ?_
              refine AllReady.cons rfl (fun K hK => ?_) ?_
              · go_simp
                refine hK _ _ ?_
                clear hK K
                refine wpAny_ready (rs := [12]) (by kernel_rfl) (by simp) ?_
                refine AllReady.cons rfl (fun K hK => ?_) ?_
                · go_simp
                  refine hK _ _ ?_
                  clear hK K
                  refine hc _ _ (by kernel_rfl) ?_
                  exact (by repeat (first | (with_reducible exact Later.refl _) | (with_reducible assumption) | with_reducible apply Later.latr | with_reducible apply Later.alloc | with_reducible apply Later.drew | (with_reducible refine Later.set ?_ (by (simp; try omega)) _)))
                exact AllReady.nil
              exact AllReady.nil
            exact AllReady.nil
          exact AllReady.nil
        refine AllReady.cons rfl (fun K hK => ?_) ?_
        · go_simp
          refine hK _ _ ?_
          clear hK K
          refine wpAny_ready (rs := [7]) (by kernel_rfl) (by simp) ?_
          refine AllReady.cons rfl (fun K hK => ?_) ?_
          · go_simp
            refine hK _ _ ?_
            clear hK K
            refine wpAny_ready (rs := [10]) (by kernel_rfl) (by simp) ?_
            refine AllReady.cons rfl (fun K hK => ?_) ?_
            · go_simp
              refine hK _ _ ?_
              clear hK K
              refine wpAny_ready (rs := [11]) (by kernel_rfl) (by simp) ?_
              refine AllReady.cons rfl (fun K hK => ?_) ?_
              · go_simp
                refine hK _ _ ?_
                clear hK K
                refine wpAny_ready (rs := [12]) (by kernel_rfl) (by simp) ?_
                refine AllReady.cons rfl (fun K hK => ?_) ?_
                · go_simp
                  refine hK _ _ ?_
                  clear hK K
                  refine hc _ _ (by kernel_rfl) ?_
                  exact (by repeat (first | (with_reducible exact Later.refl _) | (with_reducible assumption) | with_reducible apply Later.latr | with_reducible apply Later.alloc | with_reducible apply Later.drew | (with_reducible refine Later.set ?_ (by (simp; try omega)) _)))
                exact AllReady.nil
              exact AllReady.nil
            exact AllReady.nil
          exact AllReady.nil
        exact AllReady.nil
      refine AllReady.cons rfl (fun K hK => ?_) ?_
      · go_simp
        refine hK _ _ ?_
        clear hK K
        refine wpAny_ready (rs := [6]) (by kernel_rfl) (by simp) ?_
        refine AllReady.cons rfl (fun K hK => ?_) ?_
        · go_simp
          refine hK _ _ ?_
          clear hK K
          refine wpAny_ready (rs := [7]) (by kernel_rfl) (by simp) ?_
          refine AllReady.cons rfl (fun K hK => ?_) ?_
          · go_simp
            refine hK _ _ ?_
            clear hK K
            refine wpAny_ready (rs := [10]) (by kernel_rfl) (by simp) ?_
            refine AllReady.cons rfl (fun K hK => ?_) ?_
            · go_simp
              refine hK _ _ ?_
              clear hK K
              refine wpAny_ready (rs := [11]) (by kernel_rfl) (by simp) ?_
              refine AllReady.cons rfl (fun K hK => ?_) ?_
              · go_simp
                refine hK _ _ ?_
                clear hK K
                refine wpAny_ready (rs := [12]) (by kernel_rfl) (by simp) ?_
                refine AllReady.cons rfl (fun K hK => ?_) ?_
                · go_simp
                  refine hK _ _ ?_
                  clear hK K
                  refine hc _ _ (by kernel_rfl) ?_
                  exact (by repeat (first | (with_reducible exact Later.refl _) | (with_reducible assumption) | with_reducible apply Later.latr | with_reducible apply Later.alloc | with_reducible apply Later.drew | (with_reducible refine Later.set ?_ (by (simp; try omega)) _)))
                exact AllReady.nil
              exact AllReady.nil
            exact AllReady.nil
          exact AllReady.nil
        exact AllReady.nil
      exact AllReady.nil
    exact AllReady.nil
  intro V2 hlV2
  have hV2 : Later W V2 := hV1.trans hlV2
  clear c1 c2 c3 hlV2
  have c1 := conv_whole (HB2.out.later hV2) ltg (by decide)
  have c2 := cut_head (k := 16) (HB1.out.later hV2) lcode (by decide) (by decide) (m := tg) HTG.out ltg
  refine cut_later (f' := 18) (#[true, true, true, true, true, true, true, true, true, true, true, true, true, true, true, true, true, true, true, true, false, false, false, false, false, false, false, false, false, false, false, false, false, false, false, false, false, false]) ?_ ?_ ?_
  rotate_left 1
  · intro hc
    refine wpAny_ready (rs := [13, 15]) (by kernel_rfl) (by simp) ?_
    refine AllReady.cons rfl (fun K hK => ?_) ?_
    · go_simp
      refine hK _ _ ?_
      clear hK K
      refine wpAny_ready (rs := [14, 15]) (by kernel_rfl) (by simp) ?_
      refine AllReady.cons rfl (fun K hK => ?_) ?_
      · go_simp
        refine hK _ _ ?_
        clear hK K
        refine wpAny_ready (rs := [15]) (by kernel_rfl) (by simp) ?_
        refine AllReady.cons rfl (fun K hK => ?_) ?_
        · go_simp
          refine hK _ _ ?_
          clear hK K
          refine wpAny_ready (rs := [16]) (by kernel_rfl) (by simp) ?_
          refine AllReady.cons rfl (fun K hK => ?_) ?_
          · go_simp
            refine hK _ _ ?_
            clear hK K
            refine wpAny_ready (rs := [17]) (by kernel_rfl) (by simp) ?_
            refine AllReady.cons rfl (fun K hK => ?_) ?_
            · go_simp
              refine hK _ _ ?_
              clear hK K
              refine wpAny_ready (rs := [18]) (by kernel_rfl) (by simp) ?_
              refine AllReady.cons rfl (fun K hK => ?_) ?_
              · go_simp
                refine hK _ _ ?_
                clear hK K
                refine wpAny_ready (rs := [19]) (by kernel_rfl) (by simp) ?_
                refine AllReady.cons rfl (fun K hK => ?_) ?_
                · go_simp
                  refine hK _ _ ?_
                  clear hK K
                  refine hc _ _ (by kernel_rfl) ?_
                  exact (by repeat (first | (with_reducible exact Later.refl _) | (with_reducible assumption) | with_reducible apply Later.latr | with_reducible apply Later.alloc | with_reducible apply Later.drew | (with_reducible refine Later.set ?_ (by (simp; try omega)) _)))
                exact AllReady.nil
              exact AllReady.nil
            exact AllReady.nil
          exact AllReady.nil
        exact AllReady.nil
      refine AllReady.cons rfl (fun K hK => ?_) ?_
      · go_simp
        refine hK _ _ ?_
        clear hK K
        refine wpAny_ready (rs := [14, 16]) (by kernel_rfl) (by simp) ?_
        refine AllReady.cons rfl (fun K hK => ?_) ?_
        · go_simp
          refine hK _ _ ?_
          clear hK K
          refine wpAny_ready (rs := [16]) (by kernel_rfl) (by simp) ?_
          refine AllReady.cons rfl (fun K hK => ?_) ?_
          · go_simp
            refine hK _ _ ?_
            clear hK K
            refine wpAny_ready (rs := [17]) (by kernel_rfl) (by simp) ?_
            refine AllReady.cons rfl (fun K hK => ?_) ?_
            · go_simp
              refine hK _ _ ?_
              clear hK K
              refine wpAny_ready (rs := [18]) (by kernel_rfl) (by simp) ?_
              refine AllReady.cons rfl (fun K hK => ?_) ?_
              · go_simp
                refine hK _ _ ?_
                clear hK K
                refine wpAny_ready (rs := [19]) (by kernel_rfl) (by simp) ?_
                refine AllReady.cons rfl (fun K hK => ?_) ?_
                · go_simp
                  refine hK _ _ ?_
                  clear hK K
                  refine hc _ _ (by kernel_rfl) ?_
                  exact (by repeat (first | (with_reducible exact Later.refl _) | (with_reducible assumption) | with_reducible apply Later.latr | with_reducible apply Later.alloc | with_reducible apply Later.drew | (with_reducible refine Later.set ?_ (by (simp; try omega)) _)))
                exact AllReady.nil
              exact AllReady.nil
            exact AllReady.nil
          exact AllReady.nil
        refine AllReady.cons rfl (fun K hK => ?_) ?_
        · go_simp
          refine hK _ _ ?_
          clear hK K
          refine wpAny_ready (rs := [14]) (by kernel_rfl) (by simp) ?_
          refine AllReady.cons rfl (fun K hK => ?_) ?_
          · go_simp
            refine hK _ _ ?_
            clear hK K
            refine wpAny_ready (rs := [17]) (by kernel_rfl) (by simp) ?_
            refine AllReady.cons rfl (fun K hK => ?_) ?_
            · go_simp
              refine hK _ _ ?_
              clear hK K
              refine wpAny_ready (rs := [18]) (by kernel_rfl) (by simp) ?_
              refine AllReady.cons rfl (fun K hK => ?_) ?_
              · go_simp
                refine hK _ _ ?_
                clear hK K
                refine wpAny_ready (rs := [19]) (by kernel_rfl) (by simp) ?_
                refine AllReady.cons rfl (fun K hK => ?_) ?_
                · go_simp
                  refine hK _ _ ?_
                  clear hK K
                  refine hc _ _ (by kernel_rfl) ?_
                  exact (by repeat (first | (with_reducible exact Later.refl _) | (with_reducible assumption) | with_reducible apply Later.latr | with_reducible apply Later.alloc | with_reducible apply Later.drew | (with_reducible refine Later.set ?_ (by (simp; try omega)) _)))
                exact AllReady.nil
              exact AllReady.nil
            exact AllReady.nil
          exact AllReady.nil
        exact AllReady.nil
      exact AllReady.nil
    refine AllReady.cons rfl (fun K hK => ?_) ?_
    · go_simp
      refine hK _ _ ?_
      clear hK K
      refine wpAny_ready (rs := [13, 16]) (by kernel_rfl) (by simp) ?_
      refine AllReady.cons rfl (fun K hK => ?_) ?_
      · go_simp
        refine hK _ _ ?_
        clear hK K
        refine wpAny_ready (rs := [14, 16]) (by kernel_rfl) (by simp) ?_
        refine AllReady.cons rfl (fun K hK => ?_) ?_
        · go_simp
          refine hK _ _ ?_
          clear hK K
          refine wpAny_ready (rs := [16]) (by kernel_rfl) (by simp) ?_
          refine AllReady.cons rfl (fun K hK => ?_) ?_
          · go_simp
            refine hK _ _ ?_
            clear hK K
            refine wpAny_ready (rs := [17]) (by kernel_rfl) (by simp) ?_
            refine AllReady.cons rfl (fun K hK => ?_) ?_
            · go_simp
              refine hK _ _ ?_
              clear hK K
              refine wpAny_ready (rs := [18]) (by kernel_rfl) (by simp) ?_
              refine AllReady.cons rfl (fun K hK => ?_) ?_
              · go_simp
                refine hK _ _ ?_
                clear hK K
                refine wpAny_ready (rs := [19]) (by kernel_rfl) (by simp) ?_
                refine AllReady.cons rfl (fun K hK => ?_) ?_
                · go_simp
                  refine hK _ _ ?_
                  clear hK K
                  refine hc _ _ (by kernel_rfl) ?_
                  exact (by repeat (first | (with_reducible exact Later.refl _) | (with_reducible assumption) | with_reducible apply Later.latr | with_reducible apply Later.alloc | with_reducible apply Later.drew | (with_reducible refine Later.set ?_ (by (simp; try omega)) _)))
                exact AllReady.nil
              exact AllReady.nil
            exact AllReady.nil
          exact AllReady.nil
        refine AllReady.cons rfl (fun K hK => ?_) ?_
        · go_simp
          refine hK _ _ ?_
          clear hK K
          refine wpAny_ready (rs := [14]) (by kernel_rfl) (by simp) ?_
          refine AllReady.cons rfl (fun K hK => ?_) ?_
          · go_simp
            refine hK _ _ ?_
            clear hK K
            refine wpAny_ready (rs := [17]) (by kernel_rfl) (by simp) ?_
            refine AllReady.cons rfl (fun K hK => ?_) ?_
            · go_simp
              refine hK _ _ ?_
              clear hK K
              refine wpAny_ready (rs := [18]) (by kernel_rfl) (by simp) ?_
              refine AllReady.cons rfl (fun K hK => ?_) ?_
              · go_simp
                refine hK _ _ ?_
                clear hK K
                refine wpAny_ready (rs := [19]) (by kernel_rfl) (by simp) ?_
                refine AllReady.cons rfl (fun K hK => ?_) ?_
                · go_simp
                  refine hK _ _ ?_
                  clear hK K
                  refine hc _ _ (by kernel_rfl) ?_
                  exact (by repeat (first | (with_reducible exact Later.refl _) | (with_reducible assumption) | with_reducible apply Later.latr | with_reducible apply Later.alloc | with_reducible apply Later.drew | (with_reducible refine Later.set ?_ (by (simp; try omega)) _)))
                exact AllReady.nil
              exact AllReady.nil
            exact AllReady.nil
          exact AllReady.nil
        exact AllReady.nil
      refine AllReady.cons rfl (fun K hK => ?_) ?_
      · go_simp
        refine hK _ _ ?_
        clear hK K
        refine wpAny_ready (rs := [13]) (by kernel_rfl) (by simp) ?_
        refine AllReady.cons rfl (fun K hK => ?_) ?_
        · go_simp
          refine hK _ _ ?_
          clear hK K
          refine wpAny_ready (rs := [14]) (by kernel_rfl) (by simp) ?_
          refine AllReady.cons rfl (fun K hK => ?_) ?_
          · go_simp
            refine hK _ _ ?_
            clear hK K
            refine wpAny_ready (rs := [17]) (by kernel_rfl) (by simp) ?_
            refine AllReady.cons rfl (fun K hK => ?_) ?_
            · go_simp
              refine hK _ _ ?_
              clear hK K
              refine wpAny_ready (rs := [18]) (by kernel_rfl) (by simp) ?_
              refine AllReady.cons rfl (fun K hK => ?_) ?_
              · go_simp
                refine hK _ _ ?_
                clear hK K
                refine wpAny_ready (rs := [19]) (by kernel_rfl) (by simp) ?_
                refine AllReady.cons rfl (fun K hK => ?_) ?_
                · go_simp
                  refine hK _ _ ?_
                  clear hK K
                  refine hc _ _ (by kernel_rfl) ?_
                  exact (by repeat (first | (with_reducible exact Later.refl _) | (with_reducible assumption) | with_reducible apply Later.latr | with_reducible apply Later.alloc | with_reducible apply Later.drew | (with_reducible refine Later.set ?_ (by (simp; try omega)) _)))
                exact AllReady.nil
              exact AllReady.nil
            exact AllReady.nil
          exact AllReady.nil
        exact AllReady.nil
      exact AllReady.nil
    exact AllReady.nil
  intro V3 hlV3
  have hV3 : Later W V3 := hV2.trans hlV3
  clear c1 c2 hlV3
  have T1 := (HB2.out.later hV3).there0 16 ((bl_len _).trans ltg)
  have A1 := (HB2.out.later hV3).agg 16 ((bl_len _).trans ltg)
  change _ = bagg tg at A1
  refine cut_later (f' := 13) (#[true, true, true, true, true, true, true, true, true, true, true, true, true, true, true, true, true, true, true, true, true, true, true, true, true, false, false, false, false, false, false, false, false, false, false, false, false, false]) ?_ ?_ ?_
  rotate_left 1
  · intro hc
    refine wpAny_ready (rs := [20, 21]) (by kernel_rfl) (by simp) ?_
    refine AllReady.cons rfl (fun K hK => ?_) ?_
    · go_simp
      refine hK _ _ ?_
      clear hK K
      refine wpAny_ready (rs := [21]) (by kernel_rfl) (by simp) ?_
      refine AllReady.cons rfl (fun K hK => ?_) ?_
      · go_simp
        refine hK _ _ ?_
        clear hK K
        refine wpAny_ready (rs := [22]) (by kernel_rfl) (by simp) ?_
        refine AllReady.cons rfl (fun K hK => ?_) ?_
        · go_simp
          go_wp2_with (first | (go_at_call 15; refine (equal15 tg tg _ ltg ltg).later.mono ?_; rintro e W6 ⟨rfl, hl6⟩))
          (try (refine hK _ _ ?_; clear hK K))
          refine wpAny_ready (rs := [23]) (by kernel_rfl) (by simp) ?_
          refine AllReady.cons rfl (fun K hK => ?_) ?_
          · go_simp
            refine hK _ _ ?_
            clear hK K
            refine wpAny_ready (rs := [24]) (by kernel_rfl) (by simp) ?_
            refine AllReady.cons rfl (fun K hK => ?_) ?_
            · go_simp
              refine hK _ _ ?_
              clear hK K
              refine hc _ _ (by kernel_rfl) ?_
              exact (by repeat (first | (with_reducible exact Later.refl _) | (with_reducible assumption) | with_reducible apply Later.latr | with_reducible apply Later.alloc | with_reducible apply Later.drew | (with_reducible refine Later.set ?_ (by (simp; try omega)) _)))
            exact AllReady.nil
          exact AllReady.nil
        exact AllReady.nil
      exact AllReady.nil
    refine AllReady.cons rfl (fun K hK => ?_) ?_
    · go_simp
      refine hK _ _ ?_
      clear hK K
      refine wpAny_ready (rs := [20]) (by kernel_rfl) (by simp) ?_
      refine AllReady.cons rfl (fun K hK => ?_) ?_
      · go_simp
        refine hK _ _ ?_
        clear hK K
        refine wpAny_ready (rs := [22]) (by kernel_rfl) (by simp) ?_
        refine AllReady.cons rfl (fun K hK => ?_) ?_
        · go_simp
          go_wp2_with (first | (go_at_call 15; refine (equal15 tg tg _ ltg ltg).later.mono ?_; rintro e W6 ⟨rfl, hl6⟩))
          (try (refine hK _ _ ?_; clear hK K))
          refine wpAny_ready (rs := [23]) (by kernel_rfl) (by simp) ?_
          refine AllReady.cons rfl (fun K hK => ?_) ?_
          · go_simp
            refine hK _ _ ?_
            clear hK K
            refine wpAny_ready (rs := [24]) (by kernel_rfl) (by simp) ?_
            refine AllReady.cons rfl (fun K hK => ?_) ?_
            · go_simp
              refine hK _ _ ?_
              clear hK K
              refine hc _ _ (by kernel_rfl) ?_
              exact (by repeat (first | (with_reducible exact Later.refl _) | (with_reducible assumption) | with_reducible apply Later.latr | with_reducible apply Later.alloc | with_reducible apply Later.drew | (with_reducible refine Later.set ?_ (by (simp; try omega)) _)))
            exact AllReady.nil
          exact AllReady.nil
        exact AllReady.nil
      exact AllReady.nil
    exact AllReady.nil
  intro V4 hlV4
  have hV4 : Later W V4 := hV3.trans hlV4
  clear T1 A1 hlV4
  have T1 := (HB2.out.later hV4).there0 16 ((bl_len _).trans ltg)
  have A1 := (HB2.out.later hV4).agg 16 ((bl_len _).trans ltg)
  change _ = bagg tg at A1
  refine cut_later (f' := 7) (#[true, true, true, true, true, true, true, true, true, true, true, true, true, true, true, true, true, true, true, true, true, true, true, true, true, true, true, true, true, true, true, false, false, false, false, false, false, false]) ?_ ?_ ?_
  rotate_left 1
  · intro hc
    refine wpAny_ready (rs := [25, 26]) (by kernel_rfl) (by simp) ?_
    refine AllReady.cons rfl (fun K hK => ?_) ?_
    · go_simp
      refine hK _ _ ?_
      clear hK K
      refine wpAny_ready (rs := [26]) (by kernel_rfl) (by simp) ?_
      refine AllReady.cons rfl (fun K hK => ?_) ?_
      · go_simp
        refine hK _ _ ?_
        clear hK K
        refine wpAny_ready (rs := [27]) (by kernel_rfl) (by simp) ?_
        refine AllReady.cons rfl (fun K hK => ?_) ?_
        · go_simp
          go_wp2_with (first | (go_at_call 15; refine (equal15 tg zer _ ltg rfl).later.mono ?_; rintro e W6 ⟨rfl, hl6⟩))
          (try (refine hK _ _ ?_; clear hK K))
          refine wpAny_ready (rs := [28]) (by kernel_rfl) (by simp) ?_
          refine AllReady.cons rfl (fun K hK => ?_) ?_
          · go_simp
            refine hK _ _ ?_
            clear hK K
            refine wpAny_ready (rs := [29]) (by kernel_rfl) (by simp) ?_
            refine AllReady.cons rfl (fun K hK => ?_) ?_
            · go_simp
              refine hK _ _ ?_
              clear hK K
              refine wpAny_ready (rs := [30]) (by kernel_rfl) (by simp) ?_
              refine AllReady.cons rfl (fun K hK => ?_) ?_
              · go_simp
                refine hK _ _ ?_
                clear hK K
                refine hc _ _ (by kernel_rfl) ?_
                exact (by repeat (first | (with_reducible exact Later.refl _) | (with_reducible assumption) | with_reducible apply Later.latr | with_reducible apply Later.alloc | with_reducible apply Later.drew | (with_reducible refine Later.set ?_ (by (simp; try omega)) _)))
              exact AllReady.nil
            exact AllReady.nil
          exact AllReady.nil
        exact AllReady.nil
      exact AllReady.nil
    refine AllReady.cons rfl (fun K hK => ?_) ?_
    · go_simp
      refine hK _ _ ?_
      clear hK K
      refine wpAny_ready (rs := [25]) (by kernel_rfl) (by simp) ?_
      refine AllReady.cons rfl (fun K hK => ?_) ?_
      · go_simp
        refine hK _ _ ?_
        clear hK K
        refine wpAny_ready (rs := [27]) (by kernel_rfl) (by simp) ?_
        refine AllReady.cons rfl (fun K hK => ?_) ?_
        · go_simp
          go_wp2_with (first | (go_at_call 15; refine (equal15 tg zer _ ltg rfl).later.mono ?_; rintro e W6 ⟨rfl, hl6⟩))
          (try (refine hK _ _ ?_; clear hK K))
          refine wpAny_ready (rs := [28]) (by kernel_rfl) (by simp) ?_
          refine AllReady.cons rfl (fun K hK => ?_) ?_
          · go_simp
            refine hK _ _ ?_
            clear hK K
            refine wpAny_ready (rs := [29]) (by kernel_rfl) (by simp) ?_
            refine AllReady.cons rfl (fun K hK => ?_) ?_
            · go_simp
              refine hK _ _ ?_
              clear hK K
              refine wpAny_ready (rs := [30]) (by kernel_rfl) (by simp) ?_
              refine AllReady.cons rfl (fun K hK => ?_) ?_
              · go_simp
                refine hK _ _ ?_
                clear hK K
                refine hc _ _ (by kernel_rfl) ?_
                exact (by repeat (first | (with_reducible exact Later.refl _) | (with_reducible assumption) | with_reducible apply Later.latr | with_reducible apply Later.alloc | with_reducible apply Later.drew | (with_reducible refine Later.set ?_ (by (simp; try omega)) _)))
              exact AllReady.nil
            exact AllReady.nil
          exact AllReady.nil
        exact AllReady.nil
      exact AllReady.nil
    exact AllReady.nil
  intro V5 hlV5
  have hV5 : Later W V5 := hV4.trans hlV5
  clear T1 A1 hlV5
  have T1 := (HB1.out.later hV5).there0 32 ((bl_len _).trans lcode)
  have A1 := (HB1.out.later hV5).agg 32 ((bl_len _).trans lcode)
  change _ = bagg code at A1
  have T2 := (HB1.out.later (hV5.alloc OJ)).there0 32 ((bl_len _).trans lcode)
  have A2 := (HB1.out.later (hV5.alloc OJ)).agg 32 ((bl_len _).trans lcode)
  change _ = bagg code at A2
  have T3 := (HB1.out.later (hV5.alloc OJF)).there0 32 ((bl_len _).trans lcode)
  have A3 := (HB1.out.later (hV5.alloc OJF)).agg 32 ((bl_len _).trans lcode)
  change _ = bagg code at A3
  have HJ := hid (Arr.newf V5 5 (bl jefe) 4 1 (4, 5) rfl (by decide))
  refine wpAny_ready (rs := [31, 34]) (by kernel_rfl) (by simp) ?_
  refine AllReady.cons rfl (fun K hK => ?_) ?_
  · go_simp
    refine hK _ _ ?_
    clear hK K
    refine wpAny_ready (rs := [32, 34]) (by kernel_rfl) (by simp) ?_
    refine AllReady.cons rfl (fun K hK => ?_) ?_
    · go_simp
      refine hK _ _ ?_
      clear hK K
      refine wpAny_ready (rs := [33, 34]) (by kernel_rfl) (by simp) ?_
      refine AllReady.cons rfl (fun K hK => ?_) ?_
      · go_simp
        go_wp2_with (first | (go_at_call 14; refine (key14 _ jefe _ _ HJ.out (.inr ⟨_, _, _, rfl⟩) (by decide) (by decide)).later.mono ?_; rw [str_txt]; rintro e W6 ⟨rfl, hl6⟩; have hl6U : Later V5 W6 := Later.trans (a := V5) (by repeat (first | (with_reducible exact Later.refl _) | (with_reducible assumption) | with_reducible apply Later.latr | with_reducible apply Later.alloc | with_reducible apply Later.drew | (with_reducible refine Later.set ?_ (by (simp; try omega)) _))) hl6; have T9 := (HB1.out.later (hV5.trans hl6U)).there0 32 ((bl_len _).trans lcode); have A9 := (HB1.out.later (hV5.trans hl6U)).agg 32 ((bl_len _).trans lcode); change _ = bagg code at A9))
        (try (refine hK _ _ ?_; clear hK K))
        refine wpAny_ready (rs := [34]) (by kernel_rfl) (by simp) ?_
        refine AllReady.cons rfl (fun K hK => ?_) ?_
        · go_simp
          refine hK _ _ ?_
          clear hK K
          refine wpAny_ready (rs := [35]) (by kernel_rfl) (by simp) ?_
          refine AllReady.cons rfl (fun K hK => ?_) ?_
          · go_simp
            refine hK _ _ ?_
            clear hK K
            refine wpAny_ready (rs := [36]) (by kernel_rfl) (by simp) ?_
            refine AllReady.cons rfl (fun K hK => ?_) ?_
            · go_simp
              refine hK _ _ ?_
              clear hK K
              refine wpAny_ready (rs := [37]) (by kernel_rfl) (by simp) ?_
              refine AllReady.cons rfl (fun K hK => ?_) ?_
              · go_simp
                refine hK _ _ ?_
                clear hK K
                refine _root_.Go.wpAny_done (by kernel_rfl) ?_ _
                go_wp2_with (fail)
                go_ret
                exact ⟨rfl, Later.trans (a := w) HLW.out (hV5.trans (by repeat (first | (with_reducible exact Later.refl _) | (with_reducible assumption) | with_reducible apply Later.latr | with_reducible apply Later.alloc | with_reducible apply Later.drew | (with_reducible refine Later.set ?_ (by (simp; try omega)) _))))⟩
              exact AllReady.nil
            exact AllReady.nil
          exact AllReady.nil
        exact AllReady.nil
      refine AllReady.cons rfl (fun K hK => ?_) ?_
      · go_simp
        refine hK _ _ ?_
        clear hK K
        refine wpAny_ready (rs := [33]) (by kernel_rfl) (by simp) ?_
        refine AllReady.cons rfl (fun K hK => ?_) ?_
        · go_simp
          go_wp2_with (first | (go_at_call 14; refine (key14 _ jefe _ _ HJ.out (.inr ⟨_, _, _, rfl⟩) (by decide) (by decide)).later.mono ?_; rw [str_txt]; rintro e W6 ⟨rfl, hl6⟩; have hl6U : Later V5 W6 := Later.trans (a := V5) (by repeat (first | (with_reducible exact Later.refl _) | (with_reducible assumption) | with_reducible apply Later.latr | with_reducible apply Later.alloc | with_reducible apply Later.drew | (with_reducible refine Later.set ?_ (by (simp; try omega)) _))) hl6; have T9 := (HB1.out.later (hV5.trans hl6U)).there0 32 ((bl_len _).trans lcode); have A9 := (HB1.out.later (hV5.trans hl6U)).agg 32 ((bl_len _).trans lcode); change _ = bagg code at A9))
          (try (refine hK _ _ ?_; clear hK K))
          refine wpAny_ready (rs := [35]) (by kernel_rfl) (by simp) ?_
          refine AllReady.cons rfl (fun K hK => ?_) ?_
          · go_simp
            refine hK _ _ ?_
            clear hK K
            refine wpAny_ready (rs := [36]) (by kernel_rfl) (by simp) ?_
            refine AllReady.cons rfl (fun K hK => ?_) ?_
            · go_simp
              refine hK _ _ ?_
              clear hK K
              refine wpAny_ready (rs := [37]) (by kernel_rfl) (by simp) ?_
              refine AllReady.cons rfl (fun K hK => ?_) ?_
              · go_simp
                refine hK _ _ ?_
                clear hK K
                refine _root_.Go.wpAny_done (by kernel_rfl) ?_ _
                go_wp2_with (fail)
                go_ret
                exact ⟨rfl, Later.trans (a := w) HLW.out (hV5.trans (by repeat (first | (with_reducible exact Later.refl _) | (with_reducible assumption) | with_reducible apply Later.latr | with_reducible apply Later.alloc | with_reducible apply Later.drew | (with_reducible refine Later.set ?_ (by (simp; try omega)) _))))⟩
              exact AllReady.nil
            exact AllReady.nil
          exact AllReady.nil
        exact AllReady.nil
      exact AllReady.nil
    refine AllReady.cons rfl (fun K hK => ?_) ?_
    · go_simp
      refine hK _ _ ?_
      clear hK K
      refine wpAny_ready (rs := [32]) (by kernel_rfl) (by simp) ?_
      refine AllReady.cons rfl (fun K hK => ?_) ?_
      · go_simp
        refine hK _ _ ?_
        clear hK K
        refine wpAny_ready (rs := [33]) (by kernel_rfl) (by simp) ?_
        refine AllReady.cons rfl (fun K hK => ?_) ?_
        · go_simp
          go_wp2_with (first | (go_at_call 14; refine (key14 _ jefe _ _ HJ.out (.inr ⟨_, _, _, rfl⟩) (by decide) (by decide)).later.mono ?_; rw [str_txt]; rintro e W6 ⟨rfl, hl6⟩; have hl6U : Later V5 W6 := Later.trans (a := V5) (by repeat (first | (with_reducible exact Later.refl _) | (with_reducible assumption) | with_reducible apply Later.latr | with_reducible apply Later.alloc | with_reducible apply Later.drew | (with_reducible refine Later.set ?_ (by (simp; try omega)) _))) hl6; have T9 := (HB1.out.later (hV5.trans hl6U)).there0 32 ((bl_len _).trans lcode); have A9 := (HB1.out.later (hV5.trans hl6U)).agg 32 ((bl_len _).trans lcode); change _ = bagg code at A9))
          (try (refine hK _ _ ?_; clear hK K))
          refine wpAny_ready (rs := [35]) (by kernel_rfl) (by simp) ?_
          refine AllReady.cons rfl (fun K hK => ?_) ?_
          · go_simp
            refine hK _ _ ?_
            clear hK K
            refine wpAny_ready (rs := [36]) (by kernel_rfl) (by simp) ?_
            refine AllReady.cons rfl (fun K hK => ?_) ?_
            · go_simp
              refine hK _ _ ?_
              clear hK K
              refine wpAny_ready (rs := [37]) (by kernel_rfl) (by simp) ?_
              refine AllReady.cons rfl (fun K hK => ?_) ?_
              · go_simp
                refine hK _ _ ?_
                clear hK K
                refine _root_.Go.wpAny_done (by kernel_rfl) ?_ _
                go_wp2_with (fail)
                go_ret
                exact ⟨rfl, Later.trans (a := w) HLW.out (hV5.trans (by repeat (first | (with_reducible exact Later.refl _) | (with_reducible assumption) | with_reducible apply Later.latr | with_reducible apply Later.alloc | with_reducible apply Later.drew | (with_reducible refine Later.set ?_ (by (simp; try omega)) _))))⟩
              exact AllReady.nil
            exact AllReady.nil
          exact AllReady.nil
        exact AllReady.nil
      exact AllReady.nil
    exact AllReady.nil
  refine AllReady.cons rfl (fun K hK => ?_) ?_
  · go_simp
    refine hK _ _ ?_
    clear hK K
    refine wpAny_ready (rs := [31]) (by kernel_rfl) (by simp) ?_
    refine AllReady.cons rfl (fun K hK => ?_) ?_
    · go_simp
      refine hK _ _ ?_
      clear hK K
      refine wpAny_ready (rs := [32]) (by kernel_rfl) (by simp) ?_
      refine AllReady.cons rfl (fun K hK => ?_) ?_
      · go_simp
        refine hK _ _ ?_
        clear hK K
        refine wpAny_ready (rs := [33]) (by kernel_rfl) (by simp) ?_
        refine AllReady.cons rfl (fun K hK => ?_) ?_
        · go_simp
          go_wp2_with (first | (go_at_call 14; refine (key14 _ jefe _ _ HJ.out (.inr ⟨_, _, _, rfl⟩) (by decide) (by decide)).later.mono ?_; rw [str_txt]; rintro e W6 ⟨rfl, hl6⟩; have hl6U : Later V5 W6 := Later.trans (a := V5) (by repeat (first | (with_reducible exact Later.refl _) | (with_reducible assumption) | with_reducible apply Later.latr | with_reducible apply Later.alloc | with_reducible apply Later.drew | (with_reducible refine Later.set ?_ (by (simp; try omega)) _))) hl6; have T9 := (HB1.out.later (hV5.trans hl6U)).there0 32 ((bl_len _).trans lcode); have A9 := (HB1.out.later (hV5.trans hl6U)).agg 32 ((bl_len _).trans lcode); change _ = bagg code at A9))
          (try (refine hK _ _ ?_; clear hK K))
          refine wpAny_ready (rs := [35]) (by kernel_rfl) (by simp) ?_
          refine AllReady.cons rfl (fun K hK => ?_) ?_
          · go_simp
            refine hK _ _ ?_
            clear hK K
            refine wpAny_ready (rs := [36]) (by kernel_rfl) (by simp) ?_
            refine AllReady.cons rfl (fun K hK => ?_) ?_
            · go_simp
              refine hK _ _ ?_
              clear hK K
              refine wpAny_ready (rs := [37]) (by kernel_rfl) (by simp) ?_
              refine AllReady.cons rfl (fun K hK => ?_) ?_
              · go_simp
                refine hK _ _ ?_
                clear hK K
                refine _root_.Go.wpAny_done (by kernel_rfl) ?_ _
                go_wp2_with (fail)
                go_ret
                exact ⟨rfl, Later.trans (a := w) HLW.out (hV5.trans (by repeat (first | (with_reducible exact Later.refl _) | (with_reducible assumption) | with_reducible apply Later.latr | with_reducible apply Later.alloc | with_reducible apply Later.drew | (with_reducible refine Later.set ?_ (by (simp; try omega)) _))))⟩
              exact AllReady.nil
            exact AllReady.nil
          exact AllReady.nil
        exact AllReady.nil
      exact AllReady.nil
    exact AllReady.nil
  exact AllReady.nil
end Go.Proofs.Ytnidpncacgknkaa
