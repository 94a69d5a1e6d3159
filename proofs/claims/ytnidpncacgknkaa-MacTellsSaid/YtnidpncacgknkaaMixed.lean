/- The walk of mixed: the words behind a block. Of a block of sixty-four bytes. -/
import Derived.Test.YtnidpncacgknkaaFirst
import Derived.Test.YtnidpncacgknkaaSched
namespace Go.Proofs.Ytnidpncacgknkaa
open Go.RowKit
attribute [local go_sem] ite_max ite_min
attribute [local go_sem] h_lt1 h_lt2 h_lt3 h_lt4 h_lt5 h_lt6 h_eq1 h_qe1 h_eq2 h_qe2 h_eq3 h_qe3 h_eq4 h_qe4 h_eq5 h_qe5 h_eq6 h_qe6

/-- the row of words, of which k stand -/
def wcells (m : List W32) (k : Nat) : Array Value := ((List.range 64).map fun j => if j < k then uv (sched m j) else uv 0#32).toArray
theorem wc_size (m : List W32) (k : Nat) : (wcells m k).size = 64 := by simp [wcells]
theorem wc_get (m : List W32) {k j : Nat} (hj : j < k) (hk : k ≤ 64) : (wcells m k)[j]? = some (uv (sched m j)) := by
  have : j < 64 := by omega
  simp [wcells, hj, this]
theorem wc_set (m : List W32) {k : Nat} (hk : k < 64) (x : W32) (hx : x = sched m k) : (wcells m k).setIfInBounds k (uv x) = wcells m (k + 1) := by
  subst hx
  apply Array.ext_getElem?
  intro j
  by_cases hj : j < 64
  · by_cases h : k = j
    · subst h
      rw [Array.getElem?_setIfInBounds_self_of_lt (by rw [wc_size]; exact hk)]
      simp [wcells, hk]
    · rw [Array.getElem?_setIfInBounds_ne h]
      simp only [wcells, List.getElem?_toArray, List.getElem?_map, List.getElem?_range hj, Option.map_some]
      by_cases hjk : j < k
      · rw [if_pos hjk, if_pos (by omega)]
      · rw [if_neg hjk, if_neg (by omega)]
  · rw [Array.getElem?_eq_none (by simp [wc_size]; omega), Array.getElem?_eq_none (by simp [wc_size]; omega)]
theorem wc_zero (m : List W32) : z51 = wcells m 0 := by
  apply Array.ext_getElem?
  intro j
  by_cases hj : j < 64
  · have e : z51[j]? = some (uv 0#32) := by
      unfold z51 wl
      rw [List.getElem?_toArray, List.getElem?_map, List.getElem?_replicate_of_lt hj]
      rfl
    rw [e]
    simp [wcells, hj]
  · rw [Array.getElem?_eq_none (by rw [z51_size]; omega), Array.getElem?_eq_none (by rw [wc_size]; omega)]
theorem words_len (b : List B8) : (words b).length = 16 := by simp [words]

/-- the row of words, to k of which the others have been added -/
def acells (h s : S8) (k : Nat) : Array Value := ((List.range 8).map fun j => uv (if j < k then h.list.getD j 0 + s.list.getD j 0 else h.list.getD j 0)).toArray
theorem ac_size (h s : S8) (k : Nat) : (acells h s k).size = 8 := by simp [acells]
theorem ac_get (h s : S8) {k : Nat} (hk : k < 8) : (acells h s k)[k]? = some (uv (h.list.getD k 0)) := by simp [acells, hk]
theorem ac_set (h s : S8) {k : Nat} (hk : k < 8) : (acells h s k).setIfInBounds k (uv (h.list.getD k 0 + s.list.getD k 0)) = acells h s (k + 1) := by
  apply Array.ext_getElem?
  intro j
  by_cases hj : j < 8
  · by_cases h : k = j
    · subst h
      rw [Array.getElem?_setIfInBounds_self_of_lt (by rw [ac_size]; exact hk)]
      simp [acells, hk]
    · rw [Array.getElem?_setIfInBounds_ne h]
      simp only [acells, List.getElem?_toArray, List.getElem?_map, List.getElem?_range hj, Option.map_some]
      by_cases hjk : j < k
      · rw [if_pos hjk, if_pos (by omega)]
      · rw [if_neg hjk, if_neg (by omega)]
  · rw [Array.getElem?_eq_none (by simp [ac_size]; omega), Array.getElem?_eq_none (by simp [ac_size]; omega)]
theorem ac_zero (h s : S8) : (sl h).toArray = acells h s 0 := rfl
theorem ac_full (h s : S8) : acells h s 8 = (sl (add8 h s)).toArray := rfl
theorem sl_get (s : S8) : ∀ k, k < 8 → (sl s).toArray[k]? = some (uv (s.list.getD k 0))
  | 0, _ | 1, _ | 2, _ | 3, _ | 4, _ | 5, _ | 6, _ | 7, _ => rfl
  | n + 8, h => absurd h (by omega)

set_option maxRecDepth 100000 in
set_option maxHeartbeats 4000000 in
theorem mixed31 (h : S8) (v : Value) (l : List B8) (hlen : l.length = 64) (w : World) (hv : Arr w 1 v 64 (bl l)) : Gives Try.prog 31 #[sagg h, v] w (sagg (mix h l)) := by
  apply gives_of
  obtain ⟨_, a, cap, rfl, hcap, hmax, hx⟩ := hv
  obtain ⟨b, off, rfl, hb, hcell⟩ := hx (by omega)
  unfold maxLen at hmax
  have HC := hid hcell
  clear hcell hx
  (go_enter Try.func31, Try.ntmps31; go_wp2_with (fail))
  obtain ⟨U, hU⟩ : ∃ U, U = ((w.alloc (.cells (sl h).toArray 37)).alloc (.cells z37 37)).alloc (.cells z51 51) := ⟨_, rfl⟩
  have HH : Hid (Blk U w.heap.size 37 (sl h).toArray) := hid (by rw [hU]; exact ((Blk.new w 37 _).alloc _).alloc _)
  have HR : Hid (Blk U (w.heap.size + 1) 37 z37) := hid (by rw [hU]; exact (blk_new (by simp)).alloc _)
  have HW : Hid (Blk U (w.heap.size + 1 + 1) 51 z51) := hid (by rw [hU]; exact blk_new (by simp))
  have HL : Hid (Later w U) := hid (by rw [hU]; exact by repeat (first | (with_reducible exact Later.refl _) | with_reducible apply Later.latr | with_reducible apply Later.alloc | with_reducible apply Later.drew | (with_reducible refine Later.set ?_ (by (simp; try omega)) _)))
  rw [← hU]
  clear hU
  generalize hgR : w.heap.size + 1 = gR at *
  generalize hgW : gR + 1 = gW at *
  go_loopw [18] (fun i wr => ∃ k : Nat, k ≤ 64 ∧ i = .int .i64 k ∧ Wr U wr gW ∧ Blk wr gW 51 (wcells (words l) k)) (fun i _ => 64 - (intOf i).toNat)
  case atStart => exact ⟨0, Nat.zero_le _, rfl, wr_refl _ _, by rw [← wc_zero]; exact HW.out⟩
  case round =>
    obtain ⟨k, hk, rfl, hWr, hB⟩ := hrel
    by_cases hk64 : k < 64
    · have hd : decide ((k : Int) < 64) = true := decide_eq_true (by omega)
      by_cases hk16 : k < 16
      · have hd16 : decide ((k : Int) < 16) = true := decide_eq_true (by omega)
        have hbU : b < U.heap.size := Nat.lt_of_lt_of_le hb HL.out.size
        have hbw : ∀ o, wr.cell? ⟨b, o, none⟩ = w.cell? ⟨b, o, none⟩ := fun o => by
          have q := HL.out.cell (o := o) hb
          rw [← q]
          unfold World.cell?
          rw [hWr.block b hbU (by intro hh; injection hh; omega)]
        have bl_at : ∀ j, j < 64 → wr.cell? ⟨b, off + j, none⟩ = some (bb (l.getD j 0)) := fun j hj => by
          rw [hbw]
          exact HC.out j _ (by simp [bl, hlen, hj])
        have c0 := bl_at (4 * k) (by omega)
        have c1 := bl_at (4 * k + 1) (by omega)
        have c2 := bl_at (4 * k + 2) (by omega)
        have c3 := bl_at (4 * k + 3) (by omega)
        rw [← Nat.add_assoc] at c1 c2 c3
        clear bl_at hbw
        have hm : ∀ x0 x1 x2 x3, x0 = l.getD (4 * k) 0 → x1 = l.getD (4 * k + 1) 0 → x2 = l.getD (4 * k + 2) 0 → x3 = l.getD (4 * k + 3) 0 → word x0 x1 x2 x3 = sched (words l) k := fun x0 x1 x2 x3 h0 h1 h2 h3 => by rw [h0, h1, h2, h3, sched_low _ (words_len l) k hk16, words_at l k hk16]
        replace hm := hid (hm _ _ _ _ rfl rfl rfl rfl)
        generalize l.getD (4 * k) 0 = x0 at *
        generalize l.getD (4 * k + 1) 0 = x1 at *
        generalize l.getD (4 * k + 2) 0 = x2 at *
        generalize l.getD (4 * k + 3) 0 = x3 at *
        have hgW : gW < wr.heap.size := hB.lt
        have hbr : b < wr.heap.size := Nat.lt_of_lt_of_le hbU hWr.size
        have f0 := hB.frozen k
        have i0 : wr.cell? ⟨gW, k, none⟩ = some (uv 0#32) := by rw [hB.cell]; simp [wcells, hk64]
        go_wp2_with (fail)
        rw [show 4 * k + 4 - 4 * k = 4 by omega]
        (refine wp_region_calm_tail 24 (by kernel_rfl) (by kernel_rfl) ?_; simp only [List.take_succ_cons, List.take_zero, List.drop_succ_cons, List.drop_zero]; (repeat (go_big_quiet_step (fail))); refine wpQuiet_nil ?_; rintro _ ⟨x, rfl⟩; go_wp2_with (fail))
        refine ⟨⟨k + 1, by omega, by go_num, (hWr.latr x).set k _, ?_⟩, by simp [intOf]; omega⟩
        have := (hB.latr x).set_ k (uv (word x0 x1 x2 x3))
        rw [wc_set _ hk64 _ hm.out] at this
        exact this
      · have hd16 : decide ((k : Int) < 16) = false := decide_eq_false (by omega)
        have hgW : gW < wr.heap.size := hB.lt
        have c15 : wr.cell? ⟨gW, k - 15, none⟩ = some (uv (sched (words l) (k - 15))) := by rw [hB.cell]; exact wc_get _ (by omega) hk
        have c2 : wr.cell? ⟨gW, k - 2, none⟩ = some (uv (sched (words l) (k - 2))) := by rw [hB.cell]; exact wc_get _ (by omega) hk
        have c16 : wr.cell? ⟨gW, k - 16, none⟩ = some (uv (sched (words l) (k - 16))) := by rw [hB.cell]; exact wc_get _ (by omega) hk
        have c7 : wr.cell? ⟨gW, k - 7, none⟩ = some (uv (sched (words l) (k - 7))) := by rw [hB.cell]; exact wc_get _ (by omega) hk
        have f0 := hB.frozen k
        have i0 : wr.cell? ⟨gW, k, none⟩ = some (uv 0#32) := by rw [hB.cell]; simp [wcells, hk64]
        have e15 : (k : Int) - 15 = ((k - 15 : Nat) : Int) := by omega
        have e2 : (k : Int) - 2 = ((k - 2 : Nat) : Int) := by omega
        have e16 : (k : Int) - 16 = ((k - 16 : Nat) : Int) := by omega
        have e7 : (k : Int) - 7 = ((k - 7 : Nat) : Int) := by omega
        have hm : ∀ y0 y1 y2 y3, y0 = sched (words l) (k - 16) → y1 = sched (words l) (k - 7) → y2 = sched (words l) (k - 15) → y3 = sched (words l) (k - 2) → y0 + y1 + sg0 y2 + sg1 y3 = sched (words l) k := fun y0 y1 y2 y3 h0 h1 h2 h3 => by rw [h0, h1, h2, h3, sched_high _ (words_len l) k (by omega)]
        replace hm := hid (hm _ _ _ _ rfl rfl rfl rfl)
        generalize sched (words l) (k - 16) = y0 at *
        generalize sched (words l) (k - 7) = y1 at *
        generalize sched (words l) (k - 15) = y2 at *
        generalize sched (words l) (k - 2) = y3 at *
        go_wp2_with (fail)
        (refine wp_region_calm (by kernel_rfl) (by kernel_rfl) ?_; (repeat (go_big_quiet_step (fail))); refine wpQuiet_nil ?_; rintro _ ⟨x, rfl⟩; go_wp2_with (fail))
        (refine wp_region_calm_tail 29 (by kernel_rfl) (by kernel_rfl) ?_; simp only [List.take_succ_cons, List.take_zero, List.drop_succ_cons, List.drop_zero]; (repeat (go_big_quiet_step ((go_at_call 33; first | ((with_reducible show Calls _ _ #[_, .int .i64 7] _ _); exact calm_of (rot33_7 _ _)) | ((with_reducible show Calls _ _ #[_, .int .i64 18] _ _); exact calm_of (rot33_18 _ _)) | ((with_reducible show Calls _ _ #[_, .int .i64 17] _ _); exact calm_of (rot33_17 _ _)) | ((with_reducible show Calls _ _ #[_, .int .i64 19] _ _); exact calm_of (rot33_19 _ _)))))); refine wpQuiet_nil ?_; rintro _ ⟨x, rfl⟩; go_wp2_with (fail))
        refine ⟨⟨k + 1, by omega, by go_num, (hWr.latr _).set k _, ?_⟩, by simp [intOf]; omega⟩
        exact ((hB.latr _).set_ k (uv (y0 + y1 + sg0 y2 + sg1 y3))).cast (wc_set _ hk64 _ hm.out)
    · obtain rfl : k = 64 := by omega
      rw [show ((64 : Nat) : Int) = 64 from rfl]
      have HH1 := hid (hWr.blk HH.out (by omega))
      have HR1 := hid (hWr.blk HR.out (by omega))
      have HW1 := hid hB
      have HL1 := hid (HL.out.wr hWr (by omega))
      clear hWr hB HH HR HW HL
      go_wp2_with (fail)
      refine (parts34 _).later.mono ?_
      rintro e W1 ⟨rfl, hl1⟩
      replace HH1 := hid (HH1.out.later hl1)
      replace HR1 := hid (HR1.out.later hl1)
      replace HW1 := hid (HW1.out.later hl1)
      replace HL1 := hid (HL1.out.trans hl1)
      have hgH : w.heap.size < W1.heap.size := HH1.out.lt
      have hgR' : gR < W1.heap.size := HR1.out.lt
      have hgW' : gW < W1.heap.size := HW1.out.lt
      clear hl1
      have hlk := len_kays
      have ht1 : (W1.alloc (.cells z51 51)).there W1.heap.size 0 64 := (Blk.new W1 51 _).thereN 64 z51_size
      have B2 : Blk ((W1.alloc (.cells z51 51)).setCells W1.heap.size 0 (wl kays)) w.heap.size 37 (sl h).toArray := far_sets (HH1.out.alloc _) (by omega) _ _
      have ht2 := B2.there0 8 rfl
      have ha2 := B2.agg 8 rfl
      change _ = sagg h at ha2
      have B3 : Blk (((W1.alloc (.cells z51 51)).setCells W1.heap.size 0 (wl kays)).alloc (.cells z37 37)) (W1.heap.size + 1) 37 z37 := blk_new (by simp [size_sets])
      have ht3 := B3.thereN 8 z37_size
      (try simp only [])
      (repeat go_step)
      obtain ⟨V, hV⟩ : ∃ V, V = (((W1.alloc (.cells z51 51)).setCells W1.heap.size 0 (wl kays)).alloc (.cells z37 37)).setCells (W1.heap.size + 1) 0 (sl h) := ⟨_, rfl⟩
      have HK : Hid (Blk V W1.heap.size 51 (wl kays).toArray) := hid (by rw [hV]; exact far_sets ((set51 kays len_kays (Blk.new W1 51 _) z51_size).alloc _) (by omega) _ _)
      have HV : Hid (Blk V (W1.heap.size + 1) 37 (sl h).toArray) := hid (by rw [hV]; exact set37 h B3 z37_size)
      replace HH1 : Hid (Blk V w.heap.size 37 (sl h).toArray) := hid (by rw [hV]; exact far_sets (B2.alloc _) (by omega) _ _)
      replace HR1 : Hid (Blk V gR 37 z37) := hid (by rw [hV]; exact far_sets ((far_sets (HR1.out.alloc _) (by omega) _ _).alloc _) (by omega) _ _)
      replace HW1 : Hid (Blk V gW 51 (wcells (words l) 64)) := hid (by rw [hV]; exact far_sets ((far_sets (HW1.out.alloc _) (by omega) _ _).alloc _) (by omega) _ _)
      replace HL1 : Hid (Later w V) := hid (by rw [hV]; exact later_sets ((later_sets (HL1.out.alloc _) (by omega) _ _).alloc _) (by omega) _ _)
      rw [← hV]
      clear hV B2 B3 ht1 ht2 ha2 ht3
      generalize hp2 : W1.heap.size + 1 = p2 at *
      generalize W1.heap.size = p1 at *
      go_loopw [94] (fun i wr => ∃ k : Nat, k ≤ 64 ∧ i = .int .i64 k ∧ Wr V wr p2 ∧ Blk wr p2 37 (sl (rounds (words l) h k)).toArray) (fun i _ => 64 - (intOf i).toNat)
      case atStart => exact ⟨0, Nat.zero_le _, rfl, wr_refl _ _, HV.out⟩
      case round =>
        obtain ⟨k, hk, rfl, hWr, hB⟩ := hrel
        by_cases hk64 : k < 64
        · have hd : decide ((k : Int) < 64) = true := decide_eq_true (by omega)
          have ck : wr.cell? ⟨p1, k, none⟩ = some (uv (kays.getD k 0)) := by
            rw [(hWr.blk HK.out (by omega)).cell]
            simp [wl, len_kays, hk64]
          have cw : wr.cell? ⟨gW, k, none⟩ = some (uv (sched (words l) k)) := by
            rw [(hWr.blk HW1.out (by omega)).cell]
            exact wc_get _ hk64 (Nat.le_refl _)
          have hm : rounds (words l) h (k + 1) = rnd (rounds (words l) h k) (kays.getD k 0) (sched (words l) k) := rfl
          have hgK : p1 < wr.heap.size := (hWr.blk HK.out (by omega)).lt
          have hgW2 : gW < wr.heap.size := (hWr.blk HW1.out (by omega)).lt
          have hgV : p2 < wr.heap.size := hB.lt
          generalize hs' : rounds (words l) h (k + 1) = s' at *
          generalize rounds (words l) h k = s at *
          generalize kays.getD k 0 = xk at *
          generalize sched (words l) k = xw at *
          replace hm := hid hm
          have d0 : wr.cell? ⟨p2, 0, none⟩ = some (uv s.a) := hB.cell 0
          have d1 : wr.cell? ⟨p2, 1, none⟩ = some (uv s.b) := hB.cell 1
          have d2 : wr.cell? ⟨p2, 2, none⟩ = some (uv s.c) := hB.cell 2
          have d3 : wr.cell? ⟨p2, 3, none⟩ = some (uv s.d) := hB.cell 3
          have d4 : wr.cell? ⟨p2, 4, none⟩ = some (uv s.e) := hB.cell 4
          have d5 : wr.cell? ⟨p2, 5, none⟩ = some (uv s.f) := hB.cell 5
          have d6 : wr.cell? ⟨p2, 6, none⟩ = some (uv s.g) := hB.cell 6
          have d7 : wr.cell? ⟨p2, 7, none⟩ = some (uv s.h) := hB.cell 7
          go_wp2_with (fail)
          (refine wp_region_calm (by kernel_rfl) (by kernel_rfl) ?_; (repeat (go_big_quiet_step (fail))); refine wpQuiet_nil ?_; rintro _ ⟨x, rfl⟩; go_wp2_with (fail))
          (refine wp_region_calm (by kernel_rfl) (by kernel_rfl) ?_; (repeat (go_big_quiet_step ((go_at_call 33; first | ((with_reducible show Calls _ _ #[_, .int .i64 6] _ _); exact calm_of (rot33_6 _ _)) | ((with_reducible show Calls _ _ #[_, .int .i64 11] _ _); exact calm_of (rot33_11 _ _)) | ((with_reducible show Calls _ _ #[_, .int .i64 25] _ _); exact calm_of (rot33_25 _ _)))))); refine wpQuiet_nil ?_; rintro _ ⟨x, rfl⟩; go_wp2_with (fail))
          (refine wp_region_calm (by kernel_rfl) (by kernel_rfl) ?_; (repeat (go_big_quiet_step ((go_at_call 33; first | ((with_reducible show Calls _ _ #[_, .int .i64 2] _ _); exact calm_of (rot33_2 _ _)) | ((with_reducible show Calls _ _ #[_, .int .i64 13] _ _); exact calm_of (rot33_13 _ _)) | ((with_reducible show Calls _ _ #[_, .int .i64 22] _ _); exact calm_of (rot33_22 _ _)))))); refine wpQuiet_nil ?_; rintro W9 hW9; replace hW9 := later_of hW9)
          have hL9 : Later wr W9 := Later.trans (a := wr) (by repeat (first | (with_reducible exact Later.refl _) | with_reducible apply Later.latr | with_reducible apply Later.alloc | with_reducible apply Later.drew | (with_reducible refine Later.set ?_ (by (simp; try omega)) _))) hW9
          have hB9 := hB.later hL9
          have ht9 := hB9.there0 8 rfl
          have d1' := hB9.cell 1
          have d2' := hB9.cell 2
          have d3' := hB9.cell 3
          have d5' := hB9.cell 5
          have d6' := hB9.cell 6
          change _ = some (uv s.b) at d1'
          change _ = some (uv s.c) at d2'
          change _ = some (uv s.d) at d3'
          change _ = some (uv s.f) at d5'
          change _ = some (uv s.g) at d6'
          clear hW9
          (repeat (first | (refine big37_of s' (by rw [hm.out]; rfl) ht9 ?_) | go_step))
          go_roundw
          case rel => exact ⟨k + 1, by omega, by go_num, wr_sets (hWr.later hL9) _ _, by rw [hs']; exact set37 s' hB9 rfl⟩
          case measure => simp [intOf]; omega
        · obtain rfl : k = 64 := by omega
          rw [show ((64 : Nat) : Int) = 64 from rfl]
          have HH2 := hid (hWr.blk HH1.out (by omega))
          have HR2 := hid (hWr.blk HR1.out (by omega))
          have HV2 := hid hB
          have HL2 := hid (HL1.out.wr hWr (by omega))
          clear hWr hB HH1 HR1 HW1 HL1 HV HK
          have hmx : mix h l = add8 h (rounds (words l) h 64) := rfl
          generalize rounds (words l) h 64 = s at *
          go_wp2_with (fail)
          go_loopw [174] (fun i wr' => ∃ k : Nat, k ≤ 8 ∧ i = .int .i64 k ∧ Wr wr wr' w.heap.size ∧ Blk wr' w.heap.size 37 (acells h s k)) (fun i _ => 8 - (intOf i).toNat)
          case atStart => exact ⟨0, Nat.zero_le _, rfl, wr_refl _ _, HH2.out⟩
          case round =>
            obtain ⟨k, hk, rfl, hWr, hB⟩ := hrel
            by_cases hk8 : k < 8
            · have hd : decide ((k : Int) < 8) = true := decide_eq_true (by omega)
              have cv := (hWr.blk HV2.out (by omega)).cell k
              rw [sl_get s k hk8] at cv
              have ch := hB.cell k
              rw [ac_get h s hk8] at ch
              have fh := hB.frozen k
              have hgV : p2 < wr.heap.size := (hWr.blk HV2.out (by omega)).lt
              have hgH2 : w.heap.size < wr.heap.size := hB.lt
              have hac := hid (ac_set h s hk8)
              generalize s.list.getD k 0 = ys at *
              generalize h.list.getD k 0 = yh at *
              go_wp2_with (fail)
              (refine wp_region_calm_tail 8 (by kernel_rfl) (by kernel_rfl) ?_; simp only [List.take_succ_cons, List.take_zero, List.drop_succ_cons, List.drop_zero]; (repeat (go_big_quiet_step (fail))); refine wpQuiet_nil ?_; rintro _ ⟨x, rfl⟩; go_wp2_with (fail))
              refine ⟨⟨k + 1, by omega, by go_num, (hWr.latr _).set k _, ?_⟩, by simp [intOf]; omega⟩
              exact ((hB.latr _).set_ k (uv (yh + ys))).cast hac.out
            · obtain rfl : k = 8 := by omega
              rw [ac_full, ← hmx] at hB
              have hRb := hWr.blk HR2.out (by omega)
              have hLe := HL2.out.wr hWr (Nat.le_refl _)
              have ht1 := hB.there0 8 rfl
              have ha1 := hB.agg 8 rfl
              change _ = sagg (mix h l) at ha1
              have ht2 := hRb.thereN 8 z37_size
              (try simp only [])
              (repeat go_step)
              exact fin_cell rfl rfl rfl (ret37 _ (set37 _ hRb z37_size)) ⟨by rw [hmx], later_sets hLe (by omega) _ _⟩
end Go.Proofs.Ytnidpncacgknkaa
