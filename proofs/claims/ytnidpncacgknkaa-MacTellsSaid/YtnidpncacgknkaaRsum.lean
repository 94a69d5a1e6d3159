/- The walk of the reference's Sum: a text's hash. Of at most nine hundred thousand bytes. -/
import Derived.Test.YtnidpncacgknkaaRpad
import Derived.Test.YtnidpncacgknkaaRlaw
namespace Go.Proofs.Ytnidpncacgknkaa
open Go.RowKit
attribute [local go_sem] ite_max ite_min
attribute [local go_sem ↓] Go.wp_at_zero Go.wp_at_succ
attribute [local go_sem] u_shr24 u_shr16 u_shr8 u_byte
attribute [local go_sem] h_lt1 h_lt2 h_lt3 h_lt4 h_lt5 h_lt6 h_eq1 h_qe1 h_eq2 h_qe2 h_eq3 h_qe3 h_eq4 h_qe4 h_eq5 h_qe5 h_eq6 h_qe6
theorem ch_or2 (e f g : W32) : e &&& f ||| BitVec.not e &&& g = ch e f g := by
  rw [← ch_or, BitVec.xor_allOnes]
  rfl
theorem padded_len (l : List B8) : ∃ m, (padded l).length = 64 * m ∧ 0 < m ∧ m ≤ l.length + 2 := by
  have h : (padded l).length = l.length + 1 + zeros l.length + 8 := by simp [padded, lenBytes]; omega
  refine ⟨(l.length + 1 + zeros l.length + 8) / 64, ?_, ?_, ?_⟩
  · rw [h]; unfold zeros; omega
  · unfold zeros; omega
  · unfold zeros; omega
theorem blk_get (P : List B8) (j i : Nat) (hi : i < 64) : ((P.drop (64 * j)).take 64).getD i 0 = P.getD (64 * j + i) 0 := by
  simp [List.getD_eq_getElem?_getD, List.getElem?_take_of_lt hi]
/-- sixty-four words 0; thirty-two bytes 0 -/
def zw : List W32 := List.replicate 64 0#32
def zb : List B8 := List.replicate 32 0#8
theorem zw_len : zw.length = 64 := by simp [zw]
theorem zb_len : zb.length = 32 := by simp [zb]
theorem zw_cells : (wl zw).toArray = z51 := rfl
theorem zb_cells : (bl zb).toArray = z24 := rfl
set_option maxRecDepth 100000 in
set_option maxHeartbeats 8000000 in
theorem refsum18 (v : Value) (l : List B8) (w : World) (hv : Arr w 1 v l.length (bl l)) (hsh : Shape v) (hlen : l.length ≤ 900000) : Gives Try.prog 18 #[v] w (bagg (sha l)) := by
  apply gives_of
  have HV := hid hv
  obtain ⟨_, a, cap, rfl, hcap, hmax, _⟩ := hv
  clear hmax
  (go_enter Try.func18, Try.ntmps18; go_wp2_with (fail))
  refine (first26 _).later.mono ?_
  rintro e W1 ⟨rfl, hl1⟩
  have HO1 := hid ((Blk.new w 24 z24).later hl1)
  have HL1 := hid (Later.trans (a := w) (by repeat (first | (with_reducible exact Later.refl _) | with_reducible apply Later.latr | with_reducible apply Later.alloc | with_reducible apply Later.drew | (with_reducible refine Later.set ?_ (by (simp; try omega)) _))) hl1)
  have hg3 : w.heap.size < W1.heap.size := HO1.out.lt
  have ht1 := (Blk.new W1 37 z37).thereN 8 z37_size
  clear hl1
  (try simp only [])
  (iterate 8 go_step)
  obtain ⟨U1, hU1⟩ : ∃ U, U = (W1.alloc (.cells z37 37)).setCells W1.heap.size 0 (sl first8) := ⟨_, rfl⟩
  have HB1 : Hid (Blk U1 W1.heap.size 37 (sl first8).toArray) := hid (by rw [hU1]; exact set37 first8 (Blk.new W1 37 _) z37_size)
  have hlu1 : Later W1 U1 := by rw [hU1]; exact later_sets (by repeat (first | (with_reducible exact Later.refl _) | with_reducible apply Later.latr | with_reducible apply Later.alloc | with_reducible apply Later.drew | (with_reducible refine Later.set ?_ (by (simp; try omega)) _))) (Nat.le_refl _) _ _
  rw [← hU1]
  replace HO1 := hid (HO1.out.later hlu1)
  replace HL1 := hid (HL1.out.trans hlu1)
  clear hU1 hlu1 ht1
  generalize W1.heap.size = g3 at *
  go_wp2_with (fail)
  refine (parts27 _).later.mono ?_
  rintro e W2 ⟨rfl, hl2⟩
  have hg4 : g3 < W2.heap.size := (HB1.out.later hl2).lt
  have hlk := len_kays
  have ht2 := (Blk.new W2 51 z51).thereN 64 z51_size
  (try simp only [])
  (iterate 8 go_step)
  obtain ⟨U2, hU2⟩ : ∃ U, U = (W2.alloc (.cells z51 51)).setCells W2.heap.size 0 (wl kays) := ⟨_, rfl⟩
  have HK2 : Hid (Blk U2 W2.heap.size 51 (wl kays).toArray) := hid (by rw [hU2]; exact set51 kays len_kays (Blk.new W2 51 _) z51_size)
  have hlu2 : Later U1 U2 := by rw [hU2]; exact hl2.trans (later_sets (by repeat (first | (with_reducible exact Later.refl _) | with_reducible apply Later.latr | with_reducible apply Later.alloc | with_reducible apply Later.drew | (with_reducible refine Later.set ?_ (by (simp; try omega)) _))) (Nat.le_refl _) _ _)
  rw [← hU2]
  have HO2 := hid (HO1.out.later hlu2)
  have HB2 := hid (HB1.out.later hlu2)
  have HL2 := hid (HL1.out.trans hlu2)
  clear hU2 hlu2 hl2 ht2 HO1 HB1 HL1
  generalize W2.heap.size = g4 at *
  go_wp2_with (fail)
  refine (padded28 _ l _ (HV.out.later HL2.out) hsh hlen).mono ?_
  rintro e W3 ⟨o, rfl, hl3, hO3⟩
  obtain ⟨m, hm, hm0, hml⟩ := padded_len l
  have HO3 := hid (HO2.out.later hl3)
  have HB3 := hid (HB2.out.later hl3)
  have HK3 := hid (HK2.out.later hl3)
  have HL3 := hid (HL2.out.trans hl3)
  have hsha : Hid (sha l = bytesOf (blocks m first8 (padded l))) := hid (by unfold sha state; rw [show (padded l).length / 64 = m by omega])
  obtain ⟨pa, pc, hq⟩ := own_is_slice hO3
  subst hq
  generalize padded l = P at *
  obtain ⟨b, rfl, hbase, hbW, hPc, hPm, hcell⟩ := own_slice hO3 (by omega)
  have HC := hid hcell
  have hbg3 : b ≠ g3 := by have := HB2.out.lt; omega
  clear hcell hl3 hO3 HO2 HB2 HK2 HL2 hbase
  rw [hm] at hPc ⊢
  have hml2 : 64 * m ≤ 100000000 := by omega
  have HM := hid hm
  clear hm hml
  go_wp2_with (fail)
  go_loopw [6] (fun i wr => ∃ j : Nat, j ≤ m ∧ i = .int .i64 ((64 * j : Nat) : Int) ∧ Wr W3 wr g3 ∧ Blk wr g3 37 (sl (blocks j first8 P)).toArray) (fun i _ => 64 * m - (intOf i).toNat)
  case atStart => exact ⟨0, Nat.zero_le _, rfl, wr_refl _ _, HB3.out⟩
  case round =>
    obtain ⟨j, hj, rfl, hWr, hB⟩ := hrel
    have HWr := hid hWr
    have HB := hid hB
    have hgr : g3 < wr.heap.size := hB.lt
    have hWsz := hWr.size
    have hg3W := HB3.out.lt
    have hg4W := HK3.out.lt
    clear hWr hB
    by_cases hjm : j < m
    · have HMX := hid (blocks_snoc j first8 P)
      have HPX := hid (fun i (hi : i < 64) => blk_get P j i hi)
      have hPL : ((P.drop (64 * j)).take 64).length = 64 := by have := HM.out; simp; omega
      generalize blocks j first8 P = hs at *
      generalize hblk : (P.drop (64 * j)).take 64 = blk at *
      have ha64 : 64 * j + 64 ≤ 64 * m := by omega
      have HJ := hid (show 64 * j + 64 = 64 * (j + 1) by omega)
      generalize hat : 64 * j = at_ at *
      generalize hM : 64 * m = M at *
      have hd : decide ((at_ : Int) < (M : Int)) = true := decide_eq_true (by omega)
      have hd' : decide (at_ < M) = true := decide_eq_true (by omega)
      have ht4 := (Blk.new wr 51 z51).thereN 64 z51_size
      (try simp only [])
      (repeat (first | (refine big51_of zw rfl zw_len ht4 ?_) | go_step))
      obtain ⟨U, hU⟩ : ∃ U, U = (wr.alloc (.cells z51 51)).setCells wr.heap.size 0 (wl zw) := ⟨_, rfl⟩
      have HWW : Hid (Blk U wr.heap.size 51 (wcells (words blk) 0)) := hid (by rw [hU, ← wc_zero, ← zw_cells]; exact set51 zw zw_len (Blk.new wr 51 _) z51_size)
      have hlu : Later wr U := by rw [hU]; exact later_sets (by repeat (first | (with_reducible exact Later.refl _) | with_reducible apply Later.latr | with_reducible apply Later.alloc | with_reducible apply Later.drew | (with_reducible refine Later.set ?_ (by (simp; try omega)) _))) (Nat.le_refl _) _ _
      rw [← hU]
      have HWU := hid (HWr.out.later hlu)
      have HBU := hid (HB.out.later hlu)
      clear hU hlu ht4 HWr HB
      generalize hg7 : wr.heap.size = g7 at *
      clear hg7 wr
      go_loopw [8] (fun i wr => ∃ k : Nat, k ≤ 64 ∧ i = .int .i64 k ∧ Wr U wr g7 ∧ Blk wr g7 51 (wcells (words blk) k)) (fun i _ => 64 - (intOf i).toNat)
      case atStart => exact ⟨0, Nat.zero_le _, rfl, wr_refl _ _, HWW.out⟩
      case round =>
        obtain ⟨k, hk, rfl, hWr, hB⟩ := hrel
        by_cases hk64 : k < 64
        · have hd : decide ((k : Int) < 64) = true := decide_eq_true (by omega)
          by_cases hk16 : k < 16
          · have hd16 : decide ((k : Int) < 16) = true := decide_eq_true (by omega)
            have hbU : b < U.heap.size := by have := HWU.out.size; omega
            have hbw : ∀ o, wr.cell? ⟨b, o, none⟩ = W3.cell? ⟨b, o, none⟩ := fun o => by
              unfold World.cell?
              rw [hWr.block b hbU (by intro hh; injection hh; omega), HWU.out.block b hbW (by intro hh; injection hh; omega)]
            have bl_at : ∀ r, r < 4 → wr.cell? ⟨b, at_ + 4 * k + r, none⟩ = some (bb (blk.getD (4 * k + r) 0)) := fun r hr => by
              rw [hbw, HPX.out (4 * k + r) (by omega), ← Nat.add_assoc]
              refine HC.out _ _ ?_
              have : at_ + 4 * k + r < P.length := by have := HM.out; omega
              simp [bl, this]
            have c0 := bl_at 0 (by omega)
            have c1 := bl_at 1 (by omega)
            have c2 := bl_at 2 (by omega)
            have c3 := bl_at 3 (by omega)
            rw [Nat.add_zero, Nat.add_zero] at c0
            clear bl_at hbw
            have hm : ∀ x0 x1 x2 x3, x0 = blk.getD (4 * k) 0 → x1 = blk.getD (4 * k + 1) 0 → x2 = blk.getD (4 * k + 2) 0 → x3 = blk.getD (4 * k + 3) 0 → word x0 x1 x2 x3 = sched (words blk) k := fun x0 x1 x2 x3 h0 h1 h2 h3 => by rw [h0, h1, h2, h3, sched_low _ (words_len blk) k hk16, words_at blk k hk16]
            replace hm := hid (hm _ _ _ _ rfl rfl rfl rfl)
            generalize blk.getD (4 * k) 0 = x0 at *
            generalize blk.getD (4 * k + 1) 0 = x1 at *
            generalize blk.getD (4 * k + 2) 0 = x2 at *
            generalize blk.getD (4 * k + 3) 0 = x3 at *
            have q0 : (at_ : Int) + 4 * (k : Int) = ((at_ + 4 * k : Nat) : Int) := by omega
            have hq3 : at_ + 4 * k + 3 < M := by omega
            generalize at_ + 4 * k = c at *
            have hgW : g7 < wr.heap.size := hB.lt
            have hbr : b < wr.heap.size := Nat.lt_of_lt_of_le hbU hWr.size
            have f0 := hB.frozen k
            have i0 : wr.cell? ⟨g7, k, none⟩ = some (uv 0#32) := by rw [hB.cell]; simp [wcells, hk64]
            have r0 : decide ((c : Int) < (M : Int)) = true := decide_eq_true (by omega)
            have r1 : decide ((c : Int) + 1 < (M : Int)) = true := decide_eq_true (by omega)
            have r2 : decide ((c : Int) + 2 < (M : Int)) = true := decide_eq_true (by omega)
            have r3 : decide ((c : Int) + 3 < (M : Int)) = true := decide_eq_true (by omega)
            have s0 : (c : Int) < (M : Int) := by omega
            have s1 : (c : Int) + 1 < (M : Int) := by omega
            have s2 : (c : Int) + 2 < (M : Int) := by omega
            have s3 : (c : Int) + 3 < (M : Int) := by omega
            go_wp2_with (fail)
            (refine wp_region_calm_tail 31 (by kernel_rfl) (by kernel_rfl) ?_; simp only [List.take_succ_cons, List.take_zero, List.drop_succ_cons, List.drop_zero]; (repeat (go_big_quiet_step (fail))); refine wpQuiet_nil ?_; rintro _ ⟨x, rfl⟩; go_wp2_with (fail))
            refine ⟨⟨k + 1, by omega, by go_num, (hWr.latr x).set k _, ?_⟩, by simp [intOf]; omega⟩
            exact ((hB.latr x).set_ k (uv (x0.setWidth 32 <<< 24 + x1.setWidth 32 <<< 16 + x2.setWidth 32 <<< 8 + x3.setWidth 32))).cast (wc_set _ hk64 _ (by rw [word_add]; exact hm.out))
          · have hd16 : decide ((k : Int) < 16) = false := decide_eq_false (by omega)
            have hgW : g7 < wr.heap.size := hB.lt
            have c15 : wr.cell? ⟨g7, k - 15, none⟩ = some (uv (sched (words blk) (k - 15))) := by rw [hB.cell]; exact wc_get _ (by omega) hk
            have c2 : wr.cell? ⟨g7, k - 2, none⟩ = some (uv (sched (words blk) (k - 2))) := by rw [hB.cell]; exact wc_get _ (by omega) hk
            have c16 : wr.cell? ⟨g7, k - 16, none⟩ = some (uv (sched (words blk) (k - 16))) := by rw [hB.cell]; exact wc_get _ (by omega) hk
            have c7 : wr.cell? ⟨g7, k - 7, none⟩ = some (uv (sched (words blk) (k - 7))) := by rw [hB.cell]; exact wc_get _ (by omega) hk
            have f0 := hB.frozen k
            have i0 : wr.cell? ⟨g7, k, none⟩ = some (uv 0#32) := by rw [hB.cell]; simp [wcells, hk64]
            have e15 : (k : Int) - 15 = ((k - 15 : Nat) : Int) := by omega
            have e2 : (k : Int) - 2 = ((k - 2 : Nat) : Int) := by omega
            have e16 : (k : Int) - 16 = ((k - 16 : Nat) : Int) := by omega
            have e7 : (k : Int) - 7 = ((k - 7 : Nat) : Int) := by omega
            have hm : ∀ y0 y1 y2 y3, y0 = sched (words blk) (k - 16) → y1 = sched (words blk) (k - 7) → y2 = sched (words blk) (k - 15) → y3 = sched (words blk) (k - 2) → y0 + y1 + sg0 y2 + sg1 y3 = sched (words blk) k := fun y0 y1 y2 y3 h0 h1 h2 h3 => by rw [h0, h1, h2, h3, sched_high _ (words_len blk) k (by omega)]
            replace hm := hid (hm _ _ _ _ rfl rfl rfl rfl)
            generalize sched (words blk) (k - 16) = y0 at *
            generalize sched (words blk) (k - 7) = y1 at *
            generalize sched (words blk) (k - 15) = y2 at *
            generalize sched (words blk) (k - 2) = y3 at *
            go_wp2_with (fail)
            (refine wp_region_calm_tail 29 (by kernel_rfl) (by kernel_rfl) ?_; simp only [List.take_succ_cons, List.take_zero, List.drop_succ_cons, List.drop_zero]; (repeat (go_big_quiet_step ((go_at_call 29; first | ((with_reducible show Calls _ _ #[_, .int .u64 7] _ _); exact calm_of (ref29_7 _ _)) | ((with_reducible show Calls _ _ #[_, .int .u64 18] _ _); exact calm_of (ref29_18 _ _)) | ((with_reducible show Calls _ _ #[_, .int .u64 17] _ _); exact calm_of (ref29_17 _ _)) | ((with_reducible show Calls _ _ #[_, .int .u64 19] _ _); exact calm_of (ref29_19 _ _)))))); refine wpQuiet_nil ?_; rintro _ ⟨x, rfl⟩; go_wp2_with (fail))
            refine ⟨⟨k + 1, by omega, by go_num, (hWr.latr _).set k _, ?_⟩, by simp [intOf]; omega⟩
            exact ((hB.latr _).set_ k (uv (y0 + y1 + sg0 y2 + sg1 y3))).cast (wc_set _ hk64 _ hm.out)
        · obtain rfl : k = 64 := by omega
          rw [show ((64 : Nat) : Int) = 64 from rfl]
          have HH1 := hid (hWr.blk HBU.out (by omega))
          have HW1 := hid hB
          have HWr1 := hid (Wr.grown HWU.out hWr (fun i hi => by injection hi with hi; omega))
          have hwsz := hWr.size
          clear hWr hB HWW HWU HBU
          have hg3w : g3 < wr.heap.size := HH1.out.lt
          have hg7w : g7 < wr.heap.size := HW1.out.lt
          have ht2 := HH1.out.there0 8 rfl
          have ha2 := HH1.out.agg 8 rfl
          change _ = sagg hs at ha2
          have ht3 := (Blk.new wr 37 z37).thereN 8 z37_size
          (try simp only [])
          (repeat go_step)
          obtain ⟨V, hV⟩ : ∃ V, V = (wr.alloc (.cells z37 37)).setCells wr.heap.size 0 (sl hs) := ⟨_, rfl⟩
          have hlv : Later wr V := by rw [hV]; exact later_sets (by repeat (first | (with_reducible exact Later.refl _) | with_reducible apply Later.latr | with_reducible apply Later.alloc | with_reducible apply Later.drew | (with_reducible refine Later.set ?_ (by (simp; try omega)) _))) (Nat.le_refl _) _ _
          have HV1 : Hid (Blk V wr.heap.size 37 (sl (rounds (words blk) hs 0)).toArray) := hid (by rw [hV]; exact set37 hs (Blk.new wr 37 _) z37_size)
          have HK4 := hid ((HWr1.out.blk HK3.out (by omega)).later hlv)
          have HH2 := hid (HH1.out.later hlv)
          have HW2 := hid (HW1.out.later hlv)
          have HWr2 := hid (HWr1.out.later hlv)
          rw [← hV]
          clear hV hlv HH1 HW1 HWr1 ht2 ha2 ht3
          generalize hg12 : wr.heap.size = g12 at *
          go_loopw [13] (fun i wr => ∃ k : Nat, k ≤ 64 ∧ i = .int .i64 k ∧ Wr V wr g12 ∧ Blk wr g12 37 (sl (rounds (words blk) hs k)).toArray) (fun i _ => 64 - (intOf i).toNat)
          case atStart => exact ⟨0, Nat.zero_le _, rfl, wr_refl _ _, HV1.out⟩
          case round =>
            obtain ⟨k, hk, rfl, hWr, hB⟩ := hrel
            by_cases hk64 : k < 64
            · have hd : decide ((k : Int) < 64) = true := decide_eq_true (by omega)
              have ck : wr.cell? ⟨g4, k, none⟩ = some (uv (kays.getD k 0)) := by
                rw [(hWr.blk HK4.out (by omega)).cell]
                simp [wl, len_kays, hk64]
              have cw : wr.cell? ⟨g7, k, none⟩ = some (uv (sched (words blk) k)) := by
                rw [(hWr.blk HW2.out (by omega)).cell]
                exact wc_get _ hk64 (Nat.le_refl _)
              have hm : rounds (words blk) hs (k + 1) = rnd (rounds (words blk) hs k) (kays.getD k 0) (sched (words blk) k) := rfl
              have hgK : g4 < wr.heap.size := (hWr.blk HK4.out (by omega)).lt
              have hgW2 : g7 < wr.heap.size := (hWr.blk HW2.out (by omega)).lt
              have hgV : g12 < wr.heap.size := hB.lt
              generalize hs' : rounds (words blk) hs (k + 1) = s' at *
              generalize rounds (words blk) hs k = s at *
              generalize kays.getD k 0 = xk at *
              generalize sched (words blk) k = xw at *
              replace hm := hid hm
              have d0 : wr.cell? ⟨g12, 0, none⟩ = some (uv s.a) := hB.cell 0
              have d1 : wr.cell? ⟨g12, 1, none⟩ = some (uv s.b) := hB.cell 1
              have d2 : wr.cell? ⟨g12, 2, none⟩ = some (uv s.c) := hB.cell 2
              have d3 : wr.cell? ⟨g12, 3, none⟩ = some (uv s.d) := hB.cell 3
              have d4 : wr.cell? ⟨g12, 4, none⟩ = some (uv s.e) := hB.cell 4
              have d5 : wr.cell? ⟨g12, 5, none⟩ = some (uv s.f) := hB.cell 5
              have d6 : wr.cell? ⟨g12, 6, none⟩ = some (uv s.g) := hB.cell 6
              have d7 : wr.cell? ⟨g12, 7, none⟩ = some (uv s.h) := hB.cell 7
              go_wp2_with (fail)
              (refine wp_region_calm (by kernel_rfl) (by kernel_rfl) ?_; (repeat (go_big_quiet_step ((go_at_call 29; first | ((with_reducible show Calls _ _ #[_, .int .u64 6] _ _); exact calm_of (ref29_6 _ _)) | ((with_reducible show Calls _ _ #[_, .int .u64 11] _ _); exact calm_of (ref29_11 _ _)) | ((with_reducible show Calls _ _ #[_, .int .u64 25] _ _); exact calm_of (ref29_25 _ _)))))); refine wpQuiet_nil ?_; rintro _ ⟨x, rfl⟩; go_wp2_with (fail))
              (refine wp_region_calm (by kernel_rfl) (by kernel_rfl) ?_; (repeat (go_big_quiet_step ((go_at_call 29; first | ((with_reducible show Calls _ _ #[_, .int .u64 2] _ _); exact calm_of (ref29_2 _ _)) | ((with_reducible show Calls _ _ #[_, .int .u64 13] _ _); exact calm_of (ref29_13 _ _)) | ((with_reducible show Calls _ _ #[_, .int .u64 22] _ _); exact calm_of (ref29_22 _ _)))))); refine wpQuiet_nil ?_; rintro W9 hW9; replace hW9 := later_of hW9)
              have hL9 : Later wr W9 := Later.trans (a := wr) (by repeat (first | (with_reducible exact Later.refl _) | with_reducible apply Later.latr | with_reducible apply Later.alloc | with_reducible apply Later.drew | (with_reducible refine Later.set ?_ (by (simp; try omega)) _))) hW9
              have hB9 := hB.later hL9
              have ht9 := hB9.there0 8 rfl
              have d0' := hB9.cell 0
              have d1' := hB9.cell 1
              have d2' := hB9.cell 2
              have d3' := hB9.cell 3
              have d4' := hB9.cell 4
              have d5' := hB9.cell 5
              have d6' := hB9.cell 6
              change _ = some (uv s.a) at d0'
              change _ = some (uv s.b) at d1'
              change _ = some (uv s.c) at d2'
              change _ = some (uv s.d) at d3'
              change _ = some (uv s.e) at d4'
              change _ = some (uv s.f) at d5'
              change _ = some (uv s.g) at d6'
              clear hW9
              (repeat (first | (refine big37_of s' (by rw [hm.out]; unfold rnd tt uu; rw [← ch_or2, ← mj_or]; rfl) ht9 ?_) | go_step))
              exact ⟨⟨k + 1, by omega, by go_num, wr_sets (hWr.later hL9) _ _, by rw [hs']; exact set37 s' hB9 rfl⟩, by simp [intOf]; omega⟩
            · obtain rfl : k = 64 := by omega
              rw [show ((64 : Nat) : Int) = 64 from rfl]
              have HH3 := hid (hWr.blk HH2.out (by omega))
              have HV3 := hid hB
              have HWr3 := hid (Wr.grown HWr2.out hWr (fun i hi => by injection hi with hi; omega))
              have hwsz2 := hWr.size
              clear hWr hB HH2 HW2 HWr2 HV1 HK4
              have hmx : Hid (mix hs blk = add8 hs (rounds (words blk) hs 64)) := hid rfl
              generalize rounds (words blk) hs 64 = s at *
              clear hwsz hwsz2
              have hg12w : g12 < wr.heap.size := HV3.out.lt
              have hg3w2 : g3 < wr.heap.size := HH3.out.lt
              go_wp2_with (fail)
              obtain ⟨wq, rfl⟩ : ∃ wq : World, wq = wr := ⟨_, rfl⟩
              go_loopw [18] (fun i wr' => ∃ k : Nat, k ≤ 8 ∧ i = .int .i64 k ∧ Wr wq wr' g3 ∧ Blk wr' g3 37 (acells hs s k)) (fun i _ => 8 - (intOf i).toNat)
              case atStart => exact ⟨0, Nat.zero_le _, rfl, wr_refl _ _, HH3.out⟩
              case round =>
                obtain ⟨k, hk, rfl, hWr, hB⟩ := hrel
                by_cases hk8 : k < 8
                · have hd : decide ((k : Int) < 8) = true := decide_eq_true (by omega)
                  have cv := (hWr.blk HV3.out (by omega)).cell k
                  rw [sl_get s k hk8] at cv
                  have ch := hB.cell k
                  rw [ac_get hs s hk8] at ch
                  have fh := hB.frozen k
                  have hgV : g12 < wr.heap.size := (hWr.blk HV3.out (by omega)).lt
                  have hgH2 : g3 < wr.heap.size := hB.lt
                  have hac := hid (ac_set hs s hk8)
                  generalize s.list.getD k 0 = ys at *
                  generalize hs.list.getD k 0 = yh at *
                  go_wp2_with (fail)
                  (refine wp_region_calm_tail 9 (by kernel_rfl) (by kernel_rfl) ?_; simp only [List.take_succ_cons, List.take_zero, List.drop_succ_cons, List.drop_zero]; (repeat (go_big_quiet_step (fail))); refine wpQuiet_nil ?_; rintro _ ⟨x, rfl⟩; go_wp2_with (fail))
                  refine ⟨⟨k + 1, by omega, by go_num, (hWr.latr x).set k _, ?_⟩, by simp [intOf]; omega⟩
                  exact ((hB.latr x).set_ k (uv (yh + ys))).cast hac.out
                · obtain rfl : k = 8 := by omega
                  rw [ac_full, ← hmx.out] at hB
                  have HWr4 := hid (HWr3.out.step hWr)
                  have HB4 := hid hB
                  have hmi : (at_ : Int) + 64 = ((64 * (j + 1) : Nat) : Int) := by rw [← HJ.out]; omega
                  have hmm : 64 * (j + 1) ≤ M := by rw [← HJ.out]; omega
                  rw [show ((8 : Nat) : Int) = 8 from rfl]
                  clear hWr hB
                  go_wp2_with (fail)
                  refine ⟨⟨j + 1, by omega, rfl, HWr4.out, ?_⟩, ?_⟩
                  · rw [HMX.out]
                    exact HB4.out
                  · simp [intOf]
                    omega
    · obtain rfl : j = m := by omega
      have hd : decide (((64 * j : Nat) : Int) < ((64 * j : Nat) : Int)) = false := decide_eq_false (by omega)
      have HSHA := hid hsha.out
      have hlen32 := bytesOf_len (blocks j first8 P)
      have hL5 := HL3.out.wr HWr.out (by omega)
      have hO5 := HWr.out.blk HO3.out (by omega)
      generalize blocks j first8 P = s3 at *
      clear hsha HM HC HWr HK3 HB3 HL3 HO3
      generalize 64 * j = M at *
      have hwO := hO5.lt
      replace HB := hid HB.out
      have HL5 := hid hL5
      have HO5 := hid hO5
      clear hL5 hO5
      have ht4 := (Blk.new wr 24 z24).thereN 32 z24_size
      (try simp only [])
      (repeat (first | (refine big24_of zb rfl zb_len ht4 ?_) | go_step))
      obtain ⟨U, hU⟩ : ∃ U, U = (wr.alloc (.cells z24 24)).setCells wr.heap.size 0 (bl zb) := ⟨_, rfl⟩
      have HOut : Hid (Blk U wr.heap.size 24 (ocells s3 0)) := hid (by rw [hU, ← oc_zero, ← zb_cells]; exact set24 zb zb_len (Blk.new wr 24 _) z24_size)
      have hlu : Later wr U := by rw [hU]; exact later_sets (by repeat (first | (with_reducible exact Later.refl _) | with_reducible apply Later.latr | with_reducible apply Later.alloc | with_reducible apply Later.drew | (with_reducible refine Later.set ?_ (by (simp; try omega)) _))) (Nat.le_refl _) _ _
      rw [← hU]
      have HB6 := hid (HB.out.later hlu)
      have HO6 := hid (HO5.out.later hlu)
      have HL6 := hid (HL5.out.trans hlu)
      clear hU hlu ht4 HB HO5 HL5
      generalize hg19 : wr.heap.size = g19 at *
      go_loopw [20] (fun i wr => ∃ k : Nat, k ≤ 32 ∧ i = .int .i64 k ∧ Wr U wr g19 ∧ Blk wr g19 24 (ocells s3 k)) (fun i _ => 32 - (intOf i).toNat)
      case atStart => exact ⟨0, Nat.zero_le _, rfl, wr_refl _ _, HOut.out⟩
      case round =>
        obtain ⟨k, hk, rfl, hWr, hB⟩ := hrel
        by_cases hk32 : k < 32
        · have hd : decide ((k : Int) < 32) = true := decide_eq_true (by omega)
          obtain ⟨a4, b4, hab, ha8, hb4⟩ : ∃ a b : Nat, k = 4 * a + b ∧ a < 8 ∧ b < 4 := ⟨k / 4, k % 4, by omega, by omega, by omega⟩
          have ca := (hWr.blk HB6.out (by omega)).cell a4
          rw [sl_get s3 a4 ha8] at ca
          have fo := hB.frozen k
          have co : wr.cell? ⟨g19, k, none⟩ = some (bb 0#8) := by rw [hB.cell]; exact oc_at s3 hk32
          have hby : byteAt s3 k = ((s3.list.getD a4 0) >>> (24 - 8 * b4)).setWidth 8 := by
            unfold byteAt
            rw [show k / 4 = a4 by omega, show k % 4 = b4 by omega]
          have hoc := fun x hx => hid (oc_set s3 hk32 x hx)
          generalize s3.list.getD a4 0 = y at *
          have q1 : (k : Int) / 4 = (a4 : Int) := by omega
          have q2 : Int.tdiv (k : Int) 4 = (a4 : Int) := by rw [Int.tdiv_eq_ediv_of_nonneg (by omega)]; exact q1
          have q3 : (k : Int) % 4 = (b4 : Int) := by omega
          have q4 : Int.tmod (k : Int) 4 = (b4 : Int) := by rw [Int.tmod_eq_emod_of_nonneg (by omega)]; exact q3
          clear hab
          have hg32 : g3 < wr.heap.size := (hWr.blk HB6.out (by omega)).lt
          have hg192 : g19 < wr.heap.size := hB.lt
          rcases (show b4 = 0 ∨ b4 = 1 ∨ b4 = 2 ∨ b4 = 3 by omega) with rfl | rfl | rfl | rfl
          all_goals
            go_wp2_with (fail)
            refine ⟨⟨k + 1, by omega, by go_num, hWr.set k _, ?_⟩, by simp [intOf]; omega⟩
            exact (hB.set_ k _).cast (hoc _ hby.symm).out
        · obtain rfl : k = 32 := by omega
          rw [oc_full] at hB
          have hLe := HL6.out.wr hWr (by omega)
          have hOe := hWr.blk HO6.out (by omega)
          have ht1 := hB.there0 32 ((bl_len _).trans hlen32)
          have ha1 := hB.agg 32 ((bl_len _).trans hlen32)
          change _ = bagg (bytesOf s3) at ha1
          have ht2 := hOe.thereN 32 z24_size
          rw [show ((32 : Nat) : Int) = 32 from rfl]
          (try simp only [])
          (repeat go_step)
          exact fin_cell rfl rfl rfl (ret24 _ hlen32 (set24 _ hlen32 hOe z24_size)) ⟨by rw [HSHA.out], later_sets hLe (Nat.le_refl _) _ _⟩
end Go.Proofs.Ytnidpncacgknkaa
