/- The walk of mac.Sum: texts' code, by a key. Of keys, and of texts together, of at most five hundred thousand bytes. -/
import Derived.Test.YtnidpncacgknkaaBegun
import Derived.Test.YtnidpncacgknkaaAwake
namespace Go.Proofs.Ytnidpncacgknkaa
open Go.RowKit
attribute [local go_sem] ite_max ite_min
attribute [local go_sem] h_lt1 h_lt2 h_lt3 h_lt4 h_lt5 h_lt6 h_eq1 h_qe1 h_eq2 h_qe2 h_eq3 h_qe3 h_eq4 h_qe4 h_eq5 h_qe5 h_eq6 h_qe6
/-- a key, no longer than a block -/
def short (key : List B8) : List B8 := if 64 < key.length then sha key else key
/-- a code -/
def hmac (key text : List B8) : List B8 := sha (padBy (short key) 92#8 ++ sha (padBy (short key) 54#8 ++ text))
/-- texts that came in -/
def Texts (w : World) (tv : Value) (ts : List (List B8)) : Prop :=
  ∃ vs : List Value, vs.length = ts.length ∧ Arr w 1 tv ts.length vs ∧ ∀ (i : Nat) v t, vs[i]? = some v → ts[i]? = some t → Arr w 1 v t.length (bl t) ∧ Shape v
theorem Texts.later {w w' : World} {tv : Value} {ts : List (List B8)} (h : Texts w tv ts) (hl : Later w w') : Texts w' tv ts := by
  obtain ⟨vs, h1, h2, h3⟩ := h
  exact ⟨vs, h1, h2.later hl, fun i v t hv ht => ⟨(h3 i v t hv ht).1.later hl, (h3 i v t hv ht).2⟩⟩
theorem short_len (key : List B8) : (short key).length ≤ 64 := by
  unfold short
  split
  · rw [sha_len]; omega
  · omega
set_option maxRecDepth 100000 in
set_option maxHeartbeats 8000000 in
theorem mac12 (kv : Value) (key : List B8) (tv : Value) (ts : List (List B8)) (w : World) (hk : Arr w 1 kv key.length (bl key)) (hks : Shape kv) (ht : Texts w tv ts) (hlk : key.length ≤ 500000) (hlt : ts.flatten.length ≤ 500000) :
    Gives Try.prog 12 #[kv, tv] w (bagg (hmac key ts.flatten)) := by
  apply gives_of
  have hmf : ∀ (fn : Fn) (first cap : Array Value) (w : World), (Instr.makeFunc fn first cap).run Try.prog w = .ok (.func fn first cap) w := fun _ _ _ _ => rfl
  have HK := hid hk
  have HT := hid ht
  obtain ⟨_, a, cap, rfl, hcap, _⟩ := hk
  obtain ⟨vs, hvl, hva, hvs⟩ := ht
  obtain ⟨_, ta, tcap, rfl, htcap, htmax, hvc⟩ := hva
  unfold maxLen at htmax
  have HVC := hid hvc
  clear hvc
  have HVS := hid hvs
  clear hvs
  by_cases h64 : 64 < key.length
  · have hd : decide (64 < (key.length : Int)) = true := decide_eq_true (by omega)
    have hsk : short key = sha key := by unfold short; rw [if_pos h64]
    have hlk3 := sha_len key
    (go_enter Try.func12, Try.ntmps12; go_wp2_with (fail))
    refine (sum17 _ key _ (HK.out.later (by repeat (first | (with_reducible exact Later.refl _) | with_reducible apply Later.latr | with_reducible apply Later.alloc | with_reducible apply Later.drew | (with_reducible refine Later.set ?_ (by (simp; try omega)) _)))) hks (by omega)).later.mono ?_
    rintro e W0 ⟨rfl, hl0⟩
    have hP0 := ((Blk.new w 22 #[.slice a key.length cap]).alloc (.cells z24 24)).later hl0
    have hR0 := (show Blk ((w.alloc (.cells #[.slice a key.length cap] 22)).alloc (.cells z24 24)) (w.heap.size + 1) 24 z24 from blk_new (by simp)).later hl0
    have hL0 := Later.trans (a := w) (by repeat (first | (with_reducible exact Later.refl _) | with_reducible apply Later.latr | with_reducible apply Later.alloc | with_reducible apply Later.drew | (with_reducible refine Later.set ?_ (by (simp; try omega)) _))) hl0
    have ht0 := (Blk.new W0 24 z24).thereN 32 z24_size
    clear hl0
    (try simp only [])
    (iterate 8 go_step)
    obtain ⟨U0, hU0⟩ : ∃ U, U = (W0.alloc (.cells z24 24)).setCells W0.heap.size 0 (bl (sha key)) := ⟨_, rfl⟩
    have hlu0 : Later W0 U0 := by rw [hU0]; exact later_sets (by repeat (first | (with_reducible exact Later.refl _) | with_reducible apply Later.latr | with_reducible apply Later.alloc | with_reducible apply Later.drew | (with_reducible refine Later.set ?_ (by (simp; try omega)) _))) (Nat.le_refl _) _ _
    have hB5 : Blk U0 W0.heap.size 24 (bl (sha key)).toArray := by rw [hU0]; exact set24 _ hlk3 (Blk.new W0 24 _) z24_size
    rw [← hU0]
    have hP1 := hP0.later hlu0
    have hR1' := hR0.later hlu0
    have hL1' := hL0.trans hlu0
    have hpb : w.heap.size ≠ W0.heap.size := by have := hP0.lt; omega
    clear hU0 hlu0 ht0 hP0 hR0 hL0
    generalize W0.heap.size = b5 at *
    have hpc : U0.cell? ⟨w.heap.size, 0, none⟩ = some (.slice a key.length cap) := hP1.cell 0
    have hpf := hP1.frozen 0
    go_wp2_with (fail)
    obtain ⟨X, hX⟩ : ∃ X, X = U0.setCell ⟨w.heap.size, 0, none⟩ (.slice (some ⟨b5, 0, none⟩) 32 32) := ⟨_, rfl⟩
    have HP : Hid (Blk X w.heap.size 22 #[.slice (some ⟨b5, 0, none⟩) 32 32]) := hid (by rw [hX]; exact hP1.set_ 0 _)
    have HR : Hid (Blk X (w.heap.size + 1) 24 z24) := hid (by rw [hX]; exact hR1'.far (p := ⟨w.heap.size, 0, none⟩) (by simp) _)
    have HL : Hid (Later w X) := hid (by rw [hX]; exact hL1'.set (p := ⟨w.heap.size, 0, none⟩) (Nat.le_refl _) _)
    have hB5X : Blk X b5 24 (bl (sha key)).toArray := by rw [hX]; exact hB5.far (p := ⟨w.heap.size, 0, none⟩) (fun h => hpb h.symm) _
    have HKX : Hid (Arr X 1 (.slice (some ⟨b5, 0, none⟩) 32 32) (short key).length (bl (short key))) := hid (by
      rw [hsk]
      have := arr_blk hB5X (by rw [hlk3]; decide)
      rw [hlk3] at this ⊢
      exact this)
    have HOFK := hid (fun g (h : X.heap.size ≤ g) => arr_off HKX.out h)
    rw [← hX]
    clear hX hsk hP1 hR1' hL1' hB5 hB5X hpc hpf hpb
    generalize hR : w.heap.size + 1 = R at *
    generalize hPP : w.heap.size = p at HP HR hR ⊢
    refine (begun25 54#8 _ (.slice (some ⟨b5, 0, none⟩) 32 32) (short key) X (short_len key) HP.out HKX.out).mono ?_
    rintro e W1 ⟨g, rfl, hl1, hg, hh⟩
    have HP1 := hid (HP.out.later hl1)
    have HR1 := hid (HR.out.later hl1)
    have HKX1 := hid (HKX.out.later hl1)
    have HL1 := hid (HL.out.trans hl1)
    have HH1 := hid hh
    have hgX := hg
    have hwX := HL.out.size
    have hpX := HP.out.lt
    have hrX := HR.out.lt
    clear hl1 hh HP HR HKX HL
    go_wp2_with (fail)
    go_loopw [22] (fun i wr => ∃ k : Nat, k ≤ ts.length ∧ i = .int .i64 k ∧ Wr W1 wr g ∧ HashAt wr g (padBy (short key) 54#8 ++ (ts.take k).flatten)) (fun i _ => ts.length - (intOf i).toNat)
    case atStart => exact ⟨0, Nat.zero_le _, rfl, wr_refl _ _, by simpa using HH1.out⟩
    case round =>
      obtain ⟨k, hk, rfl, hWr, hH⟩ := hrel
      by_cases hkl : k < ts.length
      · have hd3 : decide ((k : Int) < (ts.length : Int)) = true := decide_eq_true (by omega)
        obtain ⟨b, off, rfl, hb, hc⟩ := HVC.out (by omega)
        have hkv : k < vs.length := by omega
        obtain ⟨hat, hst⟩ := HVS.out k vs[k] ts[k] (List.getElem?_eq_getElem hkv) (List.getElem?_eq_getElem hkl)
        have hLw := Later.wr (a := w) HL1.out hWr (by omega)
        have c0 : wr.cell? ⟨b, off + k, none⟩ = some vs[k] := (hLw.cell hb).trans (hc k _ (List.getElem?_eq_getElem hkv))
        have hfl : (ts.take (k + 1)).flatten = (ts.take k).flatten ++ ts[k] := by rw [take_succ_ ts k hkl, List.flatten_append]; simp
        have hft : ((ts.take k).flatten).length + (ts[k]).length ≤ 500000 := by
          have h1 : ts.flatten = (ts.take (k + 1)).flatten ++ (ts.drop (k + 1)).flatten := by rw [← List.flatten_append, List.take_append_drop]
          have h2 := congrArg List.length h1
          rw [List.length_append, hfl, List.length_append] at h2
          omega
        have HFL := hid hfl
        have hat2 := hat
        obtain ⟨_, va, vcap, hvk, _⟩ := hat2
        clear hc hfl
        generalize vs[k] = vk at *
        generalize ts[k] = tk at *
        subst hvk
        go_wp2_with (fail)
        refine (add19 g _ _ tk _ (hH.later (by repeat (first | (with_reducible exact Later.refl _) | with_reducible apply Later.latr | with_reducible apply Later.alloc | with_reducible apply Later.drew | (with_reducible refine Later.set ?_ (by (simp; try omega)) _)))) ((hat.later hLw).later (by repeat (first | (with_reducible exact Later.refl _) | with_reducible apply Later.latr | with_reducible apply Later.alloc | with_reducible apply Later.drew | (with_reducible refine Later.set ?_ (by (simp; try omega)) _)))) hst (arr_off hat (by omega)) (by rw [List.length_append, pad_len]; omega)).mono ?_
        rintro e W2 ⟨rfl, hw2, hh2⟩
        have hWr2 : Wr W1 W2 g := hWr.step hw2
        go_wp2_with (fail)
        go_roundw
        case rel => exact ⟨k + 1, by omega, by go_num, hWr2, by rw [HFL.out, ← List.append_assoc]; exact hh2⟩
        case measure => simp [intOf]; omega
      · obtain rfl : k = ts.length := by omega
        rw [List.take_length] at hH
        have HH2 := hid hH
        have HP2 := hid (hWr.blk HP1.out (by omega))
        have HR2 := hid (hWr.blk HR1.out (by omega))
        have HL2 := hid (Later.wr (a := w) HL1.out hWr (by omega))
        have HK2 := hid (HKX1.out.wr hWr (HOFK.out g hgX))
        clear hWr hH HP1 HR1 HL1 HKX1 HH1
        go_wp2_with (fail)
        refine (done20 g _ _ HH2.out (by rw [List.length_append, pad_len]; omega)).later.mono ?_
        rintro e W3 ⟨rfl, hl3⟩
        have hsi := sha_len (padBy (short key) 54#8 ++ ts.flatten)
        have HMC : Hid (sha (padBy (short key) 92#8 ++ sha (padBy (short key) 54#8 ++ ts.flatten)) = hmac key ts.flatten) := hid rfl
        generalize sha (padBy (short key) 54#8 ++ ts.flatten) = I at *
        have ht3 := (Blk.new W3 24 z24).thereN 32 z24_size
        (try simp only [])
        (iterate 8 go_step)
        obtain ⟨U, hU⟩ : ∃ U, U = (W3.alloc (.cells z24 24)).setCells W3.heap.size 0 (bl I) := ⟨_, rfl⟩
        have HB10 : Hid (Blk U W3.heap.size 24 (bl I).toArray) := hid (by rw [hU]; exact set24 _ hsi (Blk.new W3 24 _) z24_size)
        have hlu : Later wr U := by rw [hU]; exact hl3.trans (later_sets (by repeat (first | (with_reducible exact Later.refl _) | with_reducible apply Later.latr | with_reducible apply Later.alloc | with_reducible apply Later.drew | (with_reducible refine Later.set ?_ (by (simp; try omega)) _))) (Nat.le_refl _) _ _)
        rw [← hU]
        have HP3 := hid (HP2.out.later hlu)
        have HR3 := hid (HR2.out.later hlu)
        have HL3 := hid (HL2.out.trans hlu)
        have HK3 := hid (HK2.out.later hlu)
        have hwU := HL3.out.size
        clear hU hlu hl3 ht3 HP2 HR2 HL2 HK2 HH2
        generalize W3.heap.size = b10 at *
        go_wp2_with (fail)
        refine (begun25 92#8 _ (.slice (some ⟨b5, 0, none⟩) 32 32) (short key) U (short_len key) HP3.out HK3.out).mono ?_
        rintro e W4 ⟨g2, rfl, hl4, hg2, hh4⟩
        have hAU : Arr U 1 (.slice (some ⟨b10, 0, none⟩) 32 32) I.length (bl I) := by
          have := arr_blk HB10.out (by rw [hsi]; decide)
          rw [hsi] at this ⊢
          exact this
        have hRU := HR3.out.lt
        have HR4 := hid (HR3.out.later hl4)
        have HL4 := hid (HL3.out.trans hl4)
        have HA4 := hid (hAU.later hl4)
        have HOF := hid (arr_off hAU hg2)
        clear hl4 hAU
        go_wp2_with (fail)
        refine (add19 g2 _ _ I _ hh4 HA4.out (.inr ⟨_, _, _, rfl⟩) HOF.out (by rw [pad_len, hsi]; omega)).mono ?_
        rintro e W5 ⟨rfl, hw5, hh5⟩
        have HR5 := hid (hw5.blk HR4.out (by omega))
        have HL5 := hid (Later.wr (a := w) HL4.out hw5 (by omega))
        clear hw5
        go_wp2_with (fail)
        refine (done20 g2 _ _ hh5 (by rw [List.length_append, pad_len, hsi]; omega)).later.mono ?_
        rintro e W6 ⟨rfl, hl6⟩
        rw [HMC.out]
        have hlm : (hmac key ts.flatten).length = 32 := sha_len _
        have hR6 := HR5.out.later hl6
        have ht6 := hR6.thereN 32 z24_size
        have hL6 := HL5.out.trans hl6
        (try simp only [])
        (repeat go_step)
        exact fin_cell rfl rfl rfl (ret24 _ hlm (set24 _ hlm hR6 z24_size)) ⟨rfl, later_sets hL6 (by omega) _ _⟩
  · have hd : decide (64 < (key.length : Int)) = false := decide_eq_false (by omega)
    have hsk : short key = key := by unfold short; rw [if_neg h64]
    (go_enter Try.func12, Try.ntmps12; go_wp2_with (fail))
    obtain ⟨X, hX⟩ : ∃ X, X = (w.alloc (.cells #[.slice a key.length cap] 22)).alloc (.cells z24 24) := ⟨_, rfl⟩
    have HP : Hid (Blk X w.heap.size 22 #[.slice a key.length cap]) := hid (by rw [hX]; exact (Blk.new w 22 _).alloc _)
    have HR : Hid (Blk X (w.heap.size + 1) 24 z24) := hid (by rw [hX]; exact blk_new (by simp))
    have HL : Hid (Later w X) := hid (by rw [hX]; exact by repeat (first | (with_reducible exact Later.refl _) | with_reducible apply Later.latr | with_reducible apply Later.alloc | with_reducible apply Later.drew | (with_reducible refine Later.set ?_ (by (simp; try omega)) _)))
    have HKX : Hid (Arr X 1 (.slice a key.length cap) (short key).length (bl (short key))) := hid (by rw [hsk]; exact HK.out.later HL.out)
    have HOFK := hid (fun g (h : X.heap.size ≤ g) => arr_off HKX.out h)
    rw [← hX]
    clear hX hsk
    generalize hR : w.heap.size + 1 = R at *
    generalize hPP : w.heap.size = p at HP HR hR ⊢
    refine (begun25 54#8 _ (.slice a key.length cap) (short key) X (short_len key) HP.out HKX.out).mono ?_
    rintro e W1 ⟨g, rfl, hl1, hg, hh⟩
    have HP1 := hid (HP.out.later hl1)
    have HR1 := hid (HR.out.later hl1)
    have HKX1 := hid (HKX.out.later hl1)
    have HL1 := hid (HL.out.trans hl1)
    have HH1 := hid hh
    have hgX := hg
    have hwX := HL.out.size
    have hpX := HP.out.lt
    have hrX := HR.out.lt
    clear hl1 hh HP HR HKX HL
    go_wp2_with (fail)
    go_loopw [22] (fun i wr => ∃ k : Nat, k ≤ ts.length ∧ i = .int .i64 k ∧ Wr W1 wr g ∧ HashAt wr g (padBy (short key) 54#8 ++ (ts.take k).flatten)) (fun i _ => ts.length - (intOf i).toNat)
    case atStart => exact ⟨0, Nat.zero_le _, rfl, wr_refl _ _, by simpa using HH1.out⟩
    case round =>
      obtain ⟨k, hk, rfl, hWr, hH⟩ := hrel
      by_cases hkl : k < ts.length
      · have hd3 : decide ((k : Int) < (ts.length : Int)) = true := decide_eq_true (by omega)
        obtain ⟨b, off, rfl, hb, hc⟩ := HVC.out (by omega)
        have hkv : k < vs.length := by omega
        obtain ⟨hat, hst⟩ := HVS.out k vs[k] ts[k] (List.getElem?_eq_getElem hkv) (List.getElem?_eq_getElem hkl)
        have hLw := Later.wr (a := w) HL1.out hWr (by omega)
        have c0 : wr.cell? ⟨b, off + k, none⟩ = some vs[k] := (hLw.cell hb).trans (hc k _ (List.getElem?_eq_getElem hkv))
        have hfl : (ts.take (k + 1)).flatten = (ts.take k).flatten ++ ts[k] := by rw [take_succ_ ts k hkl, List.flatten_append]; simp
        have hft : ((ts.take k).flatten).length + (ts[k]).length ≤ 500000 := by
          have h1 : ts.flatten = (ts.take (k + 1)).flatten ++ (ts.drop (k + 1)).flatten := by rw [← List.flatten_append, List.take_append_drop]
          have h2 := congrArg List.length h1
          rw [List.length_append, hfl, List.length_append] at h2
          omega
        have HFL := hid hfl
        have hat2 := hat
        obtain ⟨_, va, vcap, hvk, _⟩ := hat2
        clear hc hfl
        generalize vs[k] = vk at *
        generalize ts[k] = tk at *
        subst hvk
        go_wp2_with (fail)
        refine (add19 g _ _ tk _ (hH.later (by repeat (first | (with_reducible exact Later.refl _) | with_reducible apply Later.latr | with_reducible apply Later.alloc | with_reducible apply Later.drew | (with_reducible refine Later.set ?_ (by (simp; try omega)) _)))) ((hat.later hLw).later (by repeat (first | (with_reducible exact Later.refl _) | with_reducible apply Later.latr | with_reducible apply Later.alloc | with_reducible apply Later.drew | (with_reducible refine Later.set ?_ (by (simp; try omega)) _)))) hst (arr_off hat (by omega)) (by rw [List.length_append, pad_len]; omega)).mono ?_
        rintro e W2 ⟨rfl, hw2, hh2⟩
        have hWr2 : Wr W1 W2 g := hWr.step hw2
        go_wp2_with (fail)
        go_roundw
        case rel => exact ⟨k + 1, by omega, by go_num, hWr2, by rw [HFL.out, ← List.append_assoc]; exact hh2⟩
        case measure => simp [intOf]; omega
      · obtain rfl : k = ts.length := by omega
        rw [List.take_length] at hH
        have HH2 := hid hH
        have HP2 := hid (hWr.blk HP1.out (by omega))
        have HR2 := hid (hWr.blk HR1.out (by omega))
        have HL2 := hid (Later.wr (a := w) HL1.out hWr (by omega))
        have HK2 := hid (HKX1.out.wr hWr (HOFK.out g hgX))
        clear hWr hH HP1 HR1 HL1 HKX1 HH1
        go_wp2_with (fail)
        refine (done20 g _ _ HH2.out (by rw [List.length_append, pad_len]; omega)).later.mono ?_
        rintro e W3 ⟨rfl, hl3⟩
        have hsi := sha_len (padBy (short key) 54#8 ++ ts.flatten)
        have HMC : Hid (sha (padBy (short key) 92#8 ++ sha (padBy (short key) 54#8 ++ ts.flatten)) = hmac key ts.flatten) := hid rfl
        generalize sha (padBy (short key) 54#8 ++ ts.flatten) = I at *
        have ht3 := (Blk.new W3 24 z24).thereN 32 z24_size
        (try simp only [])
        (iterate 8 go_step)
        obtain ⟨U, hU⟩ : ∃ U, U = (W3.alloc (.cells z24 24)).setCells W3.heap.size 0 (bl I) := ⟨_, rfl⟩
        have HB10 : Hid (Blk U W3.heap.size 24 (bl I).toArray) := hid (by rw [hU]; exact set24 _ hsi (Blk.new W3 24 _) z24_size)
        have hlu : Later wr U := by rw [hU]; exact hl3.trans (later_sets (by repeat (first | (with_reducible exact Later.refl _) | with_reducible apply Later.latr | with_reducible apply Later.alloc | with_reducible apply Later.drew | (with_reducible refine Later.set ?_ (by (simp; try omega)) _))) (Nat.le_refl _) _ _)
        rw [← hU]
        have HP3 := hid (HP2.out.later hlu)
        have HR3 := hid (HR2.out.later hlu)
        have HL3 := hid (HL2.out.trans hlu)
        have HK3 := hid (HK2.out.later hlu)
        have hwU := HL3.out.size
        clear hU hlu hl3 ht3 HP2 HR2 HL2 HK2 HH2
        generalize W3.heap.size = b10 at *
        go_wp2_with (fail)
        refine (begun25 92#8 _ (.slice a key.length cap) (short key) U (short_len key) HP3.out HK3.out).mono ?_
        rintro e W4 ⟨g2, rfl, hl4, hg2, hh4⟩
        have hAU : Arr U 1 (.slice (some ⟨b10, 0, none⟩) 32 32) I.length (bl I) := by
          have := arr_blk HB10.out (by rw [hsi]; decide)
          rw [hsi] at this ⊢
          exact this
        have hRU := HR3.out.lt
        have HR4 := hid (HR3.out.later hl4)
        have HL4 := hid (HL3.out.trans hl4)
        have HA4 := hid (hAU.later hl4)
        have HOF := hid (arr_off hAU hg2)
        clear hl4 hAU
        go_wp2_with (fail)
        refine (add19 g2 _ _ I _ hh4 HA4.out (.inr ⟨_, _, _, rfl⟩) HOF.out (by rw [pad_len, hsi]; omega)).mono ?_
        rintro e W5 ⟨rfl, hw5, hh5⟩
        have HR5 := hid (hw5.blk HR4.out (by omega))
        have HL5 := hid (Later.wr (a := w) HL4.out hw5 (by omega))
        clear hw5
        go_wp2_with (fail)
        refine (done20 g2 _ _ hh5 (by rw [List.length_append, pad_len, hsi]; omega)).later.mono ?_
        rintro e W6 ⟨rfl, hl6⟩
        rw [HMC.out]
        have hlm : (hmac key ts.flatten).length = 32 := sha_len _
        have hR6 := HR5.out.later hl6
        have ht6 := hR6.thereN 32 z24_size
        have hL6 := HL5.out.trans hl6
        (try simp only [])
        (repeat go_step)
        exact fin_cell rfl rfl rfl (ret24 _ hlm (set24 _ hlm hR6 z24_size)) ⟨rfl, later_sets hL6 (by omega) _ _⟩
end Go.Proofs.Ytnidpncacgknkaa
