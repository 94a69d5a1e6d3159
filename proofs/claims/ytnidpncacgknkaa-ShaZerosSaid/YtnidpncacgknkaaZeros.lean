/- The walk of ShaZeros: it answers true. No condition. -/
import Derived.Test.YtnidpncacgknkaaAwake
import Derived.Test.YtnidpncacgknkaaZlaw
namespace Go.Proofs.Ytnidpncacgknkaa
open Go.RowKit
attribute [local go_sem] ite_max ite_min
attribute [local go_sem ↓] Go.wp_at_zero Go.wp_at_succ
attribute [local go_sem] h_lt1 h_lt2 h_lt3 h_lt4 h_lt5 h_lt6 h_eq1 h_qe1 h_eq2 h_qe2 h_eq3 h_qe3 h_eq4 h_qe4 h_eq5 h_qe5 h_eq6 h_qe6
theorem own_lit {W : World} {t : TypeId} {xs : List Value} {n size base g : Nat} (hg : g = W.heap.size) (hb : base ≤ W.heap.size) (hn : xs.length = n * size) (hm : n ≤ maxLen) :
    (W.alloc (.cells xs.toArray t)).ownsRow base t size (.slice (some ⟨g, 0, none⟩) n n) n xs := by
  subst hg
  exact ⟨hn, .inr ⟨_, n, xs.toArray, rfl, hb, heap_alloc_new W _, Nat.le_refl _, hm, by simpa using hn, by rw [← hn]; simp⟩⟩
theorem own_snoc {W : World} {base : Nat} {v : Value} {T : List B8} {x : B8} (h : W.ownsRow base 5 1 v (T.length + 1) (bl T ++ [bb x])) : W.ownsRow base 5 1 v (T ++ [x]).length (bl (T ++ [x])) := by
  rw [List.length_append, bl, List.map_append]
  exact h
theorem byte_of (k : Nat) : (k : Int) % (256 : Int) = bn (BitVec.ofNat 8 k) := by
  unfold bn
  rw [BitVec.toNat_ofNat]
  omega
set_option maxRecDepth 100000 in
set_option maxHeartbeats 8000000 in
theorem zeros7 (w : World) : Calls Try.prog 7 #[] w fun e w' => e = .returned (.bool true) ∧ Later w w' := by
  obtain ⟨j0, hj0, hy0, hy1, hy2⟩ := info_parts info5
  (go_enter Try.func7, Try.ntmps7; go_wp2_with (fail))
  (refine (awake16 _).mono ?_; rintro e w1 ⟨rfl, x1, rfl⟩; go_wp2_with (fail))
  go_loopw [2, 3] (fun txt i wr => ∃ k : Nat, k ≤ 80 ∧ i = .int .i64 k ∧ Later w wr ∧ wr.ownsRow w.heap.size 5 1 txt (tx k).length (bl (tx k))) (fun _ i _ => 80 - (intOf i).toNat)
  case atStart => exact ⟨0, Nat.zero_le _, rfl, by repeat (first | (with_reducible exact Later.refl _) | with_reducible apply Later.latr | with_reducible apply Later.alloc | with_reducible apply Later.drew | (with_reducible refine Later.set ?_ (by (simp; try omega)) _)), World.ownsRow_nil _ _ _ _⟩
  case round =>
    obtain ⟨k, hk, rfl, hl, hO⟩ := hrel
    have HL := hid hl
    have HO := hid hO
    clear hl hO
    by_cases hlt : k < 80
    · have hd : decide ((k : Int) < 80) = true := decide_eq_true (by omega)
      obtain ⟨p1, p2, p3⟩ := ok_parts k hlt
      have htl : (tx k).length ≤ 80 := by rw [tx_len]; omega
      obtain ⟨pa, pc, hq⟩ := own_is_slice HO.out
      subst hq
      have la := sha_len (tx k)
      have lb := sha_len (tx k ++ [0#8])
      have lc := sha_len (tx (k + 1))
      have hby := byte_of k
      go_wp2_with (fail)
      refine (sum17 _ (tx k) _ (Arr.of_own HO.out) (own_shape HO.out) (by omega)).later.mono ?_
      rintro e W1 ⟨rfl, hl1⟩
      have ht1 := (Blk.new W1 24 z24).thereN 32 z24_size
      replace HO := hid (own_later HO.out hl1)
      have HL1 := hid (HL.out.trans hl1)
      clear hl1 HL
      (try simp only [])
      (iterate 8 go_step)
      obtain ⟨U1, hU1⟩ : ∃ U, U = (W1.alloc (.cells z24 24)).setCells W1.heap.size 0 (bl (sha (tx k))) := ⟨_, rfl⟩
      have HB4 : Hid (Blk U1 W1.heap.size 24 (bl (sha (tx k))).toArray) := hid (by rw [hU1]; exact set24 _ la (Blk.new W1 24 _) z24_size)
      have hlu : Later W1 U1 := by rw [hU1]; exact later_sets (by repeat (first | (with_reducible exact Later.refl _) | with_reducible apply Later.latr | with_reducible apply Later.alloc | with_reducible apply Later.drew | (with_reducible refine Later.set ?_ (by (simp; try omega)) _))) (Nat.le_refl _) _ _
      rw [← hU1]
      replace HO := hid (own_later HO.out hlu)
      have HL2 := hid (HL1.out.trans hlu)
      have hle2 := hid HL2.out.size
      have HSH := hid (own_shape HO.out)
      have hpU := hid (fun g (hg : (Value.slice pa (tx k).length pc).ownBlock = some g) => (HO.out.lt g hg).2)
      clear hU1 hlu HL1 ht1
      generalize W1.heap.size = b4 at *
      have A1 : (U1.alloc (.cells #[] 5)).ownsRow U1.heap.size 5 1 (.slice (some ⟨U1.heap.size, 0, none⟩) 0 0) 0 [] := own_lit (xs := []) rfl (Nat.le_refl _) rfl (by decide)
      have A2 := Arr.of_own (HO.out.alloc (.cells #[] 5))
      go_wp2_with (first
        | (at_builtin
           refine list_of_wp (by rfl) ?_
           refine wp_append_arr _ (.tmp 14) (.tmp 15) 22 rfl U1.heap.size 5 j0 _ 1 1 Try.underlying22 hj0 hy0 hy1 hy2 rfl (by decide) (.slice (some ⟨U1.heap.size, 0, none⟩) 0 0) 0 [] rfl A1 _ _ _ rfl A2 HSH.out (bl_one _) (by unfold maxLen; omega) (by omega) (by simp) ?_
           intro v1 W2 hO2 hg2
           clear A1 A2
           have HO2 : Hid (W2.ownsRow U1.heap.size 5 1 v1 (tx k).length (bl (tx k))) := hid (by simpa using hO2)
           have HL3 := hid (Later.grown (HL2.out.alloc (.cells #[] 5)) hg2 (fun g hg => by simp [Value.ownBlock] at hg; have := hle2.out; omega))
           have HT := hid ((HO.out.alloc (.cells #[] 5)).kept hg2 (by
             cases hv : (Value.slice pa (tx k).length pc).ownBlock with
             | none => exact .inl rfl
             | some g => exact .inr fun he => by have h1 := hpU.out g hv; simp [Value.ownBlock] at he; omega))
           have HB5 := hid ((HB4.out.alloc (.cells #[] 5)).grown hg2 (fun he => by have h1 := HB4.out.lt; simp [Value.ownBlock] at he; omega))
           have hle3 := hid (show U1.heap.size ≤ W2.heap.size from Nat.le_trans (by simp) hg2.size)
           clear hO2 hg2)
        | (at_builtin
           (refine append_new rfl (.tmp 16) (.tmp 17) 22 rfl U1.heap.size 5 j0 _ 1 1 Try.underlying22 hj0 hy0 hy1 hy2 rfl (by decide) _ 5 v1 _ _ rfl HO2.out _ 1 [_] rfl rfl rfl (by simp [Value.oneCell']) (by unfold maxLen; omega) (by omega) hle3.out ?_)
           intro v2 W3 hO3 hg3))
      have HO3 := hid (own_snoc (x := 0#8) hO3)
      have HL4 := hid (Later.grown HL3.out hg3 (own_lt HO2.out hle2.out))
      have HT3 := hid (HT.out.kept hg3 (by
        cases hv : (Value.slice pa (tx k).length pc).ownBlock with
        | none => exact .inl rfl
        | some g => exact .inr fun he => by have h1 := hpU.out g hv; have h2 := (HO2.out.lt g he.symm).1; omega))
      have HB6 := hid (HB5.out.grown hg3 (fun he => by have h1 := (HO2.out.lt _ he.symm).1; have h2 := HB4.out.lt; omega))
      clear hO3 hg3 HO2 HL3 HT HB5 HB4 HO HL2 hle2 hle3 hpU
      refine (sum17 v2 (tx k ++ [0#8]) W3 (Arr.of_own HO3.out) (own_shape HO3.out) (by simp; omega)).later.mono ?_
      rintro e W4 ⟨rfl, hl4⟩
      have ht4 := (Blk.new W4 24 z24).thereN 32 z24_size
      (try simp only [])
      (iterate 8 go_step)
      obtain ⟨U4, hU4⟩ : ∃ U, U = (W4.alloc (.cells z24 24)).setCells W4.heap.size 0 (bl (sha (tx k ++ [0#8]))) := ⟨_, rfl⟩
      have HB5 : Hid (Blk U4 W4.heap.size 24 (bl (sha (tx k ++ [0#8]))).toArray) := hid (by rw [hU4]; exact set24 _ lb (Blk.new W4 24 _) z24_size)
      have hlu : Later W3 U4 := by rw [hU4]; exact hl4.trans (later_sets (by repeat (first | (with_reducible exact Later.refl _) | with_reducible apply Later.latr | with_reducible apply Later.alloc | with_reducible apply Later.drew | (with_reducible refine Later.set ?_ (by (simp; try omega)) _))) (Nat.le_refl _) _ _)
      rw [← hU4]
      replace HT3 := hid (own_later HT3.out hlu)
      replace HB6 := hid (HB6.out.later hlu)
      replace HL4 := hid (HL4.out.trans hlu)
      have hle4 := hid HL4.out.size
      clear hU4 hlu hl4 ht4 HO3
      generalize W4.heap.size = b5 at *
      go_wp2_with (first
        | (at_builtin
           (refine append_new rfl (.tmp 20) (.tmp 23) 22 rfl w.heap.size 5 j0 _ 1 1 Try.underlying22 hj0 hy0 hy1 hy2 rfl (by decide) _ 5 (.slice pa (tx k).length pc) _ _ rfl HT3.out _ 1 [_] rfl rfl rfl (by simp [Value.oneCell']) (by unfold maxLen; omega) (by omega) hle4.out ?_)
           intro v5 W5 hO5 hg5))
      have hbk : bn (BitVec.ofNat 8 k) = (k : Int) := by rw [← byte_of]; omega
      have HO5 := hid (own_snoc (x := BitVec.ofNat 8 k) (by rw [show bb (BitVec.ofNat 8 k) = .int .u8 (k : Int) by rw [bb, hbk]]; exact hO5))
      rw [← tx_succ] at HO5
      have HL5 := hid (Later.grown HL4.out hg5 (own_lt HT3.out (Nat.le_refl _)))
      have HC4 := hid (HB6.out.grown hg5 (own_blk_ne HT3.out HB6.out (by decide)))
      have HC5 := hid (HB5.out.grown hg5 (own_blk_ne HT3.out HB5.out (by decide)))
      clear hO5 hg5 HT3 HL4 hle4 HB6 HB5 hbk hby
      have htl2 : (tx (k + 1)).length ≤ 90 := by rw [tx_len]; omega
      refine (sum17 v5 (tx (k + 1)) W5 (Arr.of_own HO5.out) (own_shape HO5.out) (by omega)).later.mono ?_
      rintro e W6 ⟨rfl, hl6⟩
      have ht6 := (Blk.new W6 24 z24).thereN 32 z24_size
      (try simp only [])
      (iterate 8 go_step)
      obtain ⟨U6, hU6⟩ : ∃ U, U = (W6.alloc (.cells z24 24)).setCells W6.heap.size 0 (bl (sha (tx (k + 1)))) := ⟨_, rfl⟩
      have HC6 : Hid (Blk U6 W6.heap.size 24 (bl (sha (tx (k + 1)))).toArray) := hid (by rw [hU6]; exact set24 _ lc (Blk.new W6 24 _) z24_size)
      have hlu : Later W5 U6 := by rw [hU6]; exact hl6.trans (later_sets (by repeat (first | (with_reducible exact Later.refl _) | with_reducible apply Later.latr | with_reducible apply Later.alloc | with_reducible apply Later.drew | (with_reducible refine Later.set ?_ (by (simp; try omega)) _))) (Nat.le_refl _) _ _)
      rw [← hU6]
      replace HO5 := hid (own_later HO5.out hlu)
      replace HC4 := hid (HC4.out.later hlu)
      replace HC5 := hid (HC5.out.later hlu)
      replace HL5 := hid (HL5.out.trans hlu)
      clear hU6 hlu hl6 ht6
      generalize W6.heap.size = b6 at *
      have T4 := HC4.out.there0 32 ((bl_len _).trans la)
      have A4 := HC4.out.agg 32 ((bl_len _).trans la)
      change _ = bagg (sha (tx k)) at A4
      have T5 := HC5.out.there0 32 ((bl_len _).trans lb)
      have A5 := HC5.out.agg 32 ((bl_len _).trans lb)
      change _ = bagg (sha (tx k ++ [0#8])) at A5
      have T6 := HC6.out.there0 32 ((bl_len _).trans lc)
      have A6 := HC6.out.agg 32 ((bl_len _).trans lc)
      change _ = bagg (sha (tx (k + 1))) at A6
      have s1 : same (sha (tx k)) (sha (tx k ++ [0#8])) = false := decide_eq_false p1
      have s2 : same (sha (tx k)) (sha (tx (k + 1))) = false := decide_eq_false p2
      by_cases hk0 : k = 0
      · have d0 : decide (0 < (k : Int)) = false := decide_eq_false (by omega)
        have HK0 := hid hk0
        clear hk0
        (try simp only [])
        go_wp2_with (fail)
        all_goals first | exact absurd HK0.out (by omega) | exact ⟨⟨k + 1, by omega, by go_num, HL5.out, HO5.out⟩, by simp [intOf]; omega⟩
      · have d0 : decide (0 < (k : Int)) = true := decide_eq_true (by omega)
        have s3 : same (sha (tx k ++ [0#8])) (sha (tx (k + 1))) = false := decide_eq_false (p3 hk0)
        (try simp only [])
        go_wp2_with (fail)
        all_goals exact ⟨⟨k + 1, by omega, by go_num, HL5.out, HO5.out⟩, by simp [intOf]; omega⟩
    · obtain rfl : k = 80 := by omega
      go_wp2_with (fail)
      go_ret
      exact ⟨rfl, HL.out⟩
end Go.Proofs.Ytnidpncacgknkaa
