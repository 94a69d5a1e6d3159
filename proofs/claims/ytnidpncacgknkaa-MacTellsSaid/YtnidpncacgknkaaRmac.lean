/- The walks of the references' Join, few and pad: texts, one behind the other; are they few; a key's changed block. Of texts and keys of at most five hundred thousand bytes. -/
import Derived.Test.YtnidpncacgknkaaRsum
import Derived.Test.YtnidpncacgknkaaMac
import Derived.Test.YtnidpncacgknkaaSteps
namespace Go.Proofs.Ytnidpncacgknkaa
open Go.RowKit
attribute [local go_sem] ite_max ite_min
attribute [local go_sem ↓] Go.wp_at_zero Go.wp_at_succ
attribute [local go_sem] h_lt1 h_lt2 h_lt3 h_lt4 h_lt5 h_lt6 h_eq1 h_qe1 h_eq2 h_qe2 h_eq3 h_qe3 h_eq4 h_qe4 h_eq5 h_qe5 h_eq6 h_qe6
/-- at most ten texts of three hundred bytes -/
def fewB (ts : List (List B8)) : Bool := decide (ts.length ≤ 10) && ts.all fun t => decide (t.length ≤ 300)
theorem few_many {ts : List (List B8)} (h : 10 < ts.length) : fewB ts = false := by
  unfold fewB
  rw [decide_eq_false (by omega)]
  rfl
theorem few_no {ts : List (List B8)} {k : Nat} (hk : k < ts.length) (h : 300 < ts[k].length) : fewB ts = false := by
  unfold fewB
  rw [Bool.and_eq_false_iff]
  right
  rw [← Bool.not_eq_true, List.all_eq_true]
  intro ha
  have := ha ts[k] (List.getElem_mem hk)
  simp at this
  omega
theorem few_yes {ts : List (List B8)} (h : ts.length ≤ 10) (ha : ∀ (k : Nat) (hk : k < ts.length), ts[k].length ≤ 300) : fewB ts = true := by
  unfold fewB
  rw [decide_eq_true h, Bool.true_and, List.all_eq_true]
  intro t ht
  obtain ⟨k, hk, rfl⟩ := List.getElem_of_mem ht
  exact decide_eq_true (ha k hk)
theorem few_len {ts : List (List B8)} (h : fewB ts = true) : ts.flatten.length ≤ 3000 := by
  unfold fewB at h
  rw [Bool.and_eq_true, List.all_eq_true] at h
  have h1 : ts.length ≤ 10 := of_decide_eq_true h.1
  have h2 : ∀ t ∈ ts, t.length ≤ 300 := fun t ht => of_decide_eq_true (h.2 t ht)
  have h3 : ∀ l : List (List B8), (∀ t ∈ l, t.length ≤ 300) → l.flatten.length ≤ 300 * l.length := by
    intro l
    induction l with
    | nil => intro _; simp
    | cons t l ih =>
      intro hl
      have e1 := ih fun x hx => hl x (List.mem_cons_of_mem _ hx)
      have e2 := hl t (List.mem_cons_self ..)
      rw [List.flatten_cons, List.length_append, List.length_cons]
      omega
  have := h3 ts h2
  omega
set_option maxRecDepth 100000 in
set_option maxHeartbeats 8000000 in
theorem few21 (tv : Value) (ts : List (List B8)) (w : World) (ht : Texts w tv ts) : Gives Try.prog 21 #[tv] w (.bool (fewB ts)) := by
  apply gives_of
  obtain ⟨vs, hvl, hva, hvs⟩ := ht
  obtain ⟨_, ta, tcap, rfl, htcap, htmax, hvc⟩ := hva
  unfold maxLen at htmax
  have HVC := hid hvc
  have HVS := hid hvs
  clear hvc hvs
  by_cases h10 : 10 < ts.length
  · have d1 : decide (10 < (ts.length : Int)) = true := decide_eq_true (by omega)
    have hF := hid (few_many h10)
    (go_enter Try.func21, Try.ntmps21; go_wp2_with (fail))
    go_ret
    exact ⟨by rw [hF.out]; rfl, by repeat (first | (with_reducible exact Later.refl _) | with_reducible apply Later.latr | with_reducible apply Later.alloc | with_reducible apply Later.drew | (with_reducible refine Later.set ?_ (by (simp; try omega)) _))⟩
  have d1 : decide (10 < (ts.length : Int)) = false := decide_eq_false (by omega)
  (go_enter Try.func21, Try.ntmps21; go_wp2_with (fail))
  go_loopw [3] (fun i wr => ∃ k : Nat, k ≤ ts.length ∧ i = .int .i64 k ∧ Later w wr ∧ ∀ (j : Nat) (hj : j < ts.length), j < k → ts[j].length ≤ 300) (fun i _ => ts.length - (intOf i).toNat)
  case atStart => exact ⟨0, Nat.zero_le _, rfl, Later.refl _, fun j _ h => absurd h (by omega)⟩
  case round =>
    obtain ⟨k, hk, rfl, hl, hall⟩ := hrel
    have HL := hid hl
    have HALL := hid hall
    clear hl hall
    by_cases hkl : k < ts.length
    · have hd3 : decide ((k : Int) < (ts.length : Int)) = true := decide_eq_true (by omega)
      have hd4 : decide (k < ts.length) = true := decide_eq_true (by omega)
      obtain ⟨b, off, rfl, hb, hc⟩ := HVC.out (by omega)
      have hkv : k < vs.length := by omega
      obtain ⟨hat, hst⟩ := HVS.out k vs[k] ts[k] (List.getElem?_eq_getElem hkv) (List.getElem?_eq_getElem hkl)
      have c0 : wr.cell? ⟨b, off + k, none⟩ = some vs[k] := (HL.out.cell hb).trans (hc k _ (List.getElem?_eq_getElem hkv))
      have HNO : Hid (300 < ts[k].length → fewB ts = false) := hid (few_no hkl)
      have HKK : Hid (ts[k].length ≤ 300 → ∀ (j : Nat) (hj : j < ts.length), j < k + 1 → ts[j].length ≤ 300) := hid fun h j hj hjk => by
        rcases Nat.lt_or_ge j k with h1 | h1
        · exact HALL.out j hj h1
        · obtain rfl : j = k := by omega
          exact h
      obtain ⟨_, va, vcap, hvk, _⟩ := hat
      clear hc HALL
      generalize vs[k] = vk at *
      generalize ts[k] = tk at *
      subst hvk
      by_cases h300 : 300 < tk.length
      · have d2 : decide (300 < (tk.length : Int)) = true := decide_eq_true (by omega)
        go_wp2_with (fail)
        go_ret
        exact ⟨by rw [HNO.out h300]; rfl, HL.out⟩
      have d2 : decide (300 < (tk.length : Int)) = false := decide_eq_false (by omega)
      go_wp2_with (fail)
      go_roundw
      case rel => exact ⟨k + 1, by omega, by go_num, HL.out, HKK.out (by omega)⟩
      case measure => simp [intOf]; omega
    · have hd3 : decide ((k : Int) < (ts.length : Int)) = false := decide_eq_false (by omega)
      have hd4 : decide (k < ts.length) = false := decide_eq_false (by omega)
      have hF := hid (few_yes (ts := ts) (by omega) fun j hj => HALL.out j hj (by omega))
      go_wp2_with (fail)
      go_ret
      exact ⟨by rw [hF.out]; rfl, HL.out⟩
set_option maxRecDepth 100000 in
set_option maxHeartbeats 8000000 in
theorem join22 (tv : Value) (ts : List (List B8)) (w : World) (ht : Texts w tv ts) (hle : ts.flatten.length ≤ 500000) :
    Calls Try.prog 22 #[tv] w fun e w' => ∃ o, e = .returned o ∧ Later w w' ∧ w'.ownsRow w.heap.size 5 1 o ts.flatten.length (bl ts.flatten) := by
  obtain ⟨i0, hi0, hz0, hz1, hz2⟩ := info_parts info5
  obtain ⟨vs, hvl, hva, hvs⟩ := ht
  obtain ⟨_, ta, tcap, rfl, htcap, htmax, hvc⟩ := hva
  unfold maxLen at htmax
  have HVC := hid hvc
  have HVS := hid hvs
  clear hvc hvs
  (go_enter Try.func22, Try.ntmps22; go_wp2_with (fail))
  go_loopw [3, 4] (fun all i wr => ∃ k : Nat, k ≤ ts.length ∧ i = .int .i64 k ∧ Later w wr ∧ wr.ownsRow w.heap.size 5 1 all (ts.take k).flatten.length (bl (ts.take k).flatten)) (fun _ i _ => ts.length - (intOf i).toNat)
  case atStart => exact ⟨0, Nat.zero_le _, rfl, Later.refl _, World.ownsRow_nil _ _ _ _⟩
  case round =>
    obtain ⟨k, hk, rfl, hl, hO⟩ := hrel
    have HL := hid hl
    have HO := hid hO
    have hwW := hl.size
    clear hl hO
    by_cases hkl : k < ts.length
    · have hd3 : decide ((k : Int) < (ts.length : Int)) = true := decide_eq_true (by omega)
      have hd4 : decide (k < ts.length) = true := decide_eq_true (by omega)
      obtain ⟨b, off, rfl, hb, hc⟩ := HVC.out (by omega)
      have hkv : k < vs.length := by omega
      obtain ⟨hat, hst⟩ := HVS.out k vs[k] ts[k] (List.getElem?_eq_getElem hkv) (List.getElem?_eq_getElem hkl)
      have c0 : wr.cell? ⟨b, off + k, none⟩ = some vs[k] := (HL.out.cell hb).trans (hc k _ (List.getElem?_eq_getElem hkv))
      have hfl : (ts.take (k + 1)).flatten = (ts.take k).flatten ++ ts[k] := by rw [take_succ_ ts k hkl, List.flatten_append]; simp
      have hft : ((ts.take k).flatten).length + (ts[k]).length ≤ 500000 := by
        have h1 : ts.flatten = (ts.take (k + 1)).flatten ++ (ts.drop (k + 1)).flatten := by rw [← List.flatten_append, List.take_append_drop]
        have h2 := congrArg List.length h1
        rw [List.length_append, hfl, List.length_append] at h2
        omega
      have HFL := hid hfl
      have hat2 := hat
      obtain ⟨_, va, vcap, hvk, hvc2, _⟩ := hat2
      have HAT := hid hat
      clear hc hfl hat
      generalize (ts.take k).flatten = T at *
      generalize vs[k] = vk at *
      generalize ts[k] = tk at *
      subst hvk
      obtain ⟨pa, pc, hq⟩ := own_is_slice HO.out
      subst hq
      go_wp2_with (first
        | (at_builtin
           refine list_of_wp (by rfl) ?_
           refine wp_append_arr _ (.tmp 11) (.tmp 15) 22 rfl w.heap.size 5 i0 _ 1 1 Try.underlying22 hi0 hz0 hz1 hz2 rfl (by decide) (.slice pa T.length pc) _ _ rfl HO.out _ _ _ rfl (HAT.out.later HL.out) hst (bl_one _) (by unfold maxLen; omega) (by omega) hwW ?_
           intro v3 W3 hO3 hg3))
      have hL3 := Later.grown HL.out hg3 (own_lt HO.out (Nat.le_refl _))
      have hO4 := app_own hO3
      exact ⟨⟨k + 1, by omega, by go_num, hL3, by rw [HFL.out]; exact hO4⟩, by simp [intOf]; omega⟩
    · obtain rfl : k = ts.length := by omega
      rw [List.take_length] at HO
      have hd3 : decide ((ts.length : Int) < (ts.length : Int)) = false := decide_eq_false (by omega)
      go_wp2_with (fail)
      go_ret
      exact ⟨_, rfl, HL.out, HO.out⟩
/-- a byte is put into a row of one's own -/
theorem own_put {w : World} {base : Nat} {e : TypeId} {g n c : Nat} {xs : List Value} (h : w.ownsRow base e 1 (.slice (some ⟨g, 0, none⟩) n c) n xs) (i : Nat) (u : Value) :
    (w.setCell ⟨g, i, none⟩ u).ownsRow base e 1 (.slice (some ⟨g, 0, none⟩) n c) n (xs.set i u) := by
  obtain ⟨h1, ⟨h2, _⟩ | ⟨g', cap, cur, hv, hb, hh, hn, hm, hs, ht⟩⟩ := h
  · injection h2 with h2; cases h2
  · injection hv with e1 e2 e3
    injection e1 with e1
    injection e1 with e1
    subst e1 e3
    have hB : Blk w g e cur := hh
    refine ⟨by simpa using h1, .inr ⟨g, c, cur.setIfInBounds i u, rfl, hb, hB.set_ i u, hn, hm, by simpa using hs, ?_⟩⟩
    rw [Array.toList_setIfInBounds, List.take_set, ht]
/-- the block, of which k bytes are changed -/
def mixL (L : List B8) (x : B8) (k : Nat) : List B8 := (List.range 64).map fun j => if j < k then L.getD j 0 ^^^ x else L.getD j 0
theorem mixL_len (L : List B8) (x : B8) (k : Nat) : (mixL L x k).length = 64 := by simp [mixL]
theorem mixL_at (L : List B8) (x : B8) (k : Nat) (h : k < 64) : (bl (mixL L x k))[k]? = some (bb (L.getD k 0)) := by simp [bl, mixL, h]
theorem mixL_set (L : List B8) (x : B8) (k : Nat) (h : k < 64) : (bl (mixL L x k)).set k (bb (L.getD k 0 ^^^ x)) = bl (mixL L x (k + 1)) := by
  apply List.ext_getElem?
  intro j
  by_cases hj : j < 64
  · by_cases hkj : k = j
    · subst hkj
      rw [List.getElem?_set_self (by simp [bl, mixL]; omega)]
      simp [bl, mixL, h]
    · rw [List.getElem?_set_ne hkj]
      simp only [bl, mixL, List.getElem?_map, List.getElem?_range hj, Option.map_some]
      by_cases hjk : j < k
      · rw [if_pos hjk, if_pos (by omega)]
      · rw [if_neg hjk, if_neg (by omega)]
  · rw [List.getElem?_eq_none (by simp [bl, mixL]; omega), List.getElem?_eq_none (by simp [bl, mixL]; omega)]
theorem mixL_zero (L : List B8) (x : B8) (h : L.length = 64) : mixL L x 0 = L := by
  apply List.ext_getElem?
  intro j
  by_cases hj : j < 64
  · simp [mixL, hj, List.getD_eq_getElem?_getD, h]
  · rw [List.getElem?_eq_none (by rw [mixL_len]; omega), List.getElem?_eq_none (by omega)]
theorem mixL_pad (S : List B8) (x : B8) (k : Nat) (h : S.length + k = 64) : mixL (S ++ List.replicate k 0#8) x 64 = padBy S x := by
  unfold mixL padBy
  refine List.map_congr_left fun j hj => ?_
  have hj64 : j < 64 := List.mem_range.1 hj
  rw [if_pos hj64]
  unfold padAt
  by_cases h1 : j < S.length
  · rw [if_pos h1, List.getD_eq_getElem?_getD, List.getElem?_append_left h1, BitVec.xor_comm, List.getD_eq_getElem?_getD]
  · rw [if_neg h1, List.getD_eq_getElem?_getD, List.getElem?_append_right (by omega), List.getElem?_replicate_of_lt (by omega)]
    simp
set_option maxRecDepth 100000 in
set_option maxHeartbeats 8000000 in
theorem pad32 (kv : Value) (key : List B8) (by_ : B8) (w : World) (hk : Arr w 1 kv key.length (bl key)) (hks : Shape kv) (hlk : key.length ≤ 500000) :
    Calls Try.prog 32 #[kv, bb by_] w fun e w' => ∃ o, e = .returned o ∧ Later w w' ∧ w'.ownsRow w.heap.size 5 1 o (padBy (short key) by_).length (bl (padBy (short key) by_)) := by
  obtain ⟨i0, hi0, hz0, hz1, hz2⟩ := info_parts info5
  have HK := hid hk
  have HKS := hid hks
  obtain ⟨_, ka, kcap, rfl, _⟩ := hk
  clear hks
  have A1 : (w.alloc (.cells #[] 5)).ownsRow w.heap.size 5 1 (.slice (some ⟨w.heap.size, 0, none⟩) 0 0) 0 [] := lit_own (xs := []) rfl (Nat.le_refl _) rfl (by decide)
  have hw1 : w.heap.size ≤ (w.alloc (.cells #[] 5)).heap.size := by simp
  by_cases h64 : 64 < key.length
  · have d1 : decide (64 < (key.length : Int)) = true := decide_eq_true (by omega)
    have hsk : short key = sha key := by unfold short; rw [if_pos h64]
    rw [hsk]
    clear hsk
    (go_enter Try.func32, Try.ntmps32)
    go_wp2_with (first
      | (at_builtin
         refine list_of_wp (by rfl) ?_
         refine wp_append_arr _ (.tmp 8) (.tmp 9) 22 rfl w.heap.size 5 i0 _ 1 1 Try.underlying22 hi0 hz0 hz1 hz2 rfl (by decide) _ 0 [] rfl A1 _ _ _ rfl (HK.out.later ((Later.refl w).alloc _)) HKS.out (bl_one _) (by unfold maxLen; omega) (by omega) hw1 ?_
         intro v1 W2 hO2 hg2
         have HL2 := hid (Later.grown ((Later.refl w).alloc _) hg2 (fun i hi => (A1.lt i hi).1))
         have HO2 : Hid (W2.ownsRow w.heap.size 5 1 v1 key.length (bl key)) := hid (by simpa using hO2)
         clear hO2 hg2 A1 hw1))
    refine (refsum18 _ key _ (HK.out.later HL2.out) HKS.out (by omega)).later.mono ?_
    rintro e W3 ⟨rfl, hl3⟩
    have ls := sha_len key
    obtain ⟨S, hSe⟩ : ∃ S, S = sha key := ⟨_, rfl⟩
    rw [← hSe] at ls ⊢
    have HSK := hid hSe
    clear hSe
    have HL3 := hid (HL2.out.trans hl3)
    have ht3 := (Blk.new W3 24 z24).thereN 32 z24_size
    clear hl3 HO2 HL2
    (try simp only [])
    (iterate 8 go_step)
    obtain ⟨U, hU⟩ : ∃ U, U = (W3.alloc (.cells z24 24)).setCells W3.heap.size 0 (bl S) := ⟨_, rfl⟩
    have hlU : Later W3 U := by rw [hU]; exact later_sets (by repeat (first | (with_reducible exact Later.refl _) | with_reducible apply Later.latr | with_reducible apply Later.alloc | with_reducible apply Later.drew | (with_reducible refine Later.set ?_ (by (simp; try omega)) _))) (Nat.le_refl _) _ _
    have HB6 : Hid (Blk U W3.heap.size 24 (bl S).toArray) := hid (by rw [hU]; exact set24 _ ls (Blk.new W3 24 _) z24_size)
    rw [← hU]
    have HLU := hid (HL3.out.trans hlU)
    have hwU := HLU.out.size
    clear hU hlU ht3 HL3
    generalize W3.heap.size = b6 at *
    have A2 : (U.alloc (.cells #[] 5)).ownsRow w.heap.size 5 1 (.slice (some ⟨U.heap.size, 0, none⟩) 0 0) 0 [] := lit_own (xs := []) rfl hwU rfl (by decide)
    have hw2 : w.heap.size ≤ (U.alloc (.cells #[] 5)).heap.size := by simp; omega
    have hA6 : Arr (U.alloc (.cells #[] 5)) 1 (.slice (some ⟨b6, 0, none⟩) 32 32) S.length (bl S) := by
      have := (arr_blk HB6.out (by rw [ls]; decide)).alloc (.cells #[] 5)
      rw [ls] at this ⊢
      exact this
    rw [ls] at hA6
    go_wp2_with (first
      | (at_builtin
         refine list_of_wp (by rfl) ?_
         refine wp_append_arr _ (.tmp 16) (.tmp 17) 22 rfl w.heap.size 5 i0 _ 1 1 Try.underlying22 hi0 hz0 hz1 hz2 rfl (by decide) _ 0 [] rfl A2 _ _ _ rfl hA6 (.inr ⟨_, _, _, rfl⟩) (bl_one _) (by unfold maxLen; omega) (by omega) hw2 ?_
         intro v3 W4 hO4 hg4))
    have HL4 := hid (Later.grown (HLU.out.alloc _) hg4 (fun i hi => (A2.lt i hi).1))
    have HO4 : Hid (W4.ownsRow w.heap.size 5 1 v3 S.length (bl S)) := hid (by rw [ls]; simpa using hO4)
    have hS : S.length ≤ 64 := by omega
    clear hO4 hg4 A2 hw2 hA6 HB6 HLU hwU ls
    go_loopw [5] (fun b wr => ∃ k : Nat, S.length + k ≤ 64 ∧ Later w wr ∧ wr.ownsRow w.heap.size 5 1 b (S ++ List.replicate k 0#8).length (bl (S ++ List.replicate k 0#8))) (fun b _ => 100 - lenOf b)
    case atStart => exact ⟨0, by omega, HL4.out, by simpa using HO4.out⟩
    case round =>
      obtain ⟨k, hk, hl, hO⟩ := hrel
      have HL := hid hl
      have HO := hid hO
      have hle := hl.size
      have HTT := hid (show S ++ List.replicate (k + 1) 0#8 = (S ++ List.replicate k 0#8) ++ [0#8] by rw [List.replicate_succ', ← List.append_assoc])
      have HLL := hid (show (S ++ List.replicate k 0#8).length = S.length + k by simp)
      have HMP : Hid (S.length + k = 64 → mixL (S ++ List.replicate k 0#8) by_ 64 = padBy S by_) := hid (mixL_pad S by_ k)
      have hlm : (S ++ List.replicate k 0#8).length ≤ 64 := by rw [HLL.out]; omega
      clear hl hO
      generalize S ++ List.replicate k 0#8 = L at *
      obtain ⟨pa, pc, hq⟩ := own_is_slice HO.out
      subst hq
      by_cases hL64 : L.length < 64
      · have e2 : decide ((L.length : Int) < 64) = true := decide_eq_true (by omega)
        go_wp2_with (first
          | (at_builtin
             (refine append_new rfl (.tmp 22) (.tmp 23) 22 rfl w.heap.size 5 i0 _ 1 1 Try.underlying22 hi0 hz0 hz1 hz2 rfl (by decide) _ 5 (.slice pa L.length pc) _ _ rfl HO.out _ 1 [_] rfl rfl rfl (by simp [Value.oneCell']) (by unfold maxLen; omega) (by omega) hle ?_)
             intro v3 W5 hO5 hg5))
        have hl5 := Later.grown HL.out hg5 (own_lt HO.out (Nat.le_refl _))
        have hkk : S.length + k = L.length := HLL.out.symm
        refine ⟨⟨k + 1, by omega, hl5, by rw [HTT.out]; exact snoc_own (x := 0#8) hO5⟩, ?_⟩
        obtain ⟨pa2, pc2, rfl⟩ := own_is_slice hO5
        simp only [lenOf]
        omega
      · have e2 : decide ((L.length : Int) < 64) = false := decide_eq_false (by omega)
        have hL : L.length = 64 := by omega
        have hpad := hid (HMP.out (by have := HLL.out; omega))
        have hO7 := hid (show wr.ownsRow w.heap.size 5 1 (.slice pa 64 pc) 64 (bl (mixL L by_ 0)) by rw [mixL_zero L by_ hL, ← hL]; exact HO.out)
        go_wp2_with (fail)
        rw [hL]
        clear HO HMP HLL HTT hlm hL64 e2
        obtain ⟨g, rfl, hbg, hgs, hpc, hpm, _⟩ := own_slice hO7.out (by omega)
        go_loopw [7] (fun i wr => ∃ k : Nat, k ≤ 64 ∧ i = .int .i64 k ∧ Later w wr ∧ wr.ownsRow w.heap.size 5 1 (.slice (some ⟨g, 0, none⟩) 64 pc) 64 (bl (mixL L by_ k))) (fun i _ => 64 - (intOf i).toNat)
        case atStart => exact ⟨0, Nat.zero_le _, rfl, HL.out, hO7.out⟩
        case round =>
          obtain ⟨k, hk, rfl, hl, hO⟩ := hrel
          have HL := hid hl
          have HO := hid hO
          clear hl hO
          by_cases hk64 : k < 64
          · have hd : decide ((k : Int) < 64) = true := decide_eq_true (by omega)
            have hkb : (k : Int) < 64 := by omega
            have hgw : g < wr.heap.size := (HO.out.lt g rfl).2
            have c0 : wr.cell? ⟨g, k, none⟩ = some (bb (L.getD k 0)) := by
              obtain ⟨g2, hg2, _, _, _, _, hc⟩ := own_slice HO.out (by omega)
              injection hg2 with hg2
              injection hg2 with hg2
              subst hg2
              exact hc k _ (mixL_at L by_ k hk64)
            have f0 : wr.frozen? ⟨g, k, none⟩ = false := by
              rcases HO.out.2 with ⟨h2, _⟩ | ⟨g', cap, cur, hv, _, hh, _⟩
              · injection h2 with h2; cases h2
              · injection hv with e1
                injection e1 with e1
                injection e1 with e1
                subst e1
                exact Blk.frozen (show Blk wr g 5 cur from hh) k
            have hset := hid (mixL_set L by_ k hk64)
            generalize L.getD k 0 = y at *
            go_wp2_with (fail)
            refine ⟨⟨k + 1, by omega, by go_num, HL.out.set (p := ⟨g, k, none⟩) hbg _, ?_⟩, by simp [intOf]; omega⟩
            rw [← hset.out]
            exact own_put HO.out k _
          · obtain rfl : k = 64 := by omega
            rw [show ((64 : Nat) : Int) = 64 from rfl]
            rw [hpad.out] at HO
            have lp := pad_len S by_
            go_wp2_with (fail)
            go_ret
            exact ⟨_, rfl, HL.out, by rw [← HSK.out, lp]; exact HO.out⟩
  · have d1 : decide (64 < (key.length : Int)) = false := decide_eq_false (by omega)
    have hsk : short key = key := by unfold short; rw [if_neg h64]
    rw [hsk]
    clear hsk
    (go_enter Try.func32, Try.ntmps32)
    go_wp2_with (first
      | (at_builtin
         refine list_of_wp (by rfl) ?_
         refine wp_append_arr _ (.tmp 8) (.tmp 9) 22 rfl w.heap.size 5 i0 _ 1 1 Try.underlying22 hi0 hz0 hz1 hz2 rfl (by decide) _ 0 [] rfl A1 _ _ _ rfl (HK.out.later ((Later.refl w).alloc _)) HKS.out (bl_one _) (by unfold maxLen; omega) (by omega) hw1 ?_
         intro v1 W2 hO2 hg2
         have HL2 := hid (Later.grown ((Later.refl w).alloc _) hg2 (fun i hi => (A1.lt i hi).1))
         have HO2 : Hid (W2.ownsRow w.heap.size 5 1 v1 key.length (bl key)) := hid (by simpa using hO2)
         clear hO2 hg2 A1 hw1))
    have HL4 := hid HL2.out
    have HO4 := hid HO2.out
    have hS : key.length ≤ 64 := by omega
    have hkS : ∃ S, S = key := ⟨_, rfl⟩
    obtain ⟨S, hSk⟩ := hkS
    rw [← hSk] at HO4 hS ⊢
    have HSK := hid hSk
    clear hSk HL2 HO2
    go_loopw [5] (fun b wr => ∃ k : Nat, S.length + k ≤ 64 ∧ Later w wr ∧ wr.ownsRow w.heap.size 5 1 b (S ++ List.replicate k 0#8).length (bl (S ++ List.replicate k 0#8))) (fun b _ => 100 - lenOf b)
    case atStart => exact ⟨0, by omega, HL4.out, by simpa using HO4.out⟩
    case round =>
      obtain ⟨k, hk, hl, hO⟩ := hrel
      have HL := hid hl
      have HO := hid hO
      have hle := hl.size
      have HTT := hid (show S ++ List.replicate (k + 1) 0#8 = (S ++ List.replicate k 0#8) ++ [0#8] by rw [List.replicate_succ', ← List.append_assoc])
      have HLL := hid (show (S ++ List.replicate k 0#8).length = S.length + k by simp)
      have HMP : Hid (S.length + k = 64 → mixL (S ++ List.replicate k 0#8) by_ 64 = padBy S by_) := hid (mixL_pad S by_ k)
      have hlm : (S ++ List.replicate k 0#8).length ≤ 64 := by rw [HLL.out]; omega
      clear hl hO
      generalize S ++ List.replicate k 0#8 = L at *
      obtain ⟨pa, pc, hq⟩ := own_is_slice HO.out
      subst hq
      by_cases hL64 : L.length < 64
      · have e2 : decide ((L.length : Int) < 64) = true := decide_eq_true (by omega)
        go_wp2_with (first
          | (at_builtin
             (refine append_new rfl (.tmp 22) (.tmp 23) 22 rfl w.heap.size 5 i0 _ 1 1 Try.underlying22 hi0 hz0 hz1 hz2 rfl (by decide) _ 5 (.slice pa L.length pc) _ _ rfl HO.out _ 1 [_] rfl rfl rfl (by simp [Value.oneCell']) (by unfold maxLen; omega) (by omega) hle ?_)
             intro v3 W5 hO5 hg5))
        have hl5 := Later.grown HL.out hg5 (own_lt HO.out (Nat.le_refl _))
        have hkk : S.length + k = L.length := HLL.out.symm
        refine ⟨⟨k + 1, by omega, hl5, by rw [HTT.out]; exact snoc_own (x := 0#8) hO5⟩, ?_⟩
        obtain ⟨pa2, pc2, rfl⟩ := own_is_slice hO5
        simp only [lenOf]
        omega
      · have e2 : decide ((L.length : Int) < 64) = false := decide_eq_false (by omega)
        have hL : L.length = 64 := by omega
        have hpad := hid (HMP.out (by have := HLL.out; omega))
        have hO7 := hid (show wr.ownsRow w.heap.size 5 1 (.slice pa 64 pc) 64 (bl (mixL L by_ 0)) by rw [mixL_zero L by_ hL, ← hL]; exact HO.out)
        go_wp2_with (fail)
        rw [hL]
        clear HO HMP HLL HTT hlm hL64 e2
        obtain ⟨g, rfl, hbg, hgs, hpc, hpm, _⟩ := own_slice hO7.out (by omega)
        go_loopw [7] (fun i wr => ∃ k : Nat, k ≤ 64 ∧ i = .int .i64 k ∧ Later w wr ∧ wr.ownsRow w.heap.size 5 1 (.slice (some ⟨g, 0, none⟩) 64 pc) 64 (bl (mixL L by_ k))) (fun i _ => 64 - (intOf i).toNat)
        case atStart => exact ⟨0, Nat.zero_le _, rfl, HL.out, hO7.out⟩
        case round =>
          obtain ⟨k, hk, rfl, hl, hO⟩ := hrel
          have HL := hid hl
          have HO := hid hO
          clear hl hO
          by_cases hk64 : k < 64
          · have hd : decide ((k : Int) < 64) = true := decide_eq_true (by omega)
            have hkb : (k : Int) < 64 := by omega
            have hgw : g < wr.heap.size := (HO.out.lt g rfl).2
            have c0 : wr.cell? ⟨g, k, none⟩ = some (bb (L.getD k 0)) := by
              obtain ⟨g2, hg2, _, _, _, _, hc⟩ := own_slice HO.out (by omega)
              injection hg2 with hg2
              injection hg2 with hg2
              subst hg2
              exact hc k _ (mixL_at L by_ k hk64)
            have f0 : wr.frozen? ⟨g, k, none⟩ = false := by
              rcases HO.out.2 with ⟨h2, _⟩ | ⟨g', cap, cur, hv, _, hh, _⟩
              · injection h2 with h2; cases h2
              · injection hv with e1
                injection e1 with e1
                injection e1 with e1
                subst e1
                exact Blk.frozen (show Blk wr g 5 cur from hh) k
            have hset := hid (mixL_set L by_ k hk64)
            generalize L.getD k 0 = y at *
            go_wp2_with (fail)
            refine ⟨⟨k + 1, by omega, by go_num, HL.out.set (p := ⟨g, k, none⟩) hbg _, ?_⟩, by simp [intOf]; omega⟩
            rw [← hset.out]
            exact own_put HO.out k _
          · obtain rfl : k = 64 := by omega
            rw [show ((64 : Nat) : Int) = 64 from rfl]
            rw [hpad.out] at HO
            have lp := pad_len S by_
            go_wp2_with (fail)
            go_ret
            exact ⟨_, rfl, HL.out, by rw [← HSK.out, lp]; exact HO.out⟩
end Go.Proofs.Ytnidpncacgknkaa
