/- The walk of the reference's padded: a text, and what fills its last block. Of at most nine hundred thousand bytes. -/
import Derived.Test.YtnidpncacgknkaaDone
namespace Go.Proofs.Ytnidpncacgknkaa
open Go.RowKit
attribute [local go_sem] ite_max ite_min
attribute [local go_sem ↓] Go.wp_at_zero Go.wp_at_succ
attribute [local go_sem] h_lt1 h_lt2 h_lt3 h_lt4 h_lt5 h_lt6 h_eq1 h_qe1 h_eq2 h_qe2 h_eq3 h_qe3 h_eq4 h_qe4 h_eq5 h_qe5 h_eq6 h_qe6
theorem lit_own {W : World} {t : TypeId} {xs : List Value} {n size base g : Nat} (hg : g = W.heap.size) (hb : base ≤ W.heap.size) (hn : xs.length = n * size) (hm : n ≤ maxLen) :
    (W.alloc (.cells xs.toArray t)).ownsRow base t size (.slice (some ⟨g, 0, none⟩) n n) n xs := by
  subst hg
  exact ⟨hn, .inr ⟨_, n, xs.toArray, rfl, hb, heap_alloc_new W _, Nat.le_refl _, hm, by simpa using hn, by rw [← hn]; simp⟩⟩
theorem snoc_own {W : World} {base : Nat} {v : Value} {T : List B8} {x : B8} (h : W.ownsRow base 5 1 v (T.length + 1) (bl T ++ [bb x])) : W.ownsRow base 5 1 v (T ++ [x]).length (bl (T ++ [x])) := by
  rw [List.length_append, bl, List.map_append]
  exact h
theorem app_own {W : World} {base : Nat} {v : Value} {T T' : List B8} (h : W.ownsRow base 5 1 v (T.length + T'.length) (bl T ++ bl T')) : W.ownsRow base 5 1 v (T ++ T').length (bl (T ++ T')) := by
  rw [List.length_append, bl, List.map_append]
  exact h
/-- how long a slice is -/
def lenOf : Value → Nat
  | .slice _ n _ => n
  | _ => 0
set_option maxRecDepth 100000 in
set_option maxHeartbeats 8000000 in
theorem padded28 (v : Value) (l : List B8) (w : World) (hv : Arr w 1 v l.length (bl l)) (hsh : Shape v) (hlen : l.length ≤ 900000) :
    Calls Try.prog 28 #[v] w fun e w' => ∃ o, e = .returned o ∧ Later w w' ∧ w'.ownsRow w.heap.size 5 1 o (padded l).length (bl (padded l)) := by
  obtain ⟨i0, hi0, hz0, hz1, hz2⟩ := info_parts info5
  have HV := hid hv
  have HSH := hid hsh
  obtain ⟨_, a, cap, rfl, hcap, hmax, _⟩ := hv
  clear hsh hmax
  have A1 : (w.alloc (.cells #[] 5)).ownsRow w.heap.size 5 1 (.slice (some ⟨w.heap.size, 0, none⟩) 0 0) 0 [] := lit_own (xs := []) rfl (Nat.le_refl _) rfl (by decide)
  have A2 := HV.out.later ((Later.refl w).alloc (.cells #[] 5))
  (go_enter Try.func28, Try.ntmps28)
  go_wp2_with (first
    | (at_builtin
       refine list_of_wp (by rfl) ?_
       refine wp_append_arr _ (.tmp 6) (.tmp 7) 22 rfl w.heap.size 5 i0 _ 1 1 Try.underlying22 hi0 hz0 hz1 hz2 rfl (by decide) (.slice (some ⟨w.heap.size, 0, none⟩) 0 0) 0 [] rfl A1 _ _ _ rfl A2 HSH.out (bl_one _) (by unfold maxLen; omega) (by omega) (by simp) ?_
       intro v1 W2 hO2 hg2
       clear A1 A2
       have HO2 : Hid (W2.ownsRow w.heap.size 5 1 v1 l.length (bl l)) := hid (by simpa using hO2)
       have HL2 := hid (Later.grown ((Later.refl w).alloc (.cells #[] 5)) hg2 (fun g hg => by simp [Value.ownBlock] at hg; omega))
       have hle2 := hid HL2.out.size
       clear hO2 hg2)
    | (at_builtin
       (refine append_new rfl (.tmp 8) (.tmp 9) 22 rfl w.heap.size 5 i0 _ 1 1 Try.underlying22 hi0 hz0 hz1 hz2 rfl (by decide) _ 5 v1 _ _ rfl HO2.out _ 1 [_] rfl rfl rfl (by simp [Value.oneCell']) (by unfold maxLen; omega) (by omega) hle2.out ?_)
       intro v2 W3 hO3 hg3))
  have HO3 := hid (snoc_own (x := 128#8) hO3)
  have HL3 := hid (Later.grown HL2.out hg3 (own_lt HO2.out (Nat.le_refl _)))
  clear hO3 hg3 HO2 HL2 hle2
  go_loopw [3] (fun o wr => ∃ k : Nat, k ≤ zeros l.length ∧ Later w wr ∧ wr.ownsRow w.heap.size 5 1 o (l ++ [128#8] ++ List.replicate k 0#8).length (bl (l ++ [128#8] ++ List.replicate k 0#8))) (fun o _ => 2000000 - lenOf o)
  case atStart => exact ⟨0, Nat.zero_le _, HL3.out, by simpa using HO3.out⟩
  case round =>
    obtain ⟨k, hk, hl, hO⟩ := hrel
    have HT := hid (show (l ++ [128#8] ++ List.replicate (k + 1) 0#8) = (l ++ [128#8] ++ List.replicate k 0#8) ++ [0#8] by rw [List.replicate_succ', ← List.append_assoc])
    have hT : (l ++ [128#8] ++ List.replicate k 0#8).length = l.length + 1 + k := by simp; omega
    have HP : Hid (k = zeros l.length → l ++ [128#8] ++ List.replicate k 0#8 ++ lenBytes l.length = padded l) := hid (by rintro rfl; rfl)
    have hz := zeros_le l.length
    generalize l ++ [128#8] ++ List.replicate k 0#8 = T at *
    have HO := hid hO
    have hle := hl.size
    obtain ⟨pa, pc, hq⟩ := own_is_slice hO
    subst hq
    clear hO
    have hTl : T.length ≤ 999000 := by omega
    by_cases hkz : k < zeros l.length
    · have hne := zeros_ne l.length k hkz
      rw [← hT] at hne
      have hm1 : ((T.length : Int) % 64 == 56) = false := by simp; omega
      have hm2 : ((T.length : Int) % 64 = 56) = False := by simp only [eq_iff_iff, iff_false]; omega
      clear hT hne
      go_wp2_with (first
        | (at_builtin
           (refine append_new rfl (.tmp 15) (.tmp 16) 22 rfl w.heap.size 5 i0 _ 1 1 Try.underlying22 hi0 hz0 hz1 hz2 rfl (by decide) _ 5 (.slice pa T.length pc) _ _ rfl HO.out _ 1 [_] rfl rfl rfl (by simp [Value.oneCell']) (by unfold maxLen; omega) (by omega) hle ?_)
           intro v2 W3 hO3 hg3))
      refine ⟨⟨k + 1, by omega, Later.grown hl hg3 (own_lt HO.out (Nat.le_refl _)), ?_⟩, ?_⟩
      · rw [HT.out]
        exact snoc_own (x := 0#8) hO3
      · obtain ⟨pa2, pc2, rfl⟩ := own_is_slice hO3
        simp only [lenOf]
        omega
    · obtain rfl : k = zeros l.length := by omega
      have he := zeros_eq l.length
      rw [← hT] at he
      have hm1 : ((T.length : Int) % 64 != 56) = false := by simp; omega
      have hpd := HP.out rfl
      clear HP HT hT he
      go_wp2_with (fail)
      (try rw [hm1])
      clear hm1
      go_loopw [3, 5] (fun o sh wr => ∃ k : Nat, k ≤ 8 ∧ sh = .int .i64 (7 - (k : Int)) ∧ Later w wr ∧ wr.ownsRow w.heap.size 5 1 o (T ++ (lenBytes l.length).take k).length (bl (T ++ (lenBytes l.length).take k))) (fun _ sh _ => (intOf sh + 8).toNat)
      case atStart => exact ⟨0, Nat.zero_le _, rfl, hl, by simpa using HO.out⟩
      case round =>
        obtain ⟨k, hk, rfl, hl, hO⟩ := hrel
        have hTk : (T ++ (lenBytes l.length).take k).length ≤ 1000000 := by simp [lenBytes]; omega
        have HO := hid hO
        have hle := hl.size
        obtain ⟨pa, pc, hq⟩ := own_is_slice hO
        subst hq
        clear hO
        have l7 : ((8 : Int) * (l.length : Int)) / (72057594037927936 : Int) = bn (BitVec.ofNat 8 ((8 * l.length) >>> 56)) := len_small l.length 56 (by have : ((2 ^ 56 : Nat) : Int) = 72057594037927936 := rfl; rw [this]; omega)
        have l6 : ((8 : Int) * (l.length : Int)) / (281474976710656 : Int) = bn (BitVec.ofNat 8 ((8 * l.length) >>> 48)) := len_small l.length 48 (by have : ((2 ^ 48 : Nat) : Int) = 281474976710656 := rfl; rw [this]; omega)
        have l5 : ((8 : Int) * (l.length : Int)) / (1099511627776 : Int) = bn (BitVec.ofNat 8 ((8 * l.length) >>> 40)) := len_small l.length 40 (by have : ((2 ^ 40 : Nat) : Int) = 1099511627776 := rfl; rw [this]; omega)
        have l4 : ((8 : Int) * (l.length : Int)) / (4294967296 : Int) = bn (BitVec.ofNat 8 ((8 * l.length) >>> 32)) := len_small l.length 32 (by have : ((2 ^ 32 : Nat) : Int) = 4294967296 := rfl; rw [this]; omega)
        have l3 : ((8 : Int) * (l.length : Int)) / (16777216 : Int) = bn (BitVec.ofNat 8 ((8 * l.length) >>> 24)) := len_small l.length 24 (by have : ((2 ^ 24 : Nat) : Int) = 16777216 := rfl; rw [this]; omega)
        have l2 : ((8 : Int) * (l.length : Int)) / (65536 : Int) = bn (BitVec.ofNat 8 ((8 * l.length) >>> 16)) := len_small l.length 16 (by have : ((2 ^ 16 : Nat) : Int) = 65536 := rfl; rw [this]; omega)
        have l1 : ((8 : Int) * (l.length : Int)) / (256 : Int) % (256 : Int) = bn (BitVec.ofNat 8 ((8 * l.length) >>> 8)) := len_byte l.length 8
        have l0 := len_byte0 l.length
        rcases (show k = 0 ∨ k = 1 ∨ k = 2 ∨ k = 3 ∨ k = 4 ∨ k = 5 ∨ k = 6 ∨ k = 7 ∨ k = 8 by omega) with rfl | rfl | rfl | rfl | rfl | rfl | rfl | rfl | rfl
        case inr.inr.inr.inr.inr.inr.inr.inr =>
          have e8 : (lenBytes l.length).take 8 = lenBytes l.length := rfl
          rw [e8, hpd] at HO ⊢
          rw [show (7 - ((8 : Nat) : Int)) = -1 from rfl]
          clear l7 l6 l5 l4 l3 l2 l1 l0
          go_wp2_with (fail)
          go_ret
          exact ⟨_, rfl, hl, HO.out⟩
        · have ht : T ++ (lenBytes l.length).take 1 = (T ++ (lenBytes l.length).take 0) ++ [BitVec.ofNat 8 ((8 * l.length) >>> 56)] := by rw [List.append_assoc]; rfl
          rw [show (7 - ((0 : Nat) : Int)) = 7 from rfl]
          have HT := hid ht
          clear ht
          generalize T ++ (lenBytes l.length).take 0 = S at *
          generalize BitVec.ofNat 8 ((8 * l.length) >>> 56) = y at *
          go_wp2_with (first
            | (at_builtin
               (refine append_new rfl (.tmp 25) (.tmp 32) 22 rfl w.heap.size 5 i0 _ 1 1 Try.underlying22 hi0 hz0 hz1 hz2 rfl (by decide) _ 5 (.slice pa S.length pc) _ _ rfl HO.out _ 1 [bb y] rfl rfl rfl (by simp [Value.oneCell']) (by unfold maxLen; omega) (by omega) hle ?_)
               intro v2 W3 hO3 hg3))
          refine ⟨⟨1, by omega, rfl, Later.grown hl hg3 (own_lt HO.out (Nat.le_refl _)), ?_⟩, by decide⟩
          rw [HT.out]
          exact snoc_own hO3
        · have ht : T ++ (lenBytes l.length).take 2 = (T ++ (lenBytes l.length).take 1) ++ [BitVec.ofNat 8 ((8 * l.length) >>> 48)] := by rw [List.append_assoc]; rfl
          rw [show (7 - ((1 : Nat) : Int)) = 6 from rfl]
          have HT := hid ht
          clear ht
          generalize T ++ (lenBytes l.length).take 1 = S at *
          generalize BitVec.ofNat 8 ((8 * l.length) >>> 48) = y at *
          go_wp2_with (first
            | (at_builtin
               (refine append_new rfl (.tmp 25) (.tmp 32) 22 rfl w.heap.size 5 i0 _ 1 1 Try.underlying22 hi0 hz0 hz1 hz2 rfl (by decide) _ 5 (.slice pa S.length pc) _ _ rfl HO.out _ 1 [bb y] rfl rfl rfl (by simp [Value.oneCell']) (by unfold maxLen; omega) (by omega) hle ?_)
               intro v2 W3 hO3 hg3))
          refine ⟨⟨2, by omega, rfl, Later.grown hl hg3 (own_lt HO.out (Nat.le_refl _)), ?_⟩, by decide⟩
          rw [HT.out]
          exact snoc_own hO3
        · have ht : T ++ (lenBytes l.length).take 3 = (T ++ (lenBytes l.length).take 2) ++ [BitVec.ofNat 8 ((8 * l.length) >>> 40)] := by rw [List.append_assoc]; rfl
          rw [show (7 - ((2 : Nat) : Int)) = 5 from rfl]
          have HT := hid ht
          clear ht
          generalize T ++ (lenBytes l.length).take 2 = S at *
          generalize BitVec.ofNat 8 ((8 * l.length) >>> 40) = y at *
          go_wp2_with (first
            | (at_builtin
               (refine append_new rfl (.tmp 25) (.tmp 32) 22 rfl w.heap.size 5 i0 _ 1 1 Try.underlying22 hi0 hz0 hz1 hz2 rfl (by decide) _ 5 (.slice pa S.length pc) _ _ rfl HO.out _ 1 [bb y] rfl rfl rfl (by simp [Value.oneCell']) (by unfold maxLen; omega) (by omega) hle ?_)
               intro v2 W3 hO3 hg3))
          refine ⟨⟨3, by omega, rfl, Later.grown hl hg3 (own_lt HO.out (Nat.le_refl _)), ?_⟩, by decide⟩
          rw [HT.out]
          exact snoc_own hO3
        · have ht : T ++ (lenBytes l.length).take 4 = (T ++ (lenBytes l.length).take 3) ++ [BitVec.ofNat 8 ((8 * l.length) >>> 32)] := by rw [List.append_assoc]; rfl
          rw [show (7 - ((3 : Nat) : Int)) = 4 from rfl]
          have HT := hid ht
          clear ht
          generalize T ++ (lenBytes l.length).take 3 = S at *
          generalize BitVec.ofNat 8 ((8 * l.length) >>> 32) = y at *
          go_wp2_with (first
            | (at_builtin
               (refine append_new rfl (.tmp 25) (.tmp 32) 22 rfl w.heap.size 5 i0 _ 1 1 Try.underlying22 hi0 hz0 hz1 hz2 rfl (by decide) _ 5 (.slice pa S.length pc) _ _ rfl HO.out _ 1 [bb y] rfl rfl rfl (by simp [Value.oneCell']) (by unfold maxLen; omega) (by omega) hle ?_)
               intro v2 W3 hO3 hg3))
          refine ⟨⟨4, by omega, rfl, Later.grown hl hg3 (own_lt HO.out (Nat.le_refl _)), ?_⟩, by decide⟩
          rw [HT.out]
          exact snoc_own hO3
        · have ht : T ++ (lenBytes l.length).take 5 = (T ++ (lenBytes l.length).take 4) ++ [BitVec.ofNat 8 ((8 * l.length) >>> 24)] := by rw [List.append_assoc]; rfl
          rw [show (7 - ((4 : Nat) : Int)) = 3 from rfl]
          have HT := hid ht
          clear ht
          generalize T ++ (lenBytes l.length).take 4 = S at *
          generalize BitVec.ofNat 8 ((8 * l.length) >>> 24) = y at *
          go_wp2_with (first
            | (at_builtin
               (refine append_new rfl (.tmp 25) (.tmp 32) 22 rfl w.heap.size 5 i0 _ 1 1 Try.underlying22 hi0 hz0 hz1 hz2 rfl (by decide) _ 5 (.slice pa S.length pc) _ _ rfl HO.out _ 1 [bb y] rfl rfl rfl (by simp [Value.oneCell']) (by unfold maxLen; omega) (by omega) hle ?_)
               intro v2 W3 hO3 hg3))
          refine ⟨⟨5, by omega, rfl, Later.grown hl hg3 (own_lt HO.out (Nat.le_refl _)), ?_⟩, by decide⟩
          rw [HT.out]
          exact snoc_own hO3
        · have ht : T ++ (lenBytes l.length).take 6 = (T ++ (lenBytes l.length).take 5) ++ [BitVec.ofNat 8 ((8 * l.length) >>> 16)] := by rw [List.append_assoc]; rfl
          rw [show (7 - ((5 : Nat) : Int)) = 2 from rfl]
          have HT := hid ht
          clear ht
          generalize T ++ (lenBytes l.length).take 5 = S at *
          generalize BitVec.ofNat 8 ((8 * l.length) >>> 16) = y at *
          go_wp2_with (first
            | (at_builtin
               (refine append_new rfl (.tmp 25) (.tmp 32) 22 rfl w.heap.size 5 i0 _ 1 1 Try.underlying22 hi0 hz0 hz1 hz2 rfl (by decide) _ 5 (.slice pa S.length pc) _ _ rfl HO.out _ 1 [bb y] rfl rfl rfl (by simp [Value.oneCell']) (by unfold maxLen; omega) (by omega) hle ?_)
               intro v2 W3 hO3 hg3))
          refine ⟨⟨6, by omega, rfl, Later.grown hl hg3 (own_lt HO.out (Nat.le_refl _)), ?_⟩, by decide⟩
          rw [HT.out]
          exact snoc_own hO3
        · have ht : T ++ (lenBytes l.length).take 7 = (T ++ (lenBytes l.length).take 6) ++ [BitVec.ofNat 8 ((8 * l.length) >>> 8)] := by rw [List.append_assoc]; rfl
          rw [show (7 - ((6 : Nat) : Int)) = 1 from rfl]
          have HT := hid ht
          clear ht
          generalize T ++ (lenBytes l.length).take 6 = S at *
          generalize BitVec.ofNat 8 ((8 * l.length) >>> 8) = y at *
          go_wp2_with (first
            | (at_builtin
               (refine append_new rfl (.tmp 25) (.tmp 32) 22 rfl w.heap.size 5 i0 _ 1 1 Try.underlying22 hi0 hz0 hz1 hz2 rfl (by decide) _ 5 (.slice pa S.length pc) _ _ rfl HO.out _ 1 [bb y] rfl rfl rfl (by simp [Value.oneCell']) (by unfold maxLen; omega) (by omega) hle ?_)
               intro v2 W3 hO3 hg3))
          refine ⟨⟨7, by omega, rfl, Later.grown hl hg3 (own_lt HO.out (Nat.le_refl _)), ?_⟩, by decide⟩
          rw [HT.out]
          exact snoc_own hO3
        · have ht : T ++ (lenBytes l.length).take 8 = (T ++ (lenBytes l.length).take 7) ++ [BitVec.ofNat 8 ((8 * l.length) >>> 0)] := by rw [List.append_assoc]; rfl
          rw [show (7 - ((7 : Nat) : Int)) = 0 from rfl]
          have HT := hid ht
          clear ht
          generalize T ++ (lenBytes l.length).take 7 = S at *
          generalize BitVec.ofNat 8 ((8 * l.length) >>> 0) = y at *
          go_wp2_with (first
            | (at_builtin
               (refine append_new rfl (.tmp 25) (.tmp 32) 22 rfl w.heap.size 5 i0 _ 1 1 Try.underlying22 hi0 hz0 hz1 hz2 rfl (by decide) _ 5 (.slice pa S.length pc) _ _ rfl HO.out _ 1 [bb y] rfl rfl rfl (by simp [Value.oneCell']) (by unfold maxLen; omega) (by omega) hle ?_)
               intro v2 W3 hO3 hg3))
          refine ⟨⟨8, by omega, rfl, Later.grown hl hg3 (own_lt HO.out (Nat.le_refl _)), ?_⟩, by decide⟩
          rw [HT.out]
          exact snoc_own hO3
end Go.Proofs.Ytnidpncacgknkaa
