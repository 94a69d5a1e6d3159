/- The walk of MacCut: it answers true. Of any key and texts. -/
import Derived.Test.YtnidpncacgknkaaMawake
import Derived.Test.YtnidpncacgknkaaSteps
import Derived.Test.YtnidpncacgknkaaRpad
namespace Go.Proofs.Ytnidpncacgknkaa
open Go.RowKit
attribute [local go_sem] ite_max ite_min
attribute [local go_sem ↓] Go.wp_at_zero Go.wp_at_succ
attribute [local go_sem] h_lt1 h_lt2 h_lt3 h_lt4 h_lt5 h_lt6 h_eq1 h_qe1 h_eq2 h_qe2 h_eq3 h_qe3 h_eq4 h_qe4 h_eq5 h_qe5 h_eq6 h_qe6
theorem x54 (y : B8) : bits .xor .u8 (bn y) 54 = bn (54#8 ^^^ y) := by rw [show (54 : Int) = bn 54#8 from rfl, b_xor, BitVec.xor_comm]
theorem x92 (y : B8) : bits .xor .u8 (bn y) 92 = bn (92#8 ^^^ y) := by rw [show (92 : Int) = bn 92#8 from rfl, b_xor, BitVec.xor_comm]
attribute [local go_sem] x54 x92
/-- rows that begin with other bytes are not one -/
theorem own_apart {w : World} {base base' : Nat} {e e' : TypeId} {v v' : Value} {n n' : Nat} {xs xs' : List Value} {x y : Value} (h : w.ownsRow base e 1 v n xs) (h' : w.ownsRow base' e' 1 v' n' xs') (hx : xs[0]? = some x) (hy : xs'[0]? = some y) (hne : x ≠ y) : v.ownBlock ≠ v'.ownBlock := by
  intro he
  rcases h.2 with ⟨_, rfl⟩ | ⟨g, cap, cur, rfl, _⟩
  · have := h.1
    rw [List.getElem?_eq_none (by omega)] at hx
    cases hx
  · have c1 := h.cells (g := g) rfl 0 x hx
    have c2 := h'.cells (g := g) he.symm 0 y hy
    rw [c1] at c2
    injection c2 with c2
    exact hne c2
theorem pad_head (key : List B8) (x : B8) (k : Nat) (h : 0 < k) : (bl ((padBy key x).take k))[0]? = some (bb (padAt key x 0)) := by
  cases k with
  | zero => omega
  | succ k => simp [bl, padBy, List.range_succ_eq_map]
theorem pad_apart (key : List B8) : bb (padAt key 54#8 0) ≠ bb (padAt key 92#8 0) := by
  intro h
  have h2 : bn (padAt key 54#8 0) = bn (padAt key 92#8 0) := by injection h
  have h3 := bn_inj h2
  unfold padAt at h3
  by_cases hk : 0 < key.length
  · rw [if_pos hk, if_pos hk] at h3
    generalize key.getD 0 0 = y at h3
    have h4 := congrArg (fun z => z ^^^ y) h3
    simp only [BitVec.xor_assoc, BitVec.xor_self, BitVec.xor_zero] at h4
    exact absurd h4 (by decide)
  · rw [if_neg hk, if_neg hk] at h3
    exact absurd h3 (by decide)
theorem texts0 (w : World) : Texts w (.slice none 0 0) [] := ⟨[], rfl, Arr.nil _ _, fun i v t hv _ => by simp at hv⟩
set_option maxRecDepth 100000 in
set_option maxHeartbeats 8000000 in
theorem macCut9 (kv : Value) (key : List B8) (av : Value) (a : List B8) (bv : Value) (b : List B8) (w : World) (hk : Arr w 1 kv key.length (bl key)) (hks : Shape kv) (ha : Arr w 1 av a.length (bl a)) (has : Shape av) (hb : Arr w 1 bv b.length (bl b)) (hbs : Shape bv) :
    Gives Try.prog 9 #[kv, av, bv] w (.bool true) := by
  apply gives_of
  obtain ⟨i0, hi0, hz0, hz1, hz2⟩ := info_parts info5
  have HK := hid hk
  have HA := hid ha
  have HB := hid hb
  have HKS := hid hks
  have HAS := hid has
  have HBS := hid hbs
  obtain ⟨_, ka, kcap, rfl, _, _, hkc⟩ := hk
  obtain ⟨_, aa, acap, rfl, _⟩ := ha
  obtain ⟨_, ba, bcap, rfl, _⟩ := hb
  have HKC := hid hkc
  clear hkc hks has hbs
  by_cases hk3 : 64 < key.length
  · have d1 : decide (64 < (key.length : Int)) = true := decide_eq_true (by omega)
    (go_enter Try.func9, Try.ntmps9; go_wp2_with (fail))
    (refine (awake11 _).mono ?_; rintro e w1 ⟨rfl, x1, rfl⟩; go_wp2_with (fail))
    go_ret
    exact ⟨rfl, by repeat (first | (with_reducible exact Later.refl _) | with_reducible apply Later.latr | with_reducible apply Later.alloc | with_reducible apply Later.drew | (with_reducible refine Later.set ?_ (by (simp; try omega)) _))⟩
  have d1 : decide (64 < (key.length : Int)) = false := decide_eq_false (by omega)
  by_cases ha3 : 300 < a.length
  · have d2 : decide (300 < (a.length : Int)) = true := decide_eq_true (by omega)
    (go_enter Try.func9, Try.ntmps9; go_wp2_with (fail))
    (refine (awake11 _).mono ?_; rintro e w1 ⟨rfl, x1, rfl⟩; go_wp2_with (fail))
    go_ret
    exact ⟨rfl, by repeat (first | (with_reducible exact Later.refl _) | with_reducible apply Later.latr | with_reducible apply Later.alloc | with_reducible apply Later.drew | (with_reducible refine Later.set ?_ (by (simp; try omega)) _))⟩
  have d2 : decide (300 < (a.length : Int)) = false := decide_eq_false (by omega)
  by_cases hb3 : 300 < b.length
  · have d3 : decide (300 < (b.length : Int)) = true := decide_eq_true (by omega)
    (go_enter Try.func9, Try.ntmps9; go_wp2_with (fail))
    (refine (awake11 _).mono ?_; rintro e w1 ⟨rfl, x1, rfl⟩; go_wp2_with (fail))
    go_ret
    exact ⟨rfl, by repeat (first | (with_reducible exact Later.refl _) | with_reducible apply Later.latr | with_reducible apply Later.alloc | with_reducible apply Later.drew | (with_reducible refine Later.set ?_ (by (simp; try omega)) _))⟩
  have d3 : decide (300 < (b.length : Int)) = false := decide_eq_false (by omega)
  (go_enter Try.func9, Try.ntmps9; go_wp2_with (fail))
  refine (awake11 _).later.mono ?_
  rintro e W0 ⟨rfl, hl0⟩
  have HL0 := hid hl0
  have hw0 := hl0.size
  have A1 : (W0.alloc (.cells #[] 5)).ownsRow w.heap.size 5 1 (.slice (some ⟨W0.heap.size, 0, none⟩) 0 0) 0 [] := lit_own (xs := []) rfl hw0 rfl (by decide)
  have hw1 : w.heap.size ≤ (W0.alloc (.cells #[] 5)).heap.size := by simp; omega
  clear hl0
  go_wp2_with (first
    | (at_builtin
       refine list_of_wp (by rfl) ?_
       refine wp_append_arr _ (.tmp 30) (.tmp 31) 22 rfl w.heap.size 5 i0 _ 1 1 Try.underlying22 hi0 hz0 hz1 hz2 rfl (by decide) _ 0 [] rfl A1 _ _ _ rfl (HA.out.later (HL0.out.alloc _)) HAS.out (bl_one _) (by unfold maxLen; omega) (by omega) hw1 ?_
       intro v1 W2 hO2 hg2
       have HL2 := hid (Later.grown (HL0.out.alloc _) hg2 (fun i hi => (A1.lt i hi).1))
       have HO2 : Hid (W2.ownsRow w.heap.size 5 1 v1 a.length (bl a)) := hid (by simpa using hO2)
       have hw2 := hid HL2.out.size
       clear hO2 hg2 A1 hw1)
    | (at_builtin
       refine list_of_wp (by rfl) ?_
       refine wp_append_arr _ (.tmp 32) (.tmp 33) 22 rfl w.heap.size 5 i0 _ 1 1 Try.underlying22 hi0 hz0 hz1 hz2 rfl (by decide) v1 _ _ rfl HO2.out _ _ _ rfl (HB.out.later HL2.out) HBS.out (bl_one _) (by unfold maxLen; omega) (by omega) hw2.out ?_
       intro v2 W3 hO3 hg3
       have HL3 := hid (Later.grown HL2.out hg3 (own_lt HO2.out (Nat.le_refl _)))
       have HO3 := hid (app_own hO3)
       clear hO3 hg3 HO2 HL2 hw2))
  have hab : (a ++ b).length ≤ 600 := by rw [List.length_append]; omega
  generalize hE : a ++ b = ab at *
  have HE := hid hE
  clear hE
  have hwX := HL3.out.size
  clear HL0 hw0
  go_loopw [9, 10, 11] (fun inn out i wr => ∃ k : Nat, k ≤ 64 ∧ i = .int .i64 k ∧ Later W3 wr ∧ wr.ownsRow W3.heap.size 5 1 inn ((padBy key 54#8).take k).length (bl ((padBy key 54#8).take k)) ∧ wr.ownsRow W3.heap.size 5 1 out ((padBy key 92#8).take k).length (bl ((padBy key 92#8).take k)) ∧ (k = 0 → inn = .slice none 0 0 ∧ out = .slice none 0 0)) (fun _ _ i _ => 64 - (intOf i).toNat)
  case atStart => exact ⟨0, Nat.zero_le _, rfl, Later.refl _, World.ownsRow_nil _ _ _ _, World.ownsRow_nil _ _ _ _, fun _ => ⟨rfl, rfl⟩⟩
  case round =>
    obtain ⟨k, hk, rfl, hl, hI, hOu, h0⟩ := hrel
    have HL := hid hl
    have hle := hl.size
    have HI := hid hI
    have HOu := hid hOu
    clear hl hI hOu
    by_cases hk64 : k < 64
    · have hd : decide ((k : Int) < 64) = true := decide_eq_true (by omega)
      have l1 : ((padBy key 54#8).take k).length ≤ 64 := by rw [List.length_take, pad_len]; omega
      have l2 : ((padBy key 92#8).take k).length ≤ 64 := by rw [List.length_take, pad_len]; omega
      have HP1 := hid (pad_take key 54#8 k hk64)
      have HP2 := hid (pad_take key 92#8 k hk64)
      have HDa : Hid (∀ (W : World) (v1 v2 : Value) (n1 n2 : Nat), 0 < k → W.ownsRow W3.heap.size 5 1 v1 n1 (bl ((padBy key 54#8).take k)) → W.ownsRow W3.heap.size 5 1 v2 n2 (bl ((padBy key 92#8).take k)) → v1.ownBlock ≠ v2.ownBlock) :=
        hid fun W v1 v2 n1 n2 hk0 o1 o2 => own_apart o1 o2 (pad_head key 54#8 k hk0) (pad_head key 92#8 k hk0) (pad_apart key)
      have HDb : Hid (∀ (W : World) (v1 v2 : Value) (n1 n2 : Nat), 0 < k → W.ownsRow W3.heap.size 5 1 v1 n1 (bl ((padBy key 54#8).take (k + 1))) → W.ownsRow W3.heap.size 5 1 v2 n2 (bl ((padBy key 92#8).take k)) → v1.ownBlock ≠ v2.ownBlock) :=
        hid fun W v1 v2 n1 n2 hk0 o1 o2 => own_apart o1 o2 (pad_head key 54#8 (k + 1) (by omega)) (pad_head key 92#8 k hk0) (pad_apart key)
      generalize (padBy key 54#8).take k = P1 at *
      generalize (padBy key 92#8).take k = P2 at *
      obtain ⟨pa, pc, hq⟩ := own_is_slice HI.out
      subst hq
      obtain ⟨qa, qc, hq⟩ := own_is_slice HOu.out
      subst hq
      have H0 := hid h0
      clear h0
      by_cases hkk : k < key.length
      · have hd2 : decide ((k : Int) < (key.length : Int)) = true := decide_eq_true (by omega)
        have hd3 : decide (k < key.length) = true := decide_eq_true hkk
        obtain ⟨kb, koff, rfl, hkb, hkcell⟩ := HKC.out (by omega)
        have c0 : wr.cell? ⟨kb, koff + k, none⟩ = some (bb (key.getD k 0)) := ((HL3.out.trans HL.out).cell hkb).trans (hkcell k _ (by simp [bl, hkk]))
        have hp1 : padAt key 54#8 k = 54#8 ^^^ key.getD k 0 := by unfold padAt; rw [if_pos hkk]
        have hp2 : padAt key 92#8 k = 92#8 ^^^ key.getD k 0 := by unfold padAt; rw [if_pos hkk]
        rw [hp1] at HP1
        rw [hp2] at HP2
        clear hp1 hp2 hkcell
        generalize key.getD k 0 = y at *
        go_wp2_with (first
          | (at_builtin
             (refine append_new rfl (.tmp 47) (.tmp 50) 22 rfl W3.heap.size 5 i0 _ 1 1 Try.underlying22 hi0 hz0 hz1 hz2 rfl (by decide) _ 5 (.slice pa P1.length pc) _ _ rfl HI.out _ 1 [_] rfl rfl rfl (by simp [Value.oneCell']) (by unfold maxLen; omega) (by omega) hle ?_)
             intro v1 W4 hI4 hg4
             have HI4 := hid (snoc_own (x := 54#8 ^^^ y) hI4)
             have HOu4 : Hid (W4.ownsRow W3.heap.size 5 1 (.slice qa P2.length qc) P2.length (bl P2)) := hid (HOu.out.kept hg4 (by
               rcases Nat.eq_zero_or_pos k with hk0 | hk0
               · exact .inl (by rw [(H0.out hk0).2]; rfl)
               · exact .inr fun he => HDa.out _ _ _ _ _ hk0 HI.out HOu.out he.symm))
             have HL4 := hid (Later.grown HL.out hg4 (own_lt HI.out (Nat.le_refl _)))
             have hle4 := hid HL4.out.size
             clear hI4 hg4)
          | (at_builtin
             (refine append_new rfl (.tmp 52) (.tmp 55) 22 rfl W3.heap.size 5 i0 _ 1 1 Try.underlying22 hi0 hz0 hz1 hz2 rfl (by decide) _ 5 (.slice qa P2.length qc) _ _ rfl HOu4.out _ 1 [_] rfl rfl rfl (by simp [Value.oneCell']) (by unfold maxLen; omega) (by omega) hle4.out ?_)
             intro v2 W5 hO5 hg5
             have HO5 := hid (snoc_own (x := 92#8 ^^^ y) hO5)
             have HI5 := hid (HI4.out.kept hg5 (by
               rcases Nat.eq_zero_or_pos k with hk0 | hk0
               · rw [(H0.out hk0).2]
                 show v1.ownBlock = none ∨ v1.ownBlock ≠ none
                 by_cases hn : v1.ownBlock = none
                 · exact .inl hn
                 · exact .inr hn
               · exact .inr (HDb.out _ _ _ _ _ hk0 (by rw [HP1.out]; exact HI4.out) HOu4.out)))
             have HL5 := hid (Later.grown HL4.out hg5 (own_lt HOu4.out (Nat.le_refl _)))
             clear hO5 hg5))
        exact ⟨⟨k + 1, by omega, by go_num, HL5.out, by rw [HP1.out]; exact HI5.out, by rw [HP2.out]; exact HO5.out, fun h => absurd h (by omega)⟩, by simp [intOf]; omega⟩
      · have hd2 : decide ((k : Int) < (key.length : Int)) = false := decide_eq_false (by omega)
        have hd3 : decide (k < key.length) = false := decide_eq_false hkk
        have hp1 : padAt key 54#8 k = 54#8 := by unfold padAt; rw [if_neg hkk]
        have hp2 : padAt key 92#8 k = 92#8 := by unfold padAt; rw [if_neg hkk]
        rw [hp1] at HP1
        rw [hp2] at HP2
        clear hp1 hp2
        go_wp2_with (first
          | (at_builtin
             (refine append_new rfl (.tmp 47) (.tmp 50) 22 rfl W3.heap.size 5 i0 _ 1 1 Try.underlying22 hi0 hz0 hz1 hz2 rfl (by decide) _ 5 (.slice pa P1.length pc) _ _ rfl HI.out _ 1 [_] rfl rfl rfl (by simp [Value.oneCell']) (by unfold maxLen; omega) (by omega) hle ?_)
             intro v1 W4 hI4 hg4
             have HI4 := hid (snoc_own (x := 54#8) hI4)
             have HOu4 : Hid (W4.ownsRow W3.heap.size 5 1 (.slice qa P2.length qc) P2.length (bl P2)) := hid (HOu.out.kept hg4 (by
               rcases Nat.eq_zero_or_pos k with hk0 | hk0
               · exact .inl (by rw [(H0.out hk0).2]; rfl)
               · exact .inr fun he => HDa.out _ _ _ _ _ hk0 HI.out HOu.out he.symm))
             have HL4 := hid (Later.grown HL.out hg4 (own_lt HI.out (Nat.le_refl _)))
             have hle4 := hid HL4.out.size
             clear hI4 hg4)
          | (at_builtin
             (refine append_new rfl (.tmp 52) (.tmp 55) 22 rfl W3.heap.size 5 i0 _ 1 1 Try.underlying22 hi0 hz0 hz1 hz2 rfl (by decide) _ 5 (.slice qa P2.length qc) _ _ rfl HOu4.out _ 1 [_] rfl rfl rfl (by simp [Value.oneCell']) (by unfold maxLen; omega) (by omega) hle4.out ?_)
             intro v2 W5 hO5 hg5
             have HO5 := hid (snoc_own (x := 92#8) hO5)
             have HI5 := hid (HI4.out.kept hg5 (by
               rcases Nat.eq_zero_or_pos k with hk0 | hk0
               · rw [(H0.out hk0).2]
                 show v1.ownBlock = none ∨ v1.ownBlock ≠ none
                 by_cases hn : v1.ownBlock = none
                 · exact .inl hn
                 · exact .inr hn
               · exact .inr (HDb.out _ _ _ _ _ hk0 (by rw [HP1.out]; exact HI4.out) HOu4.out)))
             have HL5 := hid (Later.grown HL4.out hg5 (own_lt HOu4.out (Nat.le_refl _)))
             clear hO5 hg5))
        exact ⟨⟨k + 1, by omega, by go_num, HL5.out, by rw [HP1.out]; exact HI5.out, by rw [HP2.out]; exact HO5.out, fun h => absurd h (by omega)⟩, by simp [intOf]; omega⟩
    · obtain rfl : k = 64 := by omega
      have t1 : (padBy key 54#8).take 64 = padBy key 54#8 := List.take_of_length_le (by rw [pad_len]; omega)
      have t2 : (padBy key 92#8).take 64 = padBy key 92#8 := List.take_of_length_le (by rw [pad_len]; omega)
      have hD := own_apart HI.out HOu.out (pad_head key 54#8 64 (by omega)) (pad_head key 92#8 64 (by omega)) (pad_apart key)
      rw [t1] at HI
      rw [t2] at HOu
      clear t1 t2 h0
      obtain ⟨pa, pc, hq⟩ := own_is_slice HI.out
      subst hq
      obtain ⟨qa, qc, hq⟩ := own_is_slice HOu.out
      subst hq
      obtain ⟨ra, rc, hq⟩ := own_is_slice HO3.out
      subst hq
      have HC := hid (show sha (padBy key 92#8 ++ sha (padBy key 54#8 ++ ab)) = hmac key ab by unfold hmac short; rw [if_neg hk3])
      have l1 := pad_len key 54#8
      have l2 := pad_len key 92#8
      have H1 := hid l1
      have H2 := hid l2
      have m1 : (padBy key 54#8).length ≤ 64 := by omega
      have m2 : (padBy key 92#8).length ≤ 64 := by omega
      clear l1 l2
      generalize padBy key 54#8 = P1 at *
      generalize padBy key 92#8 = P2 at *
      rw [show ((64 : Nat) : Int) = 64 from rfl]
      have HO := hid (own_later HO3.out HL.out)
      -- behind the loop
      go_wp2_with (first
        | (at_builtin
           refine list_of_wp (by rfl) ?_
           refine wp_append_arr _ (.tmp 57) (.tmp 58) 22 rfl W3.heap.size 5 i0 _ 1 1 Try.underlying22 hi0 hz0 hz1 hz2 rfl (by decide) (.slice pa P1.length pc) _ _ rfl HI.out _ _ _ rfl (Arr.of_own HO.out) (own_shape HO.out) (bl_one _) (by unfold maxLen; omega) (by omega) hle ?_
           intro v1 W4 hI4 hg4))
      have HI4 := hid (app_own hI4)
      have HOu4 := hid (HOu.out.kept hg4 (.inr hD.symm))
      have HL4 := hid (Later.grown HL.out hg4 (own_lt HI.out (Nat.le_refl _)))
      clear hI4 hg4 HI HOu HL hD hle HO
      refine (sum17 _ (P1 ++ ab) _ (Arr.of_own HI4.out) (own_shape HI4.out) (by rw [List.length_append]; omega)).later.mono ?_
      rintro e W5 ⟨rfl, hl5⟩
      have ls := sha_len (P1 ++ ab)
      generalize sha (P1 ++ ab) = s1 at *
      replace HOu4 := hid (own_later HOu4.out hl5)
      replace HL4 := hid (HL4.out.trans hl5)
      have ht5 := (Blk.new W5 24 z24).thereN 32 z24_size
      clear hl5 HI4
      (try simp only [])
      (iterate 8 go_step)
      obtain ⟨U5, hU5⟩ : ∃ U, U = (W5.alloc (.cells z24 24)).setCells W5.heap.size 0 (bl s1) := ⟨_, rfl⟩
      have hlU5 : Later W5 U5 := by rw [hU5]; exact later_sets (by repeat (first | (with_reducible exact Later.refl _) | with_reducible apply Later.latr | with_reducible apply Later.alloc | with_reducible apply Later.drew | (with_reducible refine Later.set ?_ (by (simp; try omega)) _))) (Nat.le_refl _) _ _
      have HB13 : Hid (Blk U5 W5.heap.size 24 (bl s1).toArray) := hid (by rw [hU5]; exact set24 _ ls (Blk.new W5 24 _) z24_size)
      rw [← hU5]
      replace HOu4 := hid (own_later HOu4.out hlU5)
      have HL5 := hid (HL4.out.trans hlU5)
      have hle5 := HL5.out.size
      clear hU5 hlU5 ht5 HL4
      generalize W5.heap.size = b13 at *
      have hA13 : Arr U5 1 (.slice (some ⟨b13, 0, none⟩) 32 32) s1.length (bl s1) := by
        have := arr_blk HB13.out (by rw [ls]; decide)
        rw [ls] at this ⊢
        exact this
      rw [ls] at hA13
      go_wp2_with (first
        | (at_builtin
           refine list_of_wp (by rfl) ?_
           refine wp_append_arr _ (.tmp 61) (.tmp 62) 22 rfl W3.heap.size 5 i0 _ 1 1 Try.underlying22 hi0 hz0 hz1 hz2 rfl (by decide) (.slice qa P2.length qc) _ _ rfl HOu4.out _ _ _ rfl hA13 (.inr ⟨_, _, _, rfl⟩) (bl_one _) (by unfold maxLen; omega) (by omega) hle5 ?_
           intro v2 W6 hO6 hg6))
      rw [← ls] at hO6
      have HO6 := hid (app_own hO6)
      have HL6 := hid (Later.grown HL5.out hg6 (own_lt HOu4.out (Nat.le_refl _)))
      clear hO6 hg6 HOu4 HL5 hle5 hA13 HB13
      refine (sum17 _ (P2 ++ s1) _ (Arr.of_own HO6.out) (own_shape HO6.out) (by rw [List.length_append]; omega)).later.mono ?_
      rw [HC.out]
      rintro e W7 ⟨rfl, hl7⟩
      have hc1 : hmac key [a, b].flatten = hmac key ab := by rw [show [a, b].flatten = a ++ b by simp, HE.out]
      have hc2 : hmac key [ab].flatten = hmac key ab := by rw [show [ab].flatten = ab by simp]
      have hc4 : hmac key [([] : List B8), []].flatten = hmac key ([] : List (List B8)).flatten := rfl
      have lC := hmac_len key ab
      have lC0 := hmac_len key ([] : List (List B8)).flatten
      have hlen2 : [a, b].flatten.length ≤ 500000 := by rw [show [a, b].flatten = a ++ b by simp, HE.out]; omega
      have hlen1 : [ab].flatten.length ≤ 500000 := by rw [show [ab].flatten = ab by simp]; omega
      generalize hmac key ab = C at *
      have hc3 := hid (rfl : hmac key ([] : List (List B8)).flatten = hmac key ([] : List (List B8)).flatten)
      generalize hC0 : hmac key ([] : List (List B8)).flatten = C0 at hc4 lC0
      replace hc3 : Hid (hmac key ([] : List (List B8)).flatten = C0) := hid hC0
      replace hc1 := hid hc1
      replace hc2 := hid hc2
      replace hc4 := hid hc4
      clear hC0 HC
      replace HL6 := hid (HL6.out.trans hl7)
      have ht7 := (Blk.new W7 24 z24).thereN 32 z24_size
      clear hl7 HO6
      (try simp only [])
      (iterate 8 go_step)
      obtain ⟨W, hW⟩ : ∃ U, U = (W7.alloc (.cells z24 24)).setCells W7.heap.size 0 (bl C) := ⟨_, rfl⟩
      have hlW : Later W7 W := by rw [hW]; exact later_sets (by repeat (first | (with_reducible exact Later.refl _) | with_reducible apply Later.latr | with_reducible apply Later.alloc | with_reducible apply Later.drew | (with_reducible refine Later.set ?_ (by (simp; try omega)) _))) (Nat.le_refl _) _ _
      have HB14 : Hid (Blk W W7.heap.size 24 (bl C).toArray) := hid (by rw [hW]; exact set24 _ lC (Blk.new W7 24 _) z24_size)
      rw [← hW]
      have HLW3 := hid (HL6.out.trans hlW)
      have HLW := hid (HL3.out.trans HLW3.out)
      have HALL := hid (own_later HO3.out HLW3.out)
      replace HK := hid (HK.out.later HLW.out)
      replace HA := hid (HA.out.later HLW.out)
      replace HB := hid (HB.out.later HLW.out)
      clear hW hlW ht7 HL6 HO3 HL3 HLW3
      generalize W7.heap.size = b14 at *
      clear H1 H2 m1 m2
      go_wp2_with (fail)
      refine wp_region_pred [.eq (.bool true), .eq (.bool true), .eq (.slice ka key.length kcap), .eq (.slice aa a.length acap), .eq (.slice ba b.length bcap), .pr (fun v u => Texts u v [a, b]), .eq (bagg C), .eq (.slice ka key.length kcap), .eq (.slice ra ab.length rc), .pr (fun v u => Texts u v [ab]), .eq (bagg C), .eq (.bool true), .eq (.bool true), .eq (.bool true), .eq (.slice ka key.length kcap), .eq (.slice ra ab.length rc), .pr (fun v u => Texts u v [ab]), .eq (bagg C), .eq (bagg C), .eq (.bool true), .eq (.bool true), .eq (.bool true), .eq (.slice ka key.length kcap), .eq (bagg C0), .eq (.slice ka key.length kcap), .pr (fun v u => Texts u v [[], []]), .eq (bagg C0), .eq (.bool true), .eq (.bool true), .eq (.bool true)] (by kernel_rfl) (by kernel_rfl) (by repeat (first | exact stable_nil | refine stable_cons (Kd.stable_eq _) ?_ | refine stable_cons (fun _ _ _ hl h => Texts.later h hl) ?_)) ?_
      refine ⟨by kernel_rfl, fun u hu hk K hK => ?_, fun v0 K hK => ?_⟩
      · replace hk := hid hk
        go_simp
        exact hK.out _ _ _ rfl (Later.refl _) (rfl)
      go_simp
      refine hK.out _ ?_
      clear hK K
      refine ⟨by kernel_rfl, fun u hu hk K hK => ?_, fun v1 K hK => ?_⟩
      · replace hk := hid hk
        go_simp
        exact hK.out _ _ _ rfl (Later.refl _) (rfl)
      go_simp
      refine hK.out _ ?_
      clear hK K
      refine ⟨by kernel_rfl, fun u hu hk K hK => ?_, fun v2 K hK => ?_⟩
      · replace hk := hid hk
        go_simp
        exact hK.out _ _ _ rfl (Later.refl _) (rfl)
      go_simp
      refine hK.out _ ?_
      clear hK K
      refine ⟨by kernel_rfl, fun u hu hk K hK => ?_, fun v3 K hK => ?_⟩
      · replace hk := hid hk
        go_simp
        exact hK.out _ _ _ rfl (Later.refl _) (rfl)
      go_simp
      refine hK.out _ ?_
      clear hK K
      refine ⟨by kernel_rfl, fun u hu hk K hK => ?_, fun v4 K hK => ?_⟩
      · replace hk := hid hk
        go_simp
        exact hK.out _ _ _ rfl (Later.refl _) (rfl)
      go_simp
      refine hK.out _ ?_
      clear hK K
      refine ⟨by kernel_rfl, fun u hu hk K hK => ?_, fun v5 K hK => ?_⟩
      · replace hk := hid hk
        go_simp
        exact hK.out _ _ _ rfl (by repeat (first | (with_reducible exact Later.refl _) | (with_reducible assumption) | with_reducible apply Later.latr | with_reducible apply Later.alloc | with_reducible apply Later.drew | (with_reducible refine Later.set ?_ (by (simp; try omega)) _))) (texts2 (arr_new (xs := [_, _]) (n := 2) (size := 1) rfl rfl (by decide)) ((HA.out.later hu).alloc _) HAS.out ((HB.out.later hu).alloc _) HBS.out)
      go_simp
      refine hK.out _ ?_
      clear hK K
      refine ⟨by kernel_rfl, fun u hu hk K hK => ?_, fun v6 K hK => ?_⟩
      · replace hk := hid hk
        have hT : (fun v u => Texts u v [a, b]) v5 u := hk.out ⟨5, .data⟩ (by simp) rfl (.pr (fun v u => Texts u v [a, b]), v5) (by kernel_rfl)
        go_simp
        go_wp2_with (first | (go_at_call 12; refine (mac12 _ key _ ([a, b]) _ (HK.out.later hu) HKS.out hT (by omega) hlen2).later.mono ?_; rw [hc1.out]; rintro e W8 ⟨rfl, hl8⟩))
        exact hK.out _ _ _ rfl (hl8) (rfl)
      go_simp
      refine hK.out _ ?_
      clear hK K
      refine ⟨by kernel_rfl, fun u hu hk K hK => ?_, fun v7 K hK => ?_⟩
      · replace hk := hid hk
        go_simp
        exact hK.out _ _ _ rfl (Later.refl _) (rfl)
      go_simp
      refine hK.out _ ?_
      clear hK K
      refine ⟨by kernel_rfl, fun u hu hk K hK => ?_, fun v8 K hK => ?_⟩
      · replace hk := hid hk
        go_simp
        exact hK.out _ _ _ rfl (Later.refl _) (rfl)
      go_simp
      refine hK.out _ ?_
      clear hK K
      refine ⟨by kernel_rfl, fun u hu hk K hK => ?_, fun v9 K hK => ?_⟩
      · replace hk := hid hk
        go_simp
        exact hK.out _ _ _ rfl (by repeat (first | (with_reducible exact Later.refl _) | (with_reducible assumption) | with_reducible apply Later.latr | with_reducible apply Later.alloc | with_reducible apply Later.drew | (with_reducible refine Later.set ?_ (by (simp; try omega)) _))) (texts1 (arr_new (xs := [_]) (n := 1) (size := 1) rfl rfl (by decide)) ((Arr.of_own (own_later HALL.out hu)).alloc _) (own_shape HALL.out))
      go_simp
      refine hK.out _ ?_
      clear hK K
      refine ⟨by kernel_rfl, fun u hu hk K hK => ?_, fun v10 K hK => ?_⟩
      · replace hk := hid hk
        have hT : (fun v u => Texts u v [ab]) v9 u := hk.out ⟨9, .data⟩ (by simp) rfl (.pr (fun v u => Texts u v [ab]), v9) (by kernel_rfl)
        go_simp
        go_wp2_with (first | (go_at_call 12; refine (mac12 _ key _ ([ab]) _ (HK.out.later hu) HKS.out hT (by omega) hlen1).later.mono ?_; rw [hc2.out]; rintro e W8 ⟨rfl, hl8⟩))
        exact hK.out _ _ _ rfl (hl8) (rfl)
      go_simp
      refine hK.out _ ?_
      clear hK K
      refine ⟨by kernel_rfl, fun u hu hk K hK => ?_, fun v11 K hK => ?_⟩
      · replace hk := hid hk
        refine wp_eq24 C C rfl rfl lC lC ?_; rw [same_self]
        exact hK.out _ _ _ rfl (Later.refl _) (rfl)
      go_simp
      refine hK.out _ ?_
      clear hK K
      refine ⟨by kernel_rfl, fun u hu hk K hK => ?_, fun v12 K hK => ?_⟩
      · replace hk := hid hk
        go_simp
        exact hK.out _ _ _ rfl (Later.refl _) (rfl)
      go_simp
      refine hK.out _ ?_
      clear hK K
      refine ⟨by kernel_rfl, fun u hu hk K hK => ?_, fun v13 K hK => ?_⟩
      · replace hk := hid hk
        go_simp
        exact hK.out _ _ _ rfl (Later.refl _) (rfl)
      go_simp
      refine hK.out _ ?_
      clear hK K
      refine ⟨by kernel_rfl, fun u hu hk K hK => ?_, fun v14 K hK => ?_⟩
      · replace hk := hid hk
        go_simp
        exact hK.out _ _ _ rfl (Later.refl _) (rfl)
      go_simp
      refine hK.out _ ?_
      clear hK K
      refine ⟨by kernel_rfl, fun u hu hk K hK => ?_, fun v15 K hK => ?_⟩
      · replace hk := hid hk
        go_simp
        exact hK.out _ _ _ rfl (Later.refl _) (rfl)
      go_simp
      refine hK.out _ ?_
      clear hK K
      refine ⟨by kernel_rfl, fun u hu hk K hK => ?_, fun v16 K hK => ?_⟩
      · replace hk := hid hk
        go_simp
        exact hK.out _ _ _ rfl (by repeat (first | (with_reducible exact Later.refl _) | (with_reducible assumption) | with_reducible apply Later.latr | with_reducible apply Later.alloc | with_reducible apply Later.drew | (with_reducible refine Later.set ?_ (by (simp; try omega)) _))) (texts1 (arr_new (xs := [_]) (n := 1) (size := 1) rfl rfl (by decide)) ((Arr.of_own (own_later HALL.out hu)).alloc _) (own_shape HALL.out))
      go_simp
      refine hK.out _ ?_
      clear hK K
      refine ⟨by kernel_rfl, fun u hu hk K hK => ?_, fun v17 K hK => ?_⟩
      · replace hk := hid hk
        have hT : (fun v u => Texts u v [ab]) v16 u := hk.out ⟨16, .data⟩ (by simp) rfl (.pr (fun v u => Texts u v [ab]), v16) (by kernel_rfl)
        go_simp
        go_wp2_with (first | (go_at_call 12; refine (mac12 _ key _ ([ab]) _ (HK.out.later hu) HKS.out hT (by omega) hlen1).later.mono ?_; rw [hc2.out]; rintro e W8 ⟨rfl, hl8⟩))
        exact hK.out _ _ _ rfl (hl8) (rfl)
      go_simp
      refine hK.out _ ?_
      clear hK K
      refine ⟨by kernel_rfl, fun u hu hk K hK => ?_, fun v18 K hK => ?_⟩
      · replace hk := hid hk
        have T8 := (HB14.out.later hu).there0 32 ((bl_len _).trans lC)
        have A8 := (HB14.out.later hu).agg 32 ((bl_len _).trans lC)
        change _ = bagg C at A8
        go_simp
        exact hK.out _ _ _ rfl (Later.refl _) (rfl)
      go_simp
      refine hK.out _ ?_
      clear hK K
      refine ⟨by kernel_rfl, fun u hu hk K hK => ?_, fun v19 K hK => ?_⟩
      · replace hk := hid hk
        refine wp_eq24 C C rfl rfl lC lC ?_; rw [same_self]
        exact hK.out _ _ _ rfl (Later.refl _) (rfl)
      go_simp
      refine hK.out _ ?_
      clear hK K
      refine ⟨by kernel_rfl, fun u hu hk K hK => ?_, fun v20 K hK => ?_⟩
      · replace hk := hid hk
        go_simp
        exact hK.out _ _ _ rfl (Later.refl _) (rfl)
      go_simp
      refine hK.out _ ?_
      clear hK K
      refine ⟨by kernel_rfl, fun u hu hk K hK => ?_, fun v21 K hK => ?_⟩
      · replace hk := hid hk
        go_simp
        exact hK.out _ _ _ rfl (Later.refl _) (rfl)
      go_simp
      refine hK.out _ ?_
      clear hK K
      refine ⟨by kernel_rfl, fun u hu hk K hK => ?_, fun v22 K hK => ?_⟩
      · replace hk := hid hk
        go_simp
        exact hK.out _ _ _ rfl (Later.refl _) (rfl)
      go_simp
      refine hK.out _ ?_
      clear hK K
      refine ⟨by kernel_rfl, fun u hu hk K hK => ?_, fun v23 K hK => ?_⟩
      · replace hk := hid hk
        go_simp
        go_wp2_with (first | (go_at_call 12; refine (mac12 _ key _ ([]) _ (HK.out.later hu) HKS.out (texts0 _) (by omega) (by decide)).later.mono ?_; rw [hc3.out]; rintro e W8 ⟨rfl, hl8⟩))
        exact hK.out _ _ _ rfl (hl8) (rfl)
      go_simp
      refine hK.out _ ?_
      clear hK K
      refine ⟨by kernel_rfl, fun u hu hk K hK => ?_, fun v24 K hK => ?_⟩
      · replace hk := hid hk
        go_simp
        exact hK.out _ _ _ rfl (Later.refl _) (rfl)
      go_simp
      refine hK.out _ ?_
      clear hK K
      refine ⟨by kernel_rfl, fun u hu hk K hK => ?_, fun v25 K hK => ?_⟩
      · replace hk := hid hk
        go_simp
        exact hK.out _ _ _ rfl (by repeat (first | (with_reducible exact Later.refl _) | (with_reducible assumption) | with_reducible apply Later.latr | with_reducible apply Later.alloc | with_reducible apply Later.drew | (with_reducible refine Later.set ?_ (by (simp; try omega)) _))) (texts2 (arr_new (xs := [_, _]) (n := 2) (size := 1) rfl rfl (by decide)) (Arr.nil _ _) (.inl rfl) (Arr.nil _ _) (.inl rfl))
      go_simp
      refine hK.out _ ?_
      clear hK K
      refine ⟨by kernel_rfl, fun u hu hk K hK => ?_, fun v26 K hK => ?_⟩
      · replace hk := hid hk
        have hT : (fun v u => Texts u v [[], []]) v25 u := hk.out ⟨25, .data⟩ (by simp) rfl (.pr (fun v u => Texts u v [[], []]), v25) (by kernel_rfl)
        go_simp
        go_wp2_with (first | (go_at_call 12; refine (mac12 _ key _ ([[], []]) _ (HK.out.later hu) HKS.out hT (by omega) (by decide)).later.mono ?_; rw [hc4.out]; rintro e W8 ⟨rfl, hl8⟩))
        exact hK.out _ _ _ rfl (hl8) (rfl)
      go_simp
      refine hK.out _ ?_
      clear hK K
      refine ⟨by kernel_rfl, fun u hu hk K hK => ?_, fun v27 K hK => ?_⟩
      · replace hk := hid hk
        refine wp_eq24 C0 C0 rfl rfl lC0 lC0 ?_; rw [same_self]
        exact hK.out _ _ _ rfl (Later.refl _) (rfl)
      go_simp
      refine hK.out _ ?_
      clear hK K
      refine ⟨by kernel_rfl, fun u hu hk K hK => ?_, fun v28 K hK => ?_⟩
      · replace hk := hid hk
        go_simp
        exact hK.out _ _ _ rfl (Later.refl _) (rfl)
      go_simp
      refine hK.out _ ?_
      clear hK K
      refine ⟨by kernel_rfl, fun u hu hk K hK => ?_, fun v29 K hK => ?_⟩
      · replace hk := hid hk
        go_simp
        exact hK.out _ _ _ rfl (Later.refl _) (rfl)
      go_simp
      refine hK.out _ ?_
      clear hK K
      intro u hu
      go_wp2_with (fail)
      go_ret
      exact ⟨rfl, Later.trans (a := w) HLW.out hu⟩
end Go.Proofs.Ytnidpncacgknkaa
