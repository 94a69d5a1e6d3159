/- The walk of UtfParts: it answers true. Of arguments of their types. -/
import Derived.Test.YtlkiogjjhhafnaaAwake
namespace Go.Proofs.Ytlkiogjjhhafnaa
open Go.RowKit
attribute [local go_sem] ite_max ite_min
attribute [local go_sem ↓] Go.wp_at_zero Go.wp_at_succ
attribute [local go_sem] h_lt1 h_lt2 h_lt3 h_lt4 h_lt5 h_lt6 h_eq1 h_qe1 h_eq2 h_qe2 h_eq3 h_qe3 h_eq4 h_qe4 h_eq5 h_qe5 h_eq6 h_qe6

theorem list_on {P : Program} {ops : Array Oper} {o : Oper} {rest : List Oper} {a : Act} {Q : Exit → Act → World → Prop} {w : World} (hgd : Region.wanted o (yielded ops a.tmps) = true) (h : o.wp P a w (wpList P ops Q rest) Q) : wpList P ops Q (o :: rest) a w := by
  unfold wpList
  rw [if_pos hgd]
  exact .inl h
theorem arr_zero {w : World} (a : Option Addr) (cap : Nat) (h : cap ≤ 9223372036854775807) : Arr w 1 (.slice a 0 cap) 0 [] := ⟨rfl, a, cap, rfl, Nat.zero_le _, by unfold maxLen; omega, fun h => absurd h (by omega)⟩
theorem arr_head {w : World} {a : Option Addr} {n cap k : Nat} {xs : List Value} (h : Arr w 1 (.slice a n cap) n xs) (hk : k ≤ n) : Arr w 1 (.slice a k cap) k (xs.take k) := by
  obtain ⟨h1, a', c', hv, h3, h4, h5⟩ := h
  injection hv with hv1 hv2 hv3
  subst hv1 hv3
  refine ⟨by simp at h1 ⊢; omega, a, cap, rfl, by omega, h4, fun hn => ?_⟩
  obtain ⟨b, off, ha, hb, hc⟩ := h5 (by omega)
  refine ⟨b, off, ha, hb, fun j u hu => hc j u ?_⟩
  have hj : j < k := by
    have := (List.getElem?_eq_some_iff.1 hu).1
    simp at this
    omega
  rw [List.getElem?_take_of_lt hj] at hu
  exact hu
theorem arr_tail {w : World} {b off n cap k : Nat} {xs : List Value} (h : Arr w 1 (.slice (some ⟨b, off, none⟩) n cap) n xs) (hk : k < n) : Arr w 1 (.slice (some ⟨b, off + k, none⟩) (n - k) (cap - k)) (n - k) (xs.drop k) := by
  obtain ⟨h1, a', c', hv, h3, h4, h5⟩ := h
  injection hv with hv1 hv2 hv3
  subst hv3
  refine ⟨by simp at h1 ⊢; omega, _, _, rfl, by omega, by omega, fun hn => ?_⟩
  obtain ⟨b', off', ha, hb, hc⟩ := h5 (by omega)
  rw [← hv1] at ha
  injection ha with ha
  injection ha with ha1 ha2
  subst ha1 ha2
  refine ⟨b, off + k, rfl, hb, fun j u hu => ?_⟩
  rw [List.getElem?_drop] at hu
  rw [Nat.add_assoc]
  exact hc _ u hu

set_option maxRecDepth 100000 in
set_option maxHeartbeats 16000000 in
theorem parts5 (v : Value) (l : List Int) (cut : Int) (h0 : 0 ≤ cut) (h1 : cut ≤ 65535) (w : World) (hr : ∀ x ∈ l, 0 ≤ x ∧ x < 256) (hv : Arr w 1 v l.length (l.map bv)) :
    Calls Try.prog 5 #[v, .int .u16 cut] w fun e w' => e = .returned (.bool true) ∧ Later w w' := by
  obtain ⟨j0, hj0, hy0, hy1, hy2⟩ := info_parts info3
  by_cases h300 : 300 < l.length
  · have hd : decide (300 < (l.length : Int)) = true := decide_eq_true (by omega)
    obtain ⟨_, a, cap, rfl, _⟩ := hv
    (go_enter Try.func5, Try.ntmps5; go_wp2_with (fail))
    (refine (awake7 _).mono ?_; rintro e w1 ⟨rfl, x1, rfl⟩; go_wp2_with (fail))
    go_ret
    exact ⟨rfl, by repeat (first | (with_reducible exact Later.refl _) | with_reducible apply Later.latr | with_reducible apply Later.alloc | with_reducible apply Later.drew | (with_reducible refine Later.set ?_ (by (simp; try omega)) _))⟩
  have hd : decide (300 < (l.length : Int)) = false := decide_eq_false (by omega)
  -- where it is cut
  obtain ⟨k, hk, hkk⟩ : ∃ k : Nat, k ≤ l.length ∧ (0 < l.length → cut.tmod (l.length : Int) = (k : Int) ∧ k < l.length) ∧ (l.length = 0 → k = 0) := by
    rcases Nat.eq_zero_or_pos l.length with h | h
    · exact ⟨0, by omega, fun h' => absurd h (by omega), fun _ => rfl⟩
    · have hn : (0 : Int) < (l.length : Int) := by omega
      have e : cut.tmod (l.length : Int) = cut % (l.length : Int) := Int.tmod_eq_emod_of_nonneg h0
      have e1 := Int.emod_nonneg cut (show (l.length : Int) ≠ 0 by omega)
      have e2 := Int.emod_lt_of_pos cut hn
      refine ⟨(cut % (l.length : Int)).toNat, by omega, fun _ => ⟨by rw [e]; omega, by omega⟩, fun h' => by omega⟩
  have hr1 := fun x (hx : x ∈ l.take k) => hr x (List.mem_of_mem_take hx)
  have hr2 := fun x (hx : x ∈ l.drop k) => hr x (List.mem_of_mem_drop hx)
  have hlen1 : (l.take k).length = k := by simp; omega
  have hlen2 : (l.drop k).length = l.length - k := by simp
  have run1 := fun W v' (h : Arr W 1 v' k ((l.take k).map bv)) => runes13 .zero v' (l.take k) W hr1 (by omega) (by rw [hlen1]; exact h)
  have run2 := fun W v' (h : Arr W 1 v' (l.length - k) ((l.drop k).map bv)) => runes13 (runesU .zero (l.take k)).2 v' (l.drop k) W hr2 (by omega) (by rw [hlen2]; exact h)
  have run3 := fun W v' (h : Arr W 1 v' l.length (l.map bv)) => runes13 .zero v' l W hr (by omega) h
  have happ := runesU_append .zero (l.take k) (l.drop k)
  rw [List.take_append_drop] at happ
  have hall := runes_runes l .zero (fun x hx => (hr x hx).1)
  have hfew := runes_few l
  have hf1 := runes_len2 (l.take k) .zero
  have hf2 := runes_len2 (l.drop k) (runesU .zero (l.take k)).2
  rw [happ] at hall hfew run3
  generalize runesU .zero (l.take k) = r1 at *
  generalize runesU r1.2 (l.drop k) = r2 at *
  rcases arr_cases hv with ⟨a, cap, rfl, h00, _, hmax⟩ | ⟨b, off, cap, rfl, hpos, hlen3, hb, hcap, hmax, hcell⟩
  · obtain rfl : l = [] := List.eq_nil_of_length_eq_zero h00
    obtain rfl : k = 0 := hkk.2 rfl
    have HV := hid hv
    clear hv
    simp only [List.length_nil, Nat.zero_le] at *
    (go_enter Try.func5, Try.ntmps5; go_wp2_with (fail))
    (refine (awake7 _).mono ?_; rintro e w1 ⟨rfl, x1, rfl⟩; go_wp2_with (fail))
    refine (run1 _ _ (arr_zero _ _ hmax)).mono ?_
    rintro e W1 ⟨v1, rfl, hl1, hO1⟩
    have HL1 := hid (Later.trans (a := w) (by repeat (first | (with_reducible exact Later.refl _) | with_reducible apply Later.latr | with_reducible apply Later.alloc | with_reducible apply Later.drew | (with_reducible refine Later.set ?_ (by (simp; try omega)) _))) hl1)
    have HO1 := hid hO1
    clear hl1 hO1
    go_wp2_with (fail)
    obtain ⟨U, hU⟩ : ∃ U, U = W1.alloc (.cells (uc r1.2) 23) := ⟨_, rfl⟩
    have HB1 : Hid (Blk U W1.heap.size 23 (uc r1.2)) := hid (by rw [hU]; exact Blk.new W1 23 _)
    replace HO1 : Hid (U.ownsRow w.heap.size 3 1 v1 r1.1.length (r1.1.map iv)) := hid (by rw [hU]; exact own_mono (HO1.out.alloc _) (by simp [size_latr]))
    have HL : Hid (Later w U) := hid (by rw [hU]; exact by repeat (first | (with_reducible exact Later.refl _) | (with_reducible exact HL1.out) | with_reducible apply Later.latr | with_reducible apply Later.alloc | with_reducible apply Later.drew | (with_reducible refine Later.set ?_ (by (simp; try omega)) _)))
    rw [← hU]
    clear hU HL1
    generalize W1.heap.size = p1 at *
    (obtain ⟨hca0, hca1, hca2, hfa0, hfa1, hfa2, hga⟩ := Blk.at3 (HB1.out))
    go_region_held_law (fun w' => w'.cell? ⟨p1, 0, none⟩ = some (.int .i64 r1.2.need) ∧ w'.cell? ⟨p1, 1, none⟩ = some (.int .i64 r1.2.val) ∧ w'.cell? ⟨p1, 2, none⟩ = some (.int .i64 r1.2.least))
      (exact ⟨(Later.cell (w := U) (by repeat (first | (with_reducible exact Later.refl _) | (with_reducible assumption) | with_reducible apply Later.latr | with_reducible apply Later.alloc | with_reducible apply Later.drew | (with_reducible refine Later.set ?_ (by (simp; try omega)) _))) hga).trans hca0, (Later.cell (w := U) (by repeat (first | (with_reducible exact Later.refl _) | (with_reducible assumption) | with_reducible apply Later.latr | with_reducible apply Later.alloc | with_reducible apply Later.drew | (with_reducible refine Later.set ?_ (by (simp; try omega)) _))) hga).trans hca1, (Later.cell (w := U) (by repeat (first | (with_reducible exact Later.refl _) | (with_reducible assumption) | with_reducible apply Later.latr | with_reducible apply Later.alloc | with_reducible apply Later.drew | (with_reducible refine Later.set ?_ (by (simp; try omega)) _))) hga).trans hca2⟩)
      (first
      | (go_at_call 13; refine (run2 _ _ ?_).mono ?_; (focus (exact arr_zero _ _ (by first | exact hmax | omega))); rintro e W2 ⟨v2, rfl, hl2, hO2⟩; have hl2U : Later U W2 := Later.trans (a := U) (by repeat (first | (with_reducible exact Later.refl _) | (with_reducible assumption) | with_reducible apply Later.latr | with_reducible apply Later.alloc | with_reducible apply Later.drew | (with_reducible refine Later.set ?_ (by (simp; try omega)) _))) hl2; (first | (have hBq := (Blk.new U 23 #[.int .i64 0, .int .i64 0, .int .i64 0]).drew.later hl2; have hdd := Blk.at3 hBq; obtain ⟨hd0, hd1, hd2, he0, he1, he2, hd3⟩ := hdd) | skip)))
    · obtain ⟨V, hV⟩ : ∃ V, V = W2.alloc (.cells (uc r2.2) 23) := ⟨_, rfl⟩
      have HB2 : Hid (Blk V W2.heap.size 23 (uc r2.2)) := hid (by rw [hV]; exact Blk.new W2 23 _)
      have HA1 : Hid (V.ownsRow w.heap.size 3 1 v1 r1.1.length (r1.1.map iv)) := hid (by rw [hV]; exact (own_later HO1.out hl2U).alloc _)
      have HA2 : Hid (Arr V 1 v2 r2.1.length (r2.1.map iv)) := hid (by rw [hV]; exact (Arr.of_own hO2).alloc _)
      have HLV : Hid (Later w V) := hid (by rw [hV]; exact (HL.out.trans hl2U).alloc _)
      have HSH := hid (own_shape hO2)
      rw [← hV]
      clear hV hl2 hl2U hO2 HL HO1 hca0 hca1 hca2 hfa0 hfa1 hfa2 hga HB1 
      generalize W2.heap.size = p2 at *
      (obtain ⟨hcb0, hcb1, hcb2, hfb0, hfb1, hfb2, hgb⟩ := Blk.at3 (HB2.out))
      go_wp2_with (fail)
      refine (run3 _ _ (HV.out.later HLV.out)).mono ?_
      rintro e W3 ⟨v3, rfl, hl3, hO3⟩
      have HL3 := hid (HLV.out.trans hl3)
      have HA3 := hid (Arr.of_own hO3)
      have HNE : Hid (v3.ownBlock = none ∨ v3.ownBlock ≠ v1.ownBlock) := hid (by
        cases hv : v3.ownBlock with
        | none => exact .inl rfl
        | some g =>
          refine .inr fun he => ?_
          have q1 := (hO3.lt _ hv).1
          have q2 := (HA1.out.lt _ he.symm).2
          omega)
      have HO3 := hid hO3
      replace HB2 := hid (HB2.out.later hl3)
      replace HA1 := hid (own_later HA1.out hl3)
      replace HA2 := hid (HA2.out.later hl3)
      clear hl3 hO3 HLV hcb0 hcb1 hcb2 hfb0 hfb1 hfb2 hgb
      go_wp2_with (fail)
      obtain ⟨X, hX⟩ : ∃ X, X = W3.alloc (.cells (uc r2.2) 23) := ⟨_, rfl⟩
      have HB3 : Hid (Blk X W3.heap.size 23 (uc r2.2)) := hid (by rw [hX]; exact Blk.new W3 23 _)
      replace HB2 : Hid (Blk X p2 23 (uc r2.2)) := hid (by rw [hX]; exact HB2.out.alloc _)
      replace HA1 : Hid (X.ownsRow w.heap.size 3 1 v1 r1.1.length (r1.1.map iv)) := hid (by rw [hX]; exact HA1.out.alloc _)
      replace HA2 : Hid (Arr X 1 v2 r2.1.length (r2.1.map iv)) := hid (by rw [hX]; exact HA2.out.alloc _)
      replace HO3 : Hid (X.ownsRow V.heap.size 3 1 v3 (r1.1 ++ r2.1).length ((r1.1 ++ r2.1).map iv)) := hid (by rw [hX]; exact HO3.out.alloc _)
      replace HA3 : Hid (Arr X 1 v3 (r1.1 ++ r2.1).length ((r1.1 ++ r2.1).map iv)) := hid (by rw [hX]; exact HA3.out.alloc _)
      replace HL3 : Hid (Later w X) := hid (by rw [hX]; exact HL3.out.alloc _)
      rw [← hX]
      clear hX
      generalize W3.heap.size = p3 at *
      have HALL := hid hall
      have HLEN4 := hid (show (r1.1 ++ r2.1).length = r1.1.length + r2.1.length from List.length_append)
      clear hall
      generalize hzs : r1.1 ++ r2.1 = zs at *
      obtain ⟨a3, c3, hv3⟩ : ∃ a c, v3 = .slice a zs.length c := by obtain ⟨_, a3, c3, h, _⟩ := HA3.out; exact ⟨a3, c3, h⟩
      subst hv3
      go_loopw [13] (fun i wr => ∃ k : Nat, k ≤ zs.length ∧ i = .int .i64 k ∧ wr = X) (fun i _ => zs.length - (intOf i).toNat)
      case atStart => exact ⟨0, Nat.zero_le _, rfl, rfl⟩
      case round =>
        obtain ⟨m, hm, rfl, rfl⟩ := hrel
        by_cases hlt : m < zs.length
        · obtain ⟨_, a4, c4, hv4, hc4, hx4, hcell4⟩ := HA3.out
          injection hv4 with e1 e2 e3
          subst e1 e3
          obtain ⟨b4', o4, rfl, hb4, hcc⟩ := hcell4 (by omega)
          have c0 : wr.cell? ⟨b4', o4 + m, none⟩ = some (iv zs[m]) := hcc m _ (by simp [hlt])
          obtain ⟨g1, g2, g3⟩ := (isR_iff _).1 (HALL.out zs[m] (List.getElem_mem hlt))
          clear hcell4 hcc
          generalize zs[m] = x at *
          have d1 : decide (x < 0) = false := decide_eq_false (by omega)
          have d2 : decide (1114111 < x) = false := decide_eq_false (by omega)
          by_cases g4 : 55296 ≤ x
          · have d3 : decide (55296 ≤ x) = true := decide_eq_true g4
            have d4 : decide (x ≤ 57343) = false := decide_eq_false (by omega)
            go_wp2_with (fail)
            go_roundw
            case rel => exact ⟨m + 1, by omega, by go_num, trivial⟩
            case measure => simp [intOf]; omega
          · have d3 : decide (55296 ≤ x) = false := decide_eq_false g4
            go_wp2_with (fail)
            go_roundw
            case rel => exact ⟨m + 1, by omega, by go_num, trivial⟩
            case measure => simp [intOf]; omega
        · obtain rfl : m = zs.length := by omega
          have hle := hid HL3.out.size
          go_wp2_with (first
            | (at_builtin
               refine list_on (by rfl) (wp_append_arr _ (.tmp 83) (.tmp 84) 24 rfl w.heap.size 3 j0 _ 1 8 Try.underlying24 hj0 hy0 hy1 hy2 rfl (by decide) _ _ _ rfl HA1.out _ _ _ rfl HA2.out HSH.out (ints_one _) (by unfold maxLen; omega) (by omega) hle.out ?_)
               intro v5 W5 hO5 hg5))
          have HB5 := hid (HB2.out.grown hg5 (own_blk_ne HA1.out HB2.out (by decide)))
          have HB6 := hid (HB3.out.grown hg5 (own_blk_ne HA1.out HB3.out (by decide)))
          have hA5 := Arr.of_own (HO3.out.kept hg5 HNE.out)
          have hL5 := Later.grown HL3.out hg5 (own_lt HA1.out (Nat.le_refl _))
          have hd9 : decide ((zs.length : Int) ≤ ((0 : Nat) : Int)) = true := decide_eq_true (by have : zs.length ≤ (0 : Nat) := hfew; omega)
          refine (same_true v5 _ zs _ ?_ hA5).later.mono ?_
          · rw [← hzs, List.length_append, List.map_append]
            exact .of_own hO5
          rintro e W6 ⟨rfl, hl6⟩
          have HL6 := hid (hL5.trans hl6)
          replace HB5 := hid (HB5.out.later hl6)
          replace HB6 := hid (HB6.out.later hl6)
          clear hl6 hL5 hA5 hO5 hg5
          (obtain ⟨hcx0, hcx1, hcx2, hfx0, hfx1, hfx2, hgx⟩ := Blk.at3 (HB5.out))
          (obtain ⟨hcy0, hcy1, hcy2, hfy0, hfy1, hfy2, hgy⟩ := Blk.at3 (HB6.out))
          go_wp2_with (fail)
          go_ret
          exact ⟨by show Ending.returned (Value.bool (decide (zs = []))) = _; rw [decide_eq_true (List.eq_nil_of_length_eq_zero (by have : zs.length ≤ 0 := hfew; omega))], HL6.out⟩
    · have hn2 := own_ne_low hO2 (b := U.heap.size) (by simp)
      have hn1 : some U.heap.size ≠ v1.ownBlock := fun he => by have := (HO1.out.lt _ he.symm).2; omega
      have hpw := HL.out.size
      obtain ⟨V, hV⟩ : ∃ V, V = ((W2.setCell ⟨U.heap.size, 0, none⟩ (.int .i64 r2.2.need)).setCell ⟨U.heap.size, 1, none⟩ (.int .i64 r2.2.val)).setCell ⟨U.heap.size, 2, none⟩ (.int .i64 r2.2.least) := ⟨_, rfl⟩
      have HB2 : Hid (Blk V U.heap.size 23 (uc r2.2)) := hid (by rw [hV]; exact (((hBq.set_ 0 _).set_ 1 _).set_ 2 _))
      have HA1 : Hid (V.ownsRow w.heap.size 3 1 v1 r1.1.length (r1.1.map iv)) := hid (by rw [hV]; exact own_set (own_set (own_set (own_later HO1.out hl2U) hn1 _) hn1 _) hn1 _)
      have HA2 : Hid (Arr V 1 v2 r2.1.length (r2.1.map iv)) := hid (by rw [hV]; exact .of_own (own_set (own_set (own_set hO2 hn2 _) hn2 _) hn2 _))
      have HLV : Hid (Later w V) := hid (by rw [hV]; exact (((HL.out.trans hl2U).set (p := ⟨U.heap.size, 0, none⟩) hpw _).set (p := ⟨U.heap.size, 1, none⟩) hpw _).set (p := ⟨U.heap.size, 2, none⟩) hpw _)
      have HSH := hid (own_shape hO2)
      rw [← hV]
      clear hV hl2 hl2U hO2 HL HO1 hca0 hca1 hca2 hfa0 hfa1 hfa2 hga HB1  hBq hd0 hd1 hd2 he0 he1 he2 hd3 hn1 hn2 hpw
      generalize U.heap.size = p2 at *
      (obtain ⟨hcb0, hcb1, hcb2, hfb0, hfb1, hfb2, hgb⟩ := Blk.at3 (HB2.out))
      go_wp2_with (fail)
      refine (run3 _ _ (HV.out.later HLV.out)).mono ?_
      rintro e W3 ⟨v3, rfl, hl3, hO3⟩
      have HL3 := hid (HLV.out.trans hl3)
      have HA3 := hid (Arr.of_own hO3)
      have HNE : Hid (v3.ownBlock = none ∨ v3.ownBlock ≠ v1.ownBlock) := hid (by
        cases hv : v3.ownBlock with
        | none => exact .inl rfl
        | some g =>
          refine .inr fun he => ?_
          have q1 := (hO3.lt _ hv).1
          have q2 := (HA1.out.lt _ he.symm).2
          omega)
      have HO3 := hid hO3
      replace HB2 := hid (HB2.out.later hl3)
      replace HA1 := hid (own_later HA1.out hl3)
      replace HA2 := hid (HA2.out.later hl3)
      clear hl3 hO3 HLV hcb0 hcb1 hcb2 hfb0 hfb1 hfb2 hgb
      go_wp2_with (fail)
      obtain ⟨X, hX⟩ : ∃ X, X = W3.alloc (.cells (uc r2.2) 23) := ⟨_, rfl⟩
      have HB3 : Hid (Blk X W3.heap.size 23 (uc r2.2)) := hid (by rw [hX]; exact Blk.new W3 23 _)
      replace HB2 : Hid (Blk X p2 23 (uc r2.2)) := hid (by rw [hX]; exact HB2.out.alloc _)
      replace HA1 : Hid (X.ownsRow w.heap.size 3 1 v1 r1.1.length (r1.1.map iv)) := hid (by rw [hX]; exact HA1.out.alloc _)
      replace HA2 : Hid (Arr X 1 v2 r2.1.length (r2.1.map iv)) := hid (by rw [hX]; exact HA2.out.alloc _)
      replace HO3 : Hid (X.ownsRow V.heap.size 3 1 v3 (r1.1 ++ r2.1).length ((r1.1 ++ r2.1).map iv)) := hid (by rw [hX]; exact HO3.out.alloc _)
      replace HA3 : Hid (Arr X 1 v3 (r1.1 ++ r2.1).length ((r1.1 ++ r2.1).map iv)) := hid (by rw [hX]; exact HA3.out.alloc _)
      replace HL3 : Hid (Later w X) := hid (by rw [hX]; exact HL3.out.alloc _)
      rw [← hX]
      clear hX
      generalize W3.heap.size = p3 at *
      have HALL := hid hall
      have HLEN4 := hid (show (r1.1 ++ r2.1).length = r1.1.length + r2.1.length from List.length_append)
      clear hall
      generalize hzs : r1.1 ++ r2.1 = zs at *
      obtain ⟨a3, c3, hv3⟩ : ∃ a c, v3 = .slice a zs.length c := by obtain ⟨_, a3, c3, h, _⟩ := HA3.out; exact ⟨a3, c3, h⟩
      subst hv3
      go_loopw [13] (fun i wr => ∃ k : Nat, k ≤ zs.length ∧ i = .int .i64 k ∧ wr = X) (fun i _ => zs.length - (intOf i).toNat)
      case atStart => exact ⟨0, Nat.zero_le _, rfl, rfl⟩
      case round =>
        obtain ⟨m, hm, rfl, rfl⟩ := hrel
        by_cases hlt : m < zs.length
        · obtain ⟨_, a4, c4, hv4, hc4, hx4, hcell4⟩ := HA3.out
          injection hv4 with e1 e2 e3
          subst e1 e3
          obtain ⟨b4', o4, rfl, hb4, hcc⟩ := hcell4 (by omega)
          have c0 : wr.cell? ⟨b4', o4 + m, none⟩ = some (iv zs[m]) := hcc m _ (by simp [hlt])
          obtain ⟨g1, g2, g3⟩ := (isR_iff _).1 (HALL.out zs[m] (List.getElem_mem hlt))
          clear hcell4 hcc
          generalize zs[m] = x at *
          have d1 : decide (x < 0) = false := decide_eq_false (by omega)
          have d2 : decide (1114111 < x) = false := decide_eq_false (by omega)
          by_cases g4 : 55296 ≤ x
          · have d3 : decide (55296 ≤ x) = true := decide_eq_true g4
            have d4 : decide (x ≤ 57343) = false := decide_eq_false (by omega)
            go_wp2_with (fail)
            go_roundw
            case rel => exact ⟨m + 1, by omega, by go_num, trivial⟩
            case measure => simp [intOf]; omega
          · have d3 : decide (55296 ≤ x) = false := decide_eq_false g4
            go_wp2_with (fail)
            go_roundw
            case rel => exact ⟨m + 1, by omega, by go_num, trivial⟩
            case measure => simp [intOf]; omega
        · obtain rfl : m = zs.length := by omega
          have hle := hid HL3.out.size
          go_wp2_with (first
            | (at_builtin
               refine list_on (by rfl) (wp_append_arr _ (.tmp 83) (.tmp 84) 24 rfl w.heap.size 3 j0 _ 1 8 Try.underlying24 hj0 hy0 hy1 hy2 rfl (by decide) _ _ _ rfl HA1.out _ _ _ rfl HA2.out HSH.out (ints_one _) (by unfold maxLen; omega) (by omega) hle.out ?_)
               intro v5 W5 hO5 hg5))
          have HB5 := hid (HB2.out.grown hg5 (own_blk_ne HA1.out HB2.out (by decide)))
          have HB6 := hid (HB3.out.grown hg5 (own_blk_ne HA1.out HB3.out (by decide)))
          have hA5 := Arr.of_own (HO3.out.kept hg5 HNE.out)
          have hL5 := Later.grown HL3.out hg5 (own_lt HA1.out (Nat.le_refl _))
          have hd9 : decide ((zs.length : Int) ≤ ((0 : Nat) : Int)) = true := decide_eq_true (by have : zs.length ≤ (0 : Nat) := hfew; omega)
          refine (same_true v5 _ zs _ ?_ hA5).later.mono ?_
          · rw [← hzs, List.length_append, List.map_append]
            exact .of_own hO5
          rintro e W6 ⟨rfl, hl6⟩
          have HL6 := hid (hL5.trans hl6)
          replace HB5 := hid (HB5.out.later hl6)
          replace HB6 := hid (HB6.out.later hl6)
          clear hl6 hL5 hA5 hO5 hg5
          (obtain ⟨hcx0, hcx1, hcx2, hfx0, hfx1, hfx2, hgx⟩ := Blk.at3 (HB5.out))
          (obtain ⟨hcy0, hcy1, hcy2, hfy0, hfy1, hfy2, hgy⟩ := Blk.at3 (HB6.out))
          go_wp2_with (fail)
          go_ret
          exact ⟨by show Ending.returned (Value.bool (decide (zs = []))) = _; rw [decide_eq_true (List.eq_nil_of_length_eq_zero (by have : zs.length ≤ 0 := hfew; omega))], HL6.out⟩
  obtain ⟨hmod, hklt⟩ := hkk.1 hpos
  have hne : ((l.length : Int) = 0) = False := by simp only [eq_iff_iff, iff_false]; omega
  have h1a := arr_head hv (Nat.le_of_lt hklt)
  have h2a := arr_tail hv hklt
  rw [← List.map_take] at h1a
  rw [← List.map_drop] at h2a
  have hw1 : IntKind.i64.wrap (k : Int) = (k : Int) := IntWalk.i64_in _ (by omega)
  have b1 : (0 : Int) ≤ (k : Int) := by omega
  have b2 : (k : Int) ≤ (l.length : Int) := by omega
  have b3 : (k : Int) ≤ (cap : Int) := by omega
  have b4 : (l.length : Int) ≤ (cap : Int) := by omega
  have HV := hid hv
  have H1A := hid h1a
  have H2A := hid h2a
  have HC := hid hcell
  clear hv h1a h2a hcell
  have hp0 : decide (0 < (l.length : Int)) = true := decide_eq_true (by omega)
  (go_enter Try.func5, Try.ntmps5; go_wp2_with (fail))
  (refine (awake7 _).mono ?_; rintro e w1 ⟨rfl, x1, rfl⟩; go_wp2_with (fail))
  refine (run1 _ _ (H1A.out.latr _)).mono ?_
  rintro e W1 ⟨v1, rfl, hl1, hO1⟩
  have HL1 := hid (Later.trans (a := w) (by repeat (first | (with_reducible exact Later.refl _) | with_reducible apply Later.latr | with_reducible apply Later.alloc | with_reducible apply Later.drew | (with_reducible refine Later.set ?_ (by (simp; try omega)) _))) hl1)
  have HO1 := hid hO1
  clear hl1 hO1
  go_wp2_with (fail)
  obtain ⟨U, hU⟩ : ∃ U, U = W1.alloc (.cells (uc r1.2) 23) := ⟨_, rfl⟩
  have HB1 : Hid (Blk U W1.heap.size 23 (uc r1.2)) := hid (by rw [hU]; exact Blk.new W1 23 _)
  replace HO1 : Hid (U.ownsRow w.heap.size 3 1 v1 r1.1.length (r1.1.map iv)) := hid (by rw [hU]; exact own_mono (HO1.out.alloc _) (by simp [size_latr]))
  have HL : Hid (Later w U) := hid (by rw [hU]; exact by repeat (first | (with_reducible exact Later.refl _) | (with_reducible exact HL1.out) | with_reducible apply Later.latr | with_reducible apply Later.alloc | with_reducible apply Later.drew | (with_reducible refine Later.set ?_ (by (simp; try omega)) _)))
  rw [← hU]
  clear hU HL1
  generalize W1.heap.size = p1 at *
  (obtain ⟨hca0, hca1, hca2, hfa0, hfa1, hfa2, hga⟩ := Blk.at3 (HB1.out))
  replace H2A := hid (H2A.out.later HL.out)
  go_region_held_law (fun w' => w'.cell? ⟨p1, 0, none⟩ = some (.int .i64 r1.2.need) ∧ w'.cell? ⟨p1, 1, none⟩ = some (.int .i64 r1.2.val) ∧ w'.cell? ⟨p1, 2, none⟩ = some (.int .i64 r1.2.least))
    (exact ⟨(Later.cell (w := U) (by repeat (first | (with_reducible exact Later.refl _) | (with_reducible assumption) | with_reducible apply Later.latr | with_reducible apply Later.alloc | with_reducible apply Later.drew | (with_reducible refine Later.set ?_ (by (simp; try omega)) _))) hga).trans hca0, (Later.cell (w := U) (by repeat (first | (with_reducible exact Later.refl _) | (with_reducible assumption) | with_reducible apply Later.latr | with_reducible apply Later.alloc | with_reducible apply Later.drew | (with_reducible refine Later.set ?_ (by (simp; try omega)) _))) hga).trans hca1, (Later.cell (w := U) (by repeat (first | (with_reducible exact Later.refl _) | (with_reducible assumption) | with_reducible apply Later.latr | with_reducible apply Later.alloc | with_reducible apply Later.drew | (with_reducible refine Later.set ?_ (by (simp; try omega)) _))) hga).trans hca2⟩)
    (first
    | (go_at_call 13; refine (run2 _ _ ?_).mono ?_; (focus (exact H2A.out.later (by repeat (first | (with_reducible exact Later.refl _) | (with_reducible assumption) | with_reducible apply Later.latr | with_reducible apply Later.alloc | with_reducible apply Later.drew | (with_reducible refine Later.set ?_ (by (simp; try omega)) _))))); rintro e W2 ⟨v2, rfl, hl2, hO2⟩; have hl2U : Later U W2 := Later.trans (a := U) (by repeat (first | (with_reducible exact Later.refl _) | (with_reducible assumption) | with_reducible apply Later.latr | with_reducible apply Later.alloc | with_reducible apply Later.drew | (with_reducible refine Later.set ?_ (by (simp; try omega)) _))) hl2; (first | (have hBq := (Blk.new U 23 #[.int .i64 0, .int .i64 0, .int .i64 0]).drew.later hl2; have hdd := Blk.at3 hBq; obtain ⟨hd0, hd1, hd2, he0, he1, he2, hd3⟩ := hdd) | skip)))
  · obtain ⟨V, hV⟩ : ∃ V, V = W2.alloc (.cells (uc r2.2) 23) := ⟨_, rfl⟩
    have HB2 : Hid (Blk V W2.heap.size 23 (uc r2.2)) := hid (by rw [hV]; exact Blk.new W2 23 _)
    have HA1 : Hid (V.ownsRow w.heap.size 3 1 v1 r1.1.length (r1.1.map iv)) := hid (by rw [hV]; exact (own_later HO1.out hl2U).alloc _)
    have HA2 : Hid (Arr V 1 v2 r2.1.length (r2.1.map iv)) := hid (by rw [hV]; exact (Arr.of_own hO2).alloc _)
    have HLV : Hid (Later w V) := hid (by rw [hV]; exact (HL.out.trans hl2U).alloc _)
    have HSH := hid (own_shape hO2)
    rw [← hV]
    clear hV hl2 hl2U hO2 HL HO1 hca0 hca1 hca2 hfa0 hfa1 hfa2 hga HB1 H2A H1A
    generalize W2.heap.size = p2 at *
    (obtain ⟨hcb0, hcb1, hcb2, hfb0, hfb1, hfb2, hgb⟩ := Blk.at3 (HB2.out))
    go_wp2_with (fail)
    refine (run3 _ _ (HV.out.later HLV.out)).mono ?_
    rintro e W3 ⟨v3, rfl, hl3, hO3⟩
    have HL3 := hid (HLV.out.trans hl3)
    have HA3 := hid (Arr.of_own hO3)
    have HNE : Hid (v3.ownBlock = none ∨ v3.ownBlock ≠ v1.ownBlock) := hid (by
      cases hv : v3.ownBlock with
      | none => exact .inl rfl
      | some g =>
        refine .inr fun he => ?_
        have q1 := (hO3.lt _ hv).1
        have q2 := (HA1.out.lt _ he.symm).2
        omega)
    have HO3 := hid hO3
    replace HB2 := hid (HB2.out.later hl3)
    replace HA1 := hid (own_later HA1.out hl3)
    replace HA2 := hid (HA2.out.later hl3)
    clear hl3 hO3 HLV hcb0 hcb1 hcb2 hfb0 hfb1 hfb2 hgb
    go_wp2_with (fail)
    obtain ⟨X, hX⟩ : ∃ X, X = W3.alloc (.cells (uc r2.2) 23) := ⟨_, rfl⟩
    have HB3 : Hid (Blk X W3.heap.size 23 (uc r2.2)) := hid (by rw [hX]; exact Blk.new W3 23 _)
    replace HB2 : Hid (Blk X p2 23 (uc r2.2)) := hid (by rw [hX]; exact HB2.out.alloc _)
    replace HA1 : Hid (X.ownsRow w.heap.size 3 1 v1 r1.1.length (r1.1.map iv)) := hid (by rw [hX]; exact HA1.out.alloc _)
    replace HA2 : Hid (Arr X 1 v2 r2.1.length (r2.1.map iv)) := hid (by rw [hX]; exact HA2.out.alloc _)
    replace HO3 : Hid (X.ownsRow V.heap.size 3 1 v3 (r1.1 ++ r2.1).length ((r1.1 ++ r2.1).map iv)) := hid (by rw [hX]; exact HO3.out.alloc _)
    replace HA3 : Hid (Arr X 1 v3 (r1.1 ++ r2.1).length ((r1.1 ++ r2.1).map iv)) := hid (by rw [hX]; exact HA3.out.alloc _)
    replace HL3 : Hid (Later w X) := hid (by rw [hX]; exact HL3.out.alloc _)
    rw [← hX]
    clear hX
    generalize W3.heap.size = p3 at *
    have HALL := hid hall
    have HLEN4 := hid (show (r1.1 ++ r2.1).length = r1.1.length + r2.1.length from List.length_append)
    clear hall
    generalize hzs : r1.1 ++ r2.1 = zs at *
    obtain ⟨a3, c3, hv3⟩ : ∃ a c, v3 = .slice a zs.length c := by obtain ⟨_, a3, c3, h, _⟩ := HA3.out; exact ⟨a3, c3, h⟩
    subst hv3
    go_loopw [13] (fun i wr => ∃ k : Nat, k ≤ zs.length ∧ i = .int .i64 k ∧ wr = X) (fun i _ => zs.length - (intOf i).toNat)
    case atStart => exact ⟨0, Nat.zero_le _, rfl, rfl⟩
    case round =>
      obtain ⟨m, hm, rfl, rfl⟩ := hrel
      by_cases hlt : m < zs.length
      · obtain ⟨_, a4, c4, hv4, hc4, hx4, hcell4⟩ := HA3.out
        injection hv4 with e1 e2 e3
        subst e1 e3
        obtain ⟨b4', o4, rfl, hb4, hcc⟩ := hcell4 (by omega)
        have c0 : wr.cell? ⟨b4', o4 + m, none⟩ = some (iv zs[m]) := hcc m _ (by simp [hlt])
        obtain ⟨g1, g2, g3⟩ := (isR_iff _).1 (HALL.out zs[m] (List.getElem_mem hlt))
        clear hcell4 hcc
        generalize zs[m] = x at *
        have d1 : decide (x < 0) = false := decide_eq_false (by omega)
        have d2 : decide (1114111 < x) = false := decide_eq_false (by omega)
        by_cases g4 : 55296 ≤ x
        · have d3 : decide (55296 ≤ x) = true := decide_eq_true g4
          have d4 : decide (x ≤ 57343) = false := decide_eq_false (by omega)
          go_wp2_with (fail)
          go_roundw
          case rel => exact ⟨m + 1, by omega, by go_num, trivial⟩
          case measure => simp [intOf]; omega
        · have d3 : decide (55296 ≤ x) = false := decide_eq_false g4
          go_wp2_with (fail)
          go_roundw
          case rel => exact ⟨m + 1, by omega, by go_num, trivial⟩
          case measure => simp [intOf]; omega
      · obtain rfl : m = zs.length := by omega
        have hle := hid HL3.out.size
        go_wp2_with (first
          | (at_builtin
             refine list_on (by rfl) (wp_append_arr _ (.tmp 83) (.tmp 84) 24 rfl w.heap.size 3 j0 _ 1 8 Try.underlying24 hj0 hy0 hy1 hy2 rfl (by decide) _ _ _ rfl HA1.out _ _ _ rfl HA2.out HSH.out (ints_one _) (by unfold maxLen; omega) (by omega) hle.out ?_)
             intro v5 W5 hO5 hg5))
        have HB5 := hid (HB2.out.grown hg5 (own_blk_ne HA1.out HB2.out (by decide)))
        have HB6 := hid (HB3.out.grown hg5 (own_blk_ne HA1.out HB3.out (by decide)))
        have hA5 := Arr.of_own (HO3.out.kept hg5 HNE.out)
        have hL5 := Later.grown HL3.out hg5 (own_lt HA1.out (Nat.le_refl _))
        have hd9 : decide ((zs.length : Int) ≤ (l.length : Int)) = true := decide_eq_true (by have : zs.length ≤ l.length := hfew; omega)
        refine (same_true v5 _ zs _ ?_ hA5).later.mono ?_
        · rw [← hzs, List.length_append, List.map_append]
          exact .of_own hO5
        rintro e W6 ⟨rfl, hl6⟩
        have HL6 := hid (hL5.trans hl6)
        replace HB5 := hid (HB5.out.later hl6)
        replace HB6 := hid (HB6.out.later hl6)
        clear hl6 hL5 hA5 hO5 hg5
        (obtain ⟨hcx0, hcx1, hcx2, hfx0, hfx1, hfx2, hgx⟩ := Blk.at3 (HB5.out))
        (obtain ⟨hcy0, hcy1, hcy2, hfy0, hfy1, hfy2, hgy⟩ := Blk.at3 (HB6.out))
        go_wp2_with (fail)
        go_ret
        exact ⟨rfl, HL6.out⟩
  · have hn2 := own_ne_low hO2 (b := U.heap.size) (by simp)
    have hn1 : some U.heap.size ≠ v1.ownBlock := fun he => by have := (HO1.out.lt _ he.symm).2; omega
    have hpw := HL.out.size
    obtain ⟨V, hV⟩ : ∃ V, V = ((W2.setCell ⟨U.heap.size, 0, none⟩ (.int .i64 r2.2.need)).setCell ⟨U.heap.size, 1, none⟩ (.int .i64 r2.2.val)).setCell ⟨U.heap.size, 2, none⟩ (.int .i64 r2.2.least) := ⟨_, rfl⟩
    have HB2 : Hid (Blk V U.heap.size 23 (uc r2.2)) := hid (by rw [hV]; exact (((hBq.set_ 0 _).set_ 1 _).set_ 2 _))
    have HA1 : Hid (V.ownsRow w.heap.size 3 1 v1 r1.1.length (r1.1.map iv)) := hid (by rw [hV]; exact own_set (own_set (own_set (own_later HO1.out hl2U) hn1 _) hn1 _) hn1 _)
    have HA2 : Hid (Arr V 1 v2 r2.1.length (r2.1.map iv)) := hid (by rw [hV]; exact .of_own (own_set (own_set (own_set hO2 hn2 _) hn2 _) hn2 _))
    have HLV : Hid (Later w V) := hid (by rw [hV]; exact (((HL.out.trans hl2U).set (p := ⟨U.heap.size, 0, none⟩) hpw _).set (p := ⟨U.heap.size, 1, none⟩) hpw _).set (p := ⟨U.heap.size, 2, none⟩) hpw _)
    have HSH := hid (own_shape hO2)
    rw [← hV]
    clear hV hl2 hl2U hO2 HL HO1 hca0 hca1 hca2 hfa0 hfa1 hfa2 hga HB1 H2A H1A hBq hd0 hd1 hd2 he0 he1 he2 hd3 hn1 hn2 hpw
    generalize U.heap.size = p2 at *
    (obtain ⟨hcb0, hcb1, hcb2, hfb0, hfb1, hfb2, hgb⟩ := Blk.at3 (HB2.out))
    go_wp2_with (fail)
    refine (run3 _ _ (HV.out.later HLV.out)).mono ?_
    rintro e W3 ⟨v3, rfl, hl3, hO3⟩
    have HL3 := hid (HLV.out.trans hl3)
    have HA3 := hid (Arr.of_own hO3)
    have HNE : Hid (v3.ownBlock = none ∨ v3.ownBlock ≠ v1.ownBlock) := hid (by
      cases hv : v3.ownBlock with
      | none => exact .inl rfl
      | some g =>
        refine .inr fun he => ?_
        have q1 := (hO3.lt _ hv).1
        have q2 := (HA1.out.lt _ he.symm).2
        omega)
    have HO3 := hid hO3
    replace HB2 := hid (HB2.out.later hl3)
    replace HA1 := hid (own_later HA1.out hl3)
    replace HA2 := hid (HA2.out.later hl3)
    clear hl3 hO3 HLV hcb0 hcb1 hcb2 hfb0 hfb1 hfb2 hgb
    go_wp2_with (fail)
    obtain ⟨X, hX⟩ : ∃ X, X = W3.alloc (.cells (uc r2.2) 23) := ⟨_, rfl⟩
    have HB3 : Hid (Blk X W3.heap.size 23 (uc r2.2)) := hid (by rw [hX]; exact Blk.new W3 23 _)
    replace HB2 : Hid (Blk X p2 23 (uc r2.2)) := hid (by rw [hX]; exact HB2.out.alloc _)
    replace HA1 : Hid (X.ownsRow w.heap.size 3 1 v1 r1.1.length (r1.1.map iv)) := hid (by rw [hX]; exact HA1.out.alloc _)
    replace HA2 : Hid (Arr X 1 v2 r2.1.length (r2.1.map iv)) := hid (by rw [hX]; exact HA2.out.alloc _)
    replace HO3 : Hid (X.ownsRow V.heap.size 3 1 v3 (r1.1 ++ r2.1).length ((r1.1 ++ r2.1).map iv)) := hid (by rw [hX]; exact HO3.out.alloc _)
    replace HA3 : Hid (Arr X 1 v3 (r1.1 ++ r2.1).length ((r1.1 ++ r2.1).map iv)) := hid (by rw [hX]; exact HA3.out.alloc _)
    replace HL3 : Hid (Later w X) := hid (by rw [hX]; exact HL3.out.alloc _)
    rw [← hX]
    clear hX
    generalize W3.heap.size = p3 at *
    have HALL := hid hall
    have HLEN4 := hid (show (r1.1 ++ r2.1).length = r1.1.length + r2.1.length from List.length_append)
    clear hall
    generalize hzs : r1.1 ++ r2.1 = zs at *
    obtain ⟨a3, c3, hv3⟩ : ∃ a c, v3 = .slice a zs.length c := by obtain ⟨_, a3, c3, h, _⟩ := HA3.out; exact ⟨a3, c3, h⟩
    subst hv3
    go_loopw [13] (fun i wr => ∃ k : Nat, k ≤ zs.length ∧ i = .int .i64 k ∧ wr = X) (fun i _ => zs.length - (intOf i).toNat)
    case atStart => exact ⟨0, Nat.zero_le _, rfl, rfl⟩
    case round =>
      obtain ⟨m, hm, rfl, rfl⟩ := hrel
      by_cases hlt : m < zs.length
      · obtain ⟨_, a4, c4, hv4, hc4, hx4, hcell4⟩ := HA3.out
        injection hv4 with e1 e2 e3
        subst e1 e3
        obtain ⟨b4', o4, rfl, hb4, hcc⟩ := hcell4 (by omega)
        have c0 : wr.cell? ⟨b4', o4 + m, none⟩ = some (iv zs[m]) := hcc m _ (by simp [hlt])
        obtain ⟨g1, g2, g3⟩ := (isR_iff _).1 (HALL.out zs[m] (List.getElem_mem hlt))
        clear hcell4 hcc
        generalize zs[m] = x at *
        have d1 : decide (x < 0) = false := decide_eq_false (by omega)
        have d2 : decide (1114111 < x) = false := decide_eq_false (by omega)
        by_cases g4 : 55296 ≤ x
        · have d3 : decide (55296 ≤ x) = true := decide_eq_true g4
          have d4 : decide (x ≤ 57343) = false := decide_eq_false (by omega)
          go_wp2_with (fail)
          go_roundw
          case rel => exact ⟨m + 1, by omega, by go_num, trivial⟩
          case measure => simp [intOf]; omega
        · have d3 : decide (55296 ≤ x) = false := decide_eq_false g4
          go_wp2_with (fail)
          go_roundw
          case rel => exact ⟨m + 1, by omega, by go_num, trivial⟩
          case measure => simp [intOf]; omega
      · obtain rfl : m = zs.length := by omega
        have hle := hid HL3.out.size
        go_wp2_with (first
          | (at_builtin
             refine list_on (by rfl) (wp_append_arr _ (.tmp 83) (.tmp 84) 24 rfl w.heap.size 3 j0 _ 1 8 Try.underlying24 hj0 hy0 hy1 hy2 rfl (by decide) _ _ _ rfl HA1.out _ _ _ rfl HA2.out HSH.out (ints_one _) (by unfold maxLen; omega) (by omega) hle.out ?_)
             intro v5 W5 hO5 hg5))
        have HB5 := hid (HB2.out.grown hg5 (own_blk_ne HA1.out HB2.out (by decide)))
        have HB6 := hid (HB3.out.grown hg5 (own_blk_ne HA1.out HB3.out (by decide)))
        have hA5 := Arr.of_own (HO3.out.kept hg5 HNE.out)
        have hL5 := Later.grown HL3.out hg5 (own_lt HA1.out (Nat.le_refl _))
        have hd9 : decide ((zs.length : Int) ≤ (l.length : Int)) = true := decide_eq_true (by have : zs.length ≤ l.length := hfew; omega)
        refine (same_true v5 _ zs _ ?_ hA5).later.mono ?_
        · rw [← hzs, List.length_append, List.map_append]
          exact .of_own hO5
        rintro e W6 ⟨rfl, hl6⟩
        have HL6 := hid (hL5.trans hl6)
        replace HB5 := hid (HB5.out.later hl6)
        replace HB6 := hid (HB6.out.later hl6)
        clear hl6 hL5 hA5 hO5 hg5
        (obtain ⟨hcx0, hcx1, hcx2, hfx0, hfx1, hfx2, hgx⟩ := Blk.at3 (HB5.out))
        (obtain ⟨hcy0, hcy1, hcy2, hfy0, hfy1, hfy2, hgy⟩ := Blk.at3 (HB6.out))
        go_wp2_with (fail)
        go_ret
        exact ⟨rfl, HL6.out⟩
end Go.Proofs.Ytlkiogjjhhafnaa
