/- The walk of UtfBack: it answers true. Of arguments of their types. -/
import Derived.Test.YtlkiogjjhhafnaaAwake
namespace Go.Proofs.Ytlkiogjjhhafnaa
open Go.RowKit
attribute [local go_sem] ite_max ite_min
attribute [local go_sem ↓] Go.wp_at_zero Go.wp_at_succ
attribute [local go_sem] h_lt1 h_lt2 h_lt3 h_lt4 h_lt5 h_lt6 h_eq1 h_qe1 h_eq2 h_qe2 h_eq3 h_qe3 h_eq4 h_qe4 h_eq5 h_qe5 h_eq6 h_qe6

def okU (l : List Int) : Bool := l.all fun x => decide (x ≠ 65533)
theorem okU_snoc (l : List Int) (x : Int) : okU (l ++ [x]) = (okU l && decide (x ≠ 65533)) := by simp [okU]
theorem okU_not (l : List Int) (h : okU l = true) : 65533 ∉ l := by
  intro hm
  have := List.all_eq_true.1 h _ hm
  simp at this

theorem Arr.castn {w : World} {s : Nat} {v : Value} {n m : Nat} {xs : List Value} (h : Arr w s v n xs) (e : n = m) : Arr w s v m xs := e ▸ h

set_option maxRecDepth 100000 in
set_option maxHeartbeats 16000000 in
theorem back4 (vl vb : Value) (l b : List Int) (w : World) (hrb : ∀ x ∈ b, 0 ≤ x ∧ x < 256) (hvl : Arr w 1 vl l.length (l.map iv)) (hvb : Arr w 1 vb b.length (b.map bv)) :
    Calls Try.prog 4 #[vl, vb] w fun e w' => e = .returned (.bool true) ∧ Later w w' := by
  obtain ⟨j0, hj0, hy0, hy1, hy2⟩ := info_parts info3
  obtain ⟨al, cl, hll⟩ : ∃ a c, vl = .slice a l.length c := by obtain ⟨_, a3, c3, h, _⟩ := hvl; exact ⟨a3, c3, h⟩
  obtain ⟨ab, cb, hbb⟩ : ∃ a c, vb = .slice a b.length c := by obtain ⟨_, a3, c3, h, _⟩ := hvb; exact ⟨a3, c3, h⟩
  subst hll hbb
  by_cases h100 : 100 < l.length
  · have hd : decide (100 < (l.length : Int)) = true := decide_eq_true (by omega)
    clear hvl hvb
    (go_enter Try.func4, Try.ntmps4; go_wp2_with (fail))
    (refine (awake7 _).mono ?_; rintro e w1 ⟨rfl, x1, rfl⟩; go_wp2_with (fail))
    go_ret
    exact ⟨rfl, by repeat (first | (with_reducible exact Later.refl _) | with_reducible apply Later.latr | with_reducible apply Later.alloc | with_reducible apply Later.drew | (with_reducible refine Later.set ?_ (by (simp; try omega)) _))⟩
  have hd : decide (100 < (l.length : Int)) = false := decide_eq_false (by omega)
  by_cases h300 : 300 < b.length
  · have hd2 : decide (300 < (b.length : Int)) = true := decide_eq_true (by omega)
    clear hvl hvb
    (go_enter Try.func4, Try.ntmps4; go_wp2_with (fail))
    (refine (awake7 _).mono ?_; rintro e w1 ⟨rfl, x1, rfl⟩; go_wp2_with (fail))
    go_ret
    exact ⟨rfl, by repeat (first | (with_reducible exact Later.refl _) | with_reducible apply Later.latr | with_reducible apply Later.alloc | with_reducible apply Later.drew | (with_reducible refine Later.set ?_ (by (simp; try omega)) _))⟩
  have hd2 : decide (300 < (b.length : Int)) = false := decide_eq_false (by omega)
  have hrn := runes_len2 b .zero
  have hback := back_bytes b.length b (Nat.le_refl _) hrb
  have run2 := fun W v' (h : Arr W 1 v' b.length (b.map bv)) => runes13 .zero v' b W hrb (by omega) h
  have hbl := bytes_len l
  have run1 := fun W v' (h : Arr W 1 v' (bytesU l).length ((bytesU l).map bv)) => runes13 .zero v' (bytesU l) W (bytes_range l) (by omega) h
  rw [bytes_back l] at run1
  have HVL := hid hvl
  have HVB := hid hvb
  clear hvl hvb hrb
  (go_enter Try.func4, Try.ntmps4; go_wp2_with (fail))
  (refine (awake7 _).mono ?_; rintro e w1 ⟨rfl, x1, rfl⟩; go_wp2_with (fail))
  go_loopw [6, 7] (fun q i wr => ∃ k : Nat, k ≤ l.length ∧ i = .int .i64 k ∧ Later w wr ∧ wr.ownsRow w.heap.size 3 1 q k (((l.take k).map fixN).map iv)) (fun _ i _ => l.length - (intOf i).toNat)
  case atStart => exact ⟨0, Nat.zero_le _, rfl, by repeat (first | (with_reducible exact Later.refl _) | with_reducible apply Later.latr | with_reducible apply Later.alloc | with_reducible apply Later.drew | (with_reducible refine Later.set ?_ (by (simp; try omega)) _)), World.ownsRow_nil _ _ _ _⟩
  case round =>
    obtain ⟨k, hk, rfl, hl, hO⟩ := hrel
    have HL := hid hl
    have HO := hid hO
    by_cases hlt : k < l.length
    · obtain ⟨_, a', c', hv', hc', hx', hcell⟩ := HVL.out
      injection hv' with e1 e2 e3
      subst e1 e3
      obtain ⟨b2, off, rfl, hb2, hcc⟩ := hcell (by omega)
      have c0 : wr.cell? ⟨b2, off + k, none⟩ = some (iv l[k]) := (hl.cell hb2).trans (hcc k _ (by simp [hlt]))
      have hbw : b2 < wr.heap.size := Nat.lt_of_lt_of_le hb2 hl.size
      have hs1 : (l.take (k + 1)).map fixN = (l.take k).map fixN ++ [fixN l[k]] := by rw [take_succ_ l k hlt, List.map_append]; rfl
      have hls := hid hl.size
      have hr := isR_iff l[k]
      have hfix : fixN l[k] = if isR l[k] = true then l[k] else 65533 := rfl
      generalize fixN l[k] = y at *
      generalize l[k] = x at *
      have HS1 := hid hs1
      clear hs1 hl hO hcell hcc
      generalize (l.take k).map fixN = r1 at *
      have HR := hid hr
      by_cases g1 : x < 0
      · obtain rfl : y = 65533 := by rw [hfix, if_neg (by rw [HR.out]; omega)]
        have d1 : decide (x < 0) = true := decide_eq_true g1
        clear hr hfix
        go_wp2_with (first
          | (at_builtin
             (refine append_new rfl (.tmp 49) (.tmp 51) 24 rfl w.heap.size 3 j0 _ 1 8 Try.underlying24 hj0 hy0 hy1 hy2 rfl (by decide) _ 3 _ k _ rfl HO.out _ 1 [_] rfl rfl rfl (by simp [Value.oneCell']) (by unfold maxLen; omega) (by omega) hls.out ?_)
             intro v1 W1 hO1 hg1))
        go_roundw
        case rel =>
          refine ⟨k + 1, by omega, by go_num, Later.grown HL.out hg1 (own_lt HO.out (Nat.le_refl _)), ?_⟩
          rw [HS1.out, List.map_append]
          exact hO1
        case measure => simp [intOf]; omega
      have d1 : decide (x < 0) = false := decide_eq_false g1
      by_cases g2 : 1114111 < x
      · obtain rfl : y = 65533 := by rw [hfix, if_neg (by rw [HR.out]; omega)]
        have d2 : decide (1114111 < x) = true := decide_eq_true g2
        clear hr hfix
        go_wp2_with (first
          | (at_builtin
             (refine append_new rfl (.tmp 49) (.tmp 51) 24 rfl w.heap.size 3 j0 _ 1 8 Try.underlying24 hj0 hy0 hy1 hy2 rfl (by decide) _ 3 _ k _ rfl HO.out _ 1 [_] rfl rfl rfl (by simp [Value.oneCell']) (by unfold maxLen; omega) (by omega) hls.out ?_)
             intro v1 W1 hO1 hg1))
        go_roundw
        case rel =>
          refine ⟨k + 1, by omega, by go_num, Later.grown HL.out hg1 (own_lt HO.out (Nat.le_refl _)), ?_⟩
          rw [HS1.out, List.map_append]
          exact hO1
        case measure => simp [intOf]; omega
      have d2 : decide (1114111 < x) = false := decide_eq_false g2
      by_cases g3 : 55296 ≤ x
      · have d3 : decide (55296 ≤ x) = true := decide_eq_true g3
        by_cases g4 : x ≤ 57343
        · obtain rfl : y = 65533 := by rw [hfix, if_neg (by rw [HR.out]; omega)]
          have d4 : decide (x ≤ 57343) = true := decide_eq_true g4
          clear hr hfix
          go_wp2_with (first
            | (at_builtin
               (refine append_new rfl (.tmp 49) (.tmp 51) 24 rfl w.heap.size 3 j0 _ 1 8 Try.underlying24 hj0 hy0 hy1 hy2 rfl (by decide) _ 3 _ k _ rfl HO.out _ 1 [_] rfl rfl rfl (by simp [Value.oneCell']) (by unfold maxLen; omega) (by omega) hls.out ?_)
               intro v1 W1 hO1 hg1))
          go_roundw
          case rel =>
            refine ⟨k + 1, by omega, by go_num, Later.grown HL.out hg1 (own_lt HO.out (Nat.le_refl _)), ?_⟩
            rw [HS1.out, List.map_append]
            exact hO1
          case measure => simp [intOf]; omega
        · obtain rfl : y = x := by rw [hfix, if_pos (by rw [HR.out]; omega)]
          have d4 : decide (y ≤ 57343) = false := decide_eq_false g4
          clear hr hfix
          go_wp2_with (first
            | (at_builtin
               (refine append_new rfl (.tmp 49) (.tmp 51) 24 rfl w.heap.size 3 j0 _ 1 8 Try.underlying24 hj0 hy0 hy1 hy2 rfl (by decide) _ 3 _ k _ rfl HO.out _ 1 [_] rfl rfl rfl (by simp [Value.oneCell']) (by unfold maxLen; omega) (by omega) hls.out ?_)
               intro v1 W1 hO1 hg1))
          go_roundw
          case rel =>
            refine ⟨k + 1, by omega, by go_num, Later.grown HL.out hg1 (own_lt HO.out (Nat.le_refl _)), ?_⟩
            rw [HS1.out, List.map_append]
            exact hO1
          case measure => simp [intOf]; omega
      · obtain rfl : y = x := by rw [hfix, if_pos (by rw [HR.out]; omega)]
        have d3 : decide (55296 ≤ y) = false := decide_eq_false g3
        clear hr hfix
        go_wp2_with (first
          | (at_builtin
             (refine append_new rfl (.tmp 49) (.tmp 51) 24 rfl w.heap.size 3 j0 _ 1 8 Try.underlying24 hj0 hy0 hy1 hy2 rfl (by decide) _ 3 _ k _ rfl HO.out _ 1 [_] rfl rfl rfl (by simp [Value.oneCell']) (by unfold maxLen; omega) (by omega) hls.out ?_)
             intro v1 W1 hO1 hg1))
        go_roundw
        case rel =>
          refine ⟨k + 1, by omega, by go_num, Later.grown HL.out hg1 (own_lt HO.out (Nat.le_refl _)), ?_⟩
          rw [HS1.out, List.map_append]
          exact hO1
        case measure => simp [intOf]; omega
    · obtain rfl : k = l.length := by omega
      rw [List.take_length] at hO
      have hA := Arr.of_own hO
      have HA := hid hA
      clear hl hO hA
      go_wp2_with (fail)
      refine (bytes11 _ l _ (by omega) (HVL.out.later HL.out)).mono ?_
      rintro e W1 ⟨v1, rfl, hl1, hO1⟩
      go_wp2_with (fail)
      refine (run1 _ _ (.of_own hO1)).mono ?_
      rintro e W2 ⟨v2, rfl, hl2, hO2⟩
      have HL2 := hid ((HL.out.trans hl1).trans hl2)
      replace HA := hid ((HA.out.later hl1).later hl2)
      have HA2 := hid (Arr.of_own hO2)
      clear hl1 hl2 hO1 hO2 HL HO
      go_wp2_with (fail)
      refine (run2 _ _ (HVB.out.later (HL2.out.alloc _))).mono ?_
      generalize runesU .zero b = r at *
      rintro e W3 ⟨v3, rfl, hl3, hO3⟩
      have HL3 := hid ((HL2.out.alloc (.cells #[.int .i64 0, .int .i64 0, .int .i64 0] 23)).trans hl3)
      have HB1 := hid ((Blk.new W2 23 #[.int .i64 0, .int .i64 0, .int .i64 0]).later hl3)
      replace HA := hid ((HA.out.alloc (.cells #[.int .i64 0, .int .i64 0, .int .i64 0] 23)).later hl3)
      replace HA2 := hid ((HA2.out.alloc (.cells #[.int .i64 0, .int .i64 0, .int .i64 0] 23)).later hl3)
      have HA3 := hid (Arr.of_own hO3)
      clear hl3 hO3 HL2
      generalize W2.heap.size = p1 at *
      obtain ⟨a3, c3, hv3⟩ : ∃ a c, v3 = .slice a r.1.length c := by obtain ⟨_, a3, c3, h, _⟩ := HA3.out; exact ⟨a3, c3, h⟩
      subst hv3
      have hz1 : ∀ (q : Ut), q.need = 0 → q.val = 0 → q.least = 0 → q = .zero := by rintro ⟨_, _, _⟩ h1 h2 h3; simp at h1 h2 h3; subst h1 h2 h3; rfl
      by_cases g1 : r.2.need = 0
      · by_cases g2 : r.2.val = 0
        · by_cases g3 : r.2.least = 0
          · replace hback := hback (hz1 _ g1 g2 g3)
            have e1 : (r.2.need == 0) = true := by simpa using g1
            have e2 : (r.2.val == 0) = true := by simpa using g2
            have e3 : (r.2.least == 0) = true := by simpa using g3
            go_wp2_with (fail)
            obtain ⟨U, hU⟩ : ∃ U, U = W3.alloc (.cells #[.int .i64 0, .int .i64 0, .int .i64 0] 23) := ⟨_, rfl⟩
            replace HB1 : Hid (Blk U p1 23 #[.int .i64 0, .int .i64 0, .int .i64 0]) := hid (by rw [hU]; exact HB1.out.alloc _)
            replace HA : Hid (Arr U 1 _ l.length ((l.map fixN).map iv)) := hid (by rw [hU]; exact HA.out.alloc _)
            replace HA2 : Hid (Arr U 1 v2 (l.map fixN).length ((l.map fixN).map iv)) := hid (by rw [hU]; exact HA2.out.alloc _)
            replace HA3 : Hid (Arr U 1 (.slice a3 r.1.length c3) r.1.length (r.1.map iv)) := hid (by rw [hU]; exact HA3.out.alloc _)
            have HL : Hid (Later w U) := hid (by rw [hU]; exact HL3.out.alloc _)
            try rw [← hU]
            clear hU HL3
            generalize W3.heap.size = p2 at *
            go_loopw [13, 14] (fun c i wr => ∃ k : Nat, k ≤ r.1.length ∧ i = .int .i64 k ∧ c = .bool (okU (r.1.take k)) ∧ wr = U) (fun _ i _ => r.1.length - (intOf i).toNat)
            case atStart => exact ⟨0, Nat.zero_le _, rfl, rfl, rfl⟩
            case round =>
              obtain ⟨k, hk, rfl, rfl, hwr⟩ := hrel
              subst hwr
              by_cases hlt : k < r.1.length
              · obtain ⟨_, a', c', hv', hc', hx', hcell⟩ := HA3.out
                injection hv' with e1 e2 e3
                subst e1 e3
                obtain ⟨b2, off, rfl, hb2, hcc⟩ := hcell (by omega)
                have c0 : wr.cell? ⟨b2, off + k, none⟩ = some (iv r.1[k]) := hcc k _ (by simp [hlt])
                have hs1 := okU_snoc (r.1.take k) r.1[k]
                rw [← take_succ_ r.1 k hlt] at hs1
                have HS := hid hs1
                clear hs1 hcell hcc
                generalize r.1[k] = x at *
                generalize okU (r.1.take k) = o at *
                cases o
                · go_wp2_with (fail)
                  go_roundw
                  case rel => exact ⟨k + 1, by omega, by go_num, by rw [HS.out]; rfl, trivial⟩
                  case measure => simp [intOf]; omega
                · by_cases he : x = 65533
                  · have d1 : (x != 65533) = false := by simpa using he
                    have HE := hid he
                    clear he
                    go_wp2_with (fail)
                    go_roundw
                    case rel => exact ⟨k + 1, by omega, by go_num, by rw [HS.out, decide_eq_false (fun h => h HE.out)]; rfl, trivial⟩
                    case measure => simp [intOf]; omega
                  · have d1 : (x != 65533) = true := by simpa using he
                    have HE := hid he
                    clear he
                    go_wp2_with (fail)
                    go_roundw
                    case rel => exact ⟨k + 1, by omega, by go_num, by rw [HS.out, decide_eq_true HE.out]; rfl, trivial⟩
                    case measure => simp [intOf]; omega
              · obtain rfl : k = r.1.length := by omega
                rw [List.take_length]
                have hok := okU_not r.1
                generalize okU r.1 = o at *
                cases o
                · (obtain ⟨hca0, hca1, hca2, hfa0, hfa1, hfa2, hga⟩ := Blk.at3 (HB1.out))
                  have hsame := fun W (hL : Later wr W) => same_true v2 _ (l.map fixN) W (HA2.out.later hL) ((HA.out.later hL).castn (by rw [List.length_map]))
                  go_wp2_with (fail)
                  refine wp_region_calm (by kernel_rfl) (by kernel_rfl) ?_
                  (repeat (go_big_quiet_step ((go_at_call 10; exact calm_of (hsame _ (by repeat (first | (with_reducible exact Later.refl _) | with_reducible apply Later.latr | with_reducible apply Later.alloc | with_reducible apply Later.drew | (with_reducible refine Later.set ?_ (by (simp; try omega)) _))))))))
                  refine wpQuiet_nil ?_
                  rintro _ ⟨x, rfl⟩
                  go_wp2_with (fail)
                  go_ret
                  exact ⟨rfl, by repeat (first | (with_reducible exact Later.refl _) | (with_reducible exact HL.out) | with_reducible apply Later.latr | with_reducible apply Later.alloc | with_reducible apply Later.drew | (with_reducible refine Later.set ?_ (by (simp; try omega)) _))⟩
                · have hby : bytesU r.1 = b := hback (hok rfl)
                  have run4 := fun W v' (h : Arr W 1 v' r.1.length (r.1.map iv)) => bytes11 v' r.1 W (by omega) h
                  rw [hby] at run4
                  (obtain ⟨hca0, hca1, hca2, hfa0, hfa1, hfa2, hga⟩ := Blk.at3 (HB1.out))
                  go_wp2_with (fail)
                  replace HVB := hid (HVB.out.later HL.out)
                  go_region_held_law (fun w' => w'.cell? ⟨p1, 0, none⟩ = some (.int .i64 0) ∧ w'.cell? ⟨p1, 1, none⟩ = some (.int .i64 0) ∧ w'.cell? ⟨p1, 2, none⟩ = some (.int .i64 0))
                    (exact ⟨(Later.cell (w := wr) (by repeat (first | (with_reducible exact Later.refl _) | (with_reducible assumption) | with_reducible apply Later.latr | with_reducible apply Later.alloc | with_reducible apply Later.drew | (with_reducible refine Later.set ?_ (by (simp; try omega)) _))) hga).trans hca0, (Later.cell (w := wr) (by repeat (first | (with_reducible exact Later.refl _) | (with_reducible assumption) | with_reducible apply Later.latr | with_reducible apply Later.alloc | with_reducible apply Later.drew | (with_reducible refine Later.set ?_ (by (simp; try omega)) _))) hga).trans hca1, (Later.cell (w := wr) (by repeat (first | (with_reducible exact Later.refl _) | (with_reducible assumption) | with_reducible apply Later.latr | with_reducible apply Later.alloc | with_reducible apply Later.drew | (with_reducible refine Later.set ?_ (by (simp; try omega)) _))) hga).trans hca2⟩)
                    (first
                    | (go_at_call 10; refine (same_true v2 _ (l.map fixN) _ ?_ ?_).later.mono ?_; (focus ((repeat (first | (with_reducible exact HA2.out) | with_reducible apply Arr.latr | (with_reducible refine Arr.alloc ?_ _) | (with_reducible refine Arr.drew ?_))); done)); (focus ((try rw [List.length_map]); (focus ((repeat (first | (with_reducible exact HA.out) | with_reducible apply Arr.latr | (with_reducible refine Arr.alloc ?_ _) | (with_reducible refine Arr.drew ?_))); done)))); rintro e B ⟨rfl, hlB⟩; have hlBU : Later wr B := Later.trans (a := wr) (by repeat (first | (with_reducible exact Later.refl _) | with_reducible apply Later.latr | with_reducible apply Later.alloc | with_reducible apply Later.drew | (with_reducible refine Later.set ?_ (by (simp; try omega)) _))) hlB; have kb := conv_arr (HVB.out.later hlBU))
                    | (go_at_call 11; refine (run4 _ _ ?_).mono ?_; (focus (exact HA3.out.later (by repeat (first | (with_reducible exact Later.refl _) | (with_reducible assumption) | with_reducible apply Later.latr | with_reducible apply Later.alloc | with_reducible apply Later.drew | (with_reducible refine Later.set ?_ (by (simp; try omega)) _))))); rintro e W4 ⟨v4, rfl, hl4, hO4⟩; have hl4U : Later wr W4 := Later.trans (a := wr) (by repeat (first | (with_reducible exact Later.refl _) | (with_reducible assumption) | with_reducible apply Later.latr | with_reducible apply Later.alloc | with_reducible apply Later.drew | (with_reducible refine Later.set ?_ (by (simp; try omega)) _))) hl4; have hc4 := conv_own hO4; have kb4 := conv_arr (HVB.out.later hl4U)))
                  all_goals
                    go_wp2_with (fail)
                    go_ret
                    exact ⟨rfl, Later.trans (a := w) HL.out (by repeat (first | (with_reducible exact Later.refl _) | (with_reducible assumption) | with_reducible apply Later.latr | with_reducible apply Later.alloc | with_reducible apply Later.drew | (with_reducible refine Later.set ?_ (by (simp; try omega)) _)))⟩

          · have e3 : (r.2.least == 0) = false := by simpa using g3
            go_wp2_with (fail)
            obtain ⟨U, hU⟩ : ∃ U, U = W3.alloc (.cells #[.int .i64 0, .int .i64 0, .int .i64 r.2.least] 23) := ⟨_, rfl⟩
            replace HB1 : Hid (Blk U p1 23 #[.int .i64 0, .int .i64 0, .int .i64 0]) := hid (by rw [hU]; exact HB1.out.alloc _)
            replace HA : Hid (Arr U 1 _ l.length ((l.map fixN).map iv)) := hid (by rw [hU]; exact HA.out.alloc _)
            replace HA2 : Hid (Arr U 1 v2 (l.map fixN).length ((l.map fixN).map iv)) := hid (by rw [hU]; exact HA2.out.alloc _)
            replace HA3 : Hid (Arr U 1 (.slice a3 r.1.length c3) r.1.length (r.1.map iv)) := hid (by rw [hU]; exact HA3.out.alloc _)
            have HL : Hid (Later w U) := hid (by rw [hU]; exact HL3.out.alloc _)
            try rw [← hU]
            clear hU HL3
            generalize W3.heap.size = p2 at *
            go_loopw [13, 14] (fun c i wr => ∃ k : Nat, k ≤ r.1.length ∧ i = .int .i64 k ∧ c = .bool false ∧ wr = U) (fun _ i _ => r.1.length - (intOf i).toNat)
            case atStart => exact ⟨0, Nat.zero_le _, rfl, rfl, rfl⟩
            case round =>
              obtain ⟨k, hk, rfl, rfl, hwr⟩ := hrel
              subst hwr
              by_cases hlt : k < r.1.length
              · obtain ⟨_, a', c', hv', hc', hx', hcell⟩ := HA3.out
                injection hv' with e1 e2 e3
                subst e1 e3
                obtain ⟨b2, off, rfl, hb2, hcc⟩ := hcell (by omega)
                have c0 : wr.cell? ⟨b2, off + k, none⟩ = some (iv r.1[k]) := hcc k _ (by simp [hlt])
                clear hcell hcc
                generalize r.1[k] = x at *
                go_wp2_with (fail)
                go_roundw
                case rel => exact ⟨k + 1, by omega, by go_num, rfl, trivial⟩
                case measure => simp [intOf]; omega
              · obtain rfl : k = r.1.length := by omega
                (obtain ⟨hca0, hca1, hca2, hfa0, hfa1, hfa2, hga⟩ := Blk.at3 (HB1.out))
                have hsame := fun W (hL : Later wr W) => same_true v2 _ (l.map fixN) W (HA2.out.later hL) ((HA.out.later hL).castn (by rw [List.length_map]))
                go_wp2_with (fail)
                refine wp_region_calm (by kernel_rfl) (by kernel_rfl) ?_
                (repeat (go_big_quiet_step ((go_at_call 10; exact calm_of (hsame _ (by repeat (first | (with_reducible exact Later.refl _) | with_reducible apply Later.latr | with_reducible apply Later.alloc | with_reducible apply Later.drew | (with_reducible refine Later.set ?_ (by (simp; try omega)) _))))))))
                refine wpQuiet_nil ?_
                rintro _ ⟨x, rfl⟩
                go_wp2_with (fail)
                go_ret
                exact ⟨rfl, by repeat (first | (with_reducible exact Later.refl _) | (with_reducible exact HL.out) | with_reducible apply Later.latr | with_reducible apply Later.alloc | with_reducible apply Later.drew | (with_reducible refine Later.set ?_ (by (simp; try omega)) _))⟩

        · have e2 : (r.2.val == 0) = false := by simpa using g2
          go_wp2_with (fail)
          obtain ⟨U, hU⟩ : ∃ U, U = W3.alloc (.cells #[.int .i64 0, .int .i64 r.2.val, .int .i64 r.2.least] 23) := ⟨_, rfl⟩
          replace HB1 : Hid (Blk U p1 23 #[.int .i64 0, .int .i64 0, .int .i64 0]) := hid (by rw [hU]; exact HB1.out.alloc _)
          replace HA : Hid (Arr U 1 _ l.length ((l.map fixN).map iv)) := hid (by rw [hU]; exact HA.out.alloc _)
          replace HA2 : Hid (Arr U 1 v2 (l.map fixN).length ((l.map fixN).map iv)) := hid (by rw [hU]; exact HA2.out.alloc _)
          replace HA3 : Hid (Arr U 1 (.slice a3 r.1.length c3) r.1.length (r.1.map iv)) := hid (by rw [hU]; exact HA3.out.alloc _)
          have HL : Hid (Later w U) := hid (by rw [hU]; exact HL3.out.alloc _)
          try rw [← hU]
          clear hU HL3
          generalize W3.heap.size = p2 at *
          go_loopw [13, 14] (fun c i wr => ∃ k : Nat, k ≤ r.1.length ∧ i = .int .i64 k ∧ c = .bool false ∧ wr = U) (fun _ i _ => r.1.length - (intOf i).toNat)
          case atStart => exact ⟨0, Nat.zero_le _, rfl, rfl, rfl⟩
          case round =>
            obtain ⟨k, hk, rfl, rfl, hwr⟩ := hrel
            subst hwr
            by_cases hlt : k < r.1.length
            · obtain ⟨_, a', c', hv', hc', hx', hcell⟩ := HA3.out
              injection hv' with e1 e2 e3
              subst e1 e3
              obtain ⟨b2, off, rfl, hb2, hcc⟩ := hcell (by omega)
              have c0 : wr.cell? ⟨b2, off + k, none⟩ = some (iv r.1[k]) := hcc k _ (by simp [hlt])
              clear hcell hcc
              generalize r.1[k] = x at *
              go_wp2_with (fail)
              go_roundw
              case rel => exact ⟨k + 1, by omega, by go_num, rfl, trivial⟩
              case measure => simp [intOf]; omega
            · obtain rfl : k = r.1.length := by omega
              (obtain ⟨hca0, hca1, hca2, hfa0, hfa1, hfa2, hga⟩ := Blk.at3 (HB1.out))
              have hsame := fun W (hL : Later wr W) => same_true v2 _ (l.map fixN) W (HA2.out.later hL) ((HA.out.later hL).castn (by rw [List.length_map]))
              go_wp2_with (fail)
              refine wp_region_calm (by kernel_rfl) (by kernel_rfl) ?_
              (repeat (go_big_quiet_step ((go_at_call 10; exact calm_of (hsame _ (by repeat (first | (with_reducible exact Later.refl _) | with_reducible apply Later.latr | with_reducible apply Later.alloc | with_reducible apply Later.drew | (with_reducible refine Later.set ?_ (by (simp; try omega)) _))))))))
              refine wpQuiet_nil ?_
              rintro _ ⟨x, rfl⟩
              go_wp2_with (fail)
              go_ret
              exact ⟨rfl, by repeat (first | (with_reducible exact Later.refl _) | (with_reducible exact HL.out) | with_reducible apply Later.latr | with_reducible apply Later.alloc | with_reducible apply Later.drew | (with_reducible refine Later.set ?_ (by (simp; try omega)) _))⟩

      · have e1 : (r.2.need == 0) = false := by simpa using g1
        go_wp2_with (fail)
        obtain ⟨U, hU⟩ : ∃ U, U = W3.alloc (.cells #[.int .i64 r.2.need, .int .i64 r.2.val, .int .i64 r.2.least] 23) := ⟨_, rfl⟩
        replace HB1 : Hid (Blk U p1 23 #[.int .i64 0, .int .i64 0, .int .i64 0]) := hid (by rw [hU]; exact HB1.out.alloc _)
        replace HA : Hid (Arr U 1 _ l.length ((l.map fixN).map iv)) := hid (by rw [hU]; exact HA.out.alloc _)
        replace HA2 : Hid (Arr U 1 v2 (l.map fixN).length ((l.map fixN).map iv)) := hid (by rw [hU]; exact HA2.out.alloc _)
        replace HA3 : Hid (Arr U 1 (.slice a3 r.1.length c3) r.1.length (r.1.map iv)) := hid (by rw [hU]; exact HA3.out.alloc _)
        have HL : Hid (Later w U) := hid (by rw [hU]; exact HL3.out.alloc _)
        try rw [← hU]
        clear hU HL3
        generalize W3.heap.size = p2 at *
        go_loopw [13, 14] (fun c i wr => ∃ k : Nat, k ≤ r.1.length ∧ i = .int .i64 k ∧ c = .bool false ∧ wr = U) (fun _ i _ => r.1.length - (intOf i).toNat)
        case atStart => exact ⟨0, Nat.zero_le _, rfl, rfl, rfl⟩
        case round =>
          obtain ⟨k, hk, rfl, rfl, hwr⟩ := hrel
          subst hwr
          by_cases hlt : k < r.1.length
          · obtain ⟨_, a', c', hv', hc', hx', hcell⟩ := HA3.out
            injection hv' with e1 e2 e3
            subst e1 e3
            obtain ⟨b2, off, rfl, hb2, hcc⟩ := hcell (by omega)
            have c0 : wr.cell? ⟨b2, off + k, none⟩ = some (iv r.1[k]) := hcc k _ (by simp [hlt])
            clear hcell hcc
            generalize r.1[k] = x at *
            go_wp2_with (fail)
            go_roundw
            case rel => exact ⟨k + 1, by omega, by go_num, rfl, trivial⟩
            case measure => simp [intOf]; omega
          · obtain rfl : k = r.1.length := by omega
            (obtain ⟨hca0, hca1, hca2, hfa0, hfa1, hfa2, hga⟩ := Blk.at3 (HB1.out))
            have hsame := fun W (hL : Later wr W) => same_true v2 _ (l.map fixN) W (HA2.out.later hL) ((HA.out.later hL).castn (by rw [List.length_map]))
            go_wp2_with (fail)
            refine wp_region_calm (by kernel_rfl) (by kernel_rfl) ?_
            (repeat (go_big_quiet_step ((go_at_call 10; exact calm_of (hsame _ (by repeat (first | (with_reducible exact Later.refl _) | with_reducible apply Later.latr | with_reducible apply Later.alloc | with_reducible apply Later.drew | (with_reducible refine Later.set ?_ (by (simp; try omega)) _))))))))
            refine wpQuiet_nil ?_
            rintro _ ⟨x, rfl⟩
            go_wp2_with (fail)
            go_ret
            exact ⟨rfl, by repeat (first | (with_reducible exact Later.refl _) | (with_reducible exact HL.out) | with_reducible apply Later.latr | with_reducible apply Later.alloc | with_reducible apply Later.drew | (with_reducible refine Later.set ?_ (by (simp; try omega)) _))⟩

end Go.Proofs.Ytlkiogjjhhafnaa
