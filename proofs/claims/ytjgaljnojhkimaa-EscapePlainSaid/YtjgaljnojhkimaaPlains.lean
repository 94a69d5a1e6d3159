/- The walk of EscapePlain: it answers true. Of arguments of their types. -/
import Derived.Test.YtjgaljnojhkimaaAwake
import Derived.Test.YtjgaljnojhkimaaLaw
import Derived.Deep.DrawnRows
namespace Go.Proofs.Ytjgaljnojhkimaa
open Go.RowKit
attribute [local go_sem] ite_max ite_min
attribute [local go_sem ↓] Go.wp_at_zero Go.wp_at_succ
attribute [local go_sem] h_lt1 h_lt2 h_lt3 h_lt4 h_lt5 h_lt6 h_eq1 h_qe1 h_eq2 h_qe2 h_eq3 h_qe3 h_eq4 h_qe4 h_eq5 h_qe5 h_eq6 h_qe6
theorem get_hi {a : Ac} (h : okA a = true) (k : Nat) : a.get k ≤ 9999 := by
  rw [okA_iff] at h
  match k with
  | 0 => exact h.1.2
  | 1 => exact h.2.1.2
  | 2 => exact h.2.2.1.2
  | 3 => exact h.2.2.2.1.2
  | 4 => exact h.2.2.2.2.1.2
  | 5 => exact h.2.2.2.2.2.1.2
  | 6 => exact h.2.2.2.2.2.2.1.2
  | 7 => exact h.2.2.2.2.2.2.2.2
  | n + 8 => exact (by decide : (0 : Int) ≤ 9999)
theorem flt_step (l : List Int) (k : Nat) (h : k < l.length) : (l.take (k + 1)).filter plainR = (l.take k).filter plainR ++ (if plainR l[k] = true then [l[k]] else []) := by
  rw [take_succ_ l k h, List.filter_append]
  congr 1
  simp only [List.filter_cons, List.filter_nil]
theorem flt_len (l : List Int) (k : Nat) : ((l.take k).filter plainR).length ≤ k := by
  have := List.length_filter_le plainR (l.take k)
  rw [List.length_take] at this
  omega
set_option maxRecDepth 100000 in
set_option maxHeartbeats 16000000 in
theorem plain6 (v v2 : Value) (l other : List Int) (w : World) (hv : Arr w 1 v l.length (l.map iv)) (hv2 : Arr w 1 v2 other.length (other.map iv)) :
    Calls Try.prog 6 #[v, v2] w fun e w' => e = .returned (.bool true) ∧ Later w w' := by
  obtain ⟨j0, hj0, hy0, hy1, hy2⟩ := info_parts info3
  have HV := hid hv
  have HV2 := hid hv2
  obtain ⟨_, a, cap, rfl, hcap, hmax, hx⟩ := hv
  obtain ⟨_, a2, cap2, rfl, hcap2, hmax2, _⟩ := hv2
  have HX := hid hx
  clear hx
  by_cases h300 : 300 < l.length
  · have hd : decide (300 < (l.length : Int)) = true := decide_eq_true (by omega)
    (go_enter Try.func6, Try.ntmps6; go_wp2_with (fail))
    (refine (awake8 _).mono ?_; rintro e w1 ⟨rfl, x1, rfl⟩; go_wp2_with (fail))
    go_ret
    exact ⟨rfl, by repeat (first | (with_reducible exact Later.refl _) | with_reducible apply Later.latr | with_reducible apply Later.alloc | with_reducible apply Later.drew | (with_reducible refine Later.set ?_ (by (simp; try omega)) _))⟩
  have hd : decide (300 < (l.length : Int)) = false := decide_eq_false (by omega)
  by_cases h301 : 300 < other.length
  · have hd2 : decide (300 < (other.length : Int)) = true := decide_eq_true (by omega)
    (go_enter Try.func6, Try.ntmps6; go_wp2_with (fail))
    (refine (awake8 _).mono ?_; rintro e w1 ⟨rfl, x1, rfl⟩; go_wp2_with (fail))
    go_ret
    exact ⟨rfl, by repeat (first | (with_reducible exact Later.refl _) | with_reducible apply Later.latr | with_reducible apply Later.alloc | with_reducible apply Later.drew | (with_reducible refine Later.set ?_ (by (simp; try omega)) _))⟩
  have hd2 : decide (300 < (other.length : Int)) = false := decide_eq_false (by omega)
  (go_enter Try.func6, Try.ntmps6; go_wp2_with (fail))
  (refine (awake8 _).mono ?_; rintro e w1 ⟨rfl, x1, rfl⟩; go_wp2_with (fail))
  go_loopw [6, 7] (fun q i wr => ∃ k : Nat, k ≤ l.length ∧ i = .int .i64 k ∧ Later w wr ∧ wr.ownsRow w.heap.size 3 1 q ((l.take k).filter plainR).length (((l.take k).filter plainR).map iv)) (fun _ i _ => l.length - (intOf i).toNat)
  case atStart => exact ⟨0, Nat.zero_le _, rfl, by repeat (first | (with_reducible exact Later.refl _) | with_reducible apply Later.latr | with_reducible apply Later.alloc | with_reducible apply Later.drew | (with_reducible refine Later.set ?_ (by (simp; try omega)) _)), World.ownsRow_nil _ _ _ _⟩
  case round =>
    obtain ⟨k, hk, rfl, hl, hO⟩ := hrel
    have HL := hid hl
    have HO := hid hO
    have hls := hid hl.size
    have hfl := flt_len l k
    by_cases hlt : k < l.length
    · obtain ⟨b, off, rfl, hb, hcell⟩ := HX.out (by omega)
      have c0 : wr.cell? ⟨b, off + k, none⟩ = some (iv l[k]) := (hl.cell hb).trans (hcell k _ (by simp [hlt]))
      have HS := hid (flt_step l k hlt)
      have hpl : Hid (plainR l[k] = (decide (32 ≤ l[k]) && !decide (l[k] = 127))) := hid rfl
      clear hl hO hcell
      generalize l[k] = x at *
      generalize (l.take k).filter plainR = p at *
      by_cases h1 : 32 ≤ x
      · have d1 : decide (32 ≤ x) = true := decide_eq_true h1
        by_cases h2 : x = 127
        · subst h2
          go_wp2_with (fail)
          go_roundw
          case rel => exact ⟨k + 1, by omega, by go_num, HL.out, by rw [HS.out, hpl.out]; simpa using HO.out⟩
          case measure => simp [intOf]; omega
        · have d2 : (x == 127) = false := by simpa using h2
          go_wp2_with (first
            | (at_builtin
               (refine append_new rfl (.tmp 43) (.tmp 48) 32 rfl w.heap.size 3 j0 _ 1 8 Try.underlying32 hj0 hy0 hy1 hy2 rfl (by decide) _ 3 _ _ _ rfl HO.out _ 1 [_] rfl rfl rfl (by simp [Value.oneCell']) (by unfold maxLen; omega) (by omega) hls.out ?_)
               intro v1 W1 hO1 hg1))
          go_roundw
          case rel =>
            refine ⟨k + 1, by omega, by go_num, Later.grown HL.out hg1 (own_lt HO.out (Nat.le_refl _)), ?_⟩
            rw [HS.out, hpl.out, d1, decide_eq_false h2]
            simpa using hO1
          case measure => simp [intOf]; omega
      · have d1 : decide (32 ≤ x) = false := decide_eq_false h1
        go_wp2_with (fail)
        go_roundw
        case rel => exact ⟨k + 1, by omega, by go_num, HL.out, by rw [HS.out, hpl.out, d1]; simpa using HO.out⟩
        case measure => simp [intOf]; omega
    · obtain rfl : k = l.length := by omega
      rw [List.take_length] at hO hfl
      have HO1 := hid hO
      have hall : ∀ n ∈ l.filter plainR, plainR n = true := fun n hn => (List.mem_filter.1 hn).2
      have hact := acts_plain (l.filter plainR) hall
      generalize l.filter plainR = p at *
      clear hl hO HO
      obtain ⟨pa, pcap, hq⟩ := own_is_slice HO1.out
      subst hq
      go_wp2_with (fail)
      refine (acts13 step9 .zero _ p _ (by omega) (Arr.of_own HO1.out)).mono ?_
      rw [hact]
      rintro e W2 ⟨v2, rfl, hl2, hO2⟩
      replace hO2 : W2.ownsRow wr.heap.size 25 12 v2 p.length (als (p.map (Ac.of 1))) := by simpa using hO2
      obtain ⟨qa, qc, hq⟩ := own_is_slice hO2
      subst hq
      have HL2 := hid (HL.out.trans hl2)
      have HO2 := hid hO2
      have HP2 := hid (own_later HO1.out hl2)
      clear hl2 hO2 HO1 HL
      (try simp only [])
      (iterate 18 go_step)
      obtain ⟨U, hU⟩ : ∃ U, U = W2.alloc (.cells (pc .zero) 27) := ⟨_, rfl⟩
      have HB9 : Hid (Blk U W2.heap.size 27 (pc .zero)) := hid (by rw [hU]; exact Blk.new W2 27 _)
      have HLU : Hid (Later w U) := hid (by rw [hU]; exact HL2.out.alloc _)
      have HAU := hid (show Arr U 12 (.slice qa p.length qc) p.length (als (p.map (Ac.of 1))) by rw [hU]; exact (Arr.of_own HO2.out).alloc _)
      have HPU := hid (show Arr U 1 (.slice pa p.length pcap) p.length (p.map iv) by rw [hU]; exact (Arr.of_own HP2.out).alloc _)
      rw [← hU]
      clear hU HL2 HO2 HP2
      generalize W2.heap.size = b9 at *
      have ht9 := HB9.out.there (o := 0) (n := 13) (by simp)
      have hc9 := HB9.out.cells 0 13 (pl .zero) rfl rfl
      (try simp only [])
      (repeat go_step)
      clear ht9 hc9
      obtain ⟨_, _, _, hqa, _, _, hcq⟩ := HAU.out
      injection hqa with e1 e2 e3
      subst e1 e3
      clear e2
      obtain ⟨_, _, _, hpa, _, _, hcp⟩ := HPU.out
      injection hpa with e1 e2 e3
      subst e1 e3
      clear e2
      have HCQ := hid hcq
      have HCP := hid hcp
      clear hcq hcp
      go_loopw [10] (fun i wr => ∃ k : Nat, k ≤ p.length ∧ i = .int .i64 k ∧ Later U wr) (fun i _ => p.length - (intOf i).toNat)
      case atStart => exact ⟨0, Nat.zero_le _, rfl, Later.refl _⟩
      case round =>
        obtain ⟨k, hk, rfl, hl⟩ := hrel
        by_cases hlt : k < p.length
        · obtain ⟨b1, o1, rfl, hb1, hc1⟩ := HCQ.out (by omega)
          obtain ⟨b2, o2, rfl, hb2, hc2⟩ := HCP.out (by omega)
          have hkm : k < (p.map (Ac.of 1)).length := by simpa using hlt
          have hpk : (p.map (Ac.of 1))[k] = Ac.of 1 p[k] := by simp
          have g0 : wr.cell? ⟨b1, o1 + k * 12, none⟩ = some (.int .i64 1) := (hl.cell hb1).trans (hc1 (k * 12 + 0) _ (by rw [als_at _ k 0 hkm (by decide)]; rw [hpk]; rfl))
          have g1 : wr.cell? ⟨b1, o1 + k * 12 + 1, none⟩ = some (.int .i64 p[k]) := (hl.cell hb1).trans (hc1 (k * 12 + 1) _ (by rw [als_at _ k 1 hkm (by decide)]; rw [hpk]; rfl))
          have g2 : wr.cell? ⟨b1, o1 + k * 12 + 2, none⟩ = some (.bool false) := (hl.cell hb1).trans (hc1 (k * 12 + 2) _ (by rw [als_at _ k 2 hkm (by decide)]; rw [hpk]; rfl))
          have g3 : wr.cell? ⟨b1, o1 + k * 12 + 3, none⟩ = some (.int .i64 0) := (hl.cell hb1).trans (hc1 (k * 12 + 3) _ (by rw [als_at _ k 3 hkm (by decide)]; rw [hpk]; rfl))
          have g4 : wr.cell? ⟨b1, o1 + k * 12 + 4, none⟩ = some (.int .i64 0) := (hl.cell hb1).trans (hc1 (k * 12 + 4) _ (by rw [als_at _ k 4 hkm (by decide)]; rw [hpk]; rfl))
          have g5 : wr.cell? ⟨b1, o1 + k * 12 + 5, none⟩ = some (.int .i64 0) := (hl.cell hb1).trans (hc1 (k * 12 + 5) _ (by rw [als_at _ k 5 hkm (by decide)]; rw [hpk]; rfl))
          have g6 : wr.cell? ⟨b1, o1 + k * 12 + 6, none⟩ = some (.int .i64 0) := (hl.cell hb1).trans (hc1 (k * 12 + 6) _ (by rw [als_at _ k 6 hkm (by decide)]; rw [hpk]; rfl))
          have g7 : wr.cell? ⟨b1, o1 + k * 12 + 7, none⟩ = some (.int .i64 0) := (hl.cell hb1).trans (hc1 (k * 12 + 7) _ (by rw [als_at _ k 7 hkm (by decide)]; rw [hpk]; rfl))
          have g8 : wr.cell? ⟨b1, o1 + k * 12 + 8, none⟩ = some (.int .i64 0) := (hl.cell hb1).trans (hc1 (k * 12 + 8) _ (by rw [als_at _ k 8 hkm (by decide)]; rw [hpk]; rfl))
          have g9 : wr.cell? ⟨b1, o1 + k * 12 + 9, none⟩ = some (.int .i64 0) := (hl.cell hb1).trans (hc1 (k * 12 + 9) _ (by rw [als_at _ k 9 hkm (by decide)]; rw [hpk]; rfl))
          have g10 : wr.cell? ⟨b1, o1 + k * 12 + 10, none⟩ = some (.int .i64 0) := (hl.cell hb1).trans (hc1 (k * 12 + 10) _ (by rw [als_at _ k 10 hkm (by decide)]; rw [hpk]; rfl))
          have g11 : wr.cell? ⟨b1, o1 + k * 12 + 11, none⟩ = some (.int .i64 0) := (hl.cell hb1).trans (hc1 (k * 12 + 11) _ (by rw [als_at _ k 11 hkm (by decide)]; rw [hpk]; rfl))
          have f0 : wr.cell? ⟨b2, o2 + k, none⟩ = some (iv p[k]) := (hl.cell hb2).trans (hc2 k _ (by simp [hlt]))
          have hb1' : b1 < wr.heap.size := Nat.lt_of_lt_of_le hb1 hl.size
          have hb2' : b2 < wr.heap.size := Nat.lt_of_lt_of_le hb2 hl.size
          clear hc1 hc2 hpk hkm
          generalize p[k] = x at *
          have HL3 := hid hl
          clear hl
          go_wp2_with (fail)
          (refine wp_region_calm (by kernel_rfl) (by kernel_rfl) ?_; (repeat (go_big_quiet_step ((fail)))); refine wpQuiet_nil ?_; rintro _ ⟨x, rfl⟩; go_wp2_with (fail))
          go_roundw
          case rel => exact ⟨k + 1, by omega, by go_num, HL3.out.latr _⟩
          case measure => simp [intOf]; omega
        · obtain rfl : k = p.length := by omega
          have HL3 := hid (HLU.out.trans hl)
          clear hl HCQ HCP HAU HPU HLU HB9
          have hgood := acts_good other .zero inv_zero
          have hlr := actsP_len other .zero
          go_wp2_with (fail)
          refine (acts13 step9 .zero _ other _ (by omega) (HV2.out.later HL3.out)).mono ?_
          generalize actsP .zero other = r at *
          obtain ⟨xs, q⟩ := r
          rintro e W4 ⟨v4, rfl, hl4, hO4⟩
          obtain ⟨ra, rc, hq⟩ := own_is_slice hO4
          subst hq
          have HL4 := hid (HL3.out.trans hl4)
          have HO4 := hid hO4
          clear hl4 hO4 HL3
          (try simp only [])
          (iterate 18 go_step)
          obtain ⟨X, hX⟩ : ∃ X, X = W4.alloc (.cells (pc q) 27) := ⟨_, rfl⟩
          have HB12 : Hid (Blk X W4.heap.size 27 (pc q)) := hid (by rw [hX]; exact Blk.new W4 27 _)
          have HLX : Hid (Later w X) := hid (by rw [hX]; exact HL4.out.alloc _)
          have HAX := hid (show Arr X 12 (.slice ra xs.length rc) xs.length (als xs) by rw [hX]; exact (Arr.of_own HO4.out).alloc _)
          rw [← hX]
          clear hX HL4 HO4
          generalize W4.heap.size = b12 at *
          obtain ⟨_, _, _, hra, _, _, hcr⟩ := HAX.out
          injection hra with e1 e2 e3
          subst e1 e3
          clear e2
          have HCR := hid hcr
          have HG := hid hgood.1
          have HI := hid hgood.2
          clear hcr HAX hgood
          dsimp only at HG HI hlr
          go_wp2_with (fail)
          go_loopw [13] (fun i wr => ∃ k : Nat, k ≤ xs.length ∧ i = .int .i64 k ∧ wr = X) (fun i _ => xs.length - (intOf i).toNat)
          case atStart => exact ⟨0, Nat.zero_le _, rfl, rfl⟩
          case round =>
            obtain ⟨k, hk, rfl, rfl⟩ := hrel
            by_cases hlt : k < xs.length
            · obtain ⟨b3, o3, rfl, hb3, hc3⟩ := HCR.out (by omega)
              obtain ⟨hga, hgt⟩ := HG.out xs[k] (List.getElem_mem hlt)
              have m0 : wr.cell? ⟨b3, o3 + k * 12 + 3, none⟩ = some (.int .i64 xs[k].many) := hc3 (k * 12 + 3) _ (by rw [als_at _ k 3 hlt (by decide)]; rfl)
              have hpar : Hid (∀ j, j < 8 → wr.cell? ⟨b3, o3 + k * 12 + 4 + j, none⟩ = some (.int .i64 (xs[k].get j)) ∧ 0 ≤ xs[k].get j ∧ xs[k].get j ≤ 9999 ∧ (xs[k].many < (j : Int) → xs[k].get j = 0)) := hid (by
                intro j hj
                refine ⟨?_, get_ok hga j, get_hi hga j, hgt j hj⟩
                rw [Nat.add_assoc (o3 + k * 12), Nat.add_assoc o3]
                refine hc3 (k * 12 + (4 + j)) _ ?_
                rw [als_at _ k (4 + j) hlt (by omega)]
                match j, hj with
                | 0, _ | 1, _ | 2, _ | 3, _ | 4, _ | 5, _ | 6, _ | 7, _ => rfl
                | n + 8, h => exact absurd h (by omega))
              clear hc3 hga hgt
              generalize xs[k] = x at *
              go_wp2_with (fail)
              obtain ⟨wo, hwo⟩ : ∃ wo : World, wo = wr := ⟨_, rfl⟩
              go_loopw [14] (fun i wr => ∃ j : Nat, j ≤ 8 ∧ i = .int .i64 j ∧ wr = wo) (fun i _ => 8 - (intOf i).toNat)
              case atStart => exact ⟨0, Nat.zero_le _, rfl, hwo.symm⟩
              case round =>
                obtain ⟨j, hj, rfl, rfl⟩ := hrel
                subst hwo
                by_cases hj8 : j < 8
                · obtain ⟨c0, y0, y1, y2⟩ := hpar.out j hj8
                  have hdj : decide ((j : Int) < 8) = true := decide_eq_true (by omega)
                  generalize x.get j = y at *
                  have d1 : decide (y < 0) = false := decide_eq_false (by omega)
                  have d2 : decide (9999 < y) = false := decide_eq_false (by omega)
                  by_cases hm : x.many < (j : Int)
                  · have d3 : decide (x.many < (j : Int)) = true := decide_eq_true hm
                    obtain rfl := y2 hm
                    go_wp2_with (fail)
                    go_roundw
                    case rel => exact ⟨j + 1, by omega, by go_num, trivial⟩
                    case measure => simp [intOf]; omega
                  · have d3 : decide (x.many < (j : Int)) = false := decide_eq_false hm
                    clear y2
                    go_wp2_with (fail)
                    go_roundw
                    case rel => exact ⟨j + 1, by omega, by go_num, trivial⟩
                    case measure => simp [intOf]; omega
                · obtain rfl : j = 8 := by omega
                  go_wp2_with (fail)
                  go_roundw
                  case rel => exact ⟨k + 1, by omega, by go_num, trivial⟩
                  case measure => simp [intOf]; omega
            · obtain rfl : k = xs.length := by omega
              obtain ⟨h1, h2, h3, _⟩ := ok_parts HI.out.1
              have d1 : decide (0 ≤ q.st) = true := decide_eq_true h1
              have d2 : decide (q.st ≤ 3) = true := decide_eq_true h2
              by_cases hs : q.st = 2
              · have d3 : (q.st == 2) = true := by simpa using hs
                (obtain ⟨hcz0, hcz1, hcz2, hcz3, hcz4, hcz5, hcz6, hcz7, hcz8, hcz9, hcz10, hcz11, hcz12, hfz0, hfz1, hfz2, hfz3, hfz4, hfz5, hfz6, hfz7, hfz8, hfz9, hfz10, hfz11, hfz12, hgz⟩ := Blk.at13 (HB12.out))
                go_wp2_with (fail)
                go_ret
                exact ⟨rfl, HLX.out⟩
              · have d3 : (q.st == 2) = false := by simpa using hs
                obtain ⟨st, qa'⟩ := q
                obtain rfl : qa' = .zero := h3.resolve_left hs
                have htz := HB12.out.there (o := 1) (n := 12) (by simp)
                have hcz := HB12.out.cells 1 12 (al .zero) rfl rfl
                have c0 := HB12.out.cell 0
                change _ = some (Value.int .i64 st) at c0
                dsimp only at d1 d2 d3
                (try simp only [])
                (repeat go_step)
                go_ret
                exact ⟨rfl, HLX.out⟩
end Go.Proofs.Ytjgaljnojhkimaa
