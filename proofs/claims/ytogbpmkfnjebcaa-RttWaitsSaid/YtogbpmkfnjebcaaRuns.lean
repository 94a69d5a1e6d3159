/- The walks of RttRuns and RttWaits: each answers true. No condition. -/
import Derived.Test.YtogbpmkfnjebcaaAwake
namespace Go.Proofs.Ytogbpmkfnjebcaa
open Go.RowKit
attribute [local go_sem] ite_max ite_min

theorem run15_nil (a : Option Addr) (cap : Nat) (hm : cap ≤ 9223372036854775807) (W : World) : Gives Try.prog 15 #[.slice a 0 cap] W (.agg #[.bool false, .int .i64 0, .int .i64 0, .int .i64 0]) :=
  run15 (.slice a 0 cap) [] W ⟨rfl, a, cap, rfl, Nat.zero_le _, by unfold maxLen; omega, fun h => absurd h (by simp)⟩

set_option maxHeartbeats 4000000 in
theorem runs4 (v : Value) (ps : List (Int × Int)) (w : World) (hv : Arr w 2 v ps.length (pairs ps)) :
    Calls Try.prog 4 #[v] w fun e w' => e = .returned (.bool true) ∧ Later w w' := by
  by_cases h100 : 100 < ps.length
  · obtain ⟨_, a, cap, rfl, _⟩ := hv
    go_enter Try.func4, Try.ntmps4
    go_wp2_with (first
      | (go_at_call 8; refine (awake8 _).mono ?_; rintro e w1 ⟨rfl, x1, rfl⟩))
    go_ret
    exact ⟨rfl, (Later.refl w).latr _⟩
  rcases arr_cases hv with ⟨a, cap, rfl, h0, _, hmax⟩ | ⟨b, off, cap, rfl, hpos, hlen, hb, hcap, hmax, hcell⟩
  · obtain rfl : ps = [] := List.eq_nil_of_length_eq_zero h0
    go_enter Try.func4, Try.ntmps4
    go_wp2_with (first
      | (go_at_call 8; refine (awake8 _).mono ?_; rintro e w1 ⟨rfl, x1, rfl⟩))
    refine wp_loop_rounds 1 ?_
    rw [rounds_succ]
    go_wp2_with (fail)
    refine wp_region_calm (by kernel_rfl) (by kernel_rfl) ?_
    repeat (go_big_quiet_step ((go_at_call 15; exact calm_of (run15_nil _ _ hmax _))))
    refine wpQuiet_nil ?_
    rintro _ ⟨x, rfl⟩
    go_wp2
    go_ret
    exact ⟨rfl, by repeat (first | (with_reducible exact Later.refl _) | with_reducible apply Later.latr | with_reducible apply Later.alloc | with_reducible apply Later.drew)⟩
  have HC := hid hcell
  have HV := hid hv
  clear hcell hv
  go_enter Try.func4, Try.ntmps4
  go_wp2_with (first
    | (go_at_call 8; refine (awake8 _).later.mono ?_; rintro e w1 ⟨rfl, hl1⟩))
  go_loopw [5] (fun i wr => ∃ k : Nat, k ≤ ps.length ∧ i = .int .i64 k ∧ Later w1 wr ∧
      Blk wr w1.heap.size 23 #[.bool (runR (ps.take k) r0).has, .int .i64 (runR (ps.take k) r0).l, .int .i64 (runR (ps.take k) r0).s, .int .i64 (runR (ps.take k) r0).v]) (fun i _ => ps.length - (intOf i).toNat)
  case atStart => exact ⟨0, Nat.zero_le _, rfl, (Later.refl _).alloc _, Blk.new _ _ _⟩
  case round =>
    obtain ⟨k, hk, rfl, hlr, hB⟩ := hrel
    have hl : Later w wr := hl1.trans hlr
    have hS := hB.lt
    by_cases hlt : k < ps.length
    · have hat := pairs_at ps k hlt
      have c0 : wr.cell? ⟨b, off + k * 2, none⟩ = some (.int .i64 ps[k].1) := (hl.cell hb).trans (HC.out _ _ hat.1)
      have c1 : wr.cell? ⟨b, off + k * 2 + 1, none⟩ = some (.int .i64 ps[k].2) := (hl.cell hb).trans (HC.out _ _ hat.2)
      clear hat
      have hbw : b < wr.heap.size := Nat.lt_of_lt_of_le hb hl.size
      have hsn := runR_snoc (ps.take k) ps[k] r0
      rw [← take_succ_ ps k hlt] at hsn
      have HS := hid hsn
      clear hsn
      generalize runR (ps.take k) r0 = r at *
      generalize ps[k] = x at *
      have d0 : wr.cell? ⟨w1.heap.size, 0, none⟩ = some (.bool r.has) := hB.cell 0
      have d1 : wr.cell? ⟨w1.heap.size, 1, none⟩ = some (.int .i64 r.l) := hB.cell 1
      have d2 : wr.cell? ⟨w1.heap.size, 2, none⟩ = some (.int .i64 r.s) := hB.cell 2
      have d3 : wr.cell? ⟨w1.heap.size, 3, none⟩ = some (.int .i64 r.v) := hB.cell 3
      have f0 : wr.frozen? ⟨w1.heap.size, 0, none⟩ = false := hB.frozen 0
      have f1 : wr.frozen? ⟨w1.heap.size, 1, none⟩ = false := hB.frozen 1
      have f2 : wr.frozen? ⟨w1.heap.size, 2, none⟩ = false := hB.frozen 2
      have f3 : wr.frozen? ⟨w1.heap.size, 3, none⟩ = false := hB.frozen 3
      have hh := hid (stepR_has r x.1 x.2)
      have hi : (k : Int) < (ps.length : Int) := by omega
      go_wp2_with (fail)
      refine wp_region_calm_tail 12 (by kernel_rfl) (by kernel_rfl) ?_
      simp only [List.take_succ_cons, List.take_zero, List.drop_succ_cons, List.drop_zero]
      repeat (go_big_quiet_step ((go_at_call 10; exact calm_of (step10 r x.1 x.2 _))))
      refine wpQuiet_nil ?_
      rintro _ ⟨y, rfl⟩
      go_wp2_with (fail)
      go_roundw
      case rel =>
        have hl' := hid hlr
        refine ⟨k + 1, by omega, by go_num, ?_, ?_⟩
        · repeat (first | (with_reducible exact hl'.out) | with_reducible apply Later.latr | with_reducible apply Later.alloc | with_reducible apply Later.drew | (with_reducible refine Later.set ?_ (by simp) _))
        · rw [HS.out, hh.out]
          exact ((((hB.latr _).set_ 0 _).set_ 1 _).set_ 2 _).set_ 3 _
      case measure => simp [intOf]; omega
    · obtain rfl : k = ps.length := by omega
      rw [List.take_length] at hB
      have hR := fun x : Lat wr => run15 _ ps (latr wr x) ((HV.out.later hl).latr x)
      generalize runR ps r0 = r at hB hR
      have HR := hid hR
      clear hR
      have d0 : wr.cell? ⟨w1.heap.size, 0, none⟩ = some (.bool r.has) := hB.cell 0
      have d1 : wr.cell? ⟨w1.heap.size, 1, none⟩ = some (.int .i64 r.l) := hB.cell 1
      have d2 : wr.cell? ⟨w1.heap.size, 2, none⟩ = some (.int .i64 r.s) := hB.cell 2
      have d3 : wr.cell? ⟨w1.heap.size, 3, none⟩ = some (.int .i64 r.v) := hB.cell 3
      go_wp2_with (fail)
      refine wp_region_calm (by kernel_rfl) (by kernel_rfl) ?_
      repeat (go_big_quiet_step ((go_at_call 15; exact calm_of (HR.out _))))
      refine wpQuiet_nil ?_
      rintro _ ⟨x, rfl⟩
      go_wp2
      go_ret
      exact ⟨rfl, hl.latr _⟩

theorem waits_law (r : Rt) (latest : Int) (k : Nat) (hh : r.has = true) (s0 : 0 ≤ r.s) (s1 : r.s ≤ 1099511627776) (t0 : 0 ≤ latest) (t1 : latest ≤ 1099511627776) (hk : k ≤ 9) :
    probeR r k ≤ probeR r (k + 1) ∧ (k < 6 → probeR r (k + 1) = min (2 * probeR r k) 2000) ∧ (6 ≤ k → probeR r k = probeR r (k + 1)) ∧ min (r.s + 26) 2000 ≤ probeR r k ∧ probeR r k ≤ 2000 ∧
      max (max r.s latest) 1 ≤ lostR r latest ∧ lostR r latest ≤ 2 * max (max r.s latest) 1 ∧ 0 ≤ probeR r k := by
  have hs : smooth r = r.s := by unfold smooth; rw [if_pos hh]; exact cl_id _ _ s0 s1
  have hp := probe0_bd r
  have hp2 : r.s + 26 ≤ probe0 r := by unfold probe0; rw [hs]; have := vary_bd r; omega
  unfold probeR lostR
  rw [hs, cl_id latest _ t0 t1]
  have e1 : (cl (k : Int) 6).toNat = min k 6 := by unfold cl; omega
  have e2 : (cl ((k : Int) + 1) 6).toNat = min (k + 1) 6 := by unfold cl; omega
  rw [e1, e2]
  generalize probe0 r = P at *
  have t1' : twice P 1 = 2 * P := rfl
  have t2' : twice P 2 = 2 * (2 * P) := rfl
  have t3' : twice P 3 = 2 * (2 * (2 * P)) := rfl
  have t4' : twice P 4 = 2 * (2 * (2 * (2 * P))) := rfl
  have t5' : twice P 5 = 2 * (2 * (2 * (2 * (2 * P)))) := rfl
  have t6' : twice P 6 = 2 * (2 * (2 * (2 * (2 * (2 * P))))) := rfl
  have t0' : twice P 0 = P := rfl
  have hway : k = 0 ∨ k = 1 ∨ k = 2 ∨ k = 3 ∨ k = 4 ∨ k = 5 ∨ (6 ≤ k ∧ min k 6 = 6 ∧ min (k + 1) 6 = 6) := by omega
  rcases hway with rfl | rfl | rfl | rfl | rfl | rfl | ⟨h6, m1, m2⟩
  · rw [show min 0 6 = 0 from rfl, show min (0 + 1) 6 = 1 from rfl, t0', t1']; clear e1 e2; omega
  · rw [show min 1 6 = 1 from rfl, show min (1 + 1) 6 = 2 from rfl, t1', t2']; clear e1 e2; omega
  · rw [show min 2 6 = 2 from rfl, show min (2 + 1) 6 = 3 from rfl, t2', t3']; clear e1 e2; omega
  · rw [show min 3 6 = 3 from rfl, show min (3 + 1) 6 = 4 from rfl, t3', t4']; clear e1 e2; omega
  · rw [show min 4 6 = 4 from rfl, show min (4 + 1) 6 = 5 from rfl, t4', t5']; clear e1 e2; omega
  · rw [show min 5 6 = 5 from rfl, show min (5 + 1) 6 = 6 from rfl, t5', t6']; clear e1 e2; omega
  · rw [m1, m2, t6']; clear e1 e2; omega

set_option maxHeartbeats 4000000 in
theorem waits6 (r : Rt) (latest often : Int) (w : World) (o0 : 0 ≤ often) (o1 : often ≤ 255) :
    Calls Try.prog 6 #[.agg #[.bool r.has, .int .i64 r.l, .int .i64 r.s, .int .i64 r.v], .int .i64 latest, .int .u8 often] w fun e w' => e = .returned (.bool true) ∧ Later w w' := by
  by_cases hgo : r.has = true ∧ 0 ≤ min (min r.s r.v) latest ∧ max (max r.s r.v) latest ≤ 1099511627776
  · obtain ⟨hh, g0, g1⟩ := hgo
    have hlaw := waits_law r latest (often % 10).toNat hh (by omega) (by omega) (by omega) (by omega) (by omega)
    have ek : ((often % 10).toNat : Int) = often % 10 := by omega
    rw [ek] at hlaw
    have h1 := probe13 r (often % 10)
    have h2 := probe13 r (often % 10 + 1)
    have h3 := lost11 r latest
    have hk6 : (often % 10).toNat < 6 ↔ often % 10 < 6 := by omega
    rw [hk6] at hlaw
    have hk6' : 6 ≤ (often % 10).toNat ↔ 6 ≤ often % 10 := by omega
    rw [hk6'] at hlaw
    rw [hh] at h1 h2 h3 ⊢
    generalize probeR r (often % 10) = a at *
    generalize probeR r (often % 10 + 1) = b at *
    generalize lostR r latest = n at *
    have H1 := hid h1
    have H2 := hid h2
    have H3 := hid h3
    clear h1 h2 h3 hk6 hk6' ek
    obtain ⟨l1, l2, l3, l4, l5, l6, l7, l8⟩ := hlaw
    by_cases hk : often % 10 < 6
    · have hb := l2 hk
      have hd : decide (6 ≤ often % 10) = false := by simp; omega
      clear l2 l3
      go_enter Try.func6, Try.ntmps6
      go_wp2_with (fail)
      refine (awake8 _).mono ?_
      rintro e w1 ⟨rfl, x1, rfl⟩
      go_wp2_with (fail)
      refine (H1.out _).mono ?_
      rintro e w1 ⟨rfl, x2, rfl⟩
      go_wp2_with (fail)
      refine (H2.out _).mono ?_
      rintro e w1 ⟨rfl, x3, rfl⟩
      go_wp2_with (fail)
      refine (H3.out _).mono ?_
      rintro e w1 ⟨rfl, x4, rfl⟩
      go_wp2
      all_goals go_ret
      all_goals exact ⟨by simp; omega, by repeat (first | (with_reducible exact Later.refl _) | with_reducible apply Later.latr | with_reducible apply Later.alloc | with_reducible apply Later.drew)⟩
    · have hb := l3 (by omega)
      have hd : decide (6 ≤ often % 10) = true := by simp; omega
      clear l2 l3
      go_enter Try.func6, Try.ntmps6
      go_wp2_with (fail)
      refine (awake8 _).mono ?_
      rintro e w1 ⟨rfl, x1, rfl⟩
      go_wp2_with (fail)
      refine (H1.out _).mono ?_
      rintro e w1 ⟨rfl, x2, rfl⟩
      go_wp2_with (fail)
      refine (H2.out _).mono ?_
      rintro e w1 ⟨rfl, x3, rfl⟩
      go_wp2_with (fail)
      refine (H3.out _).mono ?_
      rintro e w1 ⟨rfl, x4, rfl⟩
      go_wp2
      all_goals go_ret
      all_goals exact ⟨by simp; omega, by repeat (first | (with_reducible exact Later.refl _) | with_reducible apply Later.latr | with_reducible apply Later.alloc | with_reducible apply Later.drew)⟩
  · obtain ⟨has, l, s, v⟩ := r
    cases has with
    | false =>
      go_enter Try.func6, Try.ntmps6
      go_wp2_with (fail)
      refine (awake8 _).mono ?_
      rintro e w1 ⟨rfl, x1, rfl⟩
      go_wp2_with (fail)
      go_ret
      exact ⟨rfl, by repeat (first | (with_reducible exact Later.refl _) | with_reducible apply Later.latr | with_reducible apply Later.alloc | with_reducible apply Later.drew)⟩
    | true =>
      have hneg : min (min s v) latest < 0 ∨ 1099511627776 < max (max s v) latest := by
        rcases Int.lt_or_le (min (min s v) latest) 0 with h | h
        · exact .inl h
        · exact .inr (Int.not_le.1 fun h' => hgo ⟨rfl, h, h'⟩)
      clear hgo
      rcases hneg with hneg | hneg
      all_goals
        go_enter Try.func6, Try.ntmps6
        go_wp2_with (fail)
        refine (awake8 _).mono ?_
        rintro e w1 ⟨rfl, x1, rfl⟩
        go_wp2_with (fail)
        all_goals go_ret
        all_goals exact ⟨rfl, by repeat (first | (with_reducible exact Later.refl _) | with_reducible apply Later.latr | with_reducible apply Later.alloc | with_reducible apply Later.drew)⟩
end Go.Proofs.Ytogbpmkfnjebcaa
