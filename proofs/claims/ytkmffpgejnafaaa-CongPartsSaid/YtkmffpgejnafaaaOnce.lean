/- CongOnce: its walk, which answers true. Of a time of its type. -/
import Derived.Test.YtkmffpgejnafaaaAwake
import Derived.Test.YtkmffpgejnafaaaOwn
namespace Go.Proofs.Ytkmffpgejnafaaa
open Go.RowKit
attribute [local go_sem] ite_max ite_min
attribute [local go_sem] h_lt1 h_lt2 h_lt3 h_lt4 h_lt5 h_lt6 h_eq1 h_qe1 h_eq2 h_qe2 h_eq3 h_qe3 h_eq4 h_qe4 h_eq5 h_qe5 h_eq6 h_qe6

theorem info31 : (Try.prog.info? 31).map (fun i => (i.zero, i.size, i.bytes)) = some (some (.agg #[.int .i64 0, .int .i64 0, .int .i64 0, .bool false, .bool false]), 5, 32) := by kernel_rfl
theorem snts_snoc (l : List Snt) (s : Snt) : snts (l ++ [s]) = snts l ++ [.int .i64 s.k, .int .i64 s.t, .int .i64 s.z, .bool s.e, .bool s.p] := by simp [snts, sc]
theorem snts_len (l : List Snt) : (snts l).length = l.length * 5 := (flatMap_at sc 5 (fun _ => rfl) l).1

/-- the packets, their times no later -/
def early (t : Int) (s : Snt) : Snt := { k := s.k, t := min s.t t, z := s.z, e := s.e, p := s.p }
theorem early_le (t : Int) (l : List Snt) : ∀ s ∈ l.map (early t), s.t ≤ t := by
  intro s hs
  obtain ⟨s0, _, rfl⟩ := List.mem_map.1 hs
  unfold early
  dsimp only
  omega

set_option maxHeartbeats 8000000 in
theorem once5 (r : Rn) (s : Snt) (now : Int) (v : Value) (l : List Snt) (w : World) (hv : Arr w 5 v l.length (snts l)) (n0 : 0 ≤ now) (n1 : now ≤ 4294967295) :
    Calls Try.prog 5 #[rv r, sv s, .int .u32 now, v] w fun e w' => e = .returned (.bool true) ∧ Later w w' := by
  by_cases h50 : l.length ≤ 50
  case neg =>
    rcases arr_cases hv with ⟨a, cap, rfl, h0, _, hmax⟩ | ⟨b, off, cap, rfl, hpos, hlen, hb, hcap, hmax, hcell⟩
    · omega
    clear hcell hv
    have hd : decide (50 < (l.length : Int)) = true := decide_eq_true (by omega)
    (go_enter Try.func5, Try.ntmps5; go_wp2_with (fail))
    (refine (awake9 _).mono ?_; rintro e w1 ⟨rfl, x1, rfl⟩; go_wp2_with (fail))
    go_ret
    exact ⟨rfl, by repeat (first | (with_reducible exact Later.refl _) | with_reducible apply Later.latr | with_reducible apply Later.alloc | with_reducible apply Later.drew | (with_reducible refine Later.set ?_ (by (simp; try omega)) _))⟩
  have hd : decide (50 < (l.length : Int)) = false := decide_eq_false (by omega)
  obtain ⟨i0, hi0, hz0, hz1, hz2⟩ := info_parts info31
  have hfirst := fun v' W (h : Arr W 5 v' 1 (snts [s])) => (lost12 r now v' [s] W h).later
  have hok := (loses_ok (now := now) [s] (ok_of r)).1
  generalize loses now [s] (ofR r) = A at *
  have hL : ∀ (v' : Value) (W : World), Arr W 5 v' l.length (snts (l.map (early A.r))) → Gives Try.prog 12 #[rv A, .int .i64 (now + 5), v'] W (rv A) := by
    intro v' W h
    have := lost12 A (now + 5) v' (l.map (early A.r)) W (by rw [List.length_map]; exact h)
    rw [of_ok hok, loses_none _ _ (early_le A.r l)] at this
    exact this
  have hA : ∀ (v' : Value) (W : World), Arr W 5 v' l.length (snts (l.map (early A.r))) → Gives Try.prog 13 #[rv A, v'] W (rv A) := by
    intro v' W h
    have := acked13 A v' (l.map (early A.r)) W (by rw [List.length_map]; exact h)
    rw [of_ok hok, acks_none _ (early_le A.r l)] at this
    exact this
  have HF := hid hfirst
  have HL := hid hL
  have HA := hid hA
  clear hfirst hL hA hok
  have e0 : IntKind.i64.wrap now = now := IntWalk.i64_in _ (by omega)
  have e5 : IntKind.i64.wrap (now + 5) = now + 5 := IntWalk.i64_in _ (by omega)
  rcases arr_cases hv with ⟨a, cap, rfl, h0, _, hmax⟩ | ⟨b, off, cap, rfl, hpos, hlen, hb, hcap, hmax, hcell⟩
  · obtain rfl : l = [] := List.eq_nil_of_length_eq_zero h0
    clear hv
    (go_enter Try.func5, Try.ntmps5; go_wp2_with (fail))
    (refine (awake9 _).mono ?_; rintro e w1 ⟨rfl, x1, rfl⟩; go_wp2_with (fail))
    refine (HF.out _ _ (arr_new (xs := [.int .i64 s.k, .int .i64 s.t, .int .i64 s.z, .bool s.e, .bool s.p]) (by simp [size_latr]) rfl (by decide))).mono ?_
    rintro e w2 ⟨rfl, hl2⟩
    have HW := hid (Later.trans (a := w) (by repeat (first | (with_reducible exact Later.refl _) | with_reducible apply Later.latr | with_reducible apply Later.alloc | with_reducible apply Later.drew | (with_reducible refine Later.set ?_ (by (simp; try omega)) _))) hl2)
    clear hl2
    go_wp2_with (fail)
    go_rounds 1
    refine wp_region_calm (by kernel_rfl) (by kernel_rfl) ?_
    (repeat (go_big_quiet_step (fail)))
    go_big_quiet_step ((go_at_call 12; exact calm_of (HL.out _ _ (Arr.nil _ _))))
    (repeat (go_big_quiet_step (fail)))
    go_big_quiet_step ((go_at_call 13; exact calm_of (HA.out _ _ (Arr.nil _ _))))
    (repeat (go_big_quiet_step (fail)))
    refine wpQuiet_nil ?_
    rintro _ ⟨x, rfl⟩
    go_wp2_with (fail)
    go_ret
    exact ⟨rfl, by repeat (first | (with_reducible exact Later.refl _) | (with_reducible exact HW.out) | with_reducible apply Later.latr | with_reducible apply Later.alloc | with_reducible apply Later.drew | (with_reducible refine Later.set ?_ (by (simp; try omega)) _))⟩
  have HC := hid hcell
  clear hcell hv
  (go_enter Try.func5, Try.ntmps5; go_wp2_with (fail))
  (refine (awake9 _).mono ?_; rintro e w1 ⟨rfl, x1, rfl⟩; go_wp2_with (fail))
  refine (HF.out _ _ (arr_new (xs := [.int .i64 s.k, .int .i64 s.t, .int .i64 s.z, .bool s.e, .bool s.p]) (by simp [size_latr]) rfl (by decide))).mono ?_
  rintro e w2 ⟨rfl, hl2⟩
  have HW := hid (Later.trans (a := w) (by repeat (first | (with_reducible exact Later.refl _) | with_reducible apply Later.latr | with_reducible apply Later.alloc | with_reducible apply Later.drew | (with_reducible refine Later.set ?_ (by (simp; try omega)) _))) hl2)
  clear hl2
  go_wp2_with (fail)
  go_loopw [11, 12] (fun out i wr => ∃ k : Nat, k ≤ l.length ∧ i = .int .i64 k ∧ Later w wr ∧ Blk wr w2.heap.size 25 (rc A) ∧ wr.ownsRow (w2.heap.size + 1) 31 5 out k (snts ((l.take k).map (early A.r)))) (fun _ i _ => l.length - (intOf i).toNat)
  case atStart => exact ⟨0, Nat.zero_le _, rfl, HW.out.alloc _, Blk.new _ _ _, World.ownsRow_nil _ _ _ _⟩
  case round =>
    obtain ⟨k, hk, rfl, hl, hB, hown⟩ := hrel
    by_cases hlt : k < l.length
    · obtain ⟨a0, a1, a2, a3, a4⟩ := snts_at l k hlt
      have c0 : wr.cell? ⟨b, off + k * 5, none⟩ = some _ := (hl.cell hb).trans (HC.out _ _ a0)
      have c1 : wr.cell? ⟨b, off + k * 5 + 1, none⟩ = some _ := (hl.cell hb).trans (HC.out _ _ a1)
      have c2 : wr.cell? ⟨b, off + k * 5 + 2, none⟩ = some _ := (hl.cell hb).trans (HC.out _ _ a2)
      have c3 : wr.cell? ⟨b, off + k * 5 + 3, none⟩ = some _ := (hl.cell hb).trans (HC.out _ _ a3)
      have c4 : wr.cell? ⟨b, off + k * 5 + 4, none⟩ = some _ := (hl.cell hb).trans (HC.out _ _ a4)
      clear a0 a1 a2 a3 a4
      have hbw : b < wr.heap.size := Nat.lt_of_lt_of_le hb hl.size
      have hsn : snts ((l.take (k + 1)).map (early A.r)) = snts ((l.take k).map (early A.r)) ++ [.int .i64 l[k].k, .int .i64 (min l[k].t A.r), .int .i64 l[k].z, .bool l[k].e, .bool l[k].p] := by
        rw [take_succ_ l k hlt, List.map_append, List.map_cons, List.map_nil, snts_snoc]; rfl
      have HSN := hid hsn
      clear hsn
      generalize l[k] = s2 at *
      have hown2 := hown.alloc (.cells #[.int .i64 s2.k, .int .i64 (min s2.t A.r), .int .i64 s2.z, .bool s2.e, .bool s2.p] 31)
      have HO := hid hown2
      have HB := hid hB
      have HL' := hid hl
      have HSZ := hid hB.lt
      (obtain ⟨hca0, hca1, hca2, hca3, hfa0, hfa1, hfa2, hfa3, hga⟩ := Blk.at4 (hB))
      clear hown hown2 hB hl
      go_wp2_with (first
        | (at_builtin
           go_must (refine append_new rfl (.tmp 41) (.tmp 43) 27 rfl (w2.heap.size + 1) 31 i0 _ 5 32 Try.underlying27 hi0 hz0 hz1 hz2 rfl (by decide) _ 31 _ k _ rfl HO.out _ 1 [_, _, _, _, _] rfl (by simp [go_sem]) rfl (by simp [Value.oneCell']) (by unfold maxLen; omega) (by omega) (by have := HSZ.out; simp; omega) ?_)
           intro v1 w3 hown1 hg1))
      have HG := hid hg1
      have HO1 := hid hown1
      clear hg1 hown1
      go_roundw
      case rel =>
        refine ⟨k + 1, by omega, by go_num, ?_, ?_, ?_⟩
        · exact (HL'.out.alloc _).grown HG.out (own_lt HO.out (Nat.le_trans HW.out.size (Nat.le_succ _)))
        · exact (HB.out.alloc _).grown HG.out (own_blk_ne HO.out (HB.out.alloc _) (by decide))
        · rw [HSN.out]; exact HO1.out
      case measure => simp [intOf]; omega
    · obtain rfl : k = l.length := by omega
      rw [List.take_length] at hown
      have HAR := hid (Arr.of_own hown)
      have HL' := hid hl
      (obtain ⟨hca0, hca1, hca2, hca3, hfa0, hfa1, hfa2, hfa3, hga⟩ := Blk.at4 (hB))
      clear hown hl hB
      rcases arr_cases HAR.out with ⟨a3, cap3, rfl, h03, _, hmax3⟩ | ⟨b3, off3, cap3, rfl, hpos3, hlen3, hb3, hcap3, hmax3, hcell3⟩
      · omega
      clear hcell3
      go_wp2_with (fail)
      refine wp_region_calm (by kernel_rfl) (by kernel_rfl) ?_
      (repeat (go_big_quiet_step (fail)))
      go_big_quiet_step ((go_at_call 12; exact calm_of (HL.out _ _ (HAR.out.latr _))))
      (repeat (go_big_quiet_step (fail)))
      go_big_quiet_step ((go_at_call 13; exact calm_of (HA.out _ _ (HAR.out.latr _))))
      (repeat (go_big_quiet_step (fail)))
      refine wpQuiet_nil ?_
      rintro _ ⟨x, rfl⟩
      go_wp2_with (fail)
      go_ret
      exact ⟨rfl, by repeat (first | (with_reducible exact Later.refl _) | (with_reducible exact HL'.out) | with_reducible apply Later.latr | with_reducible apply Later.alloc | with_reducible apply Later.drew | (with_reducible refine Later.set ?_ (by (simp; try omega)) _))⟩
end Go.Proofs.Ytkmffpgejnafaaa
