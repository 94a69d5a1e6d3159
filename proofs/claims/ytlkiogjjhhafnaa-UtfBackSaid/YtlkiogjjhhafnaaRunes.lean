/- The walk of Runes: what bytes are, one behind the other. Of bytes, at most a thousand. -/
import Derived.Test.YtlkiogjjhhafnaaStep
import Derived.Test.YtlkiogjjhhafnaaUlaw
namespace Go.Proofs.Ytlkiogjjhhafnaa
open Go.RowKit
attribute [local go_sem] ite_max ite_min
attribute [local go_sem] h_lt1 h_lt2 h_lt3 h_lt4 h_lt5 h_lt6 h_eq1 h_qe1 h_eq2 h_qe2 h_eq3 h_qe3 h_eq4 h_qe4 h_eq5 h_qe5 h_eq6 h_qe6

abbrev bv (n : Int) : Value := .int .u8 n
def MadeR (w : World) (r : List Int × Ut) (e : Ending) (w' : World) : Prop :=
  ∃ v, e = .returned (.tuple #[v, uv r.2]) ∧ Later w w' ∧ w'.ownsRow w.heap.size 3 1 v r.1.length (r.1.map iv)
theorem list_of_wp {P : Program} {ops : Array Oper} {o : Oper} {rest : List Oper} {a : Act} {Q : Exit → Act → World → Prop} {w : World} (hgd : o.guard = none) (h : o.wp P a w (wpList P ops Q rest) Q) : wpList P ops Q (o :: rest) a w := by
  unfold wpList
  rw [if_pos (by simp [Region.wanted, hgd])]
  exact .inl h
theorem runesU_snoc (u : Ut) (l : List Int) (x : Int) : runesU u (l ++ [x]) = ((runesU u l).1 ++ (stepU (runesU u l).2 x).2, (stepU (runesU u l).2 x).1) := by
  rw [runesU_append, runesU_one]

set_option maxHeartbeats 8000000 in
theorem runes13 (u : Ut) (v : Value) (l : List Int) (w : World) (hr : ∀ x ∈ l, 0 ≤ x ∧ x < 256) (hlen : l.length ≤ 1000) (hv : Arr w 1 v l.length (l.map bv)) : Calls Try.prog 13 #[uv u, v] w (MadeR w (runesU u l)) := by
  obtain ⟨i0, hi0, hz0, hz1, hz2⟩ := info_parts info3
  have HR := hid hr
  clear hr
  rcases arr_cases hv with ⟨a, cap, rfl, h0, _, hmax⟩ | ⟨b, off, cap, rfl, hpos, hlen1, hb, hcap, hmax, hcell⟩
  · obtain rfl : l = [] := List.eq_nil_of_length_eq_zero h0
    clear hv
    (go_enter Try.func13, Try.ntmps13; go_wp2_with (fail))
    refine wp_loop_rounds 1 ?_
    rw [rounds_succ]
    go_wp2_with (fail)
    have HA := hid ((Blk.new w 23 (uc u)).alloc (.cells #[.int .i64 0, .int .i64 0, .int .i64 0] 23))
    have HB : Hid (Blk _ (w.heap.size + 1) 23 #[.int .i64 0, .int .i64 0, .int .i64 0]) := hid (blk_new (W := w.alloc (.cells (uc u) 23)) (by simp))
    (obtain ⟨hca0, hca1, hca2, hfa0, hfa1, hfa2, hga⟩ := Blk.at3 (HA.out.drew))
    (obtain ⟨hcb0, hcb1, hcb2, hfb0, hfb1, hfb2, hgb⟩ := Blk.at3 (HB.out.drew))
    go_region
    all_goals
      go_wp2_with (fail)
      ((try simp only [Exit.inBlock, Exit.then]); refine bodyPost_ret (by simp [results, Try.results13, go_sem]; try rfl) rfl ?_)
      exact ⟨_, rfl, by repeat (first | (with_reducible exact Later.refl _) | with_reducible apply Later.latr | with_reducible apply Later.alloc | with_reducible apply Later.drew | (with_reducible refine Later.set ?_ (by (simp; try omega)) _)), World.ownsRow_nil _ _ _ _⟩
  have HC := hid hcell
  clear hcell hv
  (go_enter Try.func13, Try.ntmps13; go_wp2_with (fail))
  go_loopw [4, 11] (fun out i wr => ∃ k : Nat, k ≤ l.length ∧ i = .int .i64 k ∧ Later w wr ∧ Blk wr w.heap.size 23 (uc (runesU u (l.take k)).2) ∧ Blk wr (w.heap.size + 1) 23 #[.int .i64 0, .int .i64 0, .int .i64 0] ∧ wr.ownsRow (w.heap.size + 2) 3 1 out (runesU u (l.take k)).1.length ((runesU u (l.take k)).1.map iv)) (fun _ i _ => l.length - (intOf i).toNat)
  case atStart => exact ⟨0, Nat.zero_le _, rfl, by repeat (first | (with_reducible exact Later.refl _) | with_reducible apply Later.latr | with_reducible apply Later.alloc | with_reducible apply Later.drew | (with_reducible refine Later.set ?_ (by (simp; try omega)) _)), (Blk.new w 23 (uc u)).alloc _, blk_new (by simp), World.ownsRow_nil _ _ _ _⟩
  case round =>
    obtain ⟨k, hk, rfl, hl, hA, hB, hO⟩ := hrel
    have hkl := runes_len2 (l.take k) u
    rw [List.length_take] at hkl
    have hle := hB.lt
    by_cases hlt : k < l.length
    · have c0 : wr.cell? ⟨b, off + k, none⟩ = some (bv l[k]) := (hl.cell hb).trans (HC.out k _ (by simp [hlt]))
      have hbw : b < wr.heap.size := Nat.lt_of_lt_of_le hb hl.size
      obtain ⟨q0, q1⟩ := HR.out l[k] (List.getElem_mem hlt)
      have hsn := runesU_snoc u (l.take k) l[k]
      rw [← take_succ_ l k hlt] at hsn
      have hst := step_len (runesU u (l.take k)).2 l[k]
      generalize runesU u (l.take k) = r at *
      generalize l[k] = x at *
      have HS := hid hsn
      have HA := hid hA
      have HB := hid hB
      have HO := hid hO
      have HL := hid hl
      clear hsn hA hB hO hl
      (obtain ⟨hca0, hca1, hca2, hfa0, hfa1, hfa2, hga⟩ := Blk.at3 (HA.out))
      go_wp2_with (fail)
      refine (step8 r.2 x q0 q1 _).mono ?_
      generalize stepU r.2 x = s at *
      rintro e W1 ⟨v1, rfl, hl1, hO1⟩
      have hn1 := own_ne_low hO1 (Nat.lt_trans (Nat.lt_succ_self _) hle)
      have hn0 := own_ne_low HO.out (b := w.heap.size) (by omega)
      have HS1 := hid (own_shape hO1)
      have HA1 := hid (Arr.of_own (own_set (p := ⟨w.heap.size, 2, none⟩) (own_set (p := ⟨w.heap.size, 1, none⟩) (own_set (p := ⟨w.heap.size, 0, none⟩) hO1 hn1 (.int .i64 s.1.need)) hn1 (.int .i64 s.1.val)) hn1 (.int .i64 s.1.least)))
      have HO1 := hid (own_set (p := ⟨w.heap.size, 2, none⟩) (own_set (p := ⟨w.heap.size, 1, none⟩) (own_set (p := ⟨w.heap.size, 0, none⟩) (own_later HO.out hl1) hn0 (.int .i64 s.1.need)) hn0 (.int .i64 s.1.val)) hn0 (.int .i64 s.1.least))
      have HB1 := hid ((((HB.out.later hl1).far (p := ⟨w.heap.size, 0, none⟩) (by simp) (.int .i64 s.1.need)).far (p := ⟨w.heap.size, 1, none⟩) (by simp) (.int .i64 s.1.val)).far (p := ⟨w.heap.size, 2, none⟩) (by simp) (.int .i64 s.1.least))
      have HA2 := hid ((((HA.out.later hl1).set_ 0 (.int .i64 s.1.need)).set_ 1 (.int .i64 s.1.val)).set_ 2 (.int .i64 s.1.least))
      have HL1 := hid ((((HL.out.trans hl1).set (p := ⟨w.heap.size, 0, none⟩) (Nat.le_refl _) (.int .i64 s.1.need)).set (p := ⟨w.heap.size, 1, none⟩) (Nat.le_refl _) (.int .i64 s.1.val)).set (p := ⟨w.heap.size, 2, none⟩) (Nat.le_refl _) (.int .i64 s.1.least))
      have HBL := hid HB1.out.lt
      (obtain ⟨hcc0, hcc1, hcc2, hfc0, hfc1, hfc2, hgc⟩ := Blk.at3 (HA.out.later hl1))
      clear hl1 hO1 HB HA HL
      go_wp2_with (first
        | (at_builtin
           go_must (refine list_of_wp rfl (wp_append_arr _ (.tmp 21) (.tmp 22) 24 rfl (w.heap.size + 2) 3 i0 _ 1 8 Try.underlying24 hi0 hz0 hz1 hz2 rfl (by decide) _ _ _ rfl HO1.out _ s.2.length (s.2.map iv) rfl HA1.out HS1.out (ints_one _) (by unfold maxLen; omega) (by omega) (by have := HBL.out; omega) ?_))
           intro v3 W3 hO3 hg3))
      go_roundw
      case rel =>
        have hl3 : Later w W3 := Later.grown HL1.out hg3 (fun k hk => by have := (HO1.out.lt k hk).1; omega)
        refine ⟨k + 1, by omega, by go_num, hl3, ?_, HB1.out.grown hg3 (own_ne_low HO1.out (by omega)), ?_⟩
        · rw [HS.out]
          exact HA2.out.grown hg3 (own_ne_low HO1.out (by omega))
        · rw [HS.out, List.length_append, List.map_append]
          exact hO3
      case measure => simp [intOf]; omega
    · obtain rfl : k = l.length := by omega
      rw [List.take_length] at hA hO
      generalize runesU u l = r at *
      have HL := hid hl
      have HO := hid hO
      have HA := hid hA
      have HB := hid hB
      clear hl hO hA hB
      (obtain ⟨hca0, hca1, hca2, hfa0, hfa1, hfa2, hga⟩ := Blk.at3 (HA.out))
      (obtain ⟨hcb0, hcb1, hcb2, hfb0, hfb1, hfb2, hgb⟩ := Blk.at3 (HB.out))
      have HZ := hid (((HB.out.set_ 0 (.int .i64 r.2.need)).set_ 1 (.int .i64 r.2.val)).set_ 2 (.int .i64 r.2.least))
      (obtain ⟨hcz0, hcz1, hcz2, hfz0, hfz1, hfz2, hgz⟩ := Blk.at3 (HZ.out))
      go_wp2_with (fail)
      go_region
      all_goals
        go_wp2_with (fail)
        ((try simp only [Exit.inBlock, Exit.then]); refine bodyPost_ret (by simp [results, Try.results13, go_sem, hcz0, hcz1, hcz2]; try rfl) rfl ?_)
        have hn := own_ne_low HO.out (b := w.heap.size + 1) (by omega)
        exact ⟨_, rfl, by repeat (first | (with_reducible exact Later.refl _) | (with_reducible exact HL.out) | with_reducible apply Later.latr | with_reducible apply Later.alloc | with_reducible apply Later.drew | (with_reducible refine Later.set ?_ (by (simp; try omega)) _)), own_mono (own_later (own_set (own_set (own_set HO.out hn _) hn _) hn _) (Later.refl _).drew) (by omega)⟩
end Go.Proofs.Ytlkiogjjhhafnaa
