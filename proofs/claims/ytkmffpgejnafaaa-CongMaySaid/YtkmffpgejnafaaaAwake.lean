/- The walk of the statements' head (awake): it answers true. No condition. -/
import Derived.Test.YtkmffpgejnafaaaLost
import Derived.Test.YtkmffpgejnafaaaMay
import Derived.Test.YtkmffpgejnafaaaSpec
namespace Go.Proofs.Ytkmffpgejnafaaa
open Go.RowKit
attribute [local go_sem] h_lt1 h_lt2 h_lt3 h_lt4 h_lt5 h_lt6 h_eq1 h_qe1 h_eq2 h_qe2 h_eq3 h_qe3 h_eq4 h_qe4 h_eq5 h_qe5 h_eq6 h_qe6

abbrev S5 : List Value := [.int .i64 0, .int .i64 5, .int .i64 1000, .bool true, .bool false]
theorem start_is (w : World) : Gives Try.prog 10 #[] w (.agg #[.int .i64 2560, .int .i64 96000, .int .i64 0, .int .i64 (-1)]) := start10 w
theorem call_a (v : Value) (W : World) (h : Arr W 5 v 1 [.int .i64 0, .int .i64 5, .int .i64 1000, .bool true, .bool false]) :
    Gives Try.prog 13 #[.agg #[.int .i64 2560, .int .i64 96000, .int .i64 0, .int .i64 (-1)], v] W (.agg #[.int .i64 3560, .int .i64 96000, .int .i64 0, .int .i64 (-1)]) := by
  have := acked13 start v [{ k := 0, t := 5, z := 1000, e := true, p := false }] W h
  have e : acks [{ k := 0, t := 5, z := 1000, e := true, p := false }] (ofR start) = { w := 3560, s := 96000, c := 0, r := -1 } := by rw [of_ok ok_start]; rfl
  rw [e] at this
  exact this
theorem call_l (v : Value) (W : World) (h : Arr W 5 v 2 [.int .i64 0, .int .i64 5, .int .i64 1000, .bool true, .bool false, .int .i64 0, .int .i64 5, .int .i64 1000, .bool true, .bool false]) :
    Gives Try.prog 12 #[.agg #[.int .i64 2560, .int .i64 96000, .int .i64 0, .int .i64 (-1)], .int .i64 9, v] W (.agg #[.int .i64 1280, .int .i64 1280, .int .i64 0, .int .i64 9]) := by
  have := lost12 start 9 v [{ k := 0, t := 5, z := 1000, e := true, p := false }, { k := 0, t := 5, z := 1000, e := true, p := false }] W h
  have e : loses 9 [{ k := 0, t := 5, z := 1000, e := true, p := false }, { k := 0, t := 5, z := 1000, e := true, p := false }] (ofR start) = { w := 1280, s := 1280, c := 0, r := 9 } := by rw [of_ok ok_start]; rfl
  rw [e] at this
  exact this

theorem call_c (W : World) : Gives Try.prog 14 #[.agg #[.int .i64 3560, .int .i64 96000, .int .i64 0, .int .i64 (-1)]] W (.bool true) := check14 { w := 3560, s := 96000, c := 0, r := -1 } W
theorem call_z (W : World) : Gives Try.prog 14 #[.agg #[.int .i64 0, .int .i64 0, .int .i64 0, .int .i64 0]] W (.bool false) := check14 { w := 0, s := 0, c := 0, r := 0 } W
theorem call_m (W : World) : Gives Try.prog 16 #[.agg #[.int .i64 3560, .int .i64 96000, .int .i64 0, .int .i64 (-1)], .int .i64 3000, .int .i64 560] W (.bool true) := may16 { w := 3560, s := 96000, c := 0, r := -1 } 3000 560 W
theorem call_n (W : World) : Gives Try.prog 16 #[.agg #[.int .i64 3560, .int .i64 96000, .int .i64 0, .int .i64 (-1)], .int .i64 3000, .int .i64 561] W (.bool false) := may16 { w := 3560, s := 96000, c := 0, r := -1 } 3000 561 W
theorem call_f (W : World) : Gives Try.prog 11 #[.agg #[.int .i64 1280, .int .i64 1280, .int .i64 0, .int .i64 9]] W (.agg #[.int .i64 512, .int .i64 1280, .int .i64 0, .int .i64 9]) := fall11 { w := 1280, s := 1280, c := 0, r := 9 } W
theorem call_b (v : Value) (W : World) (h : Arr W 5 v 1 [.int .i64 0, .int .i64 5, .int .i64 1000, .bool true, .bool false]) :
    Gives Try.prog 13 #[.agg #[.int .i64 1280, .int .i64 1280, .int .i64 0, .int .i64 9], v] W (.agg #[.int .i64 1280, .int .i64 1280, .int .i64 0, .int .i64 9]) :=
  acked13 { w := 1280, s := 1280, c := 0, r := 9 } v [{ k := 0, t := 5, z := 1000, e := true, p := false }] W h

set_option maxHeartbeats 8000000 in
theorem awake9 (w : World) : Gives Try.prog 9 #[] w (.bool true) := by
  apply gives_of
  (go_enter Try.func9, Try.ntmps9; go_wp2_with (fail))
  obtain ⟨w0, hw0⟩ : ∃ W, W = w.alloc (.cells #[.int .i64 0, .int .i64 5, .int .i64 1000, .bool true, .bool false] 31) := ⟨_, rfl⟩
  rw [← hw0]
  have hS : Blk w0 w.heap.size 31 #[.int .i64 0, .int .i64 5, .int .i64 1000, .bool true, .bool false] := by rw [hw0]; exact Blk.new _ _ _
  have hl0 : Later w w0 := by rw [hw0]; exact (Later.refl _).alloc _
  clear hw0
  apply wp_region_spec [2, 3, 4, 5] _ (fun af F W => ∃ (p : Nat) (v : Value), F = (((Act.put af (some 7) v).put (some 8) (.agg #[.int .i64 3560, .int .i64 96000, .int .i64 0, .int .i64 (-1)])).put (some 2) (.pointer (some ⟨p, 0, none⟩))) ∧ Later w0 W ∧ w0.heap.size ≤ p ∧ Blk W p 25 #[.int .i64 3560, .int .i64 96000, .int .i64 0, .int .i64 (-1)]) (by kernel_rfl) (by kernel_rfl)
  case h =>
    intro u hu
    have hSu := hS.later hu
    (obtain ⟨hcs0, hcs1, hcs2, hcs3, hcs4, hfs0, hfs1, hfs2, hfs3, hfs4, hgs⟩ := Blk.at5 (hSu))
    clear hSu
    simp only [pickQ, List.contains, List.elem, Nat.reduceBEq, Nat.reduceAdd, Bool.false_eq_true, if_false, if_true]
    (repeat (go_big_quiet_step (fail)))
    go_big_quiet_step ((go_at_call 10; exact calm_of (start_is _)))
    (repeat (go_big_quiet_step (fail)))
    exact wpQuiet_nil rfl
  case hs =>
    have hL : Later w0 w0.drew := (Later.refl _).drew
    refine wpSo_step [2, 4] (by kernel_rfl) (by decide) ?_
    intro i hi x K hK
    simp only [List.mem_cons, List.not_mem_nil, or_false] at hi
    rcases hi with rfl | rfl
    · (obtain ⟨U0, hU0⟩ : ∃ U0, U0 = latr _ x := ⟨_, rfl⟩; rw [← hU0])
      replace hL : Later w0 U0 := by (rw [hU0]; (exact (by repeat (first | (with_reducible exact Later.refl _) | (with_reducible exact hL) | with_reducible apply Later.latr | with_reducible apply Later.alloc | with_reducible apply Later.drew | (with_reducible refine Later.set ?_ (by (simp; try omega)) _)))))
      clear hU0
      refine spec_one (by rfl) (by rfl) ?_
      go_simp
      refine hK _ _ (by repeat (first | (with_reducible exact Later.refl _) | (with_reducible exact hL) | with_reducible apply Later.latr | with_reducible apply Later.alloc | with_reducible apply Later.drew | (with_reducible refine Later.set ?_ (by (simp; try omega)) _))) ?_
      clear hK K
      have hA := Arr.new U0 31 [.int .i64 0, .int .i64 5, .int .i64 1000, .bool true, .bool false] 1 5 rfl (by decide)
      obtain ⟨v, hv⟩ : ∃ v : Value, v = .slice (some ⟨U0.heap.size, 0, none⟩) 1 1 := ⟨_, rfl⟩
      rw [← hv] at hA
      simp only [← hv]
      clear hv
      replace hL := hL.alloc (.cells #[.int .i64 0, .int .i64 5, .int .i64 1000, .bool true, .bool false] 31)
      refine wpSo_step [3, 4] (by kernel_rfl) (by decide) ?_
      intro i hi x K hK
      simp only [List.mem_cons, List.not_mem_nil, or_false] at hi
      rcases hi with rfl | rfl
      · (obtain ⟨U1, hU1⟩ : ∃ U1, U1 = latr _ x := ⟨_, rfl⟩; rw [← hU1])
        replace hL : Later w0 U1 := by (rw [hU1]; (exact (by repeat (first | (with_reducible exact Later.refl _) | (with_reducible exact hL) | with_reducible apply Later.latr | with_reducible apply Later.alloc | with_reducible apply Later.drew | (with_reducible refine Later.set ?_ (by (simp; try omega)) _)))))
        replace hA : Arr U1 5 v 1 [.int .i64 0, .int .i64 5, .int .i64 1000, .bool true, .bool false] := by (rw [hU1]; (exact (by repeat (first | (with_reducible exact hA) | with_reducible apply Arr.latr | (with_reducible refine Arr.alloc ?_ _) | (with_reducible refine Arr.drew ?_)))))
        clear hU1
        refine spec_one (by rfl) (by rfl) ?_
        go_simp
        refine (call_a v _ hA).mono ?_
        rintro e W3 ⟨rfl, y, rfl⟩
        refine hK _ _ (by repeat (first | (with_reducible exact Later.refl _) | (with_reducible exact hL) | with_reducible apply Later.latr | with_reducible apply Later.alloc | with_reducible apply Later.drew | (with_reducible refine Later.set ?_ (by (simp; try omega)) _))) ?_
        clear hK K
        replace hL := hL.latr y
        replace hA := hA.latr y
        refine wpSo_step [4] (by kernel_rfl) (by decide) ?_
        intro i hi x K hK
        obtain rfl : i = 4 := by simpa using hi
        (obtain ⟨U2, hU2⟩ : ∃ U2, U2 = latr _ x := ⟨_, rfl⟩; rw [← hU2])
        replace hL : Later w0 U2 := by (rw [hU2]; (exact (by repeat (first | (with_reducible exact Later.refl _) | (with_reducible exact hL) | with_reducible apply Later.latr | with_reducible apply Later.alloc | with_reducible apply Later.drew | (with_reducible refine Later.set ?_ (by (simp; try omega)) _)))))
        replace hA : Arr U2 5 v 1 [.int .i64 0, .int .i64 5, .int .i64 1000, .bool true, .bool false] := by (rw [hU2]; (exact (by repeat (first | (with_reducible exact hA) | with_reducible apply Arr.latr | (with_reducible refine Arr.alloc ?_ _) | (with_reducible refine Arr.drew ?_)))))
        clear hU2
        refine spec_one (by rfl) (by rfl) ?_
        go_simp
        refine hK _ _ (by repeat (first | (with_reducible exact Later.refl _) | (with_reducible exact hL) | with_reducible apply Later.latr | with_reducible apply Later.alloc | with_reducible apply Later.drew | (with_reducible refine Later.set ?_ (by (simp; try omega)) _))) ?_
        clear hK K
        have hP := Blk.new U2 25 #[.int .i64 0, .int .i64 0, .int .i64 0, .int .i64 0]
        have hp := hL.size
        replace hL := hL.alloc (.cells #[.int .i64 0, .int .i64 0, .int .i64 0, .int .i64 0] 25)
        replace hA := hA.alloc (.cells #[.int .i64 0, .int .i64 0, .int .i64 0, .int .i64 0] 25)
        generalize U2.heap.size = p at *
        refine wpSo_step [5] (by kernel_rfl) (by decide) ?_
        intro i hi x K hK
        obtain rfl : i = 5 := by simpa using hi
        (obtain ⟨U3, hU3⟩ : ∃ U3, U3 = latr _ x := ⟨_, rfl⟩; rw [← hU3])
        replace hL : Later w0 U3 := by (rw [hU3]; (exact (by repeat (first | (with_reducible exact Later.refl _) | (with_reducible exact hL) | with_reducible apply Later.latr | with_reducible apply Later.alloc | with_reducible apply Later.drew | (with_reducible refine Later.set ?_ (by (simp; try omega)) _)))))
        replace hA : Arr U3 5 v 1 [.int .i64 0, .int .i64 5, .int .i64 1000, .bool true, .bool false] := by (rw [hU3]; (exact (by repeat (first | (with_reducible exact hA) | with_reducible apply Arr.latr | (with_reducible refine Arr.alloc ?_ _) | (with_reducible refine Arr.drew ?_)))))
        replace hP : Blk U3 p 25 #[.int .i64 0, .int .i64 0, .int .i64 0, .int .i64 0] := by (rw [hU3]; (exact (by repeat (first | (with_reducible exact hP) | with_reducible apply Blk.latr | with_reducible apply Blk.drew | with_reducible apply Blk.alloc))))
        clear hU3
        refine spec_one (by rfl) (by rfl) ?_
        (obtain ⟨hcp0, hcp1, hcp2, hcp3, hfp0, hfp1, hfp2, hfp3, hgp⟩ := Blk.at4 (hP))
        go_simp
        refine hK _ _ (by repeat (first | (with_reducible exact Later.refl _) | (with_reducible exact hL) | with_reducible apply Later.latr | with_reducible apply Later.alloc | with_reducible apply Later.drew | (with_reducible refine Later.set ?_ (by (simp; try omega)) _))) ?_
        clear hK K
        replace hP := (((hP.set_ 0 (.int .i64 3560)).set_ 1 (.int .i64 96000)).set_ 2 (.int .i64 0)).set_ 3 (.int .i64 (-1))
        refine wpSo_nil (fun x => ?_)
        exact ⟨p, v, rfl, by repeat (first | (with_reducible exact Later.refl _) | (with_reducible exact hL) | with_reducible apply Later.latr | with_reducible apply Later.alloc | with_reducible apply Later.drew | (with_reducible refine Later.set ?_ (by (simp; try omega)) _)), hp, hP.latr x⟩
      · (obtain ⟨U1, hU1⟩ : ∃ U1, U1 = latr _ x := ⟨_, rfl⟩; rw [← hU1])
        replace hL : Later w0 U1 := by (rw [hU1]; (exact (by repeat (first | (with_reducible exact Later.refl _) | (with_reducible exact hL) | with_reducible apply Later.latr | with_reducible apply Later.alloc | with_reducible apply Later.drew | (with_reducible refine Later.set ?_ (by (simp; try omega)) _)))))
        replace hA : Arr U1 5 v 1 [.int .i64 0, .int .i64 5, .int .i64 1000, .bool true, .bool false] := by (rw [hU1]; (exact (by repeat (first | (with_reducible exact hA) | with_reducible apply Arr.latr | (with_reducible refine Arr.alloc ?_ _) | (with_reducible refine Arr.drew ?_)))))
        clear hU1
        refine spec_one (by rfl) (by rfl) ?_
        go_simp
        refine hK _ _ (by repeat (first | (with_reducible exact Later.refl _) | (with_reducible exact hL) | with_reducible apply Later.latr | with_reducible apply Later.alloc | with_reducible apply Later.drew | (with_reducible refine Later.set ?_ (by (simp; try omega)) _))) ?_
        clear hK K
        have hP := Blk.new U1 25 #[.int .i64 0, .int .i64 0, .int .i64 0, .int .i64 0]
        have hp := hL.size
        replace hL := hL.alloc (.cells #[.int .i64 0, .int .i64 0, .int .i64 0, .int .i64 0] 25)
        replace hA := hA.alloc (.cells #[.int .i64 0, .int .i64 0, .int .i64 0, .int .i64 0] 25)
        generalize U1.heap.size = p at *
        refine wpSo_step [3] (by kernel_rfl) (by decide) ?_
        intro i hi x K hK
        obtain rfl : i = 3 := by simpa using hi
        (obtain ⟨U2, hU2⟩ : ∃ U2, U2 = latr _ x := ⟨_, rfl⟩; rw [← hU2])
        replace hL : Later w0 U2 := by (rw [hU2]; (exact (by repeat (first | (with_reducible exact Later.refl _) | (with_reducible exact hL) | with_reducible apply Later.latr | with_reducible apply Later.alloc | with_reducible apply Later.drew | (with_reducible refine Later.set ?_ (by (simp; try omega)) _)))))
        replace hA : Arr U2 5 v 1 [.int .i64 0, .int .i64 5, .int .i64 1000, .bool true, .bool false] := by (rw [hU2]; (exact (by repeat (first | (with_reducible exact hA) | with_reducible apply Arr.latr | (with_reducible refine Arr.alloc ?_ _) | (with_reducible refine Arr.drew ?_)))))
        replace hP : Blk U2 p 25 #[.int .i64 0, .int .i64 0, .int .i64 0, .int .i64 0] := by (rw [hU2]; (exact (by repeat (first | (with_reducible exact hP) | with_reducible apply Blk.latr | with_reducible apply Blk.drew | with_reducible apply Blk.alloc))))
        clear hU2
        refine spec_one (by rfl) (by rfl) ?_
        go_simp
        refine (call_a v _ hA).mono ?_
        rintro e W3 ⟨rfl, y, rfl⟩
        refine hK _ _ (by repeat (first | (with_reducible exact Later.refl _) | (with_reducible exact hL) | with_reducible apply Later.latr | with_reducible apply Later.alloc | with_reducible apply Later.drew | (with_reducible refine Later.set ?_ (by (simp; try omega)) _))) ?_
        clear hK K
        replace hL := hL.latr y
        replace hA := hA.latr y
        replace hP := hP.latr y
        refine wpSo_step [5] (by kernel_rfl) (by decide) ?_
        intro i hi x K hK
        obtain rfl : i = 5 := by simpa using hi
        (obtain ⟨U3, hU3⟩ : ∃ U3, U3 = latr _ x := ⟨_, rfl⟩; rw [← hU3])
        replace hL : Later w0 U3 := by (rw [hU3]; (exact (by repeat (first | (with_reducible exact Later.refl _) | (with_reducible exact hL) | with_reducible apply Later.latr | with_reducible apply Later.alloc | with_reducible apply Later.drew | (with_reducible refine Later.set ?_ (by (simp; try omega)) _)))))
        replace hA : Arr U3 5 v 1 [.int .i64 0, .int .i64 5, .int .i64 1000, .bool true, .bool false] := by (rw [hU3]; (exact (by repeat (first | (with_reducible exact hA) | with_reducible apply Arr.latr | (with_reducible refine Arr.alloc ?_ _) | (with_reducible refine Arr.drew ?_)))))
        replace hP : Blk U3 p 25 #[.int .i64 0, .int .i64 0, .int .i64 0, .int .i64 0] := by (rw [hU3]; (exact (by repeat (first | (with_reducible exact hP) | with_reducible apply Blk.latr | with_reducible apply Blk.drew | with_reducible apply Blk.alloc))))
        clear hU3
        refine spec_one (by rfl) (by rfl) ?_
        (obtain ⟨hcp0, hcp1, hcp2, hcp3, hfp0, hfp1, hfp2, hfp3, hgp⟩ := Blk.at4 (hP))
        go_simp
        refine hK _ _ (by repeat (first | (with_reducible exact Later.refl _) | (with_reducible exact hL) | with_reducible apply Later.latr | with_reducible apply Later.alloc | with_reducible apply Later.drew | (with_reducible refine Later.set ?_ (by (simp; try omega)) _))) ?_
        clear hK K
        replace hP := (((hP.set_ 0 (.int .i64 3560)).set_ 1 (.int .i64 96000)).set_ 2 (.int .i64 0)).set_ 3 (.int .i64 (-1))
        refine wpSo_nil (fun x => ?_)
        exact ⟨p, v, rfl, by repeat (first | (with_reducible exact Later.refl _) | (with_reducible exact hL) | with_reducible apply Later.latr | with_reducible apply Later.alloc | with_reducible apply Later.drew | (with_reducible refine Later.set ?_ (by (simp; try omega)) _)), hp, hP.latr x⟩
    · (obtain ⟨U0, hU0⟩ : ∃ U0, U0 = latr _ x := ⟨_, rfl⟩; rw [← hU0])
      replace hL : Later w0 U0 := by (rw [hU0]; (exact (by repeat (first | (with_reducible exact Later.refl _) | (with_reducible exact hL) | with_reducible apply Later.latr | with_reducible apply Later.alloc | with_reducible apply Later.drew | (with_reducible refine Later.set ?_ (by (simp; try omega)) _)))))
      clear hU0
      refine spec_one (by rfl) (by rfl) ?_
      go_simp
      refine hK _ _ (by repeat (first | (with_reducible exact Later.refl _) | (with_reducible exact hL) | with_reducible apply Later.latr | with_reducible apply Later.alloc | with_reducible apply Later.drew | (with_reducible refine Later.set ?_ (by (simp; try omega)) _))) ?_
      clear hK K
      have hP := Blk.new U0 25 #[.int .i64 0, .int .i64 0, .int .i64 0, .int .i64 0]
      have hp := hL.size
      replace hL := hL.alloc (.cells #[.int .i64 0, .int .i64 0, .int .i64 0, .int .i64 0] 25)
      generalize U0.heap.size = p at *
      refine wpSo_step [2] (by kernel_rfl) (by decide) ?_
      intro i hi x K hK
      obtain rfl : i = 2 := by simpa using hi
      (obtain ⟨U1, hU1⟩ : ∃ U1, U1 = latr _ x := ⟨_, rfl⟩; rw [← hU1])
      replace hL : Later w0 U1 := by (rw [hU1]; (exact (by repeat (first | (with_reducible exact Later.refl _) | (with_reducible exact hL) | with_reducible apply Later.latr | with_reducible apply Later.alloc | with_reducible apply Later.drew | (with_reducible refine Later.set ?_ (by (simp; try omega)) _)))))
      replace hP : Blk U1 p 25 #[.int .i64 0, .int .i64 0, .int .i64 0, .int .i64 0] := by (rw [hU1]; (exact (by repeat (first | (with_reducible exact hP) | with_reducible apply Blk.latr | with_reducible apply Blk.drew | with_reducible apply Blk.alloc))))
      clear hU1
      refine spec_one (by rfl) (by rfl) ?_
      go_simp
      refine hK _ _ (by repeat (first | (with_reducible exact Later.refl _) | (with_reducible exact hL) | with_reducible apply Later.latr | with_reducible apply Later.alloc | with_reducible apply Later.drew | (with_reducible refine Later.set ?_ (by (simp; try omega)) _))) ?_
      clear hK K
      have hA := Arr.new U1 31 [.int .i64 0, .int .i64 5, .int .i64 1000, .bool true, .bool false] 1 5 rfl (by decide)
      obtain ⟨v, hv⟩ : ∃ v : Value, v = .slice (some ⟨U1.heap.size, 0, none⟩) 1 1 := ⟨_, rfl⟩
      rw [← hv] at hA
      simp only [← hv]
      clear hv
      replace hL := hL.alloc (.cells #[.int .i64 0, .int .i64 5, .int .i64 1000, .bool true, .bool false] 31)
      replace hP := hP.alloc (.cells #[.int .i64 0, .int .i64 5, .int .i64 1000, .bool true, .bool false] 31)
      refine wpSo_step [3] (by kernel_rfl) (by decide) ?_
      intro i hi x K hK
      obtain rfl : i = 3 := by simpa using hi
      (obtain ⟨U2, hU2⟩ : ∃ U2, U2 = latr _ x := ⟨_, rfl⟩; rw [← hU2])
      replace hL : Later w0 U2 := by (rw [hU2]; (exact (by repeat (first | (with_reducible exact Later.refl _) | (with_reducible exact hL) | with_reducible apply Later.latr | with_reducible apply Later.alloc | with_reducible apply Later.drew | (with_reducible refine Later.set ?_ (by (simp; try omega)) _)))))
      replace hA : Arr U2 5 v 1 [.int .i64 0, .int .i64 5, .int .i64 1000, .bool true, .bool false] := by (rw [hU2]; (exact (by repeat (first | (with_reducible exact hA) | with_reducible apply Arr.latr | (with_reducible refine Arr.alloc ?_ _) | (with_reducible refine Arr.drew ?_)))))
      replace hP : Blk U2 p 25 #[.int .i64 0, .int .i64 0, .int .i64 0, .int .i64 0] := by (rw [hU2]; (exact (by repeat (first | (with_reducible exact hP) | with_reducible apply Blk.latr | with_reducible apply Blk.drew | with_reducible apply Blk.alloc))))
      clear hU2
      refine spec_one (by rfl) (by rfl) ?_
      go_simp
      refine (call_a v _ hA).mono ?_
      rintro e W3 ⟨rfl, y, rfl⟩
      refine hK _ _ (by repeat (first | (with_reducible exact Later.refl _) | (with_reducible exact hL) | with_reducible apply Later.latr | with_reducible apply Later.alloc | with_reducible apply Later.drew | (with_reducible refine Later.set ?_ (by (simp; try omega)) _))) ?_
      clear hK K
      replace hL := hL.latr y
      replace hA := hA.latr y
      replace hP := hP.latr y
      refine wpSo_step [5] (by kernel_rfl) (by decide) ?_
      intro i hi x K hK
      obtain rfl : i = 5 := by simpa using hi
      (obtain ⟨U3, hU3⟩ : ∃ U3, U3 = latr _ x := ⟨_, rfl⟩; rw [← hU3])
      replace hL : Later w0 U3 := by (rw [hU3]; (exact (by repeat (first | (with_reducible exact Later.refl _) | (with_reducible exact hL) | with_reducible apply Later.latr | with_reducible apply Later.alloc | with_reducible apply Later.drew | (with_reducible refine Later.set ?_ (by (simp; try omega)) _)))))
      replace hA : Arr U3 5 v 1 [.int .i64 0, .int .i64 5, .int .i64 1000, .bool true, .bool false] := by (rw [hU3]; (exact (by repeat (first | (with_reducible exact hA) | with_reducible apply Arr.latr | (with_reducible refine Arr.alloc ?_ _) | (with_reducible refine Arr.drew ?_)))))
      replace hP : Blk U3 p 25 #[.int .i64 0, .int .i64 0, .int .i64 0, .int .i64 0] := by (rw [hU3]; (exact (by repeat (first | (with_reducible exact hP) | with_reducible apply Blk.latr | with_reducible apply Blk.drew | with_reducible apply Blk.alloc))))
      clear hU3
      refine spec_one (by rfl) (by rfl) ?_
      (obtain ⟨hcp0, hcp1, hcp2, hcp3, hfp0, hfp1, hfp2, hfp3, hgp⟩ := Blk.at4 (hP))
      go_simp
      refine hK _ _ (by repeat (first | (with_reducible exact Later.refl _) | (with_reducible exact hL) | with_reducible apply Later.latr | with_reducible apply Later.alloc | with_reducible apply Later.drew | (with_reducible refine Later.set ?_ (by (simp; try omega)) _))) ?_
      clear hK K
      replace hP := (((hP.set_ 0 (.int .i64 3560)).set_ 1 (.int .i64 96000)).set_ 2 (.int .i64 0)).set_ 3 (.int .i64 (-1))
      refine wpSo_nil (fun x => ?_)
      exact ⟨p, v, rfl, by repeat (first | (with_reducible exact Later.refl _) | (with_reducible exact hL) | with_reducible apply Later.latr | with_reducible apply Later.alloc | with_reducible apply Later.drew | (with_reducible refine Later.set ?_ (by (simp; try omega)) _)), hp, hP.latr x⟩
  case hR =>
    rintro F W ⟨p, v, rfl, hL, hp, hB⟩
    have hS1 := hS.later hL
    have hl1 := hl0.trans hL
    go_simp
    clear hS hl0 hL hp
    generalize w0.heap.size = n0 at *
    rename World => w1
    obtain ⟨w0, hw0⟩ : ∃ w0 : World, w0 = w1 := ⟨_, rfl⟩
    rw [← hw0] at hS1 hl1 hB
    rw [← hw0]
    clear hw0
    go_wp2_with (fail)
    apply wp_region_spec [3, 4, 5, 6] _ (fun af F W => ∃ (p : Nat) (v : Value), F = (((Act.put af (some 12) v).put (some 13) (.agg #[.int .i64 1280, .int .i64 1280, .int .i64 0, .int .i64 9]))).put (some 3) (.pointer (some ⟨p, 0, none⟩)) ∧ Later w0 W ∧ w0.heap.size ≤ p ∧ Blk W p 25 #[.int .i64 1280, .int .i64 1280, .int .i64 0, .int .i64 9]) (by kernel_rfl) (by kernel_rfl)
    case h =>
      intro u hu
      have hSu := hS1.later hu
      (obtain ⟨hcs0, hcs1, hcs2, hcs3, hcs4, hfs0, hfs1, hfs2, hfs3, hfs4, hgs⟩ := Blk.at5 (hSu))
      clear hSu
      simp only [pickQ, List.contains, List.elem, Nat.reduceBEq, Nat.reduceAdd, Bool.false_eq_true, if_false, if_true]
      (repeat (go_big_quiet_step (fail)))
      go_big_quiet_step ((go_at_call 10; exact calm_of (start_is _)))
      (repeat (go_big_quiet_step (fail)))
      exact wpQuiet_nil rfl
    case hs =>
      have hL : Later w0 w0.drew := (Later.refl _).drew
      refine wpSo_step [3, 5] (by kernel_rfl) (by decide) ?_
      intro i hi x K hK
      simp only [List.mem_cons, List.not_mem_nil, or_false] at hi
      rcases hi with rfl | rfl
      · (obtain ⟨U0, hU0⟩ : ∃ U0, U0 = latr _ x := ⟨_, rfl⟩; rw [← hU0])
        replace hL : Later w0 U0 := by (rw [hU0]; (exact (by repeat (first | (with_reducible exact Later.refl _) | (with_reducible exact hL) | with_reducible apply Later.latr | with_reducible apply Later.alloc | with_reducible apply Later.drew | (with_reducible refine Later.set ?_ (by (simp; try omega)) _)))))
        clear hU0
        refine spec_one (by rfl) (by rfl) ?_
        go_simp
        refine hK _ _ (by repeat (first | (with_reducible exact Later.refl _) | (with_reducible exact hL) | with_reducible apply Later.latr | with_reducible apply Later.alloc | with_reducible apply Later.drew | (with_reducible refine Later.set ?_ (by (simp; try omega)) _))) ?_
        clear hK K
        have hA := Arr.new U0 31 [.int .i64 0, .int .i64 5, .int .i64 1000, .bool true, .bool false, .int .i64 0, .int .i64 5, .int .i64 1000, .bool true, .bool false] 2 5 rfl (by decide)
        obtain ⟨v, hv⟩ : ∃ v : Value, v = .slice (some ⟨U0.heap.size, 0, none⟩) 2 2 := ⟨_, rfl⟩
        rw [← hv] at hA
        simp only [← hv]
        clear hv
        replace hL := hL.alloc (.cells #[.int .i64 0, .int .i64 5, .int .i64 1000, .bool true, .bool false, .int .i64 0, .int .i64 5, .int .i64 1000, .bool true, .bool false] 31)
        refine wpSo_step [4, 5] (by kernel_rfl) (by decide) ?_
        intro i hi x K hK
        simp only [List.mem_cons, List.not_mem_nil, or_false] at hi
        rcases hi with rfl | rfl
        · (obtain ⟨U1, hU1⟩ : ∃ U1, U1 = latr _ x := ⟨_, rfl⟩; rw [← hU1])
          replace hL : Later w0 U1 := by (rw [hU1]; (exact (by repeat (first | (with_reducible exact Later.refl _) | (with_reducible exact hL) | with_reducible apply Later.latr | with_reducible apply Later.alloc | with_reducible apply Later.drew | (with_reducible refine Later.set ?_ (by (simp; try omega)) _)))))
          replace hA : Arr U1 5 v 2 [.int .i64 0, .int .i64 5, .int .i64 1000, .bool true, .bool false, .int .i64 0, .int .i64 5, .int .i64 1000, .bool true, .bool false] := by (rw [hU1]; (exact (by repeat (first | (with_reducible exact hA) | with_reducible apply Arr.latr | (with_reducible refine Arr.alloc ?_ _) | (with_reducible refine Arr.drew ?_)))))
          clear hU1
          refine spec_one (by rfl) (by rfl) ?_
          go_simp
          refine (call_l v _ hA).mono ?_
          rintro e W3 ⟨rfl, y, rfl⟩
          refine hK _ _ (by repeat (first | (with_reducible exact Later.refl _) | (with_reducible exact hL) | with_reducible apply Later.latr | with_reducible apply Later.alloc | with_reducible apply Later.drew | (with_reducible refine Later.set ?_ (by (simp; try omega)) _))) ?_
          clear hK K
          replace hL := hL.latr y
          replace hA := hA.latr y
          refine wpSo_step [5] (by kernel_rfl) (by decide) ?_
          intro i hi x K hK
          obtain rfl : i = 5 := by simpa using hi
          (obtain ⟨U2, hU2⟩ : ∃ U2, U2 = latr _ x := ⟨_, rfl⟩; rw [← hU2])
          replace hL : Later w0 U2 := by (rw [hU2]; (exact (by repeat (first | (with_reducible exact Later.refl _) | (with_reducible exact hL) | with_reducible apply Later.latr | with_reducible apply Later.alloc | with_reducible apply Later.drew | (with_reducible refine Later.set ?_ (by (simp; try omega)) _)))))
          replace hA : Arr U2 5 v 2 [.int .i64 0, .int .i64 5, .int .i64 1000, .bool true, .bool false, .int .i64 0, .int .i64 5, .int .i64 1000, .bool true, .bool false] := by (rw [hU2]; (exact (by repeat (first | (with_reducible exact hA) | with_reducible apply Arr.latr | (with_reducible refine Arr.alloc ?_ _) | (with_reducible refine Arr.drew ?_)))))
          clear hU2
          refine spec_one (by rfl) (by rfl) ?_
          go_simp
          refine hK _ _ (by repeat (first | (with_reducible exact Later.refl _) | (with_reducible exact hL) | with_reducible apply Later.latr | with_reducible apply Later.alloc | with_reducible apply Later.drew | (with_reducible refine Later.set ?_ (by (simp; try omega)) _))) ?_
          clear hK K
          have hP := Blk.new U2 25 #[.int .i64 0, .int .i64 0, .int .i64 0, .int .i64 0]
          have hp := hL.size
          replace hL := hL.alloc (.cells #[.int .i64 0, .int .i64 0, .int .i64 0, .int .i64 0] 25)
          replace hA := hA.alloc (.cells #[.int .i64 0, .int .i64 0, .int .i64 0, .int .i64 0] 25)
          generalize U2.heap.size = p at *
          refine wpSo_step [6] (by kernel_rfl) (by decide) ?_
          intro i hi x K hK
          obtain rfl : i = 6 := by simpa using hi
          (obtain ⟨U3, hU3⟩ : ∃ U3, U3 = latr _ x := ⟨_, rfl⟩; rw [← hU3])
          replace hL : Later w0 U3 := by (rw [hU3]; (exact (by repeat (first | (with_reducible exact Later.refl _) | (with_reducible exact hL) | with_reducible apply Later.latr | with_reducible apply Later.alloc | with_reducible apply Later.drew | (with_reducible refine Later.set ?_ (by (simp; try omega)) _)))))
          replace hA : Arr U3 5 v 2 [.int .i64 0, .int .i64 5, .int .i64 1000, .bool true, .bool false, .int .i64 0, .int .i64 5, .int .i64 1000, .bool true, .bool false] := by (rw [hU3]; (exact (by repeat (first | (with_reducible exact hA) | with_reducible apply Arr.latr | (with_reducible refine Arr.alloc ?_ _) | (with_reducible refine Arr.drew ?_)))))
          replace hP : Blk U3 p 25 #[.int .i64 0, .int .i64 0, .int .i64 0, .int .i64 0] := by (rw [hU3]; (exact (by repeat (first | (with_reducible exact hP) | with_reducible apply Blk.latr | with_reducible apply Blk.drew | with_reducible apply Blk.alloc))))
          clear hU3
          refine spec_one (by rfl) (by rfl) ?_
          (obtain ⟨hcp0, hcp1, hcp2, hcp3, hfp0, hfp1, hfp2, hfp3, hgp⟩ := Blk.at4 (hP))
          go_simp
          refine hK _ _ (by repeat (first | (with_reducible exact Later.refl _) | (with_reducible exact hL) | with_reducible apply Later.latr | with_reducible apply Later.alloc | with_reducible apply Later.drew | (with_reducible refine Later.set ?_ (by (simp; try omega)) _))) ?_
          clear hK K
          replace hP := (((hP.set_ 0 (.int .i64 1280)).set_ 1 (.int .i64 1280)).set_ 2 (.int .i64 0)).set_ 3 (.int .i64 9)
          refine wpSo_nil (fun x => ?_)
          exact ⟨p, v, rfl, by repeat (first | (with_reducible exact Later.refl _) | (with_reducible exact hL) | with_reducible apply Later.latr | with_reducible apply Later.alloc | with_reducible apply Later.drew | (with_reducible refine Later.set ?_ (by (simp; try omega)) _)), hp, hP.latr x⟩
        · (obtain ⟨U1, hU1⟩ : ∃ U1, U1 = latr _ x := ⟨_, rfl⟩; rw [← hU1])
          replace hL : Later w0 U1 := by (rw [hU1]; (exact (by repeat (first | (with_reducible exact Later.refl _) | (with_reducible exact hL) | with_reducible apply Later.latr | with_reducible apply Later.alloc | with_reducible apply Later.drew | (with_reducible refine Later.set ?_ (by (simp; try omega)) _)))))
          replace hA : Arr U1 5 v 2 [.int .i64 0, .int .i64 5, .int .i64 1000, .bool true, .bool false, .int .i64 0, .int .i64 5, .int .i64 1000, .bool true, .bool false] := by (rw [hU1]; (exact (by repeat (first | (with_reducible exact hA) | with_reducible apply Arr.latr | (with_reducible refine Arr.alloc ?_ _) | (with_reducible refine Arr.drew ?_)))))
          clear hU1
          refine spec_one (by rfl) (by rfl) ?_
          go_simp
          refine hK _ _ (by repeat (first | (with_reducible exact Later.refl _) | (with_reducible exact hL) | with_reducible apply Later.latr | with_reducible apply Later.alloc | with_reducible apply Later.drew | (with_reducible refine Later.set ?_ (by (simp; try omega)) _))) ?_
          clear hK K
          have hP := Blk.new U1 25 #[.int .i64 0, .int .i64 0, .int .i64 0, .int .i64 0]
          have hp := hL.size
          replace hL := hL.alloc (.cells #[.int .i64 0, .int .i64 0, .int .i64 0, .int .i64 0] 25)
          replace hA := hA.alloc (.cells #[.int .i64 0, .int .i64 0, .int .i64 0, .int .i64 0] 25)
          generalize U1.heap.size = p at *
          refine wpSo_step [4] (by kernel_rfl) (by decide) ?_
          intro i hi x K hK
          obtain rfl : i = 4 := by simpa using hi
          (obtain ⟨U2, hU2⟩ : ∃ U2, U2 = latr _ x := ⟨_, rfl⟩; rw [← hU2])
          replace hL : Later w0 U2 := by (rw [hU2]; (exact (by repeat (first | (with_reducible exact Later.refl _) | (with_reducible exact hL) | with_reducible apply Later.latr | with_reducible apply Later.alloc | with_reducible apply Later.drew | (with_reducible refine Later.set ?_ (by (simp; try omega)) _)))))
          replace hA : Arr U2 5 v 2 [.int .i64 0, .int .i64 5, .int .i64 1000, .bool true, .bool false, .int .i64 0, .int .i64 5, .int .i64 1000, .bool true, .bool false] := by (rw [hU2]; (exact (by repeat (first | (with_reducible exact hA) | with_reducible apply Arr.latr | (with_reducible refine Arr.alloc ?_ _) | (with_reducible refine Arr.drew ?_)))))
          replace hP : Blk U2 p 25 #[.int .i64 0, .int .i64 0, .int .i64 0, .int .i64 0] := by (rw [hU2]; (exact (by repeat (first | (with_reducible exact hP) | with_reducible apply Blk.latr | with_reducible apply Blk.drew | with_reducible apply Blk.alloc))))
          clear hU2
          refine spec_one (by rfl) (by rfl) ?_
          go_simp
          refine (call_l v _ hA).mono ?_
          rintro e W3 ⟨rfl, y, rfl⟩
          refine hK _ _ (by repeat (first | (with_reducible exact Later.refl _) | (with_reducible exact hL) | with_reducible apply Later.latr | with_reducible apply Later.alloc | with_reducible apply Later.drew | (with_reducible refine Later.set ?_ (by (simp; try omega)) _))) ?_
          clear hK K
          replace hL := hL.latr y
          replace hA := hA.latr y
          replace hP := hP.latr y
          refine wpSo_step [6] (by kernel_rfl) (by decide) ?_
          intro i hi x K hK
          obtain rfl : i = 6 := by simpa using hi
          (obtain ⟨U3, hU3⟩ : ∃ U3, U3 = latr _ x := ⟨_, rfl⟩; rw [← hU3])
          replace hL : Later w0 U3 := by (rw [hU3]; (exact (by repeat (first | (with_reducible exact Later.refl _) | (with_reducible exact hL) | with_reducible apply Later.latr | with_reducible apply Later.alloc | with_reducible apply Later.drew | (with_reducible refine Later.set ?_ (by (simp; try omega)) _)))))
          replace hA : Arr U3 5 v 2 [.int .i64 0, .int .i64 5, .int .i64 1000, .bool true, .bool false, .int .i64 0, .int .i64 5, .int .i64 1000, .bool true, .bool false] := by (rw [hU3]; (exact (by repeat (first | (with_reducible exact hA) | with_reducible apply Arr.latr | (with_reducible refine Arr.alloc ?_ _) | (with_reducible refine Arr.drew ?_)))))
          replace hP : Blk U3 p 25 #[.int .i64 0, .int .i64 0, .int .i64 0, .int .i64 0] := by (rw [hU3]; (exact (by repeat (first | (with_reducible exact hP) | with_reducible apply Blk.latr | with_reducible apply Blk.drew | with_reducible apply Blk.alloc))))
          clear hU3
          refine spec_one (by rfl) (by rfl) ?_
          (obtain ⟨hcp0, hcp1, hcp2, hcp3, hfp0, hfp1, hfp2, hfp3, hgp⟩ := Blk.at4 (hP))
          go_simp
          refine hK _ _ (by repeat (first | (with_reducible exact Later.refl _) | (with_reducible exact hL) | with_reducible apply Later.latr | with_reducible apply Later.alloc | with_reducible apply Later.drew | (with_reducible refine Later.set ?_ (by (simp; try omega)) _))) ?_
          clear hK K
          replace hP := (((hP.set_ 0 (.int .i64 1280)).set_ 1 (.int .i64 1280)).set_ 2 (.int .i64 0)).set_ 3 (.int .i64 9)
          refine wpSo_nil (fun x => ?_)
          exact ⟨p, v, rfl, by repeat (first | (with_reducible exact Later.refl _) | (with_reducible exact hL) | with_reducible apply Later.latr | with_reducible apply Later.alloc | with_reducible apply Later.drew | (with_reducible refine Later.set ?_ (by (simp; try omega)) _)), hp, hP.latr x⟩
      · (obtain ⟨U0, hU0⟩ : ∃ U0, U0 = latr _ x := ⟨_, rfl⟩; rw [← hU0])
        replace hL : Later w0 U0 := by (rw [hU0]; (exact (by repeat (first | (with_reducible exact Later.refl _) | (with_reducible exact hL) | with_reducible apply Later.latr | with_reducible apply Later.alloc | with_reducible apply Later.drew | (with_reducible refine Later.set ?_ (by (simp; try omega)) _)))))
        clear hU0
        refine spec_one (by rfl) (by rfl) ?_
        go_simp
        refine hK _ _ (by repeat (first | (with_reducible exact Later.refl _) | (with_reducible exact hL) | with_reducible apply Later.latr | with_reducible apply Later.alloc | with_reducible apply Later.drew | (with_reducible refine Later.set ?_ (by (simp; try omega)) _))) ?_
        clear hK K
        have hP := Blk.new U0 25 #[.int .i64 0, .int .i64 0, .int .i64 0, .int .i64 0]
        have hp := hL.size
        replace hL := hL.alloc (.cells #[.int .i64 0, .int .i64 0, .int .i64 0, .int .i64 0] 25)
        generalize U0.heap.size = p at *
        refine wpSo_step [3] (by kernel_rfl) (by decide) ?_
        intro i hi x K hK
        obtain rfl : i = 3 := by simpa using hi
        (obtain ⟨U1, hU1⟩ : ∃ U1, U1 = latr _ x := ⟨_, rfl⟩; rw [← hU1])
        replace hL : Later w0 U1 := by (rw [hU1]; (exact (by repeat (first | (with_reducible exact Later.refl _) | (with_reducible exact hL) | with_reducible apply Later.latr | with_reducible apply Later.alloc | with_reducible apply Later.drew | (with_reducible refine Later.set ?_ (by (simp; try omega)) _)))))
        replace hP : Blk U1 p 25 #[.int .i64 0, .int .i64 0, .int .i64 0, .int .i64 0] := by (rw [hU1]; (exact (by repeat (first | (with_reducible exact hP) | with_reducible apply Blk.latr | with_reducible apply Blk.drew | with_reducible apply Blk.alloc))))
        clear hU1
        refine spec_one (by rfl) (by rfl) ?_
        go_simp
        refine hK _ _ (by repeat (first | (with_reducible exact Later.refl _) | (with_reducible exact hL) | with_reducible apply Later.latr | with_reducible apply Later.alloc | with_reducible apply Later.drew | (with_reducible refine Later.set ?_ (by (simp; try omega)) _))) ?_
        clear hK K
        have hA := Arr.new U1 31 [.int .i64 0, .int .i64 5, .int .i64 1000, .bool true, .bool false, .int .i64 0, .int .i64 5, .int .i64 1000, .bool true, .bool false] 2 5 rfl (by decide)
        obtain ⟨v, hv⟩ : ∃ v : Value, v = .slice (some ⟨U1.heap.size, 0, none⟩) 2 2 := ⟨_, rfl⟩
        rw [← hv] at hA
        simp only [← hv]
        clear hv
        replace hL := hL.alloc (.cells #[.int .i64 0, .int .i64 5, .int .i64 1000, .bool true, .bool false, .int .i64 0, .int .i64 5, .int .i64 1000, .bool true, .bool false] 31)
        replace hP := hP.alloc (.cells #[.int .i64 0, .int .i64 5, .int .i64 1000, .bool true, .bool false, .int .i64 0, .int .i64 5, .int .i64 1000, .bool true, .bool false] 31)
        refine wpSo_step [4] (by kernel_rfl) (by decide) ?_
        intro i hi x K hK
        obtain rfl : i = 4 := by simpa using hi
        (obtain ⟨U2, hU2⟩ : ∃ U2, U2 = latr _ x := ⟨_, rfl⟩; rw [← hU2])
        replace hL : Later w0 U2 := by (rw [hU2]; (exact (by repeat (first | (with_reducible exact Later.refl _) | (with_reducible exact hL) | with_reducible apply Later.latr | with_reducible apply Later.alloc | with_reducible apply Later.drew | (with_reducible refine Later.set ?_ (by (simp; try omega)) _)))))
        replace hA : Arr U2 5 v 2 [.int .i64 0, .int .i64 5, .int .i64 1000, .bool true, .bool false, .int .i64 0, .int .i64 5, .int .i64 1000, .bool true, .bool false] := by (rw [hU2]; (exact (by repeat (first | (with_reducible exact hA) | with_reducible apply Arr.latr | (with_reducible refine Arr.alloc ?_ _) | (with_reducible refine Arr.drew ?_)))))
        replace hP : Blk U2 p 25 #[.int .i64 0, .int .i64 0, .int .i64 0, .int .i64 0] := by (rw [hU2]; (exact (by repeat (first | (with_reducible exact hP) | with_reducible apply Blk.latr | with_reducible apply Blk.drew | with_reducible apply Blk.alloc))))
        clear hU2
        refine spec_one (by rfl) (by rfl) ?_
        go_simp
        refine (call_l v _ hA).mono ?_
        rintro e W3 ⟨rfl, y, rfl⟩
        refine hK _ _ (by repeat (first | (with_reducible exact Later.refl _) | (with_reducible exact hL) | with_reducible apply Later.latr | with_reducible apply Later.alloc | with_reducible apply Later.drew | (with_reducible refine Later.set ?_ (by (simp; try omega)) _))) ?_
        clear hK K
        replace hL := hL.latr y
        replace hA := hA.latr y
        replace hP := hP.latr y
        refine wpSo_step [6] (by kernel_rfl) (by decide) ?_
        intro i hi x K hK
        obtain rfl : i = 6 := by simpa using hi
        (obtain ⟨U3, hU3⟩ : ∃ U3, U3 = latr _ x := ⟨_, rfl⟩; rw [← hU3])
        replace hL : Later w0 U3 := by (rw [hU3]; (exact (by repeat (first | (with_reducible exact Later.refl _) | (with_reducible exact hL) | with_reducible apply Later.latr | with_reducible apply Later.alloc | with_reducible apply Later.drew | (with_reducible refine Later.set ?_ (by (simp; try omega)) _)))))
        replace hA : Arr U3 5 v 2 [.int .i64 0, .int .i64 5, .int .i64 1000, .bool true, .bool false, .int .i64 0, .int .i64 5, .int .i64 1000, .bool true, .bool false] := by (rw [hU3]; (exact (by repeat (first | (with_reducible exact hA) | with_reducible apply Arr.latr | (with_reducible refine Arr.alloc ?_ _) | (with_reducible refine Arr.drew ?_)))))
        replace hP : Blk U3 p 25 #[.int .i64 0, .int .i64 0, .int .i64 0, .int .i64 0] := by (rw [hU3]; (exact (by repeat (first | (with_reducible exact hP) | with_reducible apply Blk.latr | with_reducible apply Blk.drew | with_reducible apply Blk.alloc))))
        clear hU3
        refine spec_one (by rfl) (by rfl) ?_
        (obtain ⟨hcp0, hcp1, hcp2, hcp3, hfp0, hfp1, hfp2, hfp3, hgp⟩ := Blk.at4 (hP))
        go_simp
        refine hK _ _ (by repeat (first | (with_reducible exact Later.refl _) | (with_reducible exact hL) | with_reducible apply Later.latr | with_reducible apply Later.alloc | with_reducible apply Later.drew | (with_reducible refine Later.set ?_ (by (simp; try omega)) _))) ?_
        clear hK K
        replace hP := (((hP.set_ 0 (.int .i64 1280)).set_ 1 (.int .i64 1280)).set_ 2 (.int .i64 0)).set_ 3 (.int .i64 9)
        refine wpSo_nil (fun x => ?_)
        exact ⟨p, v, rfl, by repeat (first | (with_reducible exact Later.refl _) | (with_reducible exact hL) | with_reducible apply Later.latr | with_reducible apply Later.alloc | with_reducible apply Later.drew | (with_reducible refine Later.set ?_ (by (simp; try omega)) _)), hp, hP.latr x⟩
    case hR =>
      rintro F W ⟨q, v3, rfl, hL, hq, hC⟩
      have hS2 := hS1.later hL
      have hB2 := hB.later hL
      have hl2 := hl1.trans hL
      go_simp
      clear hS1 hB hl1 hL hq
      go_wp2_with (fail)
      apply wp_region_spec [40, 41, 43, 44, 45] _ (fun af F V => ∃ v : Value, F = (((((Act.put af (some 54) v).put (some 55) (.agg #[.int .i64 1280, .int .i64 1280, .int .i64 0, .int .i64 9])).put (some 57) (.bool true)).put (some 58) (.bool true)).put (some 0) (.bool true)) ∧ Later W V) (by kernel_rfl) (by kernel_rfl)
      case h =>
        intro u hu
        have hSu := hS2.later hu
        have hBu := hB2.later hu
        have hCu := hC.later hu
        (obtain ⟨hcs0, hcs1, hcs2, hcs3, hcs4, hfs0, hfs1, hfs2, hfs3, hfs4, hgs⟩ := Blk.at5 (hSu))
        (obtain ⟨hcb0, hcb1, hcb2, hcb3, hfb0, hfb1, hfb2, hfb3, hgb⟩ := Blk.at4 (hBu))
        (obtain ⟨hcc0, hcc1, hcc2, hcc3, hfc0, hfc1, hfc2, hfc3, hgc⟩ := Blk.at4 (hCu))
        clear hSu hBu hCu
        simp only [pickQ, List.contains, List.elem, Nat.reduceBEq, Nat.reduceAdd, Bool.false_eq_true, if_false, if_true]
        (repeat (go_big_quiet_step (fail)))
        go_big_quiet_step ((go_at_call 10; exact calm_of (start_is _)))
        (repeat (go_big_quiet_step (fail)))
        go_big_quiet_step ((go_at_call 14; exact calm_of (call_c _)))
        (repeat (go_big_quiet_step (fail)))
        go_big_quiet_step ((go_at_call 14; exact calm_of (call_z _)))
        (repeat (go_big_quiet_step (fail)))
        go_big_quiet_step ((go_at_call 16; exact calm_of (call_m _)))
        (repeat (go_big_quiet_step (fail)))
        go_big_quiet_step ((go_at_call 16; exact calm_of (call_n _)))
        (repeat (go_big_quiet_step (fail)))
        go_big_quiet_step ((go_at_call 11; exact calm_of (call_f _)))
        (repeat (go_big_quiet_step (fail)))
        exact wpQuiet_nil rfl
      case hs =>
        have hL : Later W W.drew := (Later.refl _).drew
        refine wpSo_step [40] (by kernel_rfl) (by decide) ?_
        intro i hi x K hK
        obtain rfl : i = 40 := by simpa using hi
        (obtain ⟨U0, hU0⟩ : ∃ U0, U0 = latr _ x := ⟨_, rfl⟩; rw [← hU0])
        replace hL : Later W U0 := by (rw [hU0]; (exact (by repeat (first | (with_reducible exact Later.refl _) | (with_reducible exact hL) | with_reducible apply Later.latr | with_reducible apply Later.alloc | with_reducible apply Later.drew | (with_reducible refine Later.set ?_ (by (simp; try omega)) _)))))
        clear hU0
        refine spec_on (by rfl) (by rfl) ?_
        go_simp
        refine hK _ _ (by repeat (first | (with_reducible exact Later.refl _) | (with_reducible exact hL) | with_reducible apply Later.latr | with_reducible apply Later.alloc | with_reducible apply Later.drew | (with_reducible refine Later.set ?_ (by (simp; try omega)) _))) ?_
        clear hK K
        have hA := Arr.new U0 31 [.int .i64 0, .int .i64 5, .int .i64 1000, .bool true, .bool false] 1 5 rfl (by decide)
        obtain ⟨v, hv⟩ : ∃ v : Value, v = .slice (some ⟨U0.heap.size, 0, none⟩) 1 1 := ⟨_, rfl⟩
        rw [← hv] at hA
        simp only [← hv]
        clear hv
        replace hL := hL.alloc (.cells #[.int .i64 0, .int .i64 5, .int .i64 1000, .bool true, .bool false] 31)
        refine wpSo_step [41] (by kernel_rfl) (by decide) ?_
        intro i hi x K hK
        obtain rfl : i = 41 := by simpa using hi
        (obtain ⟨U1, hU1⟩ : ∃ U1, U1 = latr _ x := ⟨_, rfl⟩; rw [← hU1])
        replace hL : Later W U1 := by (rw [hU1]; (exact (by repeat (first | (with_reducible exact Later.refl _) | (with_reducible exact hL) | with_reducible apply Later.latr | with_reducible apply Later.alloc | with_reducible apply Later.drew | (with_reducible refine Later.set ?_ (by (simp; try omega)) _)))))
        replace hA : Arr U1 5 v 1 [.int .i64 0, .int .i64 5, .int .i64 1000, .bool true, .bool false] := by (rw [hU1]; (exact (by repeat (first | (with_reducible exact hA) | with_reducible apply Arr.latr | (with_reducible refine Arr.alloc ?_ _) | (with_reducible refine Arr.drew ?_)))))
        clear hU1
        refine spec_on (by rfl) (by rfl) ?_
        go_simp
        refine (call_b v _ hA).mono ?_
        rintro e W3 ⟨rfl, y, rfl⟩
        refine hK _ _ (by repeat (first | (with_reducible exact Later.refl _) | (with_reducible exact hL) | with_reducible apply Later.latr | with_reducible apply Later.alloc | with_reducible apply Later.drew | (with_reducible refine Later.set ?_ (by (simp; try omega)) _))) ?_
        clear hK K
        replace hL := hL.latr y
        refine wpSo_step [43] (by kernel_rfl) (by decide) ?_
        intro i hi x K hK
        obtain rfl : i = 43 := by simpa using hi
        (obtain ⟨U2, hU2⟩ : ∃ U2, U2 = latr _ x := ⟨_, rfl⟩; rw [← hU2])
        replace hL : Later W U2 := by (rw [hU2]; (exact (by repeat (first | (with_reducible exact Later.refl _) | (with_reducible exact hL) | with_reducible apply Later.latr | with_reducible apply Later.alloc | with_reducible apply Later.drew | (with_reducible refine Later.set ?_ (by (simp; try omega)) _)))))
        clear hU2
        refine spec_on (by rfl) (by rfl) ?_
        go_simp
        refine hK _ _ hL ?_
        clear hK K
        refine wpSo_step [44] (by kernel_rfl) (by decide) ?_
        intro i hi x K hK
        obtain rfl : i = 44 := by simpa using hi
        refine spec_on (by rfl) (by rfl) ?_
        go_simp
        refine hK _ _ (by repeat (first | (with_reducible exact Later.refl _) | (with_reducible exact hL) | with_reducible apply Later.latr | with_reducible apply Later.alloc | with_reducible apply Later.drew | (with_reducible refine Later.set ?_ (by (simp; try omega)) _))) ?_
        clear hK K
        refine wpSo_step [45] (by kernel_rfl) (by decide) ?_
        intro i hi x K hK
        obtain rfl : i = 45 := by simpa using hi
        refine spec_on (by rfl) (by rfl) ?_
        go_simp
        refine hK _ _ (by repeat (first | (with_reducible exact Later.refl _) | (with_reducible exact hL) | with_reducible apply Later.latr | with_reducible apply Later.alloc | with_reducible apply Later.drew | (with_reducible refine Later.set ?_ (by (simp; try omega)) _))) ?_
        clear hK K
        refine wpSo_nil (fun x => ?_)
        exact ⟨v, rfl, by repeat (first | (with_reducible exact Later.refl _) | (with_reducible exact hL) | with_reducible apply Later.latr | with_reducible apply Later.alloc | with_reducible apply Later.drew | (with_reducible refine Later.set ?_ (by (simp; try omega)) _))⟩
      case hR =>
        rintro F V ⟨v, rfl, hL⟩
        have hl3 := hl2.trans hL
        go_simp
        go_wp2_with (fail)
        go_ret
        exact ⟨rfl, hl3⟩
end Go.Proofs.Ytkmffpgejnafaaa
