/- The walks of package pace's functions, and the reference's: each gives what the plain function gives. No condition. -/
import Derived.Test.YtfjofifkepmdfaaTail
import Derived.Test.YtfjofifkepmdfaaPlain
namespace Go.Proofs.Ytfjofifkepmdfaa
open Go.RowKit
attribute [local go_sem] ite_max ite_min

set_option maxHeartbeats 400000 in
theorem within20 (n a m : Int) (w : World) : Gives Try.prog 20 #[.int .i64 n, .int .i64 a, .int .i64 m] w (.int .i64 (min (max n a) m)) := by
  apply gives_of
  go_enter Try.func20, Try.ntmps20
  go_wp2
  go_ret
  exact ⟨rfl, Later.refl _⟩
theorem w0 (n : Int) (w : World) : Gives Try.prog 20 #[.int .i64 n, .int .i64 0, .int .i64 1048576] w (.int .i64 (cl n 1048576)) := within20 n 0 1048576 w
theorem w1 (n : Int) (w : World) : Gives Try.prog 20 #[.int .i64 n, .int .i64 1, .int .i64 1048576] w (.int .i64 (cl1 n 1048576)) := within20 n 1 1048576 w
theorem wT (n : Int) (w : World) : Gives Try.prog 20 #[.int .i64 n, .int .i64 0, .int .i64 1099511627776] w (.int .i64 (cl n 1099511627776)) := within20 n 0 1099511627776 w

set_option maxHeartbeats 400000 in
theorem time16 (n : Int) (w : World) : Gives Try.prog 16 #[.int .i64 n] w (.int .i64 (cl n 1099511627776)) := by
  apply gives_of
  go_enter Try.func16, Try.ntmps16
  go_wp2
  go_ret
  exact ⟨rfl, Later.refl _⟩
set_option maxHeartbeats 400000 in
theorem bytes17 (n : Int) (w : World) : Gives Try.prog 17 #[.int .i64 n] w (.int .i64 (cl n 1048576)) := by
  apply gives_of
  go_enter Try.func17, Try.ntmps17
  go_wp2
  go_ret
  exact ⟨rfl, Later.refl _⟩
set_option maxHeartbeats 400000 in
theorem many18 (n : Int) (w : World) : Gives Try.prog 18 #[.int .i64 n] w (.int .i64 (cl1 n 1048576)) := by
  apply gives_of
  go_enter Try.func18, Try.ntmps18
  go_wp2
  go_ret
  exact ⟨rfl, Later.refl _⟩

set_option maxHeartbeats 1000000 in
theorem of19 (t l : Int) (w : World) : Gives Try.prog 19 #[.agg #[.int .i64 t, .int .i64 l]] w (.agg #[.int .i64 (cl t 1048576), .int .i64 (cl l 1099511627776)]) := by
  apply gives_of
  have ht := w0 t
  have hl := wT l
  generalize cl t 1048576 = T at *
  generalize cl l 1099511627776 = L at *
  have HT := hid ht
  have HL := hid hl
  clear ht hl
  go_enter Try.func19, Try.ntmps19
  go_wp2_with (fail)
  refine wp_region_calm_tail 7 (by kernel_rfl) (by kernel_rfl) ?_
  simp only [List.take_succ_cons, List.take_zero, List.drop_succ_cons, List.drop_zero]
  repeat (go_big_quiet_step (fail))
  go_big_quiet_step ((go_at_call 20; exact calm_of (HT.out _)))
  repeat (go_big_quiet_step (fail))
  go_big_quiet_step ((go_at_call 20; exact calm_of (HL.out _)))
  repeat (go_big_quiet_step (fail))
  refine wpQuiet_nil ?_
  rintro _ ⟨x, rfl⟩
  go_wp2_with (fail)
  go_returns
  exact ⟨rfl, by repeat (first | (with_reducible exact Later.refl _) | with_reducible apply Later.latr | with_reducible apply Later.alloc | with_reducible apply Later.drew | (with_reducible refine Later.set ?_ (by (simp; try omega)) _))⟩

set_option maxHeartbeats 1000000 in
theorem rate14 (a s : Int) (w : World) : Gives Try.prog 14 #[.int .i64 a, .int .i64 s] w (.int .i64 (rate a s)) := by
  apply gives_of
  have hw := w0 a
  have hr : rate a s = max (5 * cl a 1048576 / 4 / max s 1) 1 := rfl
  obtain ⟨h1, h2⟩ := cl_bd a 1048576 (by omega)
  generalize rate a s = R at *
  generalize cl a 1048576 = q at *
  have H := hid hw
  have HR := hid hr
  clear hr hw
  have hs : max s 1 ≠ 0 := by omega
  have e1 : IntKind.i64.wrap (5 * q) = 5 * q := IntWalk.i64_in _ (by omega)
  have e2 : (5 * q).tdiv 4 = 5 * q / 4 := Int.tdiv_eq_ediv_of_nonneg (by omega)
  have e2' : IntKind.i64.wrap (5 * q / 4) = 5 * q / 4 := IntWalk.i64_in _ (by omega)
  have e3 : (5 * q / 4).tdiv (max s 1) = 5 * q / 4 / max s 1 := Int.tdiv_eq_ediv_of_nonneg (by omega)
  have hb : 0 ≤ 5 * q / 4 / max s 1 ∧ 5 * q / 4 / max s 1 ≤ 5 * q / 4 := ⟨Int.ediv_nonneg (by omega) (by omega), Int.ediv_le_self _ (by omega)⟩
  have e4 : IntKind.i64.wrap (5 * q / 4 / max s 1) = 5 * q / 4 / max s 1 := IntWalk.i64_in _ (by omega)
  go_enter Try.func14, Try.ntmps14
  go_wp2_with (fail)
  refine (H.out _).mono ?_
  rintro e w1 ⟨rfl, x1, rfl⟩
  go_wp2
  go_ret
  rw [HR.out]
  exact ⟨rfl, (Later.refl _).latr _⟩

/-- a bucket, as a value -/
abbrev bv (b : Bk) : Value := .agg #[.int .i64 b.t, .int .i64 b.l]

set_option maxHeartbeats 2000000 in
theorem fill13 (b : Bk) (now r n : Int) (w : World) : Gives Try.prog 13 #[bv b, .int .i64 now, .int .i64 r, .int .i64 n] w (bv (fill b now r n)) := by
  obtain ⟨t, l⟩ := b
  apply gives_of
  have hf : fill ⟨t, l⟩ now r n = ⟨min (cl t 1048576 + cl1 r 1048576 * max (cl now 1099511627776 - cl l 1099511627776) 0) (cl1 n 1048576), cl l 1099511627776 + max (cl now 1099511627776 - cl l 1099511627776) 0⟩ := rfl
  have ho := of19 t l
  have hr := w1 r
  have hn := w1 n
  have hc := wT now
  obtain ⟨t1, t2⟩ := cl_bd t 1048576 (by omega)
  obtain ⟨l1, l2⟩ := cl_bd l 1099511627776 (by omega)
  obtain ⟨c1, c2⟩ := cl_bd now 1099511627776 (by omega)
  obtain ⟨r1, r2⟩ := cl1_bd r 1048576 (by omega)
  obtain ⟨n1, n2⟩ := cl1_bd n 1048576 (by omega)
  generalize fill ⟨t, l⟩ now r n = F at *
  generalize cl t 1048576 = T at *
  generalize cl l 1099511627776 = L at *
  generalize cl now 1099511627776 = C at *
  generalize cl1 r 1048576 = R at *
  generalize cl1 n 1048576 = N at *
  subst hf
  have HO := hid ho
  have HR := hid hr
  have HN := hid hn
  have HC := hid hc
  clear ho hr hn hc
  obtain ⟨m1, m2⟩ := mul_bd R (max (C - L) 0) 1048576 1099511627776 (by omega) (by omega) (by omega) (by omega)
  have e1 : IntKind.i64.wrap (R * max (C - L) 0) = R * max (C - L) 0 := IntWalk.i64_in _ (by omega)
  have e2 : IntKind.i64.wrap (T + R * max (C - L) 0) = T + R * max (C - L) 0 := IntWalk.i64_in _ (by omega)
  have e3 : IntKind.i64.wrap (L + max (C - L) 0) = L + max (C - L) 0 := IntWalk.i64_in _ (by omega)
  have e4 : IntKind.i64.wrap (C - L) = C - L := IntWalk.i64_in _ (by omega)
  go_enter Try.func13, Try.ntmps13
  go_wp2_with (fail)
  refine (HO.out _).mono ?_
  rintro e w1 ⟨rfl, x1, rfl⟩
  go_wp2_with (fail)
  refine (HR.out _).mono ?_
  rintro e w1 ⟨rfl, x2, rfl⟩
  go_wp2_with (fail)
  refine (HN.out _).mono ?_
  rintro e w1 ⟨rfl, x3, rfl⟩
  go_wp2_with (fail)
  refine wp_region_calm (by kernel_rfl) (by kernel_rfl) ?_
  repeat (go_big_quiet_step ((go_at_call 20; exact calm_of (HC.out _))))
  refine wpQuiet_nil ?_
  rintro _ ⟨x, rfl⟩
  go_wp2_with (fail)
  go_returns
  exact ⟨rfl, by repeat (first | (with_reducible exact Later.refl _) | with_reducible apply Later.latr | with_reducible apply Later.alloc | with_reducible apply Later.drew | (with_reducible refine Later.set ?_ (by (simp; try omega)) _))⟩

set_option maxHeartbeats 2000000 in
theorem fill9 (b : Bk) (now r n : Int) (w : World) : Gives Try.prog 9 #[bv b, .int .i64 now, .int .i64 r, .int .i64 n] w (bv (fill b now r n)) := by
  obtain ⟨t, l⟩ := b
  apply gives_of
  have hf : fill ⟨t, l⟩ now r n = ⟨min (cl t 1048576 + cl1 r 1048576 * (max (cl l 1099511627776) (cl now 1099511627776) - cl l 1099511627776)) (cl1 n 1048576), max (cl l 1099511627776) (cl now 1099511627776)⟩ := by
    have h : max (cl l 1099511627776) (cl now 1099511627776) - cl l 1099511627776 = max (cl now 1099511627776 - cl l 1099511627776) 0 := by omega
    rw [h]
    show (⟨_, _⟩ : Bk) = _
    simp only [Bk.mk.injEq, true_and, ticks]
    omega
  have ht := bytes17 t
  have hl := time16 l
  have hr := many18 r
  have hn := many18 n
  have hc := time16 now
  obtain ⟨t1, t2⟩ := cl_bd t 1048576 (by omega)
  obtain ⟨l1, l2⟩ := cl_bd l 1099511627776 (by omega)
  obtain ⟨c1, c2⟩ := cl_bd now 1099511627776 (by omega)
  obtain ⟨r1, r2⟩ := cl1_bd r 1048576 (by omega)
  obtain ⟨n1, n2⟩ := cl1_bd n 1048576 (by omega)
  generalize fill ⟨t, l⟩ now r n = F at *
  generalize cl t 1048576 = T at *
  generalize cl l 1099511627776 = L at *
  generalize cl now 1099511627776 = C at *
  generalize cl1 r 1048576 = R at *
  generalize cl1 n 1048576 = N at *
  subst hf
  have HT := hid ht
  have HL := hid hl
  have HR := hid hr
  have HN := hid hn
  have HC := hid hc
  clear ht hl hr hn hc
  obtain ⟨m1, m2⟩ := mul_bd R (max L C - L) 1048576 1099511627776 (by omega) (by omega) (by omega) (by omega)
  have e1 : IntKind.i64.wrap (R * (max L C - L)) = R * (max L C - L) := IntWalk.i64_in _ (by omega)
  have e2 : IntKind.i64.wrap (T + R * (max L C - L)) = T + R * (max L C - L) := IntWalk.i64_in _ (by omega)
  have e4 : IntKind.i64.wrap (max L C - L) = max L C - L := IntWalk.i64_in _ (by omega)
  go_enter Try.func9, Try.ntmps9
  go_wp2_with (fail)
  refine (HL.out _).mono ?_
  rintro e w1 ⟨rfl, x1, rfl⟩
  go_wp2_with (fail)
  refine (HC.out _).mono ?_
  rintro e w1 ⟨rfl, x2, rfl⟩
  go_wp2_with (fail)
  refine (HT.out _).mono ?_
  rintro e w1 ⟨rfl, x3, rfl⟩
  go_wp2_with (fail)
  refine (HR.out _).mono ?_
  rintro e w1 ⟨rfl, x4, rfl⟩
  go_wp2_with (fail)
  refine (HN.out _).mono ?_
  rintro e w1 ⟨rfl, x5, rfl⟩
  go_wp2_with (fail)
  go_returns
  exact ⟨rfl, by repeat (first | (with_reducible exact Later.refl _) | with_reducible apply Later.latr | with_reducible apply Later.alloc | with_reducible apply Later.drew | (with_reducible refine Later.set ?_ (by (simp; try omega)) _))⟩

/-- take's two answers, as a value -/
abbrev tv (b : Bk) (s : Int) : Value := .tuple #[bv (take b s), .bool (may b s)]

set_option maxHeartbeats 2000000 in
theorem take12 (b : Bk) (s : Int) (w : World) : Gives Try.prog 12 #[bv b, .int .i64 s] w (tv b s) := by
  obtain ⟨t, l⟩ := b
  apply gives_of
  have ho := of19 t l
  have hs := w0 s
  obtain ⟨t1, t2⟩ := cl_bd t 1048576 (by omega)
  obtain ⟨s1, s2⟩ := cl_bd s 1048576 (by omega)
  unfold tv may take bv
  dsimp only
  generalize cl t 1048576 = T at *
  generalize cl l 1099511627776 = L at *
  generalize cl s 1048576 = S at *
  have HO := hid ho
  have HS := hid hs
  clear ho hs
  have e4 : IntKind.i64.wrap (T - S) = T - S := IntWalk.i64_in _ (by omega)
  by_cases hc : S ≤ T
  · simp only [hc, if_true, decide_true]
    go_enter Try.func12, Try.ntmps12
    go_wp2_with (fail)
    refine (HO.out _).mono ?_
    rintro e w1 ⟨rfl, x1, rfl⟩
    go_wp2_with (fail)
    refine wp_region_calm_tail 6 (by kernel_rfl) (by kernel_rfl) ?_
    simp only [List.take_succ_cons, List.take_zero, List.drop_succ_cons, List.drop_zero]
    repeat (go_big_quiet_step ((go_at_call 20; exact calm_of (HS.out _))))
    refine wpQuiet_nil ?_
    rintro _ ⟨x, rfl⟩
    go_wp2_with (fail)
    go_returns
    exact ⟨rfl, by repeat (first | (with_reducible exact Later.refl _) | with_reducible apply Later.latr | with_reducible apply Later.alloc | with_reducible apply Later.drew | (with_reducible refine Later.set ?_ (by (simp; try omega)) _))⟩
  · simp only [hc, if_false, decide_false]
    go_enter Try.func12, Try.ntmps12
    go_wp2_with (fail)
    refine (HO.out _).mono ?_
    rintro e w1 ⟨rfl, x1, rfl⟩
    go_wp2_with (fail)
    refine wp_region_calm_tail 6 (by kernel_rfl) (by kernel_rfl) ?_
    simp only [List.take_succ_cons, List.take_zero, List.drop_succ_cons, List.drop_zero]
    repeat (go_big_quiet_step ((go_at_call 20; exact calm_of (HS.out _))))
    refine wpQuiet_nil ?_
    rintro _ ⟨x, rfl⟩
    go_wp2_with (fail)
    go_returns
    exact ⟨rfl, by repeat (first | (with_reducible exact Later.refl _) | with_reducible apply Later.latr | with_reducible apply Later.alloc | with_reducible apply Later.drew | (with_reducible refine Later.set ?_ (by (simp; try omega)) _))⟩

set_option maxHeartbeats 2000000 in
theorem take10 (b : Bk) (s : Int) (w : World) : Gives Try.prog 10 #[bv b, .int .i64 s] w (tv b s) := by
  obtain ⟨t, l⟩ := b
  apply gives_of
  have ht := bytes17 t
  have hs := bytes17 s
  have hl := time16 l
  obtain ⟨t1, t2⟩ := cl_bd t 1048576 (by omega)
  obtain ⟨s1, s2⟩ := cl_bd s 1048576 (by omega)
  unfold tv may take bv
  dsimp only
  generalize cl t 1048576 = T at *
  generalize cl l 1099511627776 = L at *
  generalize cl s 1048576 = S at *
  have HT := hid ht
  have HS := hid hs
  have HL := hid hl
  clear ht hs hl
  have e4 : IntKind.i64.wrap (T - S) = T - S := IntWalk.i64_in _ (by omega)
  by_cases hc : S ≤ T
  · simp only [hc, if_true, decide_true]
    go_enter Try.func10, Try.ntmps10
    go_wp2_with (fail)
    refine (HT.out _).mono ?_
    rintro e w1 ⟨rfl, x1, rfl⟩
    go_wp2_with (fail)
    refine (HS.out _).mono ?_
    rintro e w1 ⟨rfl, x2, rfl⟩
    go_wp2_with (fail)
    refine wp_region_calm_tail 10 (by kernel_rfl) (by kernel_rfl) ?_
    simp only [List.take_succ_cons, List.take_zero, List.drop_succ_cons, List.drop_zero]
    repeat (go_big_quiet_step ((first | (go_at_call 16; exact calm_of (HL.out _)) | (go_at_call 17; first | exact calm_of (HT.out _) | exact calm_of (HS.out _)))))
    refine wpQuiet_nil ?_
    rintro _ ⟨x, rfl⟩
    go_wp2_with (fail)
    go_returns
    exact ⟨rfl, by repeat (first | (with_reducible exact Later.refl _) | with_reducible apply Later.latr | with_reducible apply Later.alloc | with_reducible apply Later.drew | (with_reducible refine Later.set ?_ (by (simp; try omega)) _))⟩
  · simp only [hc, if_false, decide_false]
    go_enter Try.func10, Try.ntmps10
    go_wp2_with (fail)
    refine (HT.out _).mono ?_
    rintro e w1 ⟨rfl, x1, rfl⟩
    go_wp2_with (fail)
    refine (HS.out _).mono ?_
    rintro e w1 ⟨rfl, x2, rfl⟩
    go_wp2_with (fail)
    go_returns
    exact ⟨rfl, by repeat (first | (with_reducible exact Later.refl _) | with_reducible apply Later.latr | with_reducible apply Later.alloc | with_reducible apply Later.drew | (with_reducible refine Later.set ?_ (by (simp; try omega)) _))⟩

set_option maxHeartbeats 2000000 in
theorem when11 (b : Bk) (s r : Int) (w : World) : Gives Try.prog 11 #[bv b, .int .i64 s, .int .i64 r] w (.int .i64 (when b s r)) := by
  obtain ⟨t, l⟩ := b
  apply gives_of
  have hf : when ⟨t, l⟩ s r = min (cl l 1099511627776 + (max (cl s 1048576 - cl t 1048576) 0 + cl1 r 1048576 - 1) / cl1 r 1048576) 1099511627776 := rfl
  have ho := of19 t l
  have hs := w0 s
  have hr := w1 r
  obtain ⟨t1, t2⟩ := cl_bd t 1048576 (by omega)
  obtain ⟨s1, s2⟩ := cl_bd s 1048576 (by omega)
  obtain ⟨l1, l2⟩ := cl_bd l 1099511627776 (by omega)
  obtain ⟨r1, r2⟩ := cl1_bd r 1048576 (by omega)
  generalize when ⟨t, l⟩ s r = F at *
  generalize cl t 1048576 = T at *
  generalize cl l 1099511627776 = L at *
  generalize cl s 1048576 = S at *
  generalize cl1 r 1048576 = R at *
  subst hf
  have HO := hid ho
  have HS := hid hs
  have HR := hid hr
  clear ho hs hr
  have e1 : IntKind.i64.wrap (S - T) = S - T := IntWalk.i64_in _ (by omega)
  have e2 : IntKind.i64.wrap (max (S - T) 0 + R) = max (S - T) 0 + R := IntWalk.i64_in _ (by omega)
  have e3 : IntKind.i64.wrap (max (S - T) 0 + R - 1) = max (S - T) 0 + R - 1 := IntWalk.i64_in _ (by omega)
  have e5 : (max (S - T) 0 + R - 1).tdiv R = (max (S - T) 0 + R - 1) / R := Int.tdiv_eq_ediv_of_nonneg (by omega)
  have hb : 0 ≤ (max (S - T) 0 + R - 1) / R ∧ (max (S - T) 0 + R - 1) / R ≤ max (S - T) 0 + R - 1 := ⟨Int.ediv_nonneg (by omega) (by omega), Int.ediv_le_self _ (by omega)⟩
  have e6 : IntKind.i64.wrap ((max (S - T) 0 + R - 1) / R) = (max (S - T) 0 + R - 1) / R := IntWalk.i64_in _ (by omega)
  have e7 : IntKind.i64.wrap (L + (max (S - T) 0 + R - 1) / R) = L + (max (S - T) 0 + R - 1) / R := IntWalk.i64_in _ (by omega)
  have hne : R ≠ 0 := by omega
  go_enter Try.func11, Try.ntmps11
  go_wp2_with (fail)
  refine (HO.out _).mono ?_
  rintro e w1 ⟨rfl, x1, rfl⟩
  go_wp2_with (fail)
  refine (HR.out _).mono ?_
  rintro e w1 ⟨rfl, x2, rfl⟩
  go_wp2_with (fail)
  refine wp_region_calm (by kernel_rfl) (by kernel_rfl) ?_
  repeat (go_big_quiet_step ((go_at_call 20; exact calm_of (HS.out _))))
  refine wpQuiet_nil ?_
  rintro _ ⟨x, rfl⟩
  go_wp2_with (fail)
  refine wp_region_calm (by kernel_rfl) (by kernel_rfl) ?_
  repeat (go_big_quiet_step (fail))
  refine wpQuiet_nil ?_
  rintro _ ⟨y, rfl⟩
  go_wp2_with (fail)
  go_ret
  exact ⟨rfl, by repeat (first | (with_reducible exact Later.refl _) | with_reducible apply Later.latr | with_reducible apply Later.alloc | with_reducible apply Later.drew | (with_reducible refine Later.set ?_ (by (simp; try omega)) _))⟩
end Go.Proofs.Ytfjofifkepmdfaa
