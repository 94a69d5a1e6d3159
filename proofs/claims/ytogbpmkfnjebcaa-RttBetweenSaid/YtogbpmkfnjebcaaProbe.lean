/- The walks of rtt.Lost and Probe, and the reference's: each gives what the plain function gives. No condition. -/
import Derived.Test.YtogbpmkfnjebcaaWalks
namespace Go.Proofs.Ytogbpmkfnjebcaa
open Go.RowKit
attribute [local go_sem] ite_max ite_min

theorem ret_int {k : IntKind} {a b : Int} (h : a = b) : Ending.returned (.int k a) = .returned (.int k b) := by rw [h]

set_option maxHeartbeats 2000000 in
theorem lost11 (r : Rt) (latest : Int) (w : World) :
    Gives Try.prog 11 #[.agg #[.bool r.has, .int .i64 r.l, .int .i64 r.s, .int .i64 r.v], .int .i64 latest] w (.int .i64 (lostR r latest)) := by
  apply gives_of
  have ht := cl_bd latest 1099511627776 (by omega)
  have ha : ∀ W, Gives Try.prog 16 #[.int .i64 latest, .int .i64 1099511627776] W (.int .i64 (cl latest 1099511627776)) := within16 _ _
  have hs := smooth_bd r
  have hk : ∀ W, ∃ h l v, Gives Try.prog 17 #[.agg #[.bool r.has, .int .i64 r.l, .int .i64 r.s, .int .i64 r.v]] W (.agg #[.bool h, .int .i64 l, .int .i64 (smooth r), .int .i64 v]) := by
    intro W
    obtain ⟨has, l, s, v⟩ := r
    cases has with
    | true => exact ⟨_, _, _, known17 l s v W⟩
    | false => exact ⟨_, _, _, known17_none l s v W⟩
  unfold lostR
  generalize cl latest 1099511627776 = t at *
  generalize smooth r = S at *
  have HA := hid ha
  have HK := hid hk
  clear ha hk
  obtain ⟨t0, t1⟩ := ht
  obtain ⟨s0, s1⟩ := hs
  go_enter Try.func11, Try.ntmps11
  go_wp2_with (fail)
  have hfd : ∀ (a b c d : Value) (W : World), (Instr.field 23 (.agg #[a, b, c, d]) 2).run Try.prog W = .ok c W := fun _ _ _ _ _ => by kernel_rfl
  obtain ⟨h', l', v', hc⟩ := HK.out (w.alloc (.cells #[.bool r.has, .int .i64 r.l, .int .i64 r.s, .int .i64 r.v] 23))
  have HC := hid hc
  clear hc
  refine HC.out.mono ?_
  rintro e w1 ⟨rfl, x1, rfl⟩
  go_wp2_with (fail)
  refine (HA.out _).mono ?_
  rintro e w1 ⟨rfl, x2, rfl⟩
  go_wp2_with (fail)
  go_ret
  exact ⟨rfl, by repeat (first | (with_reducible exact Later.refl _) | with_reducible apply Later.latr | with_reducible apply Later.alloc | with_reducible apply Later.drew)⟩

set_option maxHeartbeats 2000000 in
theorem lost12 (r : Rt) (latest : Int) (w : World) :
    Gives Try.prog 12 #[.agg #[.bool r.has, .int .i64 r.l, .int .i64 r.s, .int .i64 r.v], .int .i64 latest] w (.int .i64 (lostR r latest)) := by
  apply gives_of
  have ht := cl_bd latest 1099511627776 (by omega)
  have ha : ∀ W, Gives Try.prog 18 #[.int .i64 latest] W (.int .i64 (cl latest 1099511627776)) := time18 _
  obtain ⟨has, l, s, v⟩ := r
  have hs := cl_bd s 1099511627776 (by omega)
  have hb : ∀ W, Gives Try.prog 18 #[.int .i64 s] W (.int .i64 (cl s 1099511627776)) := time18 _
  unfold lostR smooth
  generalize cl latest 1099511627776 = t at *
  have HA := hid ha
  have HB := hid hb
  clear ha hb
  obtain ⟨t0, t1⟩ := ht
  obtain ⟨s0, s1⟩ := hs
  cases has with
  | true =>
    simp only [if_true]
    generalize cl s 1099511627776 = S at *
    go_enter Try.func12, Try.ntmps12
    go_wp2_with (fail)
    refine (HB.out _).mono ?_
    rintro e w1 ⟨rfl, x1, rfl⟩
    go_wp2_with (fail)
    refine (HA.out _).mono ?_
    rintro e w1 ⟨rfl, x2, rfl⟩
    go_wp2_with (fail)
    go_ret
    exact ⟨rfl, by repeat (first | (with_reducible exact Later.refl _) | with_reducible apply Later.latr | with_reducible apply Later.alloc | with_reducible apply Later.drew)⟩
  | false =>
    simp only [Bool.false_eq_true, if_false]
    generalize cl s 1099511627776 = S at *
    go_enter Try.func12, Try.ntmps12
    go_wp2_with (fail)
    refine (HB.out _).mono ?_
    rintro e w1 ⟨rfl, x1, rfl⟩
    go_wp2_with (fail)
    refine (HA.out _).mono ?_
    rintro e w1 ⟨rfl, x2, rfl⟩
    go_wp2_with (fail)
    go_ret
    exact ⟨ret_int (by omega), by repeat (first | (with_reducible exact Later.refl _) | with_reducible apply Later.latr | with_reducible apply Later.alloc | with_reducible apply Later.drew)⟩

theorem wrap_twice (n : Int) (k : Nat) (h6 : k ≤ 6) (h1 : 0 ≤ n) (h2 : n ≤ 5497558138905) : wrap64 (n * 2 ^ k) = twice n k := by
  have hb := twice_bd n h1 k h6
  rw [twice_pow, IntWalk.wrap64_in _ (by omega)]

set_option maxHeartbeats 2000000 in
theorem probe13 (r : Rt) (often : Int) (w : World) :
    Gives Try.prog 13 #[.agg #[.bool r.has, .int .i64 r.l, .int .i64 r.s, .int .i64 r.v], .int .i64 often] w (.int .i64 (probeR r often)) := by
  apply gives_of
  have ht := cl_bd often 6 (by omega)
  have ha : ∀ W, Gives Try.prog 16 #[.int .i64 often, .int .i64 6] W (.int .i64 (cl often 6)) := within16 _ _
  have hs := smooth_bd r
  have hv := vary_bd r
  have hp := probe0_bd r
  have hsh := hid (wrap_twice (probe0 r) (cl often 6).toNat (by omega) (by omega) (by omega))
  have hk : ∃ h l, ∀ W, Gives Try.prog 17 #[.agg #[.bool r.has, .int .i64 r.l, .int .i64 r.s, .int .i64 r.v]] W (.agg #[.bool h, .int .i64 l, .int .i64 (smooth r), .int .i64 (vary r)]) := by
    obtain ⟨has, l, s, v⟩ := r
    cases has with
    | true => exact ⟨_, _, fun W => known17 l s v W⟩
    | false => exact ⟨_, _, fun W => known17_none l s v W⟩
  unfold probeR
  generalize hq : twice (probe0 r) (cl often 6).toNat = q at *
  clear hq
  unfold probe0 at hsh hp
  generalize cl often 6 = t at *
  generalize smooth r = S at *
  generalize vary r = V at *
  obtain ⟨h', l', hk⟩ := hk
  have HA := hid ha
  have HK := hid hk
  clear ha hk
  obtain ⟨t0, t1⟩ := ht
  obtain ⟨s0, s1⟩ := hs
  obtain ⟨v0, v1⟩ := hv
  go_enter Try.func13, Try.ntmps13
  go_wp2_with (fail)
  refine (HK.out _).mono ?_
  rintro e w1 ⟨rfl, x1, rfl⟩
  go_wp2_with (fail)
  refine wp_region_calm (by kernel_rfl) (by kernel_rfl) ?_
  repeat (go_big_quiet_step ((go_at_call 16; exact calm_of (HA.out _))))
  refine wpQuiet_nil ?_
  rintro _ ⟨x, rfl⟩
  go_wp2_with (fail)
  go_ret
  exact ⟨ret_int (by rw [hsh.out]), by repeat (first | (with_reducible exact Later.refl _) | with_reducible apply Later.latr | with_reducible apply Later.alloc | with_reducible apply Later.drew | (with_reducible refine Later.set ?_ (by simp) _))⟩

set_option maxHeartbeats 4000000 in
theorem probe14 (r : Rt) (often : Int) (w : World) :
    Gives Try.prog 14 #[.agg #[.bool r.has, .int .i64 r.l, .int .i64 r.s, .int .i64 r.v], .int .i64 often] w (.int .i64 (probeR r often)) := by
  apply gives_of
  have hs := smooth_bd r
  have hv := vary_bd r
  obtain ⟨has, l, s, v⟩ := r
  have hsb := cl_bd s 1099511627776 (by omega)
  have hvb := cl_bd v 1099511627776 (by omega)
  have ha : ∀ W, Gives Try.prog 18 #[.int .i64 s] W (.int .i64 (cl s 1099511627776)) := time18 _
  have hb : ∀ W, Gives Try.prog 18 #[.int .i64 v] W (.int .i64 (cl v 1099511627776)) := time18 _
  have hsm : smooth ⟨has, l, s, v⟩ = if has = true then cl s 1099511627776 else 50 := rfl
  have hva : vary ⟨has, l, s, v⟩ = if has = true then cl v 1099511627776 else 25 := rfl
  unfold probeR probe0
  have hcl : (cl often 6).toNat = min often.toNat 6 := by unfold cl; omega
  rw [hcl]
  generalize smooth ⟨has, l, s, v⟩ = S at *
  generalize vary ⟨has, l, s, v⟩ = V at *
  generalize cl s 1099511627776 = cs at *
  generalize cl v 1099511627776 = cv at *
  have HA := hid ha
  have HB := hid hb
  clear ha hb hcl
  obtain ⟨s0, s1⟩ := hs
  obtain ⟨v0, v1⟩ := hv
  obtain ⟨s2, s3⟩ := hsb
  obtain ⟨v2, v3⟩ := hvb
  have hp0 : 0 ≤ S + max (4 * V) 1 + 25 := by omega
  have hp1 : S + max (4 * V) 1 + 25 ≤ 5497558138905 := by omega
  cases has with
  | true =>
    simp only [if_true] at hsm hva
    subst hsm hva
    go_enter Try.func14, Try.ntmps14
    go_wp2_with (fail)
    refine (HA.out _).mono ?_
    rintro e w1 ⟨rfl, x1, rfl⟩
    go_wp2_with (fail)
    refine (HB.out _).mono ?_
    rintro e w1 ⟨rfl, x2, rfl⟩
    go_wp2_with (fail)
    go_loop [7, 8] (fun n i => ∃ k : Nat, k ≤ min often.toNat 6 ∧ i = .int .i64 k ∧ n = .int .i64 (twice (S + max (4 * V) 1 + 25) k)) (fun _ i => 6 - (intOf i).toNat)
    case atStart => exact ⟨0, Nat.zero_le _, rfl, by simp [twice]⟩
    case round =>
      obtain ⟨k, hk, rfl, rfl⟩ := hrel
      have hb := twice_bd (S + max (4 * V) 1 + 25) (by omega) k (by omega)
      have hsucc := hid (show twice (S + max (4 * V) 1 + 25) (k + 1) = 2 * twice (S + max (4 * V) 1 + 25) k from rfl)
      have HR := hid (show k = min often.toNat 6 → twice (S + max (4 * V) 1 + 25) k = twice (S + max (4 * V) 1 + 25) (min often.toNat 6) from fun h => by rw [← h])
      generalize twice (S + max (4 * V) 1 + 25) k = q at *
      by_cases h1 : (k : Int) < often
      · by_cases h2 : k < 6
        · go_wp2
          go_round
          case rel => exact ⟨k + 1, by omega, by go_num, by rw [hsucc.out]⟩
          case measure => simp [intOf]; omega
        · go_wp2
          go_ret
          exact ⟨ret_int (by rw [HR.out (by omega)]), by repeat (first | (with_reducible exact Later.refl _) | with_reducible apply Later.latr | with_reducible apply Later.alloc | with_reducible apply Later.drew)⟩
      · go_wp2
        go_ret
        exact ⟨ret_int (by rw [HR.out (by omega)]), by repeat (first | (with_reducible exact Later.refl _) | with_reducible apply Later.latr | with_reducible apply Later.alloc | with_reducible apply Later.drew)⟩
  | false =>
    simp only [Bool.false_eq_true, if_false] at hsm hva
    subst hsm hva
    clear hp0 hp1
    have hP : (50 + max (4 * 25) 1 + 25 : Int) = 175 := by omega
    rw [hP]
    clear hP
    go_enter Try.func14, Try.ntmps14
    go_wp2_with (fail)
    refine (HA.out _).mono ?_
    rintro e w1 ⟨rfl, x1, rfl⟩
    go_wp2_with (fail)
    refine (HB.out _).mono ?_
    rintro e w1 ⟨rfl, x2, rfl⟩
    go_wp2_with (fail)
    go_loop [7, 8] (fun n i => ∃ k : Nat, k ≤ min often.toNat 6 ∧ i = .int .i64 k ∧ n = .int .i64 (twice (175) k)) (fun _ i => 6 - (intOf i).toNat)
    case atStart => exact ⟨0, Nat.zero_le _, rfl, by simp [twice]⟩
    case round =>
      obtain ⟨k, hk, rfl, rfl⟩ := hrel
      have hb := twice_bd (175) (by omega) k (by omega)
      have hsucc := hid (show twice (175) (k + 1) = 2 * twice (175) k from rfl)
      have HR := hid (show k = min often.toNat 6 → twice (175) k = twice (175) (min often.toNat 6) from fun h => by rw [← h])
      generalize twice (175) k = q at *
      by_cases h1 : (k : Int) < often
      · by_cases h2 : k < 6
        · go_wp2
          go_round
          case rel => exact ⟨k + 1, by omega, by go_num, by rw [hsucc.out]⟩
          case measure => simp [intOf]; omega
        · go_wp2
          go_ret
          exact ⟨ret_int (by rw [HR.out (by omega)]), by repeat (first | (with_reducible exact Later.refl _) | with_reducible apply Later.latr | with_reducible apply Later.alloc | with_reducible apply Later.drew)⟩
      · go_wp2
        go_ret
        exact ⟨ret_int (by rw [HR.out (by omega)]), by repeat (first | (with_reducible exact Later.refl _) | with_reducible apply Later.latr | with_reducible apply Later.alloc | with_reducible apply Later.drew)⟩
end Go.Proofs.Ytogbpmkfnjebcaa
